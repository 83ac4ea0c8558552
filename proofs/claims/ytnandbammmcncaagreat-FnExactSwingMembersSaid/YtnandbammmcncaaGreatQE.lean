/- The intervals of broken days, walked: the reference's; known is only when there are none. Acts of which one is ended, acts without one: plain. append as a step of a region that draws its order. Acts copied with patches of their own, walked: the reference's and the program's. An act ended, walked: the reference's and the program's. An assembly: plain, and in memory. Sizes of assemblies, walked: the statements' own functions. Copies of acts and motions, walked: the statements' own functions. (Printed by tools/gen/g_vd.py) Copies of slices of acts, motions, articles, rows, walked: the statements' own functions. Copies of assemblies, walked; equality of assemblies, walked: the statements' own functions. (Printed by tools/gen/g_vf.py) Arguments opened: a struct of nine fields, a slice of numbers, a slice of edits. The law on slices of structs is turned from the kit's page on structs. -/
import Derived.Test.YtnandbammmcncaaGreatQD
import Derived.Maps.AppendAt
import Derived.Deep.RegionHeld3
import Derived.Test.YtnandbammmcncaaGreatQA
import Derived.Test.YtnandbammmcncaaGreatQB
import Derived.Deep.Slices
import Derived.Deep.Fields
import Derived.ChangeSame
import Derived.ChangeSlices
import Derived.ProofKit
import Derived.OpenShut
import Derived.Lib.SmallJoins
namespace Go.Proofs.YtnandbammmcncaaGreat
open Go.RowKit Go.Lib

def GoodTo (S : List Art) (ls : List Acta) (M : List Int) (k : Nat) : Prop := ∀ x ∈ M.take k, (onO S ls x).isSome = true
theorem GoodTo.yes {S : List Art} {ls : List Acta} {M : List Int} {k : Nat} (hk : k < M.length) (h : (onO S ls M[k]).isSome = true) : GoodTo S ls M (k + 1) ↔ GoodTo S ls M k := by
  constructor
  · exact fun H x hx => H x ((take_mem hk x).2 (.inl hx))
  · intro H x hx
    rcases (take_mem hk x).1 hx with hx | hx
    · exact H x hx
    · rw [hx]; exact h
theorem GoodTo.no {S : List Art} {ls : List Acta} {M : List Int} {k : Nat} (hk : k < M.length) (h : (onO S ls M[k]).isSome = false) : ¬ GoodTo S ls M (k + 1) := fun H => by
  have := H M[k] ((take_mem hk _).2 (.inr rfl))
  rw [h] at this
  cases this
theorem Cover.all_good {S : List Art} {ls : List Acta} (hok : okActs ls = true) (h : ∀ x, Turn ls x → (onO S ls x).isSome = true) : ∀ i, i ≤ (turnsL ls).length → Cover S ls i []
  | 0, _ => Cover.start S ls
  | i + 1, hi => (Cover.all_good hok h i (by omega)).skip hok (by omega) (h _ (((turnsL_facts ls).2 _).1 (List.getElem_mem (by omega : i < (turnsL ls).length))))
theorem all_iff {S : List Art} {ls : List Acta} (hok : okActs ls = true) : (∀ x, Turn ls x → (onO S ls x).isSome = true) ↔ AllDays S ls := by
  constructor
  · exact fun h => (Cover.all_good hok h _ (Nat.le_refl _)).none.1 rfl
  · intro h x hx
    obtain ⟨h0, h1⟩ := turn_bound hx
    exact some_all h h0 h1
def Broken1Post (S : List Art) (ls : List Acta) (w : World) (e : Ending) (w' : World) : Prop :=
  ∃ g cap n, e = .returned (.slice (some ⟨g, 0, none⟩) n cap) ∧ n ≤ 1000 ∧ (n = 0 ↔ AllDays S ls) ∧ Below w.heap.size w w'

set_option maxRecDepth 100000 in
set_option maxHeartbeats 8000000 in
theorem broken1_any (S : List Art) (ls : List Acta) (w : World) (vs va : Value) (hS : Arts w w.heap.size vs S) (hA : Acts w w.heap.size va ls) (hok : okStat S = true) (hp : okActs ls = true) :
    Calls Tryz.prog 109 #[vs, va] w (Broken1Post S ls w) := by
  have hl8 := okActs_len hp
  have HP := Lib.hid hp
  have HT := Lib.hid (turns1_any ls w va hA (by omega))
  have HONA := Lib.hid (fun (d : Int) w' (hb : Below w.heap.size w w') => on1_any S ls d w' vs va (SlR.on hS (Pl.stays _) hb hb.size) (hA.on hb hb.size) hok hp)
  obtain ⟨A, c, rfl, _⟩ := hS
  obtain ⟨A2, c2, rfl, _⟩ := acts_at hA
  obtain ⟨i0, hi, hz0, hz1, hz2⟩ := info_parts Tryz.infoRow
  clear hA hok hp
  go_enter Tryz.func109, Tryz.ntmps109
  go_wp2_with (fail)
  refine (HT.out).mono ?_
  rintro e w1 ⟨vT, M, rfl, hO1, hM, hMl, hb1⟩
  have htl : 0 < M.length := List.length_pos_of_mem ((hM 0).2 (.inl rfl))
  have HMT := Lib.hid hM
  obtain ⟨AT, cT, rfl, _, hcm, h3⟩ := hO1
  obtain ⟨gT, rfl, hgT0, hgT, hrT⟩ := h3 (fun e => by rw [e] at htl; cases htl)
  have hown0 : (w1.alloc (.cells #[] 29)).ownsRow w.heap.size 29 1 (.slice (some ⟨w1.heap.size, 0, none⟩) 0 0) 0 [] := by simpa using World.ownsRow_made (base := w.heap.size) w1 #[] 0 hb1.size (Nat.zero_le _) rfl
  have HRW1 : Hid (Rows w.heap.size (w1.alloc (.cells #[] 29)) w1.heap.size 0 []) := Lib.hid ⟨hown0, (fun x hx => by cases hx), List.Pairwise.nil⟩
  have hba : Below w1.heap.size w1 (w1.alloc (.cells #[] 29)) := (Below.refl _ _).alloc (Nat.le_refl _) _
  have HB1 := Lib.hid (hb1.trans (hba.mono hb1.size))
  have HRT1 := Lib.hid (hrT.below hba hgT)
  clear hb1 h3 hrT hM hown0 hba
  go_wp2
  go_loopw [6, 7, 8] (fun o bf i wr => ∃ (k g cap : Nat) (b : Bool) (L : List BRow), i = .int .i64 (k : Int) ∧ bf = .bool b ∧ k ≤ M.length ∧ o = .slice (some ⟨g, 0, none⟩) L.length cap ∧ L.length ≤ k ∧ Rows w.heap.size wr g cap L ∧ (b = true → L ≠ []) ∧ (L = [] ↔ GoodTo S ls M k) ∧ Row wr gT (M.flatMap intCells) ∧ gT < wr.heap.size ∧ gT ≠ g ∧ (∀ x ∈ L, gT < x.h) ∧ Below w.heap.size w wr) (fun _ _ i _ => M.length - (RowKit.intOf i).toNat)
  case atStart => exact ⟨0, w1.heap.size, 0, false, [], rfl, rfl, Nat.zero_le _, rfl, Nat.zero_le _, HRW1.out, (fun h => by cases h), ⟨fun _ x hx => by simp at hx, fun _ => rfl⟩, HRT1.out, by simp; omega, by omega, (fun x hx => by cases hx), HB1.out⟩
  case round =>
    obtain ⟨k, g, cap, b, L, rfl, rfl, hk, rfl, hLk, hRW, hbn, hG, hRT, hgT, hgTg, hgTx, hb⟩ := hrel
    have HRW := Lib.hid hRW
    have HBN := Lib.hid hbn
    have HG := Lib.hid hG
    have HRT := Lib.hid hRT
    have HB := Lib.hid hb
    clear hRW hbn hG hRT hb
    by_cases hlt : k < M.length
    · have x9 : wr.cell? ⟨gT, k, none⟩ = some (.int .i64 M[k]) := HRT.out.cell k _ (by rw [int_flat, List.getElem?_map, List.getElem?_eq_getElem hlt]; rfl)
      have HX9 : Hid (∀ W, Row W gT (M.flatMap intCells) → W.cell? ⟨gT, k, none⟩ = some (.int .i64 M[k])) := Lib.hid (fun W h => h.cell k _ (by rw [int_flat, List.getElem?_map, List.getElem?_eq_getElem hlt]; rfl))
      have q1 := turn_bound ((HMT.out _).1 (List.getElem_mem hlt))
      have HON := Lib.hid (HONA.out M[k] wr HB.out)
      have HYE := Lib.hid (fun h => GoodTo.yes (S := S) (ls := ls) hlt h)
      have HNO := Lib.hid (fun h => GoodTo.no (S := S) (ls := ls) hlt h)
      by_cases hn : k + 1 < M.length
      · have hn' : (k : Int) + 1 < (M.length : Int) := by omega
        have q2 := turn_bound ((HMT.out _).1 (List.getElem_mem hn))
        have x8 : wr.cell? ⟨gT, k + 1, none⟩ = some (.int .i64 (M[k + 1] - 1 + 1)) := by
          have := HRT.out.cell (k + 1) (.int .i64 M[k + 1]) (by rw [int_flat, List.getElem?_map, List.getElem?_eq_getElem hn]; rfl)
          rw [this]
          congr 2
          omega
        have q3 : -1 ≤ M[k + 1] - 1 := by omega
        have q4 : M[k + 1] - 1 ≤ 999 := by omega
        clear q2
        generalize M[k + 1] - 1 = la at *
        generalize M[k] = d at *
        go_wp2_with (fail)
        refine (HON.out).mono ?_
        rintro e w3 ⟨v3, rfl, _, ⟨A3, n3, c3, rfl⟩, hb3⟩
        have HR3 := Lib.hid (HRW.out.below hb3)
        have HB3 := Lib.hid (HB.out.trans (hb3.mono HB.out.size))
        have HRT3 := Lib.hid (HRT.out.below hb3 hgT)
        have hgT3 : gT < w3.heap.size := Nat.lt_of_lt_of_le hgT hb3.size
        have x10 := HX9.out w3 HRT3.out
        clear hb3
        cases hon : (onO S ls d).isSome with
        | true =>
          have HC := Lib.hid (HG.out.trans (HYE.out hon).symm)
          clear hon
          go_wp2
          go_roundw
          case rel => exact ⟨k + 1, g, cap, false, L, by go_num, rfl, by omega, rfl, by omega, HR3.out, (fun h => by cases h), HC.out, HRT3.out, hgT3, hgTg, hgTx, HB3.out⟩
          case measure => simp [RowKit.intOf] <;> omega
        | false =>
          have HNG := Lib.hid (HNO.out hon)
          have HOW := Lib.hid HR3.out.row
          clear hon HON HYE HNO
          cases b with
          | true =>
            have hne := HBN.out rfl
            rcases List.eq_nil_or_concat L with hL | ⟨L', x, hL⟩
            · exact absurd hL hne
            · clear hne
              rw [List.concat_eq_append] at hL
              obtain ⟨e1, e2⟩ := own_cell HR3.out.row (j := L'.length) (u := .slice (some ⟨x.h, 0, none⟩) 2 2) (by rw [hL, List.flatMap_append, List.getElem?_append_right (by rw [flat_len (k := 1) bCells (fun _ => rfl)]; omega), flat_len (k := 1) bCells (fun _ => rfl)]; simp [bCells])
              have e3 := (HR3.out.each x (by rw [hL]; simp)).1.cell 1 _ rfl
              have e4 := (HR3.out.each x (by rw [hL]; simp)).1.free 1 (by simp)
              have HL := Lib.hid hL
              generalize hgl : L.length = n at *
              obtain ⟨m, hm⟩ : ∃ m, m = L'.length := ⟨_, rfl⟩
              rw [← hm] at e1 e2
              have hnm : n = m + 1 := by rw [← hgl, hL, hm]; simp
              subst hnm
              have HM := Lib.hid hm
              clear hL hm
              have HT3 := Lib.hid (Rows.turn (x := x) (by rw [← HL.out]; exact HR3.out) (la))
              have hxb := (HR3.out.each x (by rw [HL.out]; simp))
              have HB4 := Lib.hid (HB3.out.setCell (p := ⟨x.h, 1, none⟩) hxb.2.1 (.int .i64 (la)))
              have HRT4 := Lib.hid (HRT3.out.far (p := ⟨x.h, 1, none⟩) (.int .i64 (la)) (by have := hgTx x (by rw [HL.out]; simp); show x.h ≠ gT; omega))
              go_wp2
              go_roundw
              case rel => exact ⟨k + 1, g, cap, true, L' ++ [⟨x.lo, la, x.h⟩], by go_num, rfl, by omega, by simp [HM.out], by have := HM.out; simp; omega, HT3.out, (fun _ => by simp), ⟨fun h => by simp at h, fun h => absurd h HNG.out⟩, HRT4.out, by simpa using hgT3, hgTg, (fun y hy => by
                rcases List.mem_append.1 hy with hy | hy
                · exact hgTx y (by rw [HL.out]; exact List.mem_append_left _ hy)
                · rw [List.mem_singleton.1 hy]; exact hgTx x (by rw [HL.out]; simp)), HB4.out⟩
              case measure => simp [RowKit.intOf] <;> omega
          | false =>
            generalize hgl : L.length = n at *
            have hWz : ((w3.alloc (.cells #[.int .i64 d, .int .i64 (la)] 2)).alloc (.cells #[.slice (some ⟨w3.heap.size, 0, none⟩) 2 2] 29)).heap.size = w3.heap.size + 2 := by simp
            have hWB : Below w3.heap.size w3 ((w3.alloc (.cells #[.int .i64 d, .int .i64 (la)] 2)).alloc (.cells #[.slice (some ⟨w3.heap.size, 0, none⟩) 2 2] 29)) := ((Below.refl _ _).alloc (Nat.le_refl _) _).alloc (by simp) _
            have hWR := (Row.new w3 #[.int .i64 d, .int .i64 (la)] 2).below ((Below.refl _ _).alloc (Nat.le_refl _) (.cells #[.slice (some ⟨w3.heap.size, 0, none⟩) 2 2] 29)) (by simp)
            have HWR := Lib.hid hWR
            have HWB := Lib.hid hWB
            have HWO := Lib.hid ((HOW.out.alloc (.cells #[.int .i64 d, .int .i64 (la)] 2)).alloc (.cells #[.slice (some ⟨w3.heap.size, 0, none⟩) 2 2] 29))
            clear hWR hWB
            have hg3 := HR3.out.row.lt g rfl
            go_wp2_with (at_builtin; refine wpList_append_own_at _ rfl _ _ 22 rfl w.heap.size 29 i0 (.slice none 0 0) 1 24 Tryz.underlying22 hi hz0 hz1 hz2 rfl (by decide) _ _ _ rfl HWO.out ⟨w3.heap.size + 1, 0, none⟩ 1 1 (bCells ⟨d, la, w3.heap.size⟩) rfl rfl (fun j u hj => new_at2 hj) (fun u hu => bcell_one hu) ?c3 ?c4 (base_le (base_le HB3.out.size)) ?_)
            case c3 => unfold maxLen; omega
            case c4 => omega
            intro v' w9 hown' hgrow hiff hor
            obtain ⟨g', cap', rfl, hdc', hcm'⟩ := own_some hown' (by simpa using hiff)
            have hor' : g' = g ∨ g' = w3.heap.size + 2 := by
              rcases hor with h | h <;> injection h with h
              · exact .inl h
              · first | exact .inr h | exact .inr (by rw [hWz] at h; exact h)
            have HP9 := Lib.hid (Rows.push (x := ⟨d, la, w3.heap.size⟩) (HR3.out.below HWB.out) hgrow (by rw [hWz]; exact hor') (by rw [hgl]; exact hown') HWR.out HB3.out.size (by rw [hWz]; show w3.heap.size < w3.heap.size + 2; omega) (by show w3.heap.size ≠ g; omega) (fun y hy => (HR3.out.each y hy).2.2.1))
            have HRT9 := Lib.hid ((HRT3.out.below HWB.out hgT3).only (by rw [hWz]; omega) hgTg hgrow)
            have HB9 := Lib.hid ((HB3.out.trans (HWB.out.mono HB3.out.size)).grown hgrow (by rw [hWz]; have := HB3.out.size; omega) (fun j hj => by have := HOW.out.lt j hj; exact this.1))
            have hgT9 : gT < w9.heap.size := by have := hgrow.size; rw [hWz] at this; omega
            clear hown' hgrow hiff hor
            go_wp2
            go_roundw
            case rel => exact ⟨k + 1, g', cap', true, L ++ [⟨d, la, w3.heap.size⟩], by go_num, rfl, by omega, by rw [List.length_append, List.length_singleton, hgl], by rw [List.length_append, List.length_singleton, hgl]; omega, HP9.out, (fun _ => by simp), ⟨fun h => by simp at h, fun h => absurd h HNG.out⟩, HRT9.out, hgT9, by rcases hor' with e | e <;> omega, (fun y hy => by
              rcases List.mem_append.1 hy with hy | hy
              · exact hgTx y hy
              · rw [List.mem_singleton.1 hy]; exact hgT3), HB9.out⟩
            case measure => simp [RowKit.intOf] <;> omega
      · have hn' : ¬ (k : Int) + 1 < (M.length : Int) := by omega
        generalize M[k] = d at *
        go_wp2_with (fail)
        refine (HON.out).mono ?_
        rintro e w3 ⟨v3, rfl, _, ⟨A3, n3, c3, rfl⟩, hb3⟩
        have HR3 := Lib.hid (HRW.out.below hb3)
        have HB3 := Lib.hid (HB.out.trans (hb3.mono HB.out.size))
        have HRT3 := Lib.hid (HRT.out.below hb3 hgT)
        have hgT3 : gT < w3.heap.size := Nat.lt_of_lt_of_le hgT hb3.size
        have x10 := HX9.out w3 HRT3.out
        clear hb3
        cases hon : (onO S ls d).isSome with
        | true =>
          have HC := Lib.hid (HG.out.trans (HYE.out hon).symm)
          clear hon
          go_wp2
          go_roundw
          case rel => exact ⟨k + 1, g, cap, false, L, by go_num, rfl, by omega, rfl, by omega, HR3.out, (fun h => by cases h), HC.out, HRT3.out, hgT3, hgTg, hgTx, HB3.out⟩
          case measure => simp [RowKit.intOf] <;> omega
        | false =>
          have HNG := Lib.hid (HNO.out hon)
          have HOW := Lib.hid HR3.out.row
          clear hon HON HYE HNO
          cases b with
          | true =>
            have hne := HBN.out rfl
            rcases List.eq_nil_or_concat L with hL | ⟨L', x, hL⟩
            · exact absurd hL hne
            · clear hne
              rw [List.concat_eq_append] at hL
              obtain ⟨e1, e2⟩ := own_cell HR3.out.row (j := L'.length) (u := .slice (some ⟨x.h, 0, none⟩) 2 2) (by rw [hL, List.flatMap_append, List.getElem?_append_right (by rw [flat_len (k := 1) bCells (fun _ => rfl)]; omega), flat_len (k := 1) bCells (fun _ => rfl)]; simp [bCells])
              have e3 := (HR3.out.each x (by rw [hL]; simp)).1.cell 1 _ rfl
              have e4 := (HR3.out.each x (by rw [hL]; simp)).1.free 1 (by simp)
              have HL := Lib.hid hL
              generalize hgl : L.length = n at *
              obtain ⟨m, hm⟩ : ∃ m, m = L'.length := ⟨_, rfl⟩
              rw [← hm] at e1 e2
              have hnm : n = m + 1 := by rw [← hgl, hL, hm]; simp
              subst hnm
              have HM := Lib.hid hm
              clear hL hm
              have HT3 := Lib.hid (Rows.turn (x := x) (by rw [← HL.out]; exact HR3.out) (999))
              have hxb := (HR3.out.each x (by rw [HL.out]; simp))
              have HB4 := Lib.hid (HB3.out.setCell (p := ⟨x.h, 1, none⟩) hxb.2.1 (.int .i64 (999)))
              have HRT4 := Lib.hid (HRT3.out.far (p := ⟨x.h, 1, none⟩) (.int .i64 (999)) (by have := hgTx x (by rw [HL.out]; simp); show x.h ≠ gT; omega))
              go_wp2
              go_roundw
              case rel => exact ⟨k + 1, g, cap, true, L' ++ [⟨x.lo, 999, x.h⟩], by go_num, rfl, by omega, by simp [HM.out], by have := HM.out; simp; omega, HT3.out, (fun _ => by simp), ⟨fun h => by simp at h, fun h => absurd h HNG.out⟩, HRT4.out, by simpa using hgT3, hgTg, (fun y hy => by
                rcases List.mem_append.1 hy with hy | hy
                · exact hgTx y (by rw [HL.out]; exact List.mem_append_left _ hy)
                · rw [List.mem_singleton.1 hy]; exact hgTx x (by rw [HL.out]; simp)), HB4.out⟩
              case measure => simp [RowKit.intOf] <;> omega
          | false =>
            generalize hgl : L.length = n at *
            have hWz : ((w3.alloc (.cells #[.int .i64 d, .int .i64 (999)] 2)).alloc (.cells #[.slice (some ⟨w3.heap.size, 0, none⟩) 2 2] 29)).heap.size = w3.heap.size + 2 := by simp
            have hWB : Below w3.heap.size w3 ((w3.alloc (.cells #[.int .i64 d, .int .i64 (999)] 2)).alloc (.cells #[.slice (some ⟨w3.heap.size, 0, none⟩) 2 2] 29)) := ((Below.refl _ _).alloc (Nat.le_refl _) _).alloc (by simp) _
            have hWR := (Row.new w3 #[.int .i64 d, .int .i64 (999)] 2).below ((Below.refl _ _).alloc (Nat.le_refl _) (.cells #[.slice (some ⟨w3.heap.size, 0, none⟩) 2 2] 29)) (by simp)
            have HWR := Lib.hid hWR
            have HWB := Lib.hid hWB
            have HWO := Lib.hid ((HOW.out.alloc (.cells #[.int .i64 d, .int .i64 (999)] 2)).alloc (.cells #[.slice (some ⟨w3.heap.size, 0, none⟩) 2 2] 29))
            clear hWR hWB
            have hg3 := HR3.out.row.lt g rfl
            go_wp2_with (at_builtin; refine wpList_append_own_at _ rfl _ _ 22 rfl w.heap.size 29 i0 (.slice none 0 0) 1 24 Tryz.underlying22 hi hz0 hz1 hz2 rfl (by decide) _ _ _ rfl HWO.out ⟨w3.heap.size + 1, 0, none⟩ 1 1 (bCells ⟨d, 999, w3.heap.size⟩) rfl rfl (fun j u hj => new_at2 hj) (fun u hu => bcell_one hu) ?c3 ?c4 (base_le (base_le HB3.out.size)) ?_)
            case c3 => unfold maxLen; omega
            case c4 => omega
            intro v' w9 hown' hgrow hiff hor
            obtain ⟨g', cap', rfl, hdc', hcm'⟩ := own_some hown' (by simpa using hiff)
            have hor' : g' = g ∨ g' = w3.heap.size + 2 := by
              rcases hor with h | h <;> injection h with h
              · exact .inl h
              · first | exact .inr h | exact .inr (by rw [hWz] at h; exact h)
            have HP9 := Lib.hid (Rows.push (x := ⟨d, 999, w3.heap.size⟩) (HR3.out.below HWB.out) hgrow (by rw [hWz]; exact hor') (by rw [hgl]; exact hown') HWR.out HB3.out.size (by rw [hWz]; show w3.heap.size < w3.heap.size + 2; omega) (by show w3.heap.size ≠ g; omega) (fun y hy => (HR3.out.each y hy).2.2.1))
            have HRT9 := Lib.hid ((HRT3.out.below HWB.out hgT3).only (by rw [hWz]; omega) hgTg hgrow)
            have HB9 := Lib.hid ((HB3.out.trans (HWB.out.mono HB3.out.size)).grown hgrow (by rw [hWz]; have := HB3.out.size; omega) (fun j hj => by have := HOW.out.lt j hj; exact this.1))
            have hgT9 : gT < w9.heap.size := by have := hgrow.size; rw [hWz] at this; omega
            clear hown' hgrow hiff hor
            go_wp2
            go_roundw
            case rel => exact ⟨k + 1, g', cap', true, L ++ [⟨d, 999, w3.heap.size⟩], by go_num, rfl, by omega, by rw [List.length_append, List.length_singleton, hgl], by rw [List.length_append, List.length_singleton, hgl]; omega, HP9.out, (fun _ => by simp), ⟨fun h => by simp at h, fun h => absurd h HNG.out⟩, HRT9.out, hgT9, by rcases hor' with e | e <;> omega, (fun y hy => by
              rcases List.mem_append.1 hy with hy | hy
              · exact hgTx y hy
              · rw [List.mem_singleton.1 hy]; exact hgT3), HB9.out⟩
            case measure => simp [RowKit.intOf] <;> omega
    · have hge : ¬ (k : Int) < (M.length : Int) := by omega
      have hk' : k = M.length := by omega
      have HFIN : Hid (L.length = 0 ↔ AllDays S ls) := Lib.hid (by
        rw [List.length_eq_zero_iff, HG.out, ← all_iff HP.out, hk']
        unfold GoodTo
        rw [List.take_length]
        exact ⟨fun h x hx => h x ((HMT.out x).2 hx), fun h x hx => h x ((HMT.out x).1 hx)⟩)
      clear hlt hk'
      go_wp2
      go_ret
      exact ⟨g, cap, L.length, rfl, by omega, HFIN.out, HB.out⟩
end Go.Proofs.YtnandbammmcncaaGreat

namespace Go.Proofs.YtnandbammmcncaaGreat
open Go.RowKit Go.Lib

/-- The act k ends on a day. -/
def endA (a : Acta) (day : Int) : Acta := ⟨a.beg, day, a.pat⟩
def endL (ls : List Acta) (k : Nat) (a : Acta) (day : Int) : List Acta := ls.set k (endA a day)
def restL' (ls : List Acta) (k : Nat) : List Acta := ls.take k ++ ls.drop (k + 1)
/-- One act's step. -/
def stepA (o : Option (List Art)) (a : Acta) : Option (List Art) := o.bind (fun S => applyO S a.pat)
/-- When an act can be ended on a day. -/
def EndOk (S : List Art) (ls : List Acta) (k : Nat) (a : Acta) (day : Int) : Prop := inD day = true ∧ a.beg < day ∧ day < a.fin ∧ AllDays S (endL ls k a day)
end Go.Proofs.YtnandbammmcncaaGreat

namespace Go.Proofs.YtnandbammmcncaaGreat
open Go.RowKit Go.Lib

section
variable {P : Program} {w : World}
/-- append of whatever slice is read as a list, to a row of the call's own. -/
theorem wp_append_slR {α : Type} (f : α → List Value) {o : Oper} {a : Act} {K : Act → World → Prop} {Q : Exit → Act → World → Prop} (s x : Operand) (t : TypeId)
    (ho : o.op = .call { callee := .builtin .append, args := #[s, x], argTypes := #[t, t] })
    (base : Nat) (e : TypeId) (i : TypeInfo) (z : Value) (size bytes : Nat) (ht : P.underlying t = some (.slice e)) (hi : P.info? e = some i) (hz : i.zero = some z)
    (hsize : i.size = size) (hby : i.bytes = bytes) (hzs : z.cells.size = size) (hsz : 0 < size)
    (v : Value) (n : Nat) (ys : List Value) (hs : a.eval s = v) (hown : w.ownsRow base e size v n ys)
    (vs : Value) (xs : List α) (B : Nat) (hx : a.eval x = vs) (hSl : SlR (Pl f) size w B vs xs) (hf : ∀ y, (f y).length = size) (h1 : ∀ y, ∀ u ∈ f y, u.oneCell' = true)
    (h63 : n + xs.length ≤ maxLen) (hbytes : (n + xs.length) * bytes ≤ 140737488355328) (hbase : base ≤ w.heap.size)
    (h : ∀ v' w', w'.ownsRow base e size v' (n + xs.length) (ys ++ xs.flatMap f) → w.grownBy w' v.ownBlock → (v ≠ .slice none 0 0 → v' ≠ .slice none 0 0) → K (a.put o.dst v') w') : o.wp P a w K Q := by
  obtain ⟨A, c, rfl, hc, hm, hel⟩ := hSl
  have hsome : ∀ ad : Addr, A = some ad → (∀ j u, (xs.flatMap f)[j]? = some u → w.cell? (ad.add j) = some u) → o.wp P a w K Q := fun ad hA hcells => by
    subst hA
    obtain ⟨v', w', hr, g1, g2, g3, _⟩ := run_append_own_at (P := P) w base t o.type e i z size bytes ht hi hz hsize hby hzs hsz v n ys hown ad xs.length c (xs.flatMap f) (flat_len f hf xs) hcells (flat_one f (fun y u hu => h1 y u hu) xs) h63 hbytes hbase
    unfold Oper.wp execOp
    simp only [ho, resolve, invoke, builtin, Sem.run_bind, Sem.run_pure, Result.andThen_ok, List.map_toArray, List.map_cons, List.map_nil, hs, hx, hr]
    exact h v' w' g1 g2 (fun hv hv' => hv (g3.1 hv').1)
  by_cases h0 : xs = []
  · subst h0
    cases A with
    | some ad => exact hsome ad rfl (fun j u hj => by simp at hj)
    | none =>
      have hrun : (Builtin.append_ #[t, t] o.type #[v, .slice none 0 c]).run P w = .ok v w := by
        rcases hown.2 with ⟨rfl, rfl⟩ | ⟨g, cap, cur, rfl, _, _, hnc, _⟩
        · simp [Builtin.append_, run_underlying ht, sizeOf, typeInfo, hi, Builtin.lenOf, Builtin.firstCells]
        · simp [Builtin.append_, run_underlying ht, sizeOf, typeInfo, hi, Builtin.lenOf, Builtin.firstCells, hnc, storeCells]
      unfold Oper.wp
      have hx' : a.eval x = .slice none 0 c := hx
      simp [execOp, ho, resolve, invoke, builtin, hs, hx', hrun, Result.andThen]
      exact (h v w (by simpa using hown) ⟨rfl, rfl, rfl, Nat.le_refl _, fun _ _ _ => rfl⟩ (fun hv => hv))
  · obtain ⟨b, off, hA, hb, hcell⟩ := hel (List.length_pos_iff.2 h0)
    refine hsome ⟨b, off, none⟩ hA (fun j u hj => ?_)
    have hjl : j < xs.length * size := by rw [← flat_len f hf xs]; exact (List.getElem?_eq_some_iff.1 hj).1
    have hq : j / size < xs.length := Nat.div_lt_of_lt_mul (by rw [Nat.mul_comm]; exact hjl)
    obtain ⟨us, hl, hp, hcl⟩ := hcell (j / size) xs[j / size] (List.getElem?_eq_getElem hq)
    have hp : us = f xs[j / size] := hp
    subst hp
    have hmod : j % size < size := Nat.mod_lt _ hsz
    have hu : (f xs[j / size])[j % size]? = some u := by
      have hjj : j = (j / size) * size + j % size := by rw [Nat.mul_comm]; exact (Nat.div_add_mod j size).symm
      have hfa : ∀ (L : List α) (q r : Nat) (hq : q < L.length), r < size → (L.flatMap f)[q * size + r]? = (f L[q])[r]? := by
        intro L
        induction L with
        | nil => intro q r hq; cases hq
        | cons y L ih =>
          intro q r hq hr
          rw [List.flatMap_cons]
          cases q with
          | zero => rw [Nat.zero_mul, Nat.zero_add, List.getElem?_append_left (by rw [hf]; exact hr)]; rfl
          | succ q =>
            rw [List.getElem?_append_right (by rw [hf, Nat.succ_mul]; omega), hf, Nat.succ_mul, show q * size + size + r - size = q * size + r by omega]
            exact ih q r (by simpa using hq) hr
      rw [← hfa xs (j / size) (j % size) hq hmod, ← hjj]
      exact hj
    have := hcl (j % size) u hu
    have hjj : (j / size) * size + j % size = j := by rw [Nat.mul_comm]; exact Nat.div_add_mod j size
    rw [Nat.add_assoc, hjj] at this
    rw [Addr.add_lit]
    exact this
/-- The same as one step of a region that draws its order. -/
theorem step_append_slR {α : Type} (f : α → List Value) {ops : Array Oper} {o : Oper} {a : Act} {K : Act → World → Prop} {Q : Exit → Act → World → Prop} {E : Prop} (hgd : o.guard = none) (s x : Operand) (t : TypeId)
    (ho : o.op = .call { callee := .builtin .append, args := #[s, x], argTypes := #[t, t] })
    (base : Nat) (e : TypeId) (i : TypeInfo) (z : Value) (size bytes : Nat) (ht : P.underlying t = some (.slice e)) (hi : P.info? e = some i) (hz : i.zero = some z)
    (hsize : i.size = size) (hby : i.bytes = bytes) (hzs : z.cells.size = size) (hsz : 0 < size)
    (v : Value) (n : Nat) (ys : List Value) (hs : a.eval s = v) (hown : w.ownsRow base e size v n ys)
    (vs : Value) (xs : List α) (B : Nat) (hx : a.eval x = vs) (hSl : SlR (Pl f) size w B vs xs) (hf : ∀ y, (f y).length = size) (h1 : ∀ y, ∀ u ∈ f y, u.oneCell' = true)
    (h63 : n + xs.length ≤ maxLen) (hbytes : (n + xs.length) * bytes ≤ 140737488355328) (hbase : base ≤ w.heap.size)
    (h : ∀ v' w', w'.ownsRow base e size v' (n + xs.length) (ys ++ xs.flatMap f) → w.grownBy w' v.ownBlock → (v ≠ .slice none 0 0 → v' ≠ .slice none 0 0) → K (a.put o.dst v') w') :
    if Region.wanted o (yielded ops a.tmps) = true then Oper.wp P o a w K Q else E := by
  have hw : Region.wanted o (yielded ops a.tmps) = true := by simp [Region.wanted, hgd]
  rw [if_pos hw]
  exact wp_append_slR f s x t ho base e i z size bytes ht hi hz hsize hby hzs hsz v n ys hs hown vs xs B hx hSl hf h1 h63 hbytes hbase h
/-- append onto a row of the call's own, and where the new slice lies: as one step of a region that draws its order. -/
theorem step_append_own_at {ops : Array Oper} {o : Oper} {a : Act} {K : Act → World → Prop} {Q : Exit → Act → World → Prop} {E : Prop} (hgd : o.guard = none) (s x : Operand) (t : TypeId)
    (ho : o.op = .call { callee := .builtin .append, args := #[s, x], argTypes := #[t, t] })
    (base : Nat) (e : TypeId) (i : TypeInfo) (z : Value) (size bytes : Nat) (ht : P.underlying t = some (.slice e)) (hi : P.info? e = some i) (hz : i.zero = some z)
    (hsize : i.size = size) (hby : i.bytes = bytes) (hzs : z.cells.size = size) (hsz : 0 < size)
    (v : Value) (n : Nat) (xs : List Value) (hs : a.eval s = v) (hown : w.ownsRow base e size v n xs)
    (ad : Addr) (m c : Nat) (news : List Value) (hx : a.eval x = .slice (some ad) m c) (hl : news.length = m * size) (hnews : ∀ j u, news[j]? = some u → w.cell? (ad.add j) = some u) (h1 : ∀ u ∈ news, u.oneCell' = true)
    (h63 : n + m ≤ maxLen) (hbytes : (n + m) * bytes ≤ 140737488355328) (hbase : base ≤ w.heap.size)
    (h : ∀ v' w', w'.ownsRow base e size v' (n + m) (xs ++ news) → w.grownBy w' v.ownBlock → (v' = .slice none 0 0 ↔ v = .slice none 0 0 ∧ m = 0) → (v'.ownBlock = v.ownBlock ∨ v'.ownBlock = some w.heap.size) → K (a.put o.dst v') w') :
    if Region.wanted o (yielded ops a.tmps) = true then Oper.wp P o a w K Q else E := by
  have hw : Region.wanted o (yielded ops a.tmps) = true := by simp [Region.wanted, hgd]
  rw [if_pos hw]
  obtain ⟨v', w', hr, h2, h3, h4, h5⟩ := run_append_own_at (P := P) w base t o.type e i z size bytes ht hi hz hsize hby hzs hsz v n xs hown ad m c news hl hnews h1 h63 hbytes hbase
  unfold Oper.wp execOp
  simp only [ho, resolve, invoke, builtin, Sem.run_bind, Sem.run_pure, Result.andThen_ok, List.map_toArray, List.map_cons, List.map_nil, hs, hx, hr]
  exact h v' w' h2 h3 h4 h5
end
end Go.Proofs.YtnandbammmcncaaGreat

namespace Go.Proofs.YtnandbammmcncaaGreat
open Go.RowKit Go.Lib

theorem DrawSt.below {base : Nat} {w w' : World} {S T : List Art} {vs vt : Value} {g cap : Nat} {L : List VAct} (h : DrawSt base w S T vs vt g cap L) (hb : Below w.heap.size w w') : DrawSt base w' S T vs vt g cap L :=
  ⟨h.s.on hb, h.sn, h.t.on hb, h.tn, own_below h.row hb, fun x hx => ⟨(h.pats x hx).1.on hb, (h.pats x hx).2⟩⟩
/-- Acts of the call's own. -/
def ActsSt (base : Nat) (w : World) (g cap : Nat) (L : List VAct) : Prop := DrawSt base w [] [] (.slice none 0 0) (.slice none 0 0) g cap L
theorem own_none (base : Nat) (w : World) : OwnL artCells [] base w (.slice none 0 0) := ⟨none, 0, rfl, Nat.le_refl _, Nat.zero_le _, fun h => absurd rfl h⟩
def CopyPost (ls : List Acta) (w : World) (e : Ending) (w' : World) : Prop :=
  ∃ g cap L, e = .returned (.slice (some ⟨g, 0, none⟩) L.length cap) ∧ L.map (·.a) = ls ∧ ActsSt w.heap.size w' g cap L ∧ Below w.heap.size w w'

theorem keepA {w w' : World} {p0 p1 p2 : Addr} {v0 v1 v2 : Value} (h : w.cell? p0 = some v0 ∧ w.cell? p1 = some v1 ∧ w.cell? p2 = some v2) (hb : Below w.heap.size w w') : w'.cell? p0 = some v0 ∧ w'.cell? p1 = some v1 ∧ w'.cell? p2 = some v2 :=
  ⟨(hb.cell (World.block_lt_of_cell? w _ h.1)).trans h.1, (hb.cell (World.block_lt_of_cell? w _ h.2.1)).trans h.2.1, (hb.cell (World.block_lt_of_cell? w _ h.2.2)).trans h.2.2⟩
theorem keepA' {B : Nat} {w w' : World} {p0 p1 p2 : Addr} {v0 v1 v2 : Value} (h : w.cell? p0 = some v0 ∧ w.cell? p1 = some v1 ∧ w.cell? p2 = some v2) (hb : Below B w w') (hB : w.heap.size = B) : w'.cell? p0 = some v0 ∧ w'.cell? p1 = some v1 ∧ w'.cell? p2 = some v2 :=
  keepA h (hB ▸ hb)
theorem keepG {w w' : World} {p0 p1 p2 : Addr} {g : Nat} {v0 v1 v2 : Value} (h : w.cell? p0 = some v0 ∧ w.cell? p1 = some v1 ∧ w.cell? p2 = some v2) (hg : w.grownBy w' (some g)) (h0 : p0.block ≠ g) (h1 : p1.block ≠ g) (h2 : p2.block ≠ g) : w'.cell? p0 = some v0 ∧ w'.cell? p1 = some v1 ∧ w'.cell? p2 = some v2 :=
  ⟨hg.cell h.1 (fun e => h0 (by injection e)), hg.cell h.2.1 (fun e => h1 (by injection e)), hg.cell h.2.2 (fun e => h2 (by injection e))⟩

set_option maxRecDepth 100000 in
set_option maxHeartbeats 4000000 in
theorem own1_any (ls : List Acta) (w : World) (v : Value) (h : Acts w w.heap.size v ls) (ho : okActs ls = true) :
    Calls Tryz.prog 130 #[v] w (CopyPost ls w) := by
  obtain ⟨A, c, rfl, hc, hm, hel⟩ := acts_at h
  have HEL := Lib.hid hel
  have HOKA := Lib.hid ho
  have hl8 := okActs_len ho
  clear hel h ho
  obtain ⟨i0, hi, hz0, hz1', hz2⟩ := info_parts Tryz.infoAct
  obtain ⟨e0, hie, he0, he1, he2⟩ := info_parts Tryz.infoE
  have hown0 : (w.alloc (.cells #[] 144)).ownsRow w.heap.size 144 3 (.slice (some ⟨w.heap.size, 0, none⟩) 0 0) 0 [] := by simpa using World.ownsRow_made w #[] 0 (Nat.le_refl _) (Nat.zero_le _) rfl
  have HD0 : Hid (ActsSt w.heap.size (w.alloc (.cells #[] 144)) w.heap.size 0 []) := Lib.hid ⟨own_none _ _, fun h => absurd rfl h, own_none _ _, fun h => absurd rfl h, hown0, fun x hx => by cases hx⟩
  have HB0 : Hid (Below w.heap.size w (w.alloc (.cells #[] 144))) := Lib.hid ((Below.refl _ _).alloc (Nat.le_refl _) _)
  clear hown0
  go_enter Tryz.func130, Tryz.ntmps130
  go_wp2
  go_loopw [3, 4] (fun o i wr => ∃ (k g cap : Nat) (L : List VAct), i = .int .i64 (k : Int) ∧ k ≤ ls.length ∧ o = .slice (some ⟨g, 0, none⟩) L.length cap ∧ L.map (·.a) = ls.take k ∧ ActsSt w.heap.size wr g cap L ∧ Below w.heap.size w wr) (fun _ i _ => ls.length - (RowKit.intOf i).toNat)
  case atStart => exact ⟨0, w.heap.size, 0, [], rfl, Nat.zero_le _, rfl, rfl, HD0.out, HB0.out⟩
  case round =>
    obtain ⟨k, g, cap, L, rfl, hk, rfl, hLm, hD, hb⟩ := hrel
    have hLk : L.length = k := by
      have := congrArg List.length hLm
      rw [List.length_map, List.length_take] at this
      omega
    have HD := Lib.hid hD
    have HB := Lib.hid hb
    have HLM := Lib.hid hLm
    clear hLm hD
    by_cases hlt : k < ls.length
    · obtain ⟨b, off, rfl, hblt, hcell⟩ := HEL.out (by omega)
      have hget : ls[k]? = some ls[k] := List.getElem?_eq_getElem hlt
      obtain ⟨pv, c0, c1, c2, hE⟩ := hcell k _ hget
      have x0 := (hb.cell (p := ⟨b, off + k * 3, none⟩) hblt).trans c0
      have x1 := (hb.cell (p := ⟨b, off + k * 3 + 1, none⟩) hblt).trans c1
      have x2 := (hb.cell (p := ⟨b, off + k * 3 + 2, none⟩) hblt).trans c2
      have HPZ := Lib.hid (sizesOk_of (okActa_iff.1 (okActs_at HOKA.out hget)).pat)
      have HPL := okPatch_len (okActa_iff.1 (okActs_at HOKA.out hget)).pat
      have HNX : Hid (∀ x : VAct, x.a = ls[k] → (L ++ [x]).map (·.a) = ls.take (k + 1)) := Lib.hid (fun x hx => by
        rw [List.map_append, HLM.out, List.take_succ_eq_append_getElem hlt, List.map_cons, List.map_nil, hx])
      have HE : Hid (∀ W, Below w.heap.size w W → Edits W W.heap.size pv ls[k].pat) := Lib.hid (fun W h => SlR.on hE (Pl.stays _) h h.size)
      clear hcell c0 c1 c2 hget
      generalize ls[k] = a at *
      have hE2 := HE.out wr hb
      obtain ⟨pA, pc, rfl, _⟩ := hE2
      have hki : (k : Int) < (ls.length : Int) := by omega
      have hk0 : (0 : Int) ≤ (k : Int) := Int.natCast_nonneg _
      clear hE
      have HDW := HD
      have HBW := HB
      have hbg : b ≠ g := by have := (HD.out.row.lt g rfl).1; omega
      go_wp2_with (fail)
      have hWs : wr.heap.size = wr.heap.size := by simp
      have hgw : g < wr.heap.size := by have := (HDW.out.row.lt g rfl).2; rw [hWs] at this; exact this
      have hwB : w.heap.size ≤ wr.heap.size := by have := HBW.out.size; rw [hWs] at this; exact this
      have hb1 : Below wr.heap.size wr (wr.alloc (.cells #[] 162)).drew := ((Below.refl _ _).alloc (by rw [hWs]; exact Nat.le_refl _) _).drew
      have hB1s : wr.heap.size ≤ (wr.alloc (.cells #[] 162)).drew.heap.size := by rw [← hWs]; exact hb1.size
      have HB1 := Lib.hid hb1
      have hown1 : (wr.alloc (.cells #[] 162)).ownsRow wr.heap.size 162 4 (.slice (some ⟨wr.heap.size, 0, none⟩) 0 0) 0 [] := by rw [← hWs]; simpa using World.ownsRow_made wr #[] 0 (Nat.le_refl _) (Nat.zero_le _) rfl
      have HOWN1 := Lib.hid hown1.drew
      have HS1 := Lib.hid (HE.out _ (HBW.out.trans (hb1.mono hwB)))
      clear hown1 hb1
      have hgl := hLk
      try rw [hLk]
      go_region_held3 (fun w' => w'.cell? ⟨b, off + k * 3, none⟩ = some (.int .i64 a.beg) ∧ w'.cell? ⟨b, off + k * 3 + 1, none⟩ = some (.int .i64 a.fin) ∧ w'.cell? ⟨b, off + k * 3 + 2, none⟩ = some (.slice pA a.pat.length pc))
        (first | exact ⟨x0, x1, x2⟩ | exact keepA ⟨x0, x1, x2⟩ ((Below.refl _ _).drew) | exact keepA ⟨x0, x1, x2⟩ ((Below.refl _ _).alloc (Nat.le_refl _) _) | exact keepA ⟨x0, x1, x2⟩ (((Below.refl _ _).alloc (Nat.le_refl _) _).drew) | exact keepA' ⟨x0, x1, x2⟩ HB2.out hWs | exact keepA (keepA' ⟨x0, x1, x2⟩ HB2.out hWs) ((Below.refl _ _).alloc (Nat.le_refl _) _) | exact keepG (keepA (keepA' ⟨x0, x1, x2⟩ HB2.out hWs) ((Below.refl _ _).alloc (Nat.le_refl _) _)) hgrow hbg hbg hbg | go_keep)
        (first
          | (refine step_append_slR editCells (by rfl) _ _ 53 (by rfl) wr.heap.size 162 e0 (.agg #[.int .i64 0, .int .i64 0, .string ⟨#[]⟩, .string ⟨#[]⟩]) 4 48 Tryz.underlying53 hie he0 he1 he2 rfl (by decide) _ _ _ (by rfl) HOWN1.out _ a.pat _ (by rfl) HS1.out (fun _ => rfl) (fun y u hu => edit_one hu) (by unfold maxLen; omega) (by omega) hB1s ?_
             intro v2 w2 hown2 hgrow2 hnn2
             have HO2 : Hid (OwnL editCells a.pat wr.heap.size w2 v2) := Lib.hid (OwnL.of_own editCells (size := 4) (fun _ => rfl) (by simpa using hown2))
             have HB2 : Hid (Below wr.heap.size wr w2) := Lib.hid (HB1.out.grown hgrow2 hB1s (fun j hj => (HOWN1.out.lt j hj).1))
             have HD2 := Lib.hid (DrawSt.below HDW.out (by rw [hWs]; exact HB2.out))
             have HBW2 := Lib.hid (HBW.out.trans (HB2.out.mono hwB))
             have HPN : Hid (a.pat ≠ [] → v2.ownBlock ≠ some g) := Lib.hid (fun h0 e => by
               obtain ⟨j, hj, h1, _⟩ := HO2.out.blk h0
               rw [hj] at e
               injection e with e
               omega)
             obtain ⟨A2, c2, rfl, _⟩ := HO2.out
             have HP2 := Lib.hid (HO2.out.less hwB)
             have hba : Below w2.heap.size w2 (w2.alloc (.cells #[.int .i64 a.beg, .int .i64 a.fin, .slice A2 a.pat.length c2] 144)) := (Below.refl _ _).alloc (Nat.le_refl _) _
             have HDA := Lib.hid (DrawSt.below HD2.out hba)
             have HPA := Lib.hid (HP2.out.on hba)
             have HROW := Lib.hid (HD2.out.row.alloc (.cells #[.int .i64 a.beg, .int .i64 a.fin, .slice A2 a.pat.length c2] 144))
             rw [hgl] at HROW
             clear hown2 hgrow2 hnn2 hba)
          | (refine step_append_own_at (by rfl) _ _ 33 (by rfl) w.heap.size 144 i0 (.agg #[.int .i64 0, .int .i64 0, .slice none 0 0]) 3 40 Tryz.underlying33 hi hz0 hz1' hz2 rfl (by decide) _ _ _ (by rfl) HROW.out ⟨w2.heap.size, 0, none⟩ 1 1 (vCells ⟨⟨a.beg, a.fin, a.pat⟩, .slice A2 a.pat.length c2⟩) (by rfl) (by rfl) (fun j u hj => by have := (Row.new w2 (vCells ⟨⟨a.beg, a.fin, a.pat⟩, .slice A2 a.pat.length c2⟩).toArray 144).cell j u (by simpa using hj); rw [Addr.add_lit, Nat.zero_add]; exact this) (fun u hu => vact_one rfl hu) (by unfold maxLen; omega) (by omega) (base_le HBW2.out.size) ?_
             intro v' w9 hown' hgrow hiff hor
             obtain ⟨g', cap', rfl, hdc', hcm'⟩ := own_some hown' (by simpa using hiff)
             clear hiff))
      have HD9 := Lib.hid (HDA.out.push (x := ⟨⟨a.beg, a.fin, a.pat⟩, .slice A2 a.pat.length c2⟩) hgrow (by rcases hor with h | h <;> injection h with h; exact .inl h; exact .inr (by simpa using h)) (by rw [hgl]; exact hown') HPA.out HPN.out HPZ.out)
      have HB9 := Lib.hid ((HBW2.out.alloc HBW2.out.size (.cells #[.int .i64 a.beg, .int .i64 a.fin, .slice A2 a.pat.length c2] 144)).grown hgrow (base_le HBW2.out.size) (fun j hj => (HROW.out.lt j hj).1))
      clear hown' hgrow hor
      go_wp2
      go_roundw
      case rel => exact ⟨k + 1, g', cap', L ++ [(⟨⟨a.beg, a.fin, a.pat⟩, .slice A2 a.pat.length c2⟩ : VAct)], by go_num, by omega, by rw [List.length_append, List.length_singleton, hgl], HNX.out _ rfl, HD9.out, HB9.out⟩
      case measure => simp [RowKit.intOf]; omega
    · have hge : ¬ (k : Int) < (ls.length : Int) := by omega
      have hk' : k = ls.length := by omega
      have HFIN : Hid (L.map (·.a) = ls) := Lib.hid (by rw [HLM.out, hk', List.take_length])
      clear hk' hlt
      go_wp2
      go_ret
      exact ⟨g, cap, L, by rw [hLk]; rfl, HFIN.out, HD.out, hb⟩
set_option maxRecDepth 100000 in
set_option maxHeartbeats 4000000 in
theorem clone2_any (ls : List Acta) (w : World) (v : Value) (h : Acts w w.heap.size v ls) (ho : okActs ls = true) :
    Calls Tryz.prog 145 #[v] w (CopyPost ls w) := by
  obtain ⟨A, c, rfl, hc, hm, hel⟩ := acts_at h
  have HEL := Lib.hid hel
  have HOKA := Lib.hid ho
  have hl8 := okActs_len ho
  clear hel h ho
  obtain ⟨i0, hi, hz0, hz1', hz2⟩ := info_parts Tryz.infoAct
  obtain ⟨e0, hie, he0, he1, he2⟩ := info_parts Tryz.infoE
  have hown0 : (w.alloc (.cells #[] 144)).ownsRow w.heap.size 144 3 (.slice (some ⟨w.heap.size, 0, none⟩) 0 0) 0 [] := by simpa using World.ownsRow_made w #[] 0 (Nat.le_refl _) (Nat.zero_le _) rfl
  have HD0 : Hid (ActsSt w.heap.size (w.alloc (.cells #[] 144)) w.heap.size 0 []) := Lib.hid ⟨own_none _ _, fun h => absurd rfl h, own_none _ _, fun h => absurd rfl h, hown0, fun x hx => by cases hx⟩
  have HB0 : Hid (Below w.heap.size w (w.alloc (.cells #[] 144))) := Lib.hid ((Below.refl _ _).alloc (Nat.le_refl _) _)
  clear hown0
  go_enter Tryz.func145, Tryz.ntmps145
  go_wp2
  go_loopw [3, 9] (fun o i wr => ∃ (k g cap : Nat) (L : List VAct), i = .int .i64 (k : Int) ∧ k ≤ ls.length ∧ o = .slice (some ⟨g, 0, none⟩) L.length cap ∧ L.map (·.a) = ls.take k ∧ ActsSt w.heap.size wr g cap L ∧ Below w.heap.size w wr) (fun _ i _ => ls.length - (RowKit.intOf i).toNat)
  case atStart => exact ⟨0, w.heap.size, 0, [], rfl, Nat.zero_le _, rfl, rfl, HD0.out, HB0.out⟩
  case round =>
    obtain ⟨k, g, cap, L, rfl, hk, rfl, hLm, hD, hb⟩ := hrel
    have hLk : L.length = k := by
      have := congrArg List.length hLm
      rw [List.length_map, List.length_take] at this
      omega
    have HD := Lib.hid hD
    have HB := Lib.hid hb
    have HLM := Lib.hid hLm
    clear hLm hD
    by_cases hlt : k < ls.length
    · obtain ⟨b, off, rfl, hblt, hcell⟩ := HEL.out (by omega)
      have hget : ls[k]? = some ls[k] := List.getElem?_eq_getElem hlt
      obtain ⟨pv, c0, c1, c2, hE⟩ := hcell k _ hget
      have x0 := (hb.cell (p := ⟨b, off + k * 3, none⟩) hblt).trans c0
      have x1 := (hb.cell (p := ⟨b, off + k * 3 + 1, none⟩) hblt).trans c1
      have x2 := (hb.cell (p := ⟨b, off + k * 3 + 2, none⟩) hblt).trans c2
      have HPZ := Lib.hid (sizesOk_of (okActa_iff.1 (okActs_at HOKA.out hget)).pat)
      have HPL := okPatch_len (okActa_iff.1 (okActs_at HOKA.out hget)).pat
      have HNX : Hid (∀ x : VAct, x.a = ls[k] → (L ++ [x]).map (·.a) = ls.take (k + 1)) := Lib.hid (fun x hx => by
        rw [List.map_append, HLM.out, List.take_succ_eq_append_getElem hlt, List.map_cons, List.map_nil, hx])
      have HE : Hid (∀ W, Below w.heap.size w W → Edits W W.heap.size pv ls[k].pat) := Lib.hid (fun W h => SlR.on hE (Pl.stays _) h h.size)
      clear hcell c0 c1 c2 hget
      generalize ls[k] = a at *
      have hE2 := HE.out wr hb
      obtain ⟨pA, pc, rfl, _⟩ := hE2
      have hki : (k : Int) < (ls.length : Int) := by omega
      have hk0 : (0 : Int) ≤ (k : Int) := Int.natCast_nonneg _
      clear hE
      have hgw0 := HD.out.row.lt g rfl
      have hbA : Below wr.heap.size wr (wr.alloc (.cells #[.int .i64 a.beg, .int .i64 a.fin, .slice pA a.pat.length pc] 144)) := (Below.refl _ _).alloc (Nat.le_refl _) _
      have HDW := Lib.hid (DrawSt.below HD.out hbA)
      have HBW := Lib.hid (HB.out.trans (hbA.mono HB.out.size))
      have hbg : wr.heap.size ≠ g := by omega
      have HY := Lib.hid (Row.new wr #[.int .i64 a.beg, .int .i64 a.fin, .slice pA a.pat.length pc] 144)
      clear hbA hgw0
      go_wp2_with (fail)
      clear x0 x1 x2
      have x0 := HY.out.cell 0 _ rfl
      have x1 := HY.out.cell 1 _ rfl
      have x2 := HY.out.cell 2 _ rfl
      have hWs : (wr.alloc (.cells #[.int .i64 a.beg, .int .i64 a.fin, .slice pA a.pat.length pc] 144)).heap.size = (wr.heap.size + 1) := by simp
      have hgw : g < (wr.heap.size + 1) := by have := (HDW.out.row.lt g rfl).2; rw [hWs] at this; exact this
      have hwB : w.heap.size ≤ (wr.heap.size + 1) := by have := HBW.out.size; rw [hWs] at this; exact this
      have hb1 : Below (wr.heap.size + 1) (wr.alloc (.cells #[.int .i64 a.beg, .int .i64 a.fin, .slice pA a.pat.length pc] 144)) ((wr.alloc (.cells #[.int .i64 a.beg, .int .i64 a.fin, .slice pA a.pat.length pc] 144)).alloc (.cells #[] 162)).drew := ((Below.refl _ _).alloc (by rw [hWs]; exact Nat.le_refl _) _).drew
      have hB1s : (wr.heap.size + 1) ≤ ((wr.alloc (.cells #[.int .i64 a.beg, .int .i64 a.fin, .slice pA a.pat.length pc] 144)).alloc (.cells #[] 162)).drew.heap.size := by rw [← hWs]; exact hb1.size
      have HB1 := Lib.hid hb1
      have hown1 : ((wr.alloc (.cells #[.int .i64 a.beg, .int .i64 a.fin, .slice pA a.pat.length pc] 144)).alloc (.cells #[] 162)).ownsRow (wr.heap.size + 1) 162 4 (.slice (some ⟨(wr.heap.size + 1), 0, none⟩) 0 0) 0 [] := by rw [← hWs]; simpa using World.ownsRow_made (wr.alloc (.cells #[.int .i64 a.beg, .int .i64 a.fin, .slice pA a.pat.length pc] 144)) #[] 0 (Nat.le_refl _) (Nat.zero_le _) rfl
      have HOWN1 := Lib.hid hown1.drew
      have HS1 := Lib.hid (HE.out _ (HBW.out.trans (hb1.mono hwB)))
      clear hown1 hb1
      have hgl := hLk
      try rw [hLk]
      go_region_held3 (fun w' => w'.cell? ⟨wr.heap.size, 0, none⟩ = some (.int .i64 a.beg) ∧ w'.cell? ⟨wr.heap.size, 1, none⟩ = some (.int .i64 a.fin) ∧ w'.cell? ⟨wr.heap.size, 2, none⟩ = some (.slice pA a.pat.length pc))
        (first | exact ⟨x0, x1, x2⟩ | exact keepA ⟨x0, x1, x2⟩ ((Below.refl _ _).drew) | exact keepA ⟨x0, x1, x2⟩ ((Below.refl _ _).alloc (Nat.le_refl _) _) | exact keepA ⟨x0, x1, x2⟩ (((Below.refl _ _).alloc (Nat.le_refl _) _).drew) | exact keepA' ⟨x0, x1, x2⟩ HB2.out hWs | exact keepA (keepA' ⟨x0, x1, x2⟩ HB2.out hWs) ((Below.refl _ _).alloc (Nat.le_refl _) _) | exact keepG (keepA (keepA' ⟨x0, x1, x2⟩ HB2.out hWs) ((Below.refl _ _).alloc (Nat.le_refl _) _)) hgrow hbg hbg hbg | go_keep)
        (first
          | (refine step_append_slR editCells (by rfl) _ _ 53 (by rfl) (wr.heap.size + 1) 162 e0 (.agg #[.int .i64 0, .int .i64 0, .string ⟨#[]⟩, .string ⟨#[]⟩]) 4 48 Tryz.underlying53 hie he0 he1 he2 rfl (by decide) _ _ _ (by rfl) HOWN1.out _ a.pat _ (by rfl) HS1.out (fun _ => rfl) (fun y u hu => edit_one hu) (by unfold maxLen; omega) (by omega) hB1s ?_
             intro v2 w2 hown2 hgrow2 hnn2
             have HO2 : Hid (OwnL editCells a.pat (wr.heap.size + 1) w2 v2) := Lib.hid (OwnL.of_own editCells (size := 4) (fun _ => rfl) (by simpa using hown2))
             have HB2 : Hid (Below (wr.heap.size + 1) (wr.alloc (.cells #[.int .i64 a.beg, .int .i64 a.fin, .slice pA a.pat.length pc] 144)) w2) := Lib.hid (HB1.out.grown hgrow2 hB1s (fun j hj => (HOWN1.out.lt j hj).1))
             have HD2 := Lib.hid (DrawSt.below HDW.out (by rw [hWs]; exact HB2.out))
             have HBW2 := Lib.hid (HBW.out.trans (HB2.out.mono hwB))
             have HPN : Hid (a.pat ≠ [] → v2.ownBlock ≠ some g) := Lib.hid (fun h0 e => by
               obtain ⟨j, hj, h1, _⟩ := HO2.out.blk h0
               rw [hj] at e
               injection e with e
               omega)
             obtain ⟨A2, c2, rfl, _⟩ := HO2.out
             have HP2 := Lib.hid (HO2.out.less hwB)
             have hba : Below w2.heap.size w2 (w2.alloc (.cells #[.int .i64 a.beg, .int .i64 a.fin, .slice A2 a.pat.length c2] 144)) := (Below.refl _ _).alloc (Nat.le_refl _) _
             have HDA := Lib.hid (DrawSt.below HD2.out hba)
             have HPA := Lib.hid (HP2.out.on hba)
             have HROW := Lib.hid (HD2.out.row.alloc (.cells #[.int .i64 a.beg, .int .i64 a.fin, .slice A2 a.pat.length c2] 144))
             rw [hgl] at HROW
             clear hown2 hgrow2 hnn2 hba)
          | (refine step_append_own_at (by rfl) _ _ 33 (by rfl) w.heap.size 144 i0 (.agg #[.int .i64 0, .int .i64 0, .slice none 0 0]) 3 40 Tryz.underlying33 hi hz0 hz1' hz2 rfl (by decide) _ _ _ (by rfl) HROW.out ⟨w2.heap.size, 0, none⟩ 1 1 (vCells ⟨⟨a.beg, a.fin, a.pat⟩, .slice A2 a.pat.length c2⟩) (by rfl) (by rfl) (fun j u hj => by have := (Row.new w2 (vCells ⟨⟨a.beg, a.fin, a.pat⟩, .slice A2 a.pat.length c2⟩).toArray 144).cell j u (by simpa using hj); rw [Addr.add_lit, Nat.zero_add]; exact this) (fun u hu => vact_one rfl hu) (by unfold maxLen; omega) (by omega) (base_le HBW2.out.size) ?_
             intro v' w9 hown' hgrow hiff hor
             obtain ⟨g', cap', rfl, hdc', hcm'⟩ := own_some hown' (by simpa using hiff)
             clear hiff))
      have HD9 := Lib.hid (HDA.out.push (x := ⟨⟨a.beg, a.fin, a.pat⟩, .slice A2 a.pat.length c2⟩) hgrow (by rcases hor with h | h <;> injection h with h; exact .inl h; exact .inr (by simpa using h)) (by rw [hgl]; exact hown') HPA.out HPN.out HPZ.out)
      have HB9 := Lib.hid ((HBW2.out.alloc HBW2.out.size (.cells #[.int .i64 a.beg, .int .i64 a.fin, .slice A2 a.pat.length c2] 144)).grown hgrow (base_le HBW2.out.size) (fun j hj => (HROW.out.lt j hj).1))
      clear hown' hgrow hor
      go_wp2
      go_roundw
      case rel => exact ⟨k + 1, g', cap', L ++ [(⟨⟨a.beg, a.fin, a.pat⟩, .slice A2 a.pat.length c2⟩ : VAct)], by go_num, by omega, by rw [List.length_append, List.length_singleton, hgl], HNX.out _ rfl, HD9.out, HB9.out⟩
      case measure => simp [RowKit.intOf]; omega
    · have hge : ¬ (k : Int) < (ls.length : Int) := by omega
      have hk' : k = ls.length := by omega
      have HFIN : Hid (L.map (·.a) = ls) := Lib.hid (by rw [HLM.out, hk', List.take_length])
      clear hk' hlt
      go_wp2
      go_ret
      exact ⟨g, cap, L, by rw [hLk]; rfl, HFIN.out, HD.out, hb⟩
end Go.Proofs.YtnandbammmcncaaGreat

namespace Go.Proofs.YtnandbammmcncaaGreat
open Go.RowKit Go.Lib

def EndPost (S : List Art) (ls : List Acta) (k : Nat) (a : Acta) (day : Int) (w : World) (e : Ending) (w' : World) : Prop :=
  ∃ v r, e = .returned (.tuple #[v, .bool r]) ∧ (r = true ↔ EndOk S ls k a day) ∧ (r = true → Acts w' w'.heap.size v (endL ls k a day)) ∧ (∃ A n c, v = .slice A n c) ∧ Below w.heap.size w w'
theorem broken2n_any (S : List Art) (ls : List Acta) (w : World) (vs va : Value) (hS : Arts w w.heap.size vs S) (hA : Acts w w.heap.size va ls) (hok : okStat S = true) (hp : okActs ls = true) :
    Calls Tryz.prog 140 #[vs, va] w (Broken1Post S ls w) :=
  (broken2_any S ls w vs va hS hA hok hp).mono fun e w' ⟨g, cap, L, h1, _, h3, h4, h5⟩ => ⟨g, cap, L.length, h1, h3, by
    have := h4.none
    rw [List.map_eq_nil_iff] at this
    rw [List.length_eq_zero_iff, this], h5⟩

end Go.Proofs.YtnandbammmcncaaGreat

namespace Go.Proofs.YtnandbammmcncaaGreat
open Go.RowKit Go.Lib

structure Mot where
  title : ByteArray
  author : Int
  pat : List Edit
  beg : Int
  fin : Int
  closes : Int
  votes : List Int
  result : Int
structure Asm where
  day : Int
  rule : Int
  trust : List (List Int)
  base : List Art
  acts : List Acta
  mots : List Mot

/-- A list of numbers with its value; a motion with the values of its patch and votes. -/
structure VRow where
  a : List Int
  v : Value
def rCells (x : VRow) : List Value := [x.v]
structure VMot where
  a : Mot
  p : Value
  t : Value
def mCells (x : VMot) : List Value := [.string x.a.title, .int .i64 x.a.author, x.p, .int .i64 x.a.beg, .int .i64 x.a.fin, .int .i64 x.a.closes, x.t, .int .i64 x.a.result]
def RowsR (w : World) (B : Nat) (v : Value) (ls : List (List Int)) : Prop :=
  ∃ L : List VRow, L.map (·.a) = ls ∧ SlR (Pl rCells) 1 w B v L ∧ ∀ x ∈ L, Ints w B x.v x.a
def Mots (w : World) (B : Nat) (v : Value) (ls : List Mot) : Prop :=
  ∃ L : List VMot, L.map (·.a) = ls ∧ SlR (Pl mCells) 8 w B v L ∧ ∀ x ∈ L, Edits w B x.p x.a.pat ∧ Ints w B x.t x.a.votes
theorem RowsR.on {w w' : World} {B B' : Nat} {v : Value} {ls : List (List Int)} (h : RowsR w B v ls) (hb : Below B w w') (hB : B ≤ B') : RowsR w' B' v ls := by
  obtain ⟨L, h1, h2, h3⟩ := h
  exact ⟨L, h1, SlR.on h2 (Pl.stays _) hb hB, fun x hx => SlR.on (h3 x hx) (Pl.stays _) hb hB⟩
theorem Mots.on {w w' : World} {B B' : Nat} {v : Value} {ls : List Mot} (h : Mots w B v ls) (hb : Below B w w') (hB : B ≤ B') : Mots w' B' v ls := by
  obtain ⟨L, h1, h2, h3⟩ := h
  exact ⟨L, h1, SlR.on h2 (Pl.stays _) hb hB, fun x hx => ⟨SlR.on (h3 x hx).1 (Pl.stays _) hb hB, SlR.on (h3 x hx).2 (Pl.stays _) hb hB⟩⟩
theorem Ints.sl {w : World} {B : Nat} {v : Value} {zs : List Int} (h : Ints w B v zs) : ∃ A c, v = .slice A zs.length c ∧ zs.length ≤ c ∧ c ≤ maxLen := by
  obtain ⟨A, c, h1, h2, h3, _⟩ := h
  exact ⟨A, c, h1, h2, h3⟩
theorem Edits.sl {w : World} {B : Nat} {v : Value} {zs : List Edit} (h : Edits w B v zs) : ∃ A c, v = .slice A zs.length c ∧ zs.length ≤ c ∧ c ≤ maxLen := by
  obtain ⟨A, c, h1, h2, h3, _⟩ := h
  exact ⟨A, c, h1, h2, h3⟩
/-- Cells of a list of numbers. -/
theorem rows_at {w : World} {B : Nat} {v : Value} {ls : List (List Int)} (h : RowsR w B v ls) : ∃ (A : Option Addr) (c : Nat), v = .slice A ls.length c ∧ ls.length ≤ c ∧ c ≤ maxLen ∧ (0 < ls.length → ∃ b off, A = some ⟨b, off, none⟩ ∧ b < B ∧
    ∀ (k : Nat) (a : List Int), ls[k]? = some a → ∃ A1 c1, w.cell? ⟨b, off + k, none⟩ = some (.slice A1 a.length c1) ∧ c1 ≤ maxLen ∧ Ints w B (.slice A1 a.length c1) a) := by
  obtain ⟨L, rfl, ⟨A, c, rfl, h1, h2, h3⟩, h4⟩ := h
  rw [List.length_map]
  refine ⟨A, c, rfl, h1, h2, fun h0 => ?_⟩
  obtain ⟨b, off, rfl, hb, hk⟩ := h3 h0
  refine ⟨b, off, rfl, hb, fun k a ha => ?_⟩
  rw [List.getElem?_map] at ha
  cases hx : L[k]? with
  | none => rw [hx] at ha; cases ha
  | some x =>
    rw [hx] at ha
    injection ha with ha
    subst ha
    obtain ⟨us, hl, hp, hc⟩ := hk k x hx
    have hp : us = rCells x := hp
    subst hp
    have hi := h4 x (List.mem_of_getElem? hx)
    obtain ⟨A1, c1, e1, _, hm⟩ := hi.sl
    have c0 := hc 0 _ rfl
    rw [e1] at c0 hi
    rw [Nat.mul_one, Nat.add_zero] at c0
    exact ⟨A1, c1, c0, hm, hi⟩
/-- Cells of a motion. -/
structure MotP (w : World) (B : Nat) (b o : Nat) (m : Mot) (A1 : Option Addr) (c1 : Nat) (A2 : Option Addr) (c2 : Nat) : Prop where
  k0 : w.cell? ⟨b, o, none⟩ = some (.string m.title)
  k1 : w.cell? ⟨b, o + 1, none⟩ = some (.int .i64 m.author)
  k2 : w.cell? ⟨b, o + 2, none⟩ = some (.slice A1 m.pat.length c1)
  k3 : w.cell? ⟨b, o + 3, none⟩ = some (.int .i64 m.beg)
  k4 : w.cell? ⟨b, o + 4, none⟩ = some (.int .i64 m.fin)
  k5 : w.cell? ⟨b, o + 5, none⟩ = some (.int .i64 m.closes)
  k6 : w.cell? ⟨b, o + 6, none⟩ = some (.slice A2 m.votes.length c2)
  k7 : w.cell? ⟨b, o + 7, none⟩ = some (.int .i64 m.result)
  m1 : c1 ≤ maxLen
  m2 : c2 ≤ maxLen
  edits : Edits w B (.slice A1 m.pat.length c1) m.pat
  ints : Ints w B (.slice A2 m.votes.length c2) m.votes
theorem mots_at {w : World} {B : Nat} {v : Value} {ls : List Mot} (h : Mots w B v ls) : ∃ (A : Option Addr) (c : Nat), v = .slice A ls.length c ∧ ls.length ≤ c ∧ c ≤ maxLen ∧ (0 < ls.length → ∃ b off, A = some ⟨b, off, none⟩ ∧ b < B ∧
    ∀ (k : Nat) (a : Mot), ls[k]? = some a → ∃ A1 c1 A2 c2, MotP w B b (off + k * 8) a A1 c1 A2 c2) := by
  obtain ⟨L, rfl, ⟨A, c, rfl, h1, h2, h3⟩, h4⟩ := h
  rw [List.length_map]
  refine ⟨A, c, rfl, h1, h2, fun h0 => ?_⟩
  obtain ⟨b, off, rfl, hb, hk⟩ := h3 h0
  refine ⟨b, off, rfl, hb, fun k a ha => ?_⟩
  rw [List.getElem?_map] at ha
  cases hx : L[k]? with
  | none => rw [hx] at ha; cases ha
  | some x =>
    rw [hx] at ha
    injection ha with ha
    subst ha
    obtain ⟨us, hl, hp, hc⟩ := hk k x hx
    have hp : us = mCells x := hp
    subst hp
    obtain ⟨hi, hj⟩ := h4 x (List.mem_of_getElem? hx)
    obtain ⟨A1, c1, e1, _, hm1⟩ := hi.sl
    obtain ⟨A2, c2, e2, _, hm2⟩ := hj.sl
    obtain ⟨m, p, t⟩ := x
    have f1 : p = .slice A1 m.pat.length c1 := e1
    have f2 : t = .slice A2 m.votes.length c2 := e2
    clear e1 e2
    subst f1 f2
    exact ⟨A1, c1, A2, c2, hc 0 _ rfl, hc 1 _ rfl, hc 2 _ rfl, hc 3 _ rfl, hc 4 _ rfl, hc 5 _ rfl, hc 6 _ rfl, hc 7 _ rfl, hm1, hm2, hi, hj⟩
theorem MotP.on {w w' : World} {B B' b o : Nat} {m : Mot} {A1 : Option Addr} {c1 : Nat} {A2 : Option Addr} {c2 : Nat} (h : MotP w B b o m A1 c1 A2 c2) (hb : Below B w w') (hB : B ≤ B') (hlt : b < B) : MotP w' B' b o m A1 c1 A2 c2 where
  k0 := (hb.cell (p := ⟨b, o, none⟩) hlt).trans h.k0
  k1 := (hb.cell (p := ⟨b, o + 1, none⟩) hlt).trans h.k1
  k2 := (hb.cell (p := ⟨b, o + 2, none⟩) hlt).trans h.k2
  k3 := (hb.cell (p := ⟨b, o + 3, none⟩) hlt).trans h.k3
  k4 := (hb.cell (p := ⟨b, o + 4, none⟩) hlt).trans h.k4
  k5 := (hb.cell (p := ⟨b, o + 5, none⟩) hlt).trans h.k5
  k6 := (hb.cell (p := ⟨b, o + 6, none⟩) hlt).trans h.k6
  k7 := (hb.cell (p := ⟨b, o + 7, none⟩) hlt).trans h.k7
  m1 := h.m1
  m2 := h.m2
  edits := SlR.on h.edits (Pl.stays _) hb hB
  ints := SlR.on h.ints (Pl.stays _) hb hB

/-- The value of an assembly, and what its slices hold. -/
structure VAsm where
  t : Value
  b : Value
  c : Value
  m : Value
def asmV (a : Asm) (x : VAsm) : Value := .agg #[.int .i64 a.day, .int .i64 a.rule, x.t, x.b, x.c, x.m]
structure AsmR (w : World) (B : Nat) (x : VAsm) (a : Asm) : Prop where
  t : RowsR w B x.t a.trust
  b : Arts w B x.b a.base
  c : Acts w B x.c a.acts
  m : Mots w B x.m a.mots
theorem AsmR.on {w w' : World} {B B' : Nat} {x : VAsm} {a : Asm} (h : AsmR w B x a) (hb : Below B w w') (hB : B ≤ B') : AsmR w' B' x a :=
  ⟨h.t.on hb hB, SlR.on h.b (Pl.stays _) hb hB, h.c.on hb hB, h.m.on hb hB⟩
theorem AsmR.aft {w : World} {B : Nat} {x : VAsm} {a : Asm} (h : AsmR w B x a) (hB : B ≤ w.heap.size) : ∀ y : Aft w, AsmR y.val y.val.heap.size x a := fun y => h.on (y.ok.mono hB) (Nat.le_trans hB y.ok.size)
/-- The texts of an assembly are no longer than texts are. -/
structure AsmSz (a : Asm) : Prop where
  b : ∀ x ∈ a.base, x.text.size ≤ maxLen
  c : ActsSz a.acts
  m : ∀ x ∈ a.mots, x.title.size ≤ maxLen ∧ SizesOk x.pat

/-- What is valid. -/
def votesOk (vs : List Int) : Bool := allLt vs.length (fun k => inB (vs.getD k 0) 0 3)
def okMot (m : Mot) (day n : Int) : Bool :=
  okName m.title.toList && inB m.author 0 (n - 1) && !((m.pat.length : Int) == 0) && okPatch m.pat && spanB m.beg m.fin m.closes && ((m.votes.length : Int) == n) && votesOk m.votes && inB m.result 0 4 && ((m.result == 0) == decide (day < m.closes))
def motAt (L : List Mot) (day n : Int) (k : Nat) : Bool := ((L[k]?).map (fun m => okMot m day n && !((L.take k).any (fun o => o.title.toList == m.title.toList)))).getD true
def okMots (L : List Mot) (day n : Int) : Bool := allLt L.length (motAt L day n)
def memAt (L : List (List Int)) (n : Int) (k : Nat) : Bool := ((L[k]?).map (fun l => okTrust l (k : Int) n)).getD true
def okTrusts (L : List (List Int)) : Bool := allLt L.length (memAt L L.length)
def okHead (a : Asm) : Bool := inB a.day 0 999 && inB a.rule 0 2 && inB (a.trust.length : Int) 1 12 && decide (a.mots.length ≤ 6)
open Classical in
noncomputable def okAsm (a : Asm) : Bool := okHead a && okTrusts a.trust && okMots a.mots a.day a.trust.length && okStat a.base && okActs a.acts && decide (AllDays a.base a.acts)
end Go.Proofs.YtnandbammmcncaaGreat

namespace Go.Proofs.YtnandbammmcncaaGreat
open Go.RowKit Go.Lib

def ActFits (a : Acta) : Prop := a.pat.length ≤ 1048576 ∧ ∀ e ∈ a.pat, FitsE e
def MotFits (m : Mot) : Prop := m.title.size ≤ 1048576 ∧ m.pat.length ≤ 1048576 ∧ (∀ e ∈ m.pat, FitsE e) ∧ m.votes.length ≤ 1048576
structure AsmFits (a : Asm) : Prop where
  t0 : a.trust.length ≤ 1048576
  t : ∀ x ∈ a.trust, x.length ≤ 1048576
  b0 : a.base.length ≤ 1048576
  b : ∀ x ∈ a.base, x.text.size ≤ 1048576
  c0 : a.acts.length ≤ 1048576
  c : ∀ x ∈ a.acts, ActFits x
  m0 : a.mots.length ≤ 1048576
  m : ∀ x ∈ a.mots, MotFits x
theorem arts_get {w : World} {B n c k : Nat} {A : Option Addr} {es : List Art} {e : Art} (h : Arts w B (.slice A n c) es) (hk : es[k]? = some e) :
    ∃ b off, A = some ⟨b, off, none⟩ ∧ b < B ∧ w.cell? ⟨b, off + k * 2, none⟩ = some (.int .i64 e.id) ∧ w.cell? ⟨b, off + k * 2 + 1, none⟩ = some (.string e.text) := by
  obtain ⟨A', c', hv, h1, h2, h3⟩ := h
  injection hv with e1 e2 e3
  subst e1
  have hlt : k < es.length := (List.getElem?_eq_some_iff.1 hk).1
  obtain ⟨b, off, hA, hb, hc⟩ := h3 (by omega)
  exact ⟨b, off, hA, hb, arts_at hc hk⟩

set_option maxHeartbeats 2000000 in
theorem szRows_any (ls : List (List Int)) (v : Value) (left : Int) (w : World) (h : RowsR w w.heap.size v ls) (h0 : 0 ≤ left) (h1 : left ≤ 1048576) :
    Calls Tryz.prog 43 #[v, .int .i64 left] w (SzPost (ls.length ≤ 1048576 ∧ ∀ x ∈ ls, x.length ≤ 1048576) w) := by
  have HE := Lib.hid (fun y : Aft w => h.on y.ok y.ok.size)
  obtain ⟨A, c, rfl, hc, hm, -⟩ := rows_at h
  unfold maxLen at hm
  clear h
  refine calls_aft fun x0 => ?_
  by_cases hlt : left - (ls.length : Int) < 0
  · go_enter Tryz.func43, Tryz.ntmps43
    go_wp2
    go_ret
    exact ⟨_, rfl, .inl (by omega), x0.ok⟩
  · go_enter Tryz.func43, Tryz.ntmps43
    go_wp2
    go_loopw [1, 5] (fun l i wr => ∃ (k : Nat) (r : Int) (x : Aft w), k ≤ ls.length ∧ i = .int .i64 (k : Int) ∧ l = .int .i64 r ∧ 0 ≤ r ∧ r ≤ 1048576 ∧ (∀ e ∈ ls.take k, (fun z : List Int => z.length ≤ 1048576) e) ∧ wr = x.val) (fun _ i _ => ls.length - (RowKit.intOf i).toNat)
    case atStart => exact ⟨0, _, x0, Nat.zero_le _, rfl, rfl, by omega, by omega, by simp, rfl⟩
    case round =>
      obtain ⟨k, r, x, hk, rfl, rfl, hr0, hr1, hall, rfl⟩ := hrel
      have HA := Lib.hid hall
      clear hall
      by_cases hkn : k < ls.length
      · have hget : ls[k]? = some ls[k] := List.getElem?_eq_getElem hkn
        obtain ⟨A', c', hv, _, _, hel⟩ := rows_at (HE.out x)
        injection hv with e1 e2 e3
        subst e1
        obtain ⟨b, off, rfl, hb, hcell⟩ := hel (by omega)
        obtain ⟨A1, c1, k0, m1, hI⟩ := hcell k _ hget
        have HTS := Lib.hid (List.take_succ_eq_append_getElem hkn)
        obtain ⟨l1, l2, l3⟩ := slR_len hI
        clear hget hcell hel hI e2 e3
        generalize ls[k] = e at *
        go_wp2_with (fail)
        refine (szInts_any A1 e.length c1 r _ (by omega) hr0 hr1).mono ?_
        rintro e' w1 ⟨r', rfl, hr, hb1⟩
        clear k0
        obtain ⟨y, rfl⟩ : ∃ y : Aft w, w1 = y.val := ⟨⟨w1, x.ok.trans (hb1.mono x.ok.size)⟩, rfl⟩
        rcases hr with hr | ⟨hf, hr2, hr3⟩
        · go_wp2
          go_ret
          exact ⟨_, rfl, .inl (by omega), y.ok⟩
        · have hr4 : ¬ r' < 0 := by omega
          have HF := Lib.hid hf
          clear hf
          go_wp2
          go_roundw
          case rel => exact ⟨k + 1, r', y, by omega, by go_num, rfl, hr2, hr3, by rw [HTS.out]; intro d hd; rcases List.mem_append.1 hd with hd | hd; exact HA.out d hd; rw [List.mem_singleton.1 hd]; exact HF.out, rfl⟩
          case measure => simp [RowKit.intOf]; omega
      · have hge : ¬ (k : Int) < (ls.length : Int) := by omega
        go_wp2
        go_ret
        refine ⟨_, rfl, .inr ⟨⟨by omega, ?_⟩, hr0, hr1⟩, x.ok⟩
        have := HA.out
        rwa [List.take_of_length_le (by omega)] at this

set_option maxHeartbeats 1000000 in
theorem szArt_any (e : Art) (left : Int) (w : World) (hs : e.text.size ≤ maxLen) (h0 : 0 ≤ left) (h1 : left ≤ 1048576) :
    Calls Tryz.prog 101 #[.agg #[.int .i64 e.id, .string e.text], .int .i64 left] w (SzPost (e.text.size ≤ 1048576) w) := by
  unfold maxLen at hs
  by_cases h : left - (e.text.size : Int) < 0
  · go_enter Tryz.func101, Tryz.ntmps101
    go_wp2
    go_ret
    exact ⟨_, rfl, .inl (by omega), (Below.refl _ _).alloc (Nat.le_refl _) _⟩
  · go_enter Tryz.func101, Tryz.ntmps101
    go_wp2
    go_ret
    exact ⟨_, rfl, .inr ⟨by omega, by omega, by omega⟩, (Below.refl _ _).alloc (Nat.le_refl _) _⟩
set_option maxHeartbeats 2000000 in
theorem szArts_any (ls : List Art) (v : Value) (left : Int) (w : World) (h : Arts w w.heap.size v ls) (hs : ∀ x ∈ ls, x.text.size ≤ maxLen) (h0 : 0 ≤ left) (h1 : left ≤ 1048576) :
    Calls Tryz.prog 44 #[v, .int .i64 left] w (SzPost (ls.length ≤ 1048576 ∧ ∀ x ∈ ls, x.text.size ≤ 1048576) w) := by
  have HE := Lib.hid (SlR.aft h (Pl.stays _) (Nat.le_refl _))
  have HS := Lib.hid hs
  obtain ⟨A, c, rfl, hc, hm, -⟩ := h
  unfold maxLen at hm
  clear hs
  refine calls_aft fun x0 => ?_
  by_cases hlt : left - (ls.length : Int) < 0
  · go_enter Tryz.func44, Tryz.ntmps44
    go_wp2
    go_ret
    exact ⟨_, rfl, .inl (by omega), x0.ok⟩
  · go_enter Tryz.func44, Tryz.ntmps44
    go_wp2
    go_loopw [1, 5] (fun l i wr => ∃ (k : Nat) (r : Int) (x : Aft w), k ≤ ls.length ∧ i = .int .i64 (k : Int) ∧ l = .int .i64 r ∧ 0 ≤ r ∧ r ≤ 1048576 ∧ (∀ e ∈ ls.take k, (fun z : Art => z.text.size ≤ 1048576) e) ∧ wr = x.val) (fun _ i _ => ls.length - (RowKit.intOf i).toNat)
    case atStart => exact ⟨0, _, x0, Nat.zero_le _, rfl, rfl, by omega, by omega, by simp, rfl⟩
    case round =>
      obtain ⟨k, r, x, hk, rfl, rfl, hr0, hr1, hall, rfl⟩ := hrel
      have HA := Lib.hid hall
      clear hall
      by_cases hkn : k < ls.length
      · have hget : ls[k]? = some ls[k] := List.getElem?_eq_getElem hkn
        obtain ⟨b, off, rfl, hb, k0, k1⟩ := arts_get (HE.out x) hget
        have HTS := Lib.hid (List.take_succ_eq_append_getElem hkn)
        have hso := HS.out ls[k] (List.getElem_mem hkn)
        clear hget
        generalize ls[k] = e at *
        go_wp2_with (fail)
        refine (szArt_any e r _ hso hr0 hr1).mono ?_
        rintro e' w1 ⟨r', rfl, hr, hb1⟩
        clear k0 k1
        obtain ⟨y, rfl⟩ : ∃ y : Aft w, w1 = y.val := ⟨⟨w1, x.ok.trans (hb1.mono x.ok.size)⟩, rfl⟩
        rcases hr with hr | ⟨hf, hr2, hr3⟩
        · go_wp2
          go_ret
          exact ⟨_, rfl, .inl (by omega), y.ok⟩
        · have hr4 : ¬ r' < 0 := by omega
          have HF := Lib.hid hf
          clear hf
          go_wp2
          go_roundw
          case rel => exact ⟨k + 1, r', y, by omega, by go_num, rfl, hr2, hr3, by rw [HTS.out]; intro d hd; rcases List.mem_append.1 hd with hd | hd; exact HA.out d hd; rw [List.mem_singleton.1 hd]; exact HF.out, rfl⟩
          case measure => simp [RowKit.intOf]; omega
      · have hge : ¬ (k : Int) < (ls.length : Int) := by omega
        go_wp2
        go_ret
        refine ⟨_, rfl, .inr ⟨⟨by omega, ?_⟩, hr0, hr1⟩, x.ok⟩
        have := HA.out
        rwa [List.take_of_length_le (by omega)] at this

set_option maxHeartbeats 2000000 in
theorem szAct_any (a : Acta) (A1 : Option Addr) (c1 : Nat) (left : Int) (w : World) (hP : Edits w w.heap.size (.slice A1 a.pat.length c1) a.pat) (hs : SizesOk a.pat) (h0 : 0 ≤ left) (h1 : left ≤ 1048576) :
    Calls Tryz.prog 102 #[.agg #[.int .i64 a.beg, .int .i64 a.fin, .slice A1 a.pat.length c1], .int .i64 left] w (SzPost (ActFits a) w) := by
  have hbA : Below w.heap.size w (w.alloc (.cells #[.int .i64 a.beg, .int .i64 a.fin, .slice A1 a.pat.length c1] 129)) := (Below.refl _ _).alloc (Nat.le_refl _) _
  have HB := Lib.hid hbA
  have H := Lib.hid (szEdits_any a.pat A1 a.pat.length c1 left _ (hP.on (Pl.stays _) hbA hbA.size) hs h0 h1)
  clear hP hs hbA
  go_enter Tryz.func102, Tryz.ntmps102
  go_wp2_with (fail)
  refine H.out.mono ?_
  rintro e1 w1 ⟨r1, rfl, hr1, hb1⟩
  have HB1 := Lib.hid (HB.out.trans (hb1.mono HB.out.size))
  clear hb1
  rcases hr1 with hr1 | ⟨p1, a1, b1⟩
  · go_wp2
    go_ret
    exact ⟨_, rfl, .inl (by omega), HB1.out⟩
  · have hr2 : ¬ r1 < 0 := by omega
    have HP := Lib.hid p1
    clear p1
    go_wp2
    go_ret
    exact ⟨_, rfl, .inr ⟨HP.out, a1, b1⟩, HB1.out⟩
set_option maxHeartbeats 2000000 in
theorem szActs_any (ls : List Acta) (v : Value) (left : Int) (w : World) (h : Acts w w.heap.size v ls) (hs : ActsSz ls) (h0 : 0 ≤ left) (h1 : left ≤ 1048576) :
    Calls Tryz.prog 45 #[v, .int .i64 left] w (SzPost (ls.length ≤ 1048576 ∧ ∀ x ∈ ls, ActFits x) w) := by
  have HE := Lib.hid (fun y : Aft w => h.on y.ok y.ok.size)
  have HS := Lib.hid hs
  obtain ⟨A, c, rfl, hc, hm, -⟩ := acts_at h
  unfold maxLen at hm
  clear hs h
  refine calls_aft fun x0 => ?_
  by_cases hlt : left - (ls.length : Int) < 0
  · go_enter Tryz.func45, Tryz.ntmps45
    go_wp2
    go_ret
    exact ⟨_, rfl, .inl (by omega), x0.ok⟩
  · go_enter Tryz.func45, Tryz.ntmps45
    go_wp2
    go_loopw [1, 5] (fun l i wr => ∃ (k : Nat) (r : Int) (x : Aft w), k ≤ ls.length ∧ i = .int .i64 (k : Int) ∧ l = .int .i64 r ∧ 0 ≤ r ∧ r ≤ 1048576 ∧ (∀ e ∈ ls.take k, ActFits e) ∧ wr = x.val) (fun _ i _ => ls.length - (RowKit.intOf i).toNat)
    case atStart => exact ⟨0, _, x0, Nat.zero_le _, rfl, rfl, by omega, by omega, by simp, rfl⟩
    case round =>
      obtain ⟨k, r, x, hk, rfl, rfl, hr0, hr1, hall, rfl⟩ := hrel
      have HA := Lib.hid hall
      clear hall
      by_cases hkn : k < ls.length
      · have hget : ls[k]? = some ls[k] := List.getElem?_eq_getElem hkn
        obtain ⟨A', c', hv, _, _, hel⟩ := acts_at (HE.out x)
        injection hv with e1 e2 e3
        subst e1
        obtain ⟨b, off, rfl, hb, hcell⟩ := hel (by omega)
        obtain ⟨pv, k0, k1, k2, hI⟩ := hcell k _ hget
        obtain ⟨A1, c1, rfl, _, m1⟩ := Edits.sl hI
        have HI := Lib.hid hI
        have HTS := Lib.hid (List.take_succ_eq_append_getElem hkn)
        have hso := HS.out ls[k] (List.getElem_mem hkn)
        unfold maxLen at m1
        clear hget hcell hel hI e2 e3
        generalize ls[k] = e at *
        go_wp2_with (fail)
        refine (szAct_any e A1 c1 r _ HI.out hso hr0 hr1).mono ?_
        rintro e' w1 ⟨r', rfl, hr, hb1⟩
        clear k0 k1 k2
        obtain ⟨y, rfl⟩ : ∃ y : Aft w, w1 = y.val := ⟨⟨w1, x.ok.trans (hb1.mono x.ok.size)⟩, rfl⟩
        rcases hr with hr | ⟨hf, hr2, hr3⟩
        · go_wp2
          go_ret
          exact ⟨_, rfl, .inl (by omega), y.ok⟩
        · have hr4 : ¬ r' < 0 := by omega
          have HF := Lib.hid hf
          clear hf
          go_wp2
          go_roundw
          case rel => exact ⟨k + 1, r', y, by omega, by go_num, rfl, hr2, hr3, by rw [HTS.out]; intro d hd; rcases List.mem_append.1 hd with hd | hd; exact HA.out d hd; rw [List.mem_singleton.1 hd]; exact HF.out, rfl⟩
          case measure => simp [RowKit.intOf]; omega
      · have hge : ¬ (k : Int) < (ls.length : Int) := by omega
        go_wp2
        go_ret
        refine ⟨_, rfl, .inr ⟨⟨by omega, ?_⟩, hr0, hr1⟩, x.ok⟩
        have := HA.out
        rwa [List.take_of_length_le (by omega)] at this

set_option maxRecDepth 100000 in
set_option maxHeartbeats 2000000 in
theorem szMot_any (m : Mot) (A1 : Option Addr) (c1 : Nat) (A2 : Option Addr) (c2 : Nat) (left : Int) (w : World) (hP : Edits w w.heap.size (.slice A1 m.pat.length c1) m.pat) (hV : Ints w w.heap.size (.slice A2 m.votes.length c2) m.votes) (hs : SizesOk m.pat) (ht : m.title.size ≤ maxLen) (h0 : 0 ≤ left) (h1 : left ≤ 1048576) :
    Calls Tryz.prog 103 #[.agg #[.string m.title, .int .i64 m.author, .slice A1 m.pat.length c1, .int .i64 m.beg, .int .i64 m.fin, .int .i64 m.closes, .slice A2 m.votes.length c2, .int .i64 m.result], .int .i64 left] w (SzPost (MotFits m) w) := by
  unfold maxLen at ht
  obtain ⟨_, e2, g2⟩ := slR_len hV
  have hn2 : m.votes.length ≤ 9223372036854775807 := by omega
  have HS := Lib.hid hs
  clear e2 g2 hs
  by_cases hl : left - (m.title.size : Int) < 0
  · go_enter Tryz.func103, Tryz.ntmps103
    go_wp2
    go_ret
    exact ⟨_, rfl, .inl (by omega), (Below.refl _ _).alloc (Nat.le_refl _) _⟩
  · go_enter Tryz.func103, Tryz.ntmps103
    go_wp2_with (fail)
    obtain ⟨W, hW⟩ : ∃ W : World, W = w.alloc (.cells #[.string m.title, .int .i64 m.author, .slice A1 m.pat.length c1, .int .i64 m.beg, .int .i64 m.fin, .int .i64 m.closes, .slice A2 m.votes.length c2, .int .i64 m.result] 132) := ⟨_, rfl⟩
    have bW : Below w.heap.size w W := by rw [hW]; exact (Below.refl _ _).alloc (Nat.le_refl _) _
    have y6 : W.cell? ⟨w.heap.size, 6, none⟩ = some (.slice A2 m.votes.length c2) := by rw [hW]; simp [go_sem]
    rw [← hW]
    clear hW
    have z6 := fun y : Aft W => y.cell y6
    have HE := Lib.hid (fun y : Aft W => hP.on (Pl.stays _) (aft_done bW y) (aft_done bW y).size)
    clear y6 hV hP
    refine (szEdits_any m.pat A1 _ c1 _ _ (HE.out ⟨W, Below.refl _ _⟩) HS.out (by omega) (by omega)).mono ?_
    rintro e1 w1 ⟨r1, rfl, hr1, hb1⟩
    obtain ⟨y, rfl⟩ : ∃ y : Aft W, w1 = y.val := ⟨⟨w1, hb1⟩, rfl⟩
    rcases hr1 with hr1 | ⟨p1, a1, b1⟩
    · go_wp2
      go_ret
      exact ⟨_, rfl, .inl (by omega), aft_done bW y⟩
    · have hr2 : ¬ r1 < 0 := by omega
      have HP := Lib.hid p1
      clear p1
      go_wp2_with (fail)
      refine (szInts_any A2 _ c2 _ _ hn2 a1 b1).mono ?_
      rintro e2 w2 ⟨r2, rfl, hr2, hb2⟩
      have hb3 := (aft_done bW y).trans (hb2.mono (aft_done bW y).size)
      rcases hr2 with hr2 | ⟨p2, a2, b2⟩
      · go_wp2
        go_ret
        exact ⟨_, rfl, .inl (by omega), hb3⟩
      · have hr3 : ¬ r2 < 0 := by omega
        go_wp2
        go_ret
        exact ⟨_, rfl, .inr ⟨⟨by omega, HP.out.1, HP.out.2, p2⟩, a2, b2⟩, hb3⟩
set_option maxRecDepth 100000 in
set_option maxHeartbeats 2000000 in
theorem szMots_any (ls : List Mot) (v : Value) (left : Int) (w : World) (h : Mots w w.heap.size v ls) (hs : ∀ x ∈ ls, x.title.size ≤ maxLen ∧ SizesOk x.pat) (h0 : 0 ≤ left) (h1 : left ≤ 1048576) :
    Calls Tryz.prog 46 #[v, .int .i64 left] w (SzPost (ls.length ≤ 1048576 ∧ ∀ x ∈ ls, MotFits x) w) := by
  have HE := Lib.hid (fun y : Aft w => h.on y.ok y.ok.size)
  have HS := Lib.hid hs
  obtain ⟨A, c, rfl, hc, hm, -⟩ := mots_at h
  unfold maxLen at hm
  clear hs h
  refine calls_aft fun x0 => ?_
  by_cases hlt : left - (ls.length : Int) < 0
  · go_enter Tryz.func46, Tryz.ntmps46
    go_wp2
    go_ret
    exact ⟨_, rfl, .inl (by omega), x0.ok⟩
  · go_enter Tryz.func46, Tryz.ntmps46
    go_wp2
    go_loopw [1, 5] (fun l i wr => ∃ (k : Nat) (r : Int) (x : Aft w), k ≤ ls.length ∧ i = .int .i64 (k : Int) ∧ l = .int .i64 r ∧ 0 ≤ r ∧ r ≤ 1048576 ∧ (∀ e ∈ ls.take k, MotFits e) ∧ wr = x.val) (fun _ i _ => ls.length - (RowKit.intOf i).toNat)
    case atStart => exact ⟨0, _, x0, Nat.zero_le _, rfl, rfl, by omega, by omega, by simp, rfl⟩
    case round =>
      obtain ⟨k, r, x, hk, rfl, rfl, hr0, hr1, hall, rfl⟩ := hrel
      have HA := Lib.hid hall
      clear hall
      by_cases hkn : k < ls.length
      · have hget : ls[k]? = some ls[k] := List.getElem?_eq_getElem hkn
        obtain ⟨A', c', hv, _, _, hel⟩ := mots_at (HE.out x)
        injection hv with e1 e2 e3
        subst e1
        obtain ⟨b, off, rfl, hb, hcell⟩ := hel (by omega)
        obtain ⟨A1, c1, A2, c2, hP⟩ := hcell k _ hget
        have HTS := Lib.hid (List.take_succ_eq_append_getElem hkn)
        have hso := HS.out ls[k] (List.getElem_mem hkn)
        clear hget hcell hel e2 e3
        generalize ls[k] = e at *
        have z0 := hP.k0
        have z1 := hP.k1
        have z2 := hP.k2
        have z3 := hP.k3
        have z4 := hP.k4
        have z5 := hP.k5
        have z6 := hP.k6
        have z7 := hP.k7
        have HP := Lib.hid hP
        clear hP
        go_wp2_with (fail)
        refine (szMot_any e A1 c1 A2 c2 r _ HP.out.edits HP.out.ints hso.2 hso.1 hr0 hr1).mono ?_
        rintro e' w1 ⟨r', rfl, hr, hb1⟩
        clear z0 z1 z2 z3 z4 z5 z6 z7
        obtain ⟨y, rfl⟩ : ∃ y : Aft w, w1 = y.val := ⟨⟨w1, x.ok.trans (hb1.mono x.ok.size)⟩, rfl⟩
        rcases hr with hr | ⟨hf, hr2, hr3⟩
        · go_wp2
          go_ret
          exact ⟨_, rfl, .inl (by omega), y.ok⟩
        · have hr4 : ¬ r' < 0 := by omega
          have HF := Lib.hid hf
          clear hf
          go_wp2
          go_roundw
          case rel => exact ⟨k + 1, r', y, by omega, by go_num, rfl, hr2, hr3, by rw [HTS.out]; intro d hd; rcases List.mem_append.1 hd with hd | hd; exact HA.out d hd; rw [List.mem_singleton.1 hd]; exact HF.out, rfl⟩
          case measure => simp [RowKit.intOf]; omega
      · have hge : ¬ (k : Int) < (ls.length : Int) := by omega
        go_wp2
        go_ret
        refine ⟨_, rfl, .inr ⟨⟨by omega, ?_⟩, hr0, hr1⟩, x.ok⟩
        have := HA.out
        rwa [List.take_of_length_le (by omega)] at this

set_option maxRecDepth 100000 in
set_option maxHeartbeats 4000000 in
theorem szAsm_any (a : Asm) (x : VAsm) (left : Int) (w : World) (h : AsmR w w.heap.size x a) (hs : AsmSz a) (h0 : 0 ≤ left) (h1 : left ≤ 1048576) :
    Calls Tryz.prog 11 #[asmV a x, .int .i64 left] w (SzPost (AsmFits a) w) := by
  have HR := Lib.hid h
  have HS := Lib.hid hs
  obtain ⟨At, ct, et, -⟩ := rows_at h.t
  obtain ⟨Ab, cb, eb, -⟩ := h.b
  obtain ⟨Ac, cc, ec, -⟩ := acts_at h.c
  obtain ⟨Am, cm, em, -⟩ := mots_at h.m
  obtain ⟨xt, xb, xc, xm⟩ := x
  subst et eb ec em
  unfold asmV
  clear h hs
  go_enter Tryz.func11, Tryz.ntmps11
  go_wp2_with (fail)
  obtain ⟨W, hW⟩ : ∃ W : World, W = w.alloc (.cells #[.int .i64 a.day, .int .i64 a.rule, .slice At a.trust.length ct, .slice Ab a.base.length cb, .slice Ac a.acts.length cc, .slice Am a.mots.length cm] 27) := ⟨_, rfl⟩
  have bW : Below w.heap.size w W := by rw [hW]; exact (Below.refl _ _).alloc (Nat.le_refl _) _
  have y3 : W.cell? ⟨w.heap.size, 3, none⟩ = some (.slice Ab a.base.length cb) := by rw [hW]; simp [go_sem]
  have y4 : W.cell? ⟨w.heap.size, 4, none⟩ = some (.slice Ac a.acts.length cc) := by rw [hW]; simp [go_sem]
  have y5 : W.cell? ⟨w.heap.size, 5, none⟩ = some (.slice Am a.mots.length cm) := by rw [hW]; simp [go_sem]
  rw [← hW]
  clear hW
  have z3 := fun y : Aft W => y.cell y3
  have z4 := fun y : Aft W => y.cell y4
  have z5 := fun y : Aft W => y.cell y5
  have HX := Lib.hid (fun y : Aft W => HR.out.on (aft_done bW y) (aft_done bW y).size)
  obtain ⟨u0, hu0⟩ : ∃ y : Aft W, y.val = W := ⟨⟨W, Below.refl _ _⟩, rfl⟩
  rw [← hu0]
  clear y3 y4 y5 hu0
  refine (szRows_any a.trust _ left _ (HX.out u0).t h0 h1).mono ?_
  rintro e1 w1 ⟨r1, rfl, hr, hb1⟩
  obtain ⟨u1, rfl⟩ : ∃ y : Aft W, w1 = y.val := ⟨⟨w1, u0.ok.trans (hb1.mono u0.ok.size)⟩, rfl⟩
  clear hb1
  rcases hr with hr | ⟨p1, a1, b1⟩
  · go_wp2
    go_ret
    exact ⟨_, rfl, .inl (by omega), aft_done bW u1⟩
  have n1 : ¬ r1 < 0 := by omega
  have HP1 := Lib.hid p1
  clear p1
  go_wp2_with (fail)
  refine (szArts_any a.base _ r1 _ (HX.out u1).b HS.out.b a1 b1).mono ?_
  rintro e2 w1 ⟨r2, rfl, hr, hb1⟩
  obtain ⟨u2, rfl⟩ : ∃ y : Aft W, w1 = y.val := ⟨⟨w1, u1.ok.trans (hb1.mono u1.ok.size)⟩, rfl⟩
  clear hb1
  rcases hr with hr | ⟨p1, a2, b2⟩
  · go_wp2
    go_ret
    exact ⟨_, rfl, .inl (by omega), aft_done bW u2⟩
  have n2 : ¬ r2 < 0 := by omega
  have HP2 := Lib.hid p1
  clear p1
  go_wp2_with (fail)
  refine (szActs_any a.acts _ r2 _ (HX.out u2).c HS.out.c a2 b2).mono ?_
  rintro e3 w1 ⟨r3, rfl, hr, hb1⟩
  obtain ⟨u3, rfl⟩ : ∃ y : Aft W, w1 = y.val := ⟨⟨w1, u2.ok.trans (hb1.mono u2.ok.size)⟩, rfl⟩
  clear hb1
  rcases hr with hr | ⟨p1, a3, b3⟩
  · go_wp2
    go_ret
    exact ⟨_, rfl, .inl (by omega), aft_done bW u3⟩
  have n3 : ¬ r3 < 0 := by omega
  have HP3 := Lib.hid p1
  clear p1
  go_wp2_with (fail)
  refine (szMots_any a.mots _ r3 _ (HX.out u3).m HS.out.m a3 b3).mono ?_
  rintro e4 w1 ⟨r4, rfl, hr, hb1⟩
  obtain ⟨u4, rfl⟩ : ∃ y : Aft W, w1 = y.val := ⟨⟨w1, u3.ok.trans (hb1.mono u3.ok.size)⟩, rfl⟩
  clear hb1
  rcases hr with hr | ⟨p1, a4, b4⟩
  · go_wp2
    go_ret
    exact ⟨_, rfl, .inl (by omega), aft_done bW u4⟩
  have n4 : ¬ r4 < 0 := by omega
  have HP4 := Lib.hid p1
  clear p1
  go_wp2
  go_ret
  exact ⟨_, rfl, .inr ⟨⟨HP1.out.1, HP1.out.2, HP2.out.1, HP2.out.2, HP3.out.1, HP3.out.2, HP4.out.1, HP4.out.2⟩, a4, b4⟩, aft_done bW u4⟩
end Go.Proofs.YtnandbammmcncaaGreat

namespace Go.Proofs.YtnandbammmcncaaGreat
open Go.RowKit Go.Lib

theorem retL_own {P : Program} {f : FuncId} {args : Array Value} {W : World} {α : Type} {c : α → List Value} {size : Nat} {xs : List α} (h : Calls P f args W (RetL c size xs W)) :
    Calls P f args W fun e w' => ∃ A d, e = .returned (.slice A xs.length d) ∧ OwnL c xs W.heap.size w' (.slice A xs.length d) ∧ Below W.heap.size W w' :=
  h.mono fun _ _ ⟨g, d, he, h1, h2, h3, h4, h5, h6⟩ => ⟨_, d, he, ⟨_, d, rfl, h1, h2, fun _ => ⟨g, rfl, h3, h4, h5⟩⟩, h6⟩
def kRow : Kind VRow where
  cells := rCells
  size := 1
  inn base w x := OwnL intCells x.a base w x.v
  blk x b := sBlk x.a x.v b
  len _ := rfl
  touch h ht hF := OwnL.touch h ht hF
  lt h hb := OwnL.sblk h hb
  less h hb := OwnL.less h hb
def kAct : Kind VAct where
  cells := vCells
  size := 3
  inn base w x := OwnL editCells x.a.pat base w x.v
  blk x b := sBlk x.a.pat x.v b
  len _ := rfl
  touch h ht hF := OwnL.touch h ht hF
  lt h hb := OwnL.sblk h hb
  less h hb := OwnL.less h hb
def kMot : Kind VMot where
  cells := mCells
  size := 8
  inn base w x := OwnL editCells x.a.pat base w x.p ∧ OwnL intCells x.a.votes base w x.t ∧ ∀ b, sBlk x.a.pat x.p b → ¬ sBlk x.a.votes x.t b
  blk x b := sBlk x.a.pat x.p b ∨ sBlk x.a.votes x.t b
  len _ := rfl
  touch h ht hF := ⟨OwnL.touch h.1 ht (fun b hb => hF b (.inl hb)), OwnL.touch h.2.1 ht (fun b hb => hF b (.inr hb)), h.2.2⟩
  lt h hb := by
    rcases hb with hb | hb
    · exact OwnL.sblk h.1 hb
    · exact OwnL.sblk h.2.1 hb
  less h hb := ⟨OwnL.less h.1 hb, OwnL.less h.2.1 hb, h.2.2⟩
def kArt : Kind Art where
  cells := artCells
  size := 2
  inn _ _ _ := True
  blk _ _ := False
  len _ := rfl
  touch _ _ _ := trivial
  lt _ hb := hb.elim
  less _ _ := trivial
theorem TreeO.rows {base : Nat} {w : World} {v : Value} {L : List VRow} (h : TreeO kRow base w v L) : RowsR w w.heap.size v (L.map (·.a)) := ⟨L, rfl, h.slR, fun x hx => (show OwnL _ _ _ _ _ from h.inn x hx).slR (size := 1) (fun _ => rfl)⟩
theorem TreeO.acts {base : Nat} {w : World} {v : Value} {L : List VAct} (h : TreeO kAct base w v L) : Acts w w.heap.size v (L.map (·.a)) := ⟨L, rfl, h.slR, fun x hx => (show OwnL _ _ _ _ _ from h.inn x hx).slR (size := 4) (fun _ => rfl)⟩
theorem TreeO.mots {base : Nat} {w : World} {v : Value} {L : List VMot} (h : TreeO kMot base w v L) : Mots w w.heap.size v (L.map (·.a)) :=
  ⟨L, rfl, h.slR, fun x hx => ⟨(show OwnL editCells _ base w _ from (h.inn x hx).1).slR (size := 4) (fun _ => rfl), (show OwnL intCells _ base w _ from (h.inn x hx).2.1).slR (size := 1) (fun _ => rfl)⟩⟩
def RetAct (a : Acta) (w : World) (e : Ending) (w' : World) : Prop := ∃ x : VAct, x.a = a ∧ e = .returned (.agg #[.int .i64 a.beg, .int .i64 a.fin, x.v]) ∧ kAct.inn w.heap.size w' x ∧ Below w.heap.size w w'
def RetMot (m : Mot) (w : World) (e : Ending) (w' : World) : Prop := ∃ x : VMot, x.a = m ∧ e = .returned (.agg #[.string m.title, .int .i64 m.author, x.p, .int .i64 m.beg, .int .i64 m.fin, .int .i64 m.closes, x.t, .int .i64 m.result]) ∧ kMot.inn w.heap.size w' x ∧ Below w.heap.size w w'
/-- A copied slice: a tree of the call's own. -/
def RetT {β α : Type} (K : Kind β) (p : β → α) (ls : List α) (w : World) (e : Ending) (w' : World) : Prop := ∃ A L, e = .returned (.slice A ls.length ls.length) ∧ L.map p = ls ∧ TreeO K w.heap.size w' (.slice A ls.length ls.length) L ∧ Below w.heap.size w w'

set_option maxRecDepth 100000 in
set_option maxHeartbeats 4000000 in
theorem toAct_any (a : Acta) (A1 : Option Addr) (c1 : Nat) (w : World) (hP : Edits w w.heap.size (.slice A1 a.pat.length c1) a.pat) (h1 : a.pat.length ≤ 1048576) :
    Calls Tryz.prog 113 #[.agg #[.int .i64 a.beg, .int .i64 a.fin, .slice A1 a.pat.length c1]] w (RetAct a w) := by
  have HhP := Lib.hid hP
  clear hP
  have hfr : ∀ b, (b = w.heap.size + 1 ∨ b = w.heap.size + 1 + 1) → w.heap.size ≤ b := fun b h => by omega
  go_enter Tryz.func113, Tryz.ntmps113
  go_wp2_with (fail)
  obtain ⟨W1, hW1⟩ : ∃ W : World, W = ((w.alloc (.cells #[.int .i64 a.beg, .int .i64 a.fin, .slice A1 a.pat.length c1] 129)).alloc (.cells #[.int .i64 0, .int .i64 0, .slice none 0 0] 144)).alloc (.cells #[.int .i64 a.beg, .int .i64 a.fin, .slice none 0 0] 144) := ⟨_, rfl⟩
  have bW1 : Below w.heap.size w W1 := by rw [hW1]; exact (((Below.refl _ _).alloc (Nat.le_refl _) _).alloc (by simp) _).alloc (by simp; omega) _
  have sW1 : w.heap.size + 1 + 1 < W1.heap.size := by rw [hW1]; simp
  have a1 := ((Row.new w #[.int .i64 a.beg, .int .i64 a.fin, .slice A1 a.pat.length c1] 129).below (((Below.refl _ (w.alloc (.cells #[.int .i64 a.beg, .int .i64 a.fin, .slice A1 a.pat.length c1] 129))).alloc (Nat.le_refl _) (.cells #[.int .i64 0, .int .i64 0, .slice none 0 0] 144)).alloc (by simp) (.cells #[.int .i64 a.beg, .int .i64 a.fin, .slice none 0 0] 144)) (by simp))
  have a2 := ((Row.new (w.alloc (.cells #[.int .i64 a.beg, .int .i64 a.fin, .slice A1 a.pat.length c1] 129)) #[.int .i64 0, .int .i64 0, .slice none 0 0] 144).below ((Below.refl _ _).alloc (Nat.le_refl _) (.cells #[.int .i64 a.beg, .int .i64 a.fin, .slice none 0 0] 144)) (by simp))
  have a3 := Row.new ((w.alloc (.cells #[.int .i64 a.beg, .int .i64 a.fin, .slice A1 a.pat.length c1] 129)).alloc (.cells #[.int .i64 0, .int .i64 0, .slice none 0 0] 144)) #[.int .i64 a.beg, .int .i64 a.fin, .slice none 0 0] 144
  have HP1 : Hid (Row W1 w.heap.size [.int .i64 a.beg, .int .i64 a.fin, .slice A1 a.pat.length c1]) := Lib.hid (by rw [hW1]; exact a1)
  have HR1 : Hid (Row W1 (w.heap.size + 1) [.int .i64 0, .int .i64 0, .slice none 0 0]) := Lib.hid (by rw [hW1]; exact (show Row _ _ _ by simpa using a2))
  have HK1 : Hid (Row W1 (w.heap.size + 1 + 1) [.int .i64 a.beg, .int .i64 a.fin, .slice none 0 0]) := Lib.hid (by rw [hW1]; exact (show Row _ _ _ by simpa using a3))
  rw [← hW1]
  clear hW1 a1 a2 a3
  refine (retL_own (toEdits_any a.pat A1 _ c1 W1 (HhP.out.on (Pl.stays _) bW1 bW1.size) h1)).mono ?_
  rintro e1 w1 ⟨A5, d5, rfl, hO, hb1⟩
  have sw1 : w.heap.size + 1 + 1 < w1.heap.size := Nat.lt_of_lt_of_le sW1 hb1.size
  have HB1 := Lib.hid (bW1.trans (hb1.mono bW1.size))
  have zW1 : W1.heap.size ≤ w1.heap.size := hb1.size
  have HP2 := Lib.hid (HP1.out.below hb1 (by omega))
  have HR2 := Lib.hid (HR1.out.below hb1 (by omega))
  have HK2 := Lib.hid (HK1.out.below hb1 (by omega))
  have HO := Lib.hid (hO.less (Nat.le_of_lt sW1))
  have HOL : ∀ b, sBlk a.pat (.slice A5 a.pat.length d5) b → W1.heap.size ≤ b := fun b hb => (hO.sblk hb).1
  clear hO
  have k0 := HK2.out.cell 0 _ rfl
  have r0 := HR2.out.cell 0 _ rfl
  have s0 := HR2.out.free 0 (by simp)
  have k1 := HK2.out.cell 1 _ rfl
  have r1 := HR2.out.cell 1 _ rfl
  have s1 := HR2.out.free 1 (by simp)
  have k2 := HK2.out.cell 2 _ rfl
  have f2 := HK2.out.free 2 (by simp)
  have r2 := HR2.out.cell 2 _ rfl
  have s2 := HR2.out.free 2 (by simp)
  clear hb1 bW1 HP1 HR1 HK1
  go_wp2
  have hres : ∀ (ac : Go.Act) (w' : World), ac.tmps[2]? = some (.pointer (some ⟨w.heap.size + 1, 0, none⟩)) → w'.cell? ⟨w.heap.size + 1, 0, none⟩ = some (.int .i64 a.beg) → w'.cell? ⟨w.heap.size + 1, 1, none⟩ = some (.int .i64 a.fin) → w'.cell? ⟨w.heap.size + 1, 2, none⟩ = some (.slice A5 a.pat.length d5) → (results Tryz.f113 ac.tmps).run Tryz.prog w' = .ok (.agg #[.int .i64 a.beg, .int .i64 a.fin, .slice A5 a.pat.length d5]) w' := by
    intro ac w' ha hh0 hh1 hh2
    simp [results, Tryz.results113, go_sem, ha, hh0, hh1, hh2]
  refine bodyPost_ret (hres _ _ rfl (by simp [go_sem, r0]) (by simp [go_sem, r1]) (by simp [go_sem, r2])) rfl ?_
  have tF : Touch (fun b => b = w.heap.size + 1 ∨ b = w.heap.size + 1 + 1) w1 ((((w1.setCell ⟨w.heap.size + 1 + 1, 2, none⟩ (.slice A5 a.pat.length d5)).setCell ⟨w.heap.size + 1, 0, none⟩ (.int .i64 a.beg)).setCell ⟨w.heap.size + 1, 1, none⟩ (.int .i64 a.fin)).setCell ⟨w.heap.size + 1, 2, none⟩ (.slice A5 a.pat.length d5)) := by
    iterate 4 refine Touch.setCell ?_ (by first | exact .inl rfl | exact .inr rfl) _
    exact Touch.refl _ _
  replace HO := Lib.hid (OwnL.touch HO.out tF (fun b hb hf => by have h9 := HOL b hb; have h8 : b = w.heap.size + 1 ∨ b = w.heap.size + 1 + 1 := hf; omega))
  have hbF := HB1.out.trans (tF.below (Nat.le_of_lt (Nat.lt_of_le_of_lt (by omega) sw1)) hfr)
  exact ⟨⟨a, .slice A5 a.pat.length d5⟩, rfl, rfl, HO.out.less (by omega), hbF⟩
set_option maxRecDepth 100000 in
set_option maxHeartbeats 4000000 in
theorem toMot_any (m : Mot) (A1 : Option Addr) (c1 : Nat) (A2 : Option Addr) (c2 : Nat) (w : World) (hP : Edits w w.heap.size (.slice A1 m.pat.length c1) m.pat) (hV : Ints w w.heap.size (.slice A2 m.votes.length c2) m.votes) (h1 : m.pat.length ≤ 1048576) (h2 : m.votes.length ≤ 1048576) :
    Calls Tryz.prog 114 #[.agg #[.string m.title, .int .i64 m.author, .slice A1 m.pat.length c1, .int .i64 m.beg, .int .i64 m.fin, .int .i64 m.closes, .slice A2 m.votes.length c2, .int .i64 m.result]] w (RetMot m w) := by
  have HhP := Lib.hid hP
  have HhV := Lib.hid hV
  clear hP hV
  have hfr : ∀ b, (b = w.heap.size + 1 ∨ b = w.heap.size + 1 + 1) → w.heap.size ≤ b := fun b h => by omega
  go_enter Tryz.func114, Tryz.ntmps114
  go_wp2_with (fail)
  obtain ⟨W1, hW1⟩ : ∃ W : World, W = ((w.alloc (.cells #[.string m.title, .int .i64 m.author, .slice A1 m.pat.length c1, .int .i64 m.beg, .int .i64 m.fin, .int .i64 m.closes, .slice A2 m.votes.length c2, .int .i64 m.result] 132)).alloc (.cells #[.string ⟨#[]⟩, .int .i64 0, .slice none 0 0, .int .i64 0, .int .i64 0, .int .i64 0, .slice none 0 0, .int .i64 0] 78)).alloc (.cells #[.string m.title, .int .i64 m.author, .slice none 0 0, .int .i64 0, .int .i64 0, .int .i64 0, .slice none 0 0, .int .i64 0] 78) := ⟨_, rfl⟩
  have bW1 : Below w.heap.size w W1 := by rw [hW1]; exact (((Below.refl _ _).alloc (Nat.le_refl _) _).alloc (by simp) _).alloc (by simp; omega) _
  have sW1 : w.heap.size + 1 + 1 < W1.heap.size := by rw [hW1]; simp
  have a1 := ((Row.new w #[.string m.title, .int .i64 m.author, .slice A1 m.pat.length c1, .int .i64 m.beg, .int .i64 m.fin, .int .i64 m.closes, .slice A2 m.votes.length c2, .int .i64 m.result] 132).below (((Below.refl _ (w.alloc (.cells #[.string m.title, .int .i64 m.author, .slice A1 m.pat.length c1, .int .i64 m.beg, .int .i64 m.fin, .int .i64 m.closes, .slice A2 m.votes.length c2, .int .i64 m.result] 132))).alloc (Nat.le_refl _) (.cells #[.string ⟨#[]⟩, .int .i64 0, .slice none 0 0, .int .i64 0, .int .i64 0, .int .i64 0, .slice none 0 0, .int .i64 0] 78)).alloc (by simp) (.cells #[.string m.title, .int .i64 m.author, .slice none 0 0, .int .i64 0, .int .i64 0, .int .i64 0, .slice none 0 0, .int .i64 0] 78)) (by simp))
  have a2 := ((Row.new (w.alloc (.cells #[.string m.title, .int .i64 m.author, .slice A1 m.pat.length c1, .int .i64 m.beg, .int .i64 m.fin, .int .i64 m.closes, .slice A2 m.votes.length c2, .int .i64 m.result] 132)) #[.string ⟨#[]⟩, .int .i64 0, .slice none 0 0, .int .i64 0, .int .i64 0, .int .i64 0, .slice none 0 0, .int .i64 0] 78).below ((Below.refl _ _).alloc (Nat.le_refl _) (.cells #[.string m.title, .int .i64 m.author, .slice none 0 0, .int .i64 0, .int .i64 0, .int .i64 0, .slice none 0 0, .int .i64 0] 78)) (by simp))
  have a3 := Row.new ((w.alloc (.cells #[.string m.title, .int .i64 m.author, .slice A1 m.pat.length c1, .int .i64 m.beg, .int .i64 m.fin, .int .i64 m.closes, .slice A2 m.votes.length c2, .int .i64 m.result] 132)).alloc (.cells #[.string ⟨#[]⟩, .int .i64 0, .slice none 0 0, .int .i64 0, .int .i64 0, .int .i64 0, .slice none 0 0, .int .i64 0] 78)) #[.string m.title, .int .i64 m.author, .slice none 0 0, .int .i64 0, .int .i64 0, .int .i64 0, .slice none 0 0, .int .i64 0] 78
  have HP1 : Hid (Row W1 w.heap.size [.string m.title, .int .i64 m.author, .slice A1 m.pat.length c1, .int .i64 m.beg, .int .i64 m.fin, .int .i64 m.closes, .slice A2 m.votes.length c2, .int .i64 m.result]) := Lib.hid (by rw [hW1]; exact a1)
  have HR1 : Hid (Row W1 (w.heap.size + 1) [.string ⟨#[]⟩, .int .i64 0, .slice none 0 0, .int .i64 0, .int .i64 0, .int .i64 0, .slice none 0 0, .int .i64 0]) := Lib.hid (by rw [hW1]; exact (show Row _ _ _ by simpa using a2))
  have HK1 : Hid (Row W1 (w.heap.size + 1 + 1) [.string m.title, .int .i64 m.author, .slice none 0 0, .int .i64 0, .int .i64 0, .int .i64 0, .slice none 0 0, .int .i64 0]) := Lib.hid (by rw [hW1]; exact (show Row _ _ _ by simpa using a3))
  rw [← hW1]
  clear hW1 a1 a2 a3
  refine (retL_own (toEdits_any m.pat A1 _ c1 W1 (HhP.out.on (Pl.stays _) bW1 bW1.size) h1)).mono ?_
  rintro e1 w1 ⟨A5, d5, rfl, hO, hb1⟩
  have sw1 : w.heap.size + 1 + 1 < w1.heap.size := Nat.lt_of_lt_of_le sW1 hb1.size
  have HB1 := Lib.hid (bW1.trans (hb1.mono bW1.size))
  have zW1 : W1.heap.size ≤ w1.heap.size := hb1.size
  have HP2 := Lib.hid (HP1.out.below hb1 (by omega))
  have HR2 := Lib.hid (HR1.out.below hb1 (by omega))
  have HK2 := Lib.hid (HK1.out.below hb1 (by omega))
  have HO := Lib.hid hO
  have HOL : ∀ b, sBlk m.pat (.slice A5 m.pat.length d5) b → W1.heap.size ≤ b ∧ b < w1.heap.size := fun b hb => hO.sblk hb
  clear hO
  have x3 := HP2.out.cell 3 _ rfl
  have x4 := HP2.out.cell 4 _ rfl
  have x5 := HP2.out.cell 5 _ rfl
  have x6 := HP2.out.cell 6 _ rfl
  have x7 := HP2.out.cell 7 _ rfl
  have k0 := HK2.out.cell 0 _ rfl
  have r0 := HR2.out.cell 0 _ rfl
  have s0 := HR2.out.free 0 (by simp)
  have k1 := HK2.out.cell 1 _ rfl
  have r1 := HR2.out.cell 1 _ rfl
  have s1 := HR2.out.free 1 (by simp)
  have k2 := HK2.out.cell 2 _ rfl
  have f2 := HK2.out.free 2 (by simp)
  have r2 := HR2.out.cell 2 _ rfl
  have s2 := HR2.out.free 2 (by simp)
  have k3 := HK2.out.cell 3 _ rfl
  have f3 := HK2.out.free 3 (by simp)
  have r3 := HR2.out.cell 3 _ rfl
  have s3 := HR2.out.free 3 (by simp)
  have k4 := HK2.out.cell 4 _ rfl
  have f4 := HK2.out.free 4 (by simp)
  have r4 := HR2.out.cell 4 _ rfl
  have s4 := HR2.out.free 4 (by simp)
  have k5 := HK2.out.cell 5 _ rfl
  have f5 := HK2.out.free 5 (by simp)
  have r5 := HR2.out.cell 5 _ rfl
  have s5 := HR2.out.free 5 (by simp)
  have k6 := HK2.out.cell 6 _ rfl
  have f6 := HK2.out.free 6 (by simp)
  have r6 := HR2.out.cell 6 _ rfl
  have s6 := HR2.out.free 6 (by simp)
  have k7 := HK2.out.cell 7 _ rfl
  have f7 := HK2.out.free 7 (by simp)
  have r7 := HR2.out.cell 7 _ rfl
  have s7 := HR2.out.free 7 (by simp)
  clear hb1 bW1 HP1 HR1 HK1
  go_wp2_with (fail)
  obtain ⟨W2, hW2⟩ : ∃ W : World, W = ((((w1.setCell ⟨w.heap.size + 1 + 1, 2, none⟩ (.slice A5 m.pat.length d5)).setCell ⟨w.heap.size + 1 + 1, 3, none⟩ (.int .i64 m.beg)).setCell ⟨w.heap.size + 1 + 1, 4, none⟩ (.int .i64 m.fin)).setCell ⟨w.heap.size + 1 + 1, 5, none⟩ (.int .i64 m.closes)) := ⟨_, rfl⟩
  have tW2 : Touch (fun b => b = w.heap.size + 1 ∨ b = w.heap.size + 1 + 1) w1 W2 := by rw [hW2]; exact ((((Touch.refl _ _).setCell (F := (fun b => b = w.heap.size + 1 ∨ b = w.heap.size + 1 + 1)) (.inr rfl) _).setCell (F := (fun b => b = w.heap.size + 1 ∨ b = w.heap.size + 1 + 1)) (.inr rfl) _).setCell (F := (fun b => b = w.heap.size + 1 ∨ b = w.heap.size + 1 + 1)) (.inr rfl) _).setCell (F := (fun b => b = w.heap.size + 1 ∨ b = w.heap.size + 1 + 1)) (.inr rfl) _
  have bW2 : Below w.heap.size w W2 := HB1.out.trans (tW2.below (Nat.le_of_lt (Nat.lt_of_le_of_lt (by omega) sw1)) hfr)
  have sW2 : w.heap.size + 1 + 1 < W2.heap.size := Nat.lt_of_lt_of_le sw1 tW2.size
  replace HO := Lib.hid (OwnL.touch HO.out tW2 (fun b hb hf => by have h9 := HOL b hb; have h8 : b = w.heap.size + 1 ∨ b = w.heap.size + 1 + 1 := hf; omega))
  replace HP2 : Hid (Row W2 w.heap.size [.string m.title, .int .i64 m.author, .slice A1 m.pat.length c1, .int .i64 m.beg, .int .i64 m.fin, .int .i64 m.closes, .slice A2 m.votes.length c2, .int .i64 m.result]) := Lib.hid (by rw [hW2]; exact ((((HP2.out).far _ (by simp; omega)).far _ (by simp; omega)).far _ (by simp; omega)).far _ (by simp; omega))
  replace HR2 : Hid (Row W2 (w.heap.size + 1) [.string ⟨#[]⟩, .int .i64 0, .slice none 0 0, .int .i64 0, .int .i64 0, .int .i64 0, .slice none 0 0, .int .i64 0]) := Lib.hid (by rw [hW2]; exact ((((HR2.out).far _ (by simp)).far _ (by simp)).far _ (by simp)).far _ (by simp))
  replace HK2 : Hid (Row W2 (w.heap.size + 1 + 1) [.string m.title, .int .i64 m.author, .slice A5 m.pat.length d5, .int .i64 m.beg, .int .i64 m.fin, .int .i64 m.closes, .slice none 0 0, .int .i64 0]) := Lib.hid (by rw [hW2]; exact ((((HK2.out).set 2 _ (by simp)).set 3 _ (by simp)).set 4 _ (by simp)).set 5 _ (by simp))
  rw [← hW2]
  have lW2 : w1.heap.size ≤ W2.heap.size := tW2.size
  clear hW2 tW2 x3 x4 x5 x6 x7 k0 r0 s0 k1 r1 s1 k2 r2 s2 f2 k3 r3 s3 f3 k4 r4 s4 f4 k5 r5 s5 f5 k6 r6 s6 f6 k7 r7 s7 f7
  refine (retL_own (toInts_any m.votes A2 _ c2 W2 (HhV.out.on (Pl.stays _) bW2 bW2.size) h2)).mono ?_
  rintro e2 w2 ⟨A6, d6, rfl, hO6, hb2⟩
  have sw2 : w.heap.size + 1 + 1 < w2.heap.size := Nat.lt_of_lt_of_le sW2 hb2.size
  have HB2 := Lib.hid (bW2.trans (hb2.mono bW2.size))
  replace HO := Lib.hid (OwnL.touch HO.out (Touch.of_below (F := (fun b => b = w.heap.size + 1 ∨ b = w.heap.size + 1 + 1)) hb2) (fun b hb hf => by have h9 := HOL b hb; have h8 : b = w.heap.size + 1 ∨ b = w.heap.size + 1 + 1 := hf; omega))
  have zW2 : W2.heap.size ≤ w2.heap.size := hb2.size
  have HP3 := Lib.hid (HP2.out.below hb2 (by omega))
  have HR3 := Lib.hid (HR2.out.below hb2 (by omega))
  have HK3 := Lib.hid (HK2.out.below hb2 (by omega))
  have HO6 := Lib.hid hO6
  have HO6L : ∀ b, sBlk m.votes (.slice A6 m.votes.length d6) b → W2.heap.size ≤ b := fun b hb => (hO6.sblk hb).1
  clear hO6
  have x7 := HP3.out.cell 7 _ rfl
  have k0 := HK3.out.cell 0 _ rfl
  have r0 := HR3.out.cell 0 _ rfl
  have s0 := HR3.out.free 0 (by simp)
  have k1 := HK3.out.cell 1 _ rfl
  have r1 := HR3.out.cell 1 _ rfl
  have s1 := HR3.out.free 1 (by simp)
  have k2 := HK3.out.cell 2 _ rfl
  have r2 := HR3.out.cell 2 _ rfl
  have s2 := HR3.out.free 2 (by simp)
  have k3 := HK3.out.cell 3 _ rfl
  have r3 := HR3.out.cell 3 _ rfl
  have s3 := HR3.out.free 3 (by simp)
  have k4 := HK3.out.cell 4 _ rfl
  have r4 := HR3.out.cell 4 _ rfl
  have s4 := HR3.out.free 4 (by simp)
  have k5 := HK3.out.cell 5 _ rfl
  have r5 := HR3.out.cell 5 _ rfl
  have s5 := HR3.out.free 5 (by simp)
  have k6 := HK3.out.cell 6 _ rfl
  have f6 := HK3.out.free 6 (by simp)
  have r6 := HR3.out.cell 6 _ rfl
  have s6 := HR3.out.free 6 (by simp)
  have k7 := HK3.out.cell 7 _ rfl
  have f7 := HK3.out.free 7 (by simp)
  have r7 := HR3.out.cell 7 _ rfl
  have s7 := HR3.out.free 7 (by simp)
  clear hb2 bW2 HP2 HR2 HK2
  go_wp2
  have hres : ∀ (ac : Go.Act) (w' : World), ac.tmps[2]? = some (.pointer (some ⟨w.heap.size + 1, 0, none⟩)) → w'.cell? ⟨w.heap.size + 1, 0, none⟩ = some (.string m.title) → w'.cell? ⟨w.heap.size + 1, 1, none⟩ = some (.int .i64 m.author) → w'.cell? ⟨w.heap.size + 1, 2, none⟩ = some (.slice A5 m.pat.length d5) → w'.cell? ⟨w.heap.size + 1, 3, none⟩ = some (.int .i64 m.beg) → w'.cell? ⟨w.heap.size + 1, 4, none⟩ = some (.int .i64 m.fin) → w'.cell? ⟨w.heap.size + 1, 5, none⟩ = some (.int .i64 m.closes) → w'.cell? ⟨w.heap.size + 1, 6, none⟩ = some (.slice A6 m.votes.length d6) → w'.cell? ⟨w.heap.size + 1, 7, none⟩ = some (.int .i64 m.result) → (results Tryz.f114 ac.tmps).run Tryz.prog w' = .ok (.agg #[.string m.title, .int .i64 m.author, .slice A5 m.pat.length d5, .int .i64 m.beg, .int .i64 m.fin, .int .i64 m.closes, .slice A6 m.votes.length d6, .int .i64 m.result]) w' := by
    intro ac w' ha hh0 hh1 hh2 hh3 hh4 hh5 hh6 hh7
    simp [results, Tryz.results114, go_sem, ha, hh0, hh1, hh2, hh3, hh4, hh5, hh6, hh7]
  refine bodyPost_ret (hres _ _ rfl (by simp [go_sem, r0]) (by simp [go_sem, r1]) (by simp [go_sem, r2]) (by simp [go_sem, r3]) (by simp [go_sem, r4]) (by simp [go_sem, r5]) (by simp [go_sem, r6]) (by simp [go_sem, r7])) rfl ?_
  have tF : Touch (fun b => b = w.heap.size + 1 ∨ b = w.heap.size + 1 + 1) w2 ((((((((((w2.setCell ⟨w.heap.size + 1 + 1, 6, none⟩ (.slice A6 m.votes.length d6)).setCell ⟨w.heap.size + 1 + 1, 7, none⟩ (.int .i64 m.result)).setCell ⟨w.heap.size + 1, 0, none⟩ (.string m.title)).setCell ⟨w.heap.size + 1, 1, none⟩ (.int .i64 m.author)).setCell ⟨w.heap.size + 1, 2, none⟩ (.slice A5 m.pat.length d5)).setCell ⟨w.heap.size + 1, 3, none⟩ (.int .i64 m.beg)).setCell ⟨w.heap.size + 1, 4, none⟩ (.int .i64 m.fin)).setCell ⟨w.heap.size + 1, 5, none⟩ (.int .i64 m.closes)).setCell ⟨w.heap.size + 1, 6, none⟩ (.slice A6 m.votes.length d6)).setCell ⟨w.heap.size + 1, 7, none⟩ (.int .i64 m.result)) := by
    iterate 10 refine Touch.setCell ?_ (by first | exact .inl rfl | exact .inr rfl) _
    exact Touch.refl _ _
  replace HO := Lib.hid (OwnL.touch HO.out tF (fun b hb hf => by have h9 := HOL b hb; have h8 : b = w.heap.size + 1 ∨ b = w.heap.size + 1 + 1 := hf; omega))
  replace HO6 := Lib.hid (OwnL.touch HO6.out tF (fun b hb hf => by have h9 := HO6L b hb; have h8 : b = w.heap.size + 1 ∨ b = w.heap.size + 1 + 1 := hf; omega))
  have hbF := HB2.out.trans (tF.below (Nat.le_of_lt (Nat.lt_of_le_of_lt (by omega) sw2)) hfr)
  exact ⟨⟨m, .slice A5 m.pat.length d5, .slice A6 m.votes.length d6⟩, rfl, rfl, ⟨HO.out.less (by omega), HO6.out.less (by omega), fun b h1 h2 => by have := HOL b h1; have := HO6L b h2; omega⟩, hbF⟩
end Go.Proofs.YtnandbammmcncaaGreat

namespace Go.Proofs.YtnandbammmcncaaGreat
open Go.RowKit Go.Lib

theorem Tryz.infoMot : (Tryz.prog.info? 78).map (fun i => (i.zero, i.size, i.bytes)) = some (some (.agg #[.string ⟨#[]⟩, .int .i64 0, .slice none 0 0, .int .i64 0, .int .i64 0, .int .i64 0, .slice none 0 0, .int .i64 0]), 8, 104) := by kernel_rfl
theorem toInts_own (zs : List Int) (A : Option Addr) (c : Nat) (w : World) (h : Ints w w.heap.size (.slice A zs.length c) zs) (hn : zs.length ≤ 1048576) :
    Calls Tryz.prog 84 #[.slice A zs.length c] w (fun e w' => ∃ A d, e = .returned (.slice A zs.length d) ∧ OwnL intCells zs w.heap.size w' (.slice A zs.length d) ∧ Below w.heap.size w w') :=
  retL_own (toInts_any zs A _ c w h hn)
set_option maxRecDepth 100000 in
set_option maxHeartbeats 2000000 in
theorem toArt_any (e : Art) (w : World) :
    Calls Tryz.prog 112 #[.agg #[.int .i64 e.id, .string e.text]] w (RetB (.agg #[.int .i64 e.id, .string e.text]) w) := by
  go_enter Tryz.func112, Tryz.ntmps112
  go_wp2
  exact bodyPost_ret (v := .agg #[.int .i64 e.id, .string e.text]) (by simp [results, Tryz.results112, go_sem]) rfl ⟨rfl, (((Below.refl _ _).alloc (Nat.le_refl _) _).alloc (by simp) _).alloc (by simp; omega) _⟩
theorem map_snoc_take {α β : Type} {p : β → α} {L : List β} {ls : List α} {k : Nat} (h : L.map p = ls.take k) (hk : k < ls.length) {x : β} (hx : p x = ls[k]) : (L ++ [x]).map p = ls.take (k + 1) := by
  rw [List.map_append, h, List.map_cons, List.map_nil, hx, List.take_succ_eq_append_getElem hk]
theorem map_len_take {α β : Type} {p : β → α} {L : List β} {ls : List α} {k : Nat} (h : L.map p = ls.take k) (hk : k ≤ ls.length) : L.length = k := by
  have := congrArg List.length h
  rw [List.length_map, List.length_take] at this
  omega

set_option maxRecDepth 100000 in
set_option maxHeartbeats 4000000 in
theorem toRows_any (ls : List (List Int)) (v : Value) (w : World) (h : RowsR w w.heap.size v ls) (hn : ls.length ≤ 1048576) (hf : ∀ x ∈ ls, x.length ≤ 1048576) :
    Calls Tryz.prog 52 #[v] w (RetT kRow VRow.a ls w) := by
  have HE := Lib.hid (fun W (hb : Below w.heap.size w W) => h.on hb hb.size)
  have HS := Lib.hid hf
  obtain ⟨A, c, rfl, hc, hm, -⟩ := rows_at h
  unfold maxLen at hm
  clear hf h
  obtain ⟨i0, hi, hz0, hz1, hz2⟩ := info_parts Tryz.infoRow
  obtain ⟨W, Z0, hmk, hrow, hZ, hgs, hbW⟩ := make_row (P := Tryz.prog) w 22 29 i0 _ 1 Tryz.underlying22 hi hz0 hz1 ls.length (by rw [hz2]; omega) hn
  have HR : Hid (Fil kRow w.heap.size ls.length W w.heap.size [] Z0) := Lib.hid (Fil.start hrow hZ)
  clear hi hz0 hz1 hz2 hrow hZ
  go_enter Tryz.func52, Tryz.ntmps52
  go_wp2
  go_loopw [4] (fun i wr => ∃ (k : Nat) (L : List VRow) (Z : List Value), k ≤ ls.length ∧ i = .int .i64 (k : Int) ∧ L.map VRow.a = ls.take k ∧ Fil kRow w.heap.size ls.length wr w.heap.size L Z ∧ Below w.heap.size w wr ∧ w.heap.size < wr.heap.size) (fun i _ => ls.length - (RowKit.intOf i).toNat)
  case atStart => exact ⟨0, [], Z0, Nat.zero_le _, rfl, rfl, HR.out, hbW, hgs⟩
  case round =>
    obtain ⟨k, L, Z, hk, rfl, hM, hF, hb, hgr⟩ := hrel
    have HM := Lib.hid hM
    have HF := Lib.hid hF
    clear hM hF
    by_cases hlt : k < ls.length
    · obtain ⟨A', c', hv, _, _, hel⟩ := rows_at (HE.out wr hb)
      injection hv with e1 e2 e3
      subst e1
      obtain ⟨b, off, rfl, hbb, hcell⟩ := hel (by omega)
      obtain ⟨A1, c1, k0, m1, hI⟩ := hcell k _ (List.getElem?_eq_getElem hlt)
      have HI := Lib.hid hI
      have hso := HS.out ls[k] (List.getElem_mem hlt)
      have HNX := Lib.hid (fun (x : VRow) hx => map_snoc_take HM.out hlt (x := x) hx)
      clear hcell hel hI e2 e3
      generalize ls[k] = e at *
      go_wp2_with (fail)
      refine (toInts_own e A1 c1 wr HI.out hso).mono ?_
      rintro e' w1 ⟨A5, c5, rfl, hin, hb1⟩
      clear k0
      have HIN := Lib.hid hin
      have hgr1 := Nat.lt_of_lt_of_le hgr hb1.size
      have HF1 := Lib.hid (HF.out.below hb1 hgr)
      have HB1 := Lib.hid (hb.trans (hb1.mono hb.size))
      have HLT := Lib.hid (HF.out.lt)
      have hl := map_len_take HM.out hk
      have hltk : k < ls.length := hlt
      have f0 : w1.frozen? ⟨w.heap.size, k, none⟩ = false := by have := (HF1.out.cell hl hlt (i := 0) (by decide)).2; rwa [show k * kRow.size + 0 = k from Nat.mul_one k] at this
      obtain ⟨o0, s0⟩ : ∃ u, w1.cell? ⟨w.heap.size, k, none⟩ = some u := by have := (HF1.out.cell hl hlt (i := 0) (by decide)).1; rwa [show k * kRow.size + 0 = k from Nat.mul_one k] at this
      have HST : Hid (Fil kRow w.heap.size ls.length (w1.setCell ⟨w.heap.size, k, none⟩ (.slice A5 e.length c5)) w.heap.size (L ++ [⟨e, .slice A5 e.length c5⟩]) (Z.drop 1)) := Lib.hid (by
        have := HF1.out.step hl hlt (x := ⟨e, .slice A5 e.length c5⟩) (lo := wr.heap.size) (kRow.less HIN.out hb.size) (fun b hb => (OwnL.sblk HIN.out hb).1) hgr HLT.out
        rw [show k * kRow.size = k from Nat.mul_one k] at this
        exact this)
      clear hin hb1
      go_wp2
      go_roundw
      case rel => exact ⟨k + 1, _, _, by omega, by go_num, HNX.out ⟨e, .slice A5 e.length c5⟩ rfl, HST.out, HB1.out.setCell (Nat.le_refl _) _, by simpa using hgr1⟩
      case measure => simp [RowKit.intOf]; omega
    · have hge : ¬ (k : Int) < (ls.length : Int) := by omega
      have hk' : k = ls.length := by omega
      have HFIN : Hid (L.map VRow.a = ls ∧ TreeO kRow w.heap.size wr (.slice (some ⟨w.heap.size, 0, none⟩) ls.length ls.length) L) := Lib.hid (by
        have hl := map_len_take HM.out hk
        refine ⟨by rw [HM.out, hk', List.take_length], HF.out.tree (hl.trans hk') hgr (Nat.le_refl _) (by unfold maxLen; omega)⟩)
      clear hk' hlt
      go_wp2
      go_ret
      exact ⟨_, L, rfl, HFIN.out.1, HFIN.out.2, hb⟩

set_option maxRecDepth 100000 in
set_option maxHeartbeats 4000000 in
theorem toArts_any (ls : List Art) (v : Value) (w : World) (h : Arts w w.heap.size v ls) (hn : ls.length ≤ 1048576) :
    Calls Tryz.prog 53 #[v] w (RetT kArt id ls w) := by
  have HE := Lib.hid (fun W (hb : Below w.heap.size w W) => (SlR.on h (Pl.stays _) hb hb.size : Arts W W.heap.size v ls))
  obtain ⟨A, c, rfl, hc, hm, -⟩ := h
  unfold maxLen at hm
  obtain ⟨i0, hi, hz0, hz1, hz2⟩ := info_parts Tryz.infoA
  obtain ⟨W, Z0, hmk, hrow, hZ, hgs, hbW⟩ := make_row (P := Tryz.prog) w 32 141 i0 _ 2 Tryz.underlying32 hi hz0 hz1 ls.length (by rw [hz2]; omega) hn
  have HR : Hid (Fil kArt w.heap.size ls.length W w.heap.size [] Z0) := Lib.hid (Fil.start hrow hZ)
  clear hi hz0 hz1 hz2 hrow hZ
  go_enter Tryz.func53, Tryz.ntmps53
  go_wp2
  go_loopw [4] (fun i wr => ∃ (k : Nat) (L : List Art) (Z : List Value), k ≤ ls.length ∧ i = .int .i64 (k : Int) ∧ L.map id = ls.take k ∧ Fil kArt w.heap.size ls.length wr w.heap.size L Z ∧ Below w.heap.size w wr ∧ w.heap.size < wr.heap.size) (fun i _ => ls.length - (RowKit.intOf i).toNat)
  case atStart => exact ⟨0, [], Z0, Nat.zero_le _, rfl, rfl, HR.out, hbW, hgs⟩
  case round =>
    obtain ⟨k, L, Z, hk, rfl, hM, hF, hb, hgr⟩ := hrel
    have HM := Lib.hid hM
    have HF := Lib.hid hF
    clear hM hF
    by_cases hlt : k < ls.length
    · obtain ⟨b, off, rfl, hbb, k0, k1⟩ := arts_get (HE.out wr hb) (List.getElem?_eq_getElem hlt)
      have HNX := Lib.hid (fun (x : Art) hx => map_snoc_take (p := id) HM.out hlt (x := x) hx)
      generalize ls[k] = e at *
      go_wp2_with (fail)
      refine (toArt_any e _).mono ?_
      rintro e' w1 ⟨rfl, hb1⟩
      clear k0 k1
      have hgr1 := Nat.lt_of_lt_of_le hgr hb1.size
      have HF1 := Lib.hid (HF.out.below hb1 hgr)
      have HB1 := Lib.hid (hb.trans (hb1.mono hb.size))
      have HLT := Lib.hid (HF.out.lt)
      have hl := map_len_take HM.out hk
      have hltk : k < ls.length := hlt
      have f0 : w1.frozen? ⟨w.heap.size, k * 2, none⟩ = false := (HF1.out.cell hl hlt (i := 0) (by decide)).2
      obtain ⟨o0, s0⟩ : ∃ u, w1.cell? ⟨w.heap.size, k * 2, none⟩ = some u := (HF1.out.cell hl hlt (i := 0) (by decide)).1
      have f1 : w1.frozen? ⟨w.heap.size, k * 2 + 1, none⟩ = false := (HF1.out.cell hl hlt (i := 1) (by decide)).2
      obtain ⟨o1, s1⟩ : ∃ u, w1.cell? ⟨w.heap.size, k * 2 + 1, none⟩ = some u := (HF1.out.cell hl hlt (i := 1) (by decide)).1
      have HST : Hid (Fil kArt w.heap.size ls.length ((w1.setCell ⟨w.heap.size, k * 2, none⟩ (.int .i64 e.id)).setCell ⟨w.heap.size, k * 2 + 1, none⟩ (.string e.text)) w.heap.size (L ++ [e]) (Z.drop 2)) := Lib.hid (HF1.out.step hl hlt (x := e) (lo := wr.heap.size) trivial (fun b hb => hb.elim) hgr HLT.out)
      clear hb1
      go_wp2
      go_roundw
      case rel => exact ⟨k + 1, _, _, by omega, by go_num, HNX.out e rfl, HST.out, (HB1.out.setCell (Nat.le_refl _) _).setCell (Nat.le_refl _) _, by simpa using hgr1⟩
      case measure => simp [RowKit.intOf]; omega
    · have hge : ¬ (k : Int) < (ls.length : Int) := by omega
      have hk' : k = ls.length := by omega
      have HFIN : Hid (L.map id = ls ∧ TreeO kArt w.heap.size wr (.slice (some ⟨w.heap.size, 0, none⟩) ls.length ls.length) L) := Lib.hid (by
        have hl := map_len_take HM.out hk
        refine ⟨by rw [HM.out, hk', List.take_length], HF.out.tree (hl.trans hk') hgr (Nat.le_refl _) (by unfold maxLen; omega)⟩)
      clear hk' hlt
      go_wp2
      go_ret
      exact ⟨_, L, rfl, HFIN.out.1, HFIN.out.2, hb⟩

set_option maxRecDepth 100000 in
set_option maxHeartbeats 4000000 in
theorem toActs_any (ls : List Acta) (v : Value) (w : World) (h : Acts w w.heap.size v ls) (hn : ls.length ≤ 1048576) (hf : ∀ x ∈ ls, ActFits x) :
    Calls Tryz.prog 54 #[v] w (RetT kAct VAct.a ls w) := by
  have HE := Lib.hid (fun W (hb : Below w.heap.size w W) => h.on hb hb.size)
  have HS := Lib.hid hf
  obtain ⟨A, c, rfl, hc, hm, -⟩ := acts_at h
  unfold maxLen at hm
  clear hf h
  obtain ⟨i0, hi, hz0, hz1, hz2⟩ := info_parts Tryz.infoAct
  obtain ⟨W, Z0, hmk, hrow, hZ, hgs, hbW⟩ := make_row (P := Tryz.prog) w 33 144 i0 _ 3 Tryz.underlying33 hi hz0 hz1 ls.length (by rw [hz2]; omega) hn
  have HR : Hid (Fil kAct w.heap.size ls.length W w.heap.size [] Z0) := Lib.hid (Fil.start hrow hZ)
  clear hi hz0 hz1 hz2 hrow hZ
  go_enter Tryz.func54, Tryz.ntmps54
  go_wp2
  go_loopw [4] (fun i wr => ∃ (k : Nat) (L : List VAct) (Z : List Value), k ≤ ls.length ∧ i = .int .i64 (k : Int) ∧ L.map VAct.a = ls.take k ∧ Fil kAct w.heap.size ls.length wr w.heap.size L Z ∧ Below w.heap.size w wr ∧ w.heap.size < wr.heap.size) (fun i _ => ls.length - (RowKit.intOf i).toNat)
  case atStart => exact ⟨0, [], Z0, Nat.zero_le _, rfl, rfl, HR.out, hbW, hgs⟩
  case round =>
    obtain ⟨k, L, Z, hk, rfl, hM, hF, hb, hgr⟩ := hrel
    have HM := Lib.hid hM
    have HF := Lib.hid hF
    clear hM hF
    by_cases hlt : k < ls.length
    · obtain ⟨A', c', hv, _, _, hel⟩ := acts_at (HE.out wr hb)
      injection hv with e1 e2 e3
      subst e1
      obtain ⟨b, off, rfl, hbb, hcell⟩ := hel (by omega)
      obtain ⟨pv, k0, k1, k2, hI⟩ := hcell k _ (List.getElem?_eq_getElem hlt)
      obtain ⟨A1, c1, rfl, _, m1⟩ := Edits.sl hI
      have HI := Lib.hid hI
      have hso := (HS.out ls[k] (List.getElem_mem hlt)).1
      have HNX := Lib.hid (fun (x : VAct) hx => map_snoc_take HM.out hlt (x := x) hx)
      clear hcell hel hI e2 e3 m1
      generalize ls[k] = e at *
      go_wp2_with (fail)
      refine (toAct_any e A1 c1 wr HI.out hso).mono ?_
      rintro e' w1 ⟨⟨e2, v5⟩, he2, rfl, hin, hb1⟩
      have he2 : e2 = e := he2
      subst he2
      clear k0 k1 k2
      have HIN := Lib.hid hin
      obtain ⟨A5, c5, q5, _⟩ := (hin : OwnL editCells e2.pat _ _ v5)
      have hv5 : v5 = .slice A5 e2.pat.length c5 := q5
      clear q5
      subst hv5
      dsimp only
      have hgr1 := Nat.lt_of_lt_of_le hgr hb1.size
      have HF1 := Lib.hid (HF.out.below hb1 hgr)
      have HB1 := Lib.hid (hb.trans (hb1.mono hb.size))
      have HLT := Lib.hid (HF.out.lt)
      have hl := map_len_take HM.out hk
      have hltk : k < ls.length := hlt
      have f0 : w1.frozen? ⟨w.heap.size, k * 3, none⟩ = false := (HF1.out.cell hl hlt (i := 0) (by decide)).2
      obtain ⟨o0, s0⟩ : ∃ u, w1.cell? ⟨w.heap.size, k * 3, none⟩ = some u := (HF1.out.cell hl hlt (i := 0) (by decide)).1
      have f1 : w1.frozen? ⟨w.heap.size, k * 3 + 1, none⟩ = false := (HF1.out.cell hl hlt (i := 1) (by decide)).2
      obtain ⟨o1, s1⟩ : ∃ u, w1.cell? ⟨w.heap.size, k * 3 + 1, none⟩ = some u := (HF1.out.cell hl hlt (i := 1) (by decide)).1
      have f2 : w1.frozen? ⟨w.heap.size, k * 3 + 2, none⟩ = false := (HF1.out.cell hl hlt (i := 2) (by decide)).2
      obtain ⟨o2, s2⟩ : ∃ u, w1.cell? ⟨w.heap.size, k * 3 + 2, none⟩ = some u := (HF1.out.cell hl hlt (i := 2) (by decide)).1
      have HST : Hid (Fil kAct w.heap.size ls.length (((w1.setCell ⟨w.heap.size, k * 3, none⟩ (.int .i64 e2.beg)).setCell ⟨w.heap.size, k * 3 + 1, none⟩ (.int .i64 e2.fin)).setCell ⟨w.heap.size, k * 3 + 2, none⟩ (.slice A5 e2.pat.length c5)) w.heap.size (L ++ [⟨e2, .slice A5 e2.pat.length c5⟩]) (Z.drop 3)) := Lib.hid (HF1.out.step hl hlt (x := ⟨e2, .slice A5 e2.pat.length c5⟩) (lo := wr.heap.size) (kAct.less HIN.out hb.size) (fun b hb => (kAct.lt HIN.out hb).1) hgr HLT.out)
      clear hb1
      go_wp2
      go_roundw
      case rel => exact ⟨k + 1, _, _, by omega, by go_num, HNX.out ⟨e2, .slice A5 e2.pat.length c5⟩ rfl, HST.out, ((HB1.out.setCell (Nat.le_refl _) _).setCell (Nat.le_refl _) _).setCell (Nat.le_refl _) _, by simpa using hgr1⟩
      case measure => simp [RowKit.intOf]; omega
    · have hge : ¬ (k : Int) < (ls.length : Int) := by omega
      have hk' : k = ls.length := by omega
      have HFIN : Hid (L.map VAct.a = ls ∧ TreeO kAct w.heap.size wr (.slice (some ⟨w.heap.size, 0, none⟩) ls.length ls.length) L) := Lib.hid (by
        have hl := map_len_take HM.out hk
        refine ⟨by rw [HM.out, hk', List.take_length], HF.out.tree (hl.trans hk') hgr (Nat.le_refl _) (by unfold maxLen; omega)⟩)
      clear hk' hlt
      go_wp2
      go_ret
      exact ⟨_, L, rfl, HFIN.out.1, HFIN.out.2, hb⟩

set_option maxRecDepth 100000 in
set_option maxHeartbeats 4000000 in
theorem toMots_any (ls : List Mot) (v : Value) (w : World) (h : Mots w w.heap.size v ls) (hn : ls.length ≤ 1048576) (hf : ∀ x ∈ ls, MotFits x) :
    Calls Tryz.prog 55 #[v] w (RetT kMot VMot.a ls w) := by
  have HE := Lib.hid (fun W (hb : Below w.heap.size w W) => h.on hb hb.size)
  have HS := Lib.hid hf
  obtain ⟨A, c, rfl, hc, hm, -⟩ := mots_at h
  unfold maxLen at hm
  clear hf h
  obtain ⟨i0, hi, hz0, hz1, hz2⟩ := info_parts Tryz.infoMot
  obtain ⟨W, Z0, hmk, hrow, hZ, hgs, hbW⟩ := make_row (P := Tryz.prog) w 34 78 i0 _ 8 Tryz.underlying34 hi hz0 hz1 ls.length (by rw [hz2]; omega) hn
  have HR : Hid (Fil kMot w.heap.size ls.length W w.heap.size [] Z0) := Lib.hid (Fil.start hrow hZ)
  clear hi hz0 hz1 hz2 hrow hZ
  go_enter Tryz.func55, Tryz.ntmps55
  go_wp2
  go_loopw [4] (fun i wr => ∃ (k : Nat) (L : List VMot) (Z : List Value), k ≤ ls.length ∧ i = .int .i64 (k : Int) ∧ L.map VMot.a = ls.take k ∧ Fil kMot w.heap.size ls.length wr w.heap.size L Z ∧ Below w.heap.size w wr ∧ w.heap.size < wr.heap.size) (fun i _ => ls.length - (RowKit.intOf i).toNat)
  case atStart => exact ⟨0, [], Z0, Nat.zero_le _, rfl, rfl, HR.out, hbW, hgs⟩
  case round =>
    obtain ⟨k, L, Z, hk, rfl, hM, hF, hb, hgr⟩ := hrel
    have HM := Lib.hid hM
    have HF := Lib.hid hF
    clear hM hF
    by_cases hlt : k < ls.length
    · obtain ⟨A', c', hv, _, _, hel⟩ := mots_at (HE.out wr hb)
      injection hv with e1 e2 e3
      subst e1
      obtain ⟨b, off, rfl, hbb, hcell⟩ := hel (by omega)
      obtain ⟨A1, c1, A2, c2, hP⟩ := hcell k _ (List.getElem?_eq_getElem hlt)
      have z0 := hP.k0
      have z1 := hP.k1
      have z2 := hP.k2
      have z3 := hP.k3
      have z4 := hP.k4
      have z5 := hP.k5
      have z6 := hP.k6
      have z7 := hP.k7
      have HP := Lib.hid hP
      have hso := (HS.out ls[k] (List.getElem_mem hlt))
      have n1 := hso.2.1
      have n2 := hso.2.2.2
      have HNX := Lib.hid (fun (x : VMot) hx => map_snoc_take HM.out hlt (x := x) hx)
      clear hcell hel hP e2 e3 hso
      generalize ls[k] = e at *
      go_wp2_with (fail)
      refine (toMot_any e A1 c1 A2 c2 wr HP.out.edits HP.out.ints n1 n2).mono ?_
      rintro e' w1 ⟨⟨e2, v5, v6⟩, he2, rfl, hin, hb1⟩
      have he2 : e2 = e := he2
      subst he2
      clear z0 z1 z2 z3 z4 z5 z6 z7
      have HIN := Lib.hid hin
      obtain ⟨A5, c5, q5, _⟩ := (hin.1 : OwnL editCells e2.pat _ _ v5)
      obtain ⟨A6, c6, q6, _⟩ := (hin.2.1 : OwnL intCells e2.votes _ _ v6)
      have hv5 : v5 = .slice A5 e2.pat.length c5 := q5
      have hv6 : v6 = .slice A6 e2.votes.length c6 := q6
      clear q5 q6
      subst hv5
      subst hv6
      dsimp only
      have hgr1 := Nat.lt_of_lt_of_le hgr hb1.size
      have HF1 := Lib.hid (HF.out.below hb1 hgr)
      have HB1 := Lib.hid (hb.trans (hb1.mono hb.size))
      have HLT := Lib.hid (HF.out.lt)
      have hl := map_len_take HM.out hk
      have hltk : k < ls.length := hlt
      have f0 : w1.frozen? ⟨w.heap.size, k * 8, none⟩ = false := (HF1.out.cell hl hlt (i := 0) (by decide)).2
      obtain ⟨o0, s0⟩ : ∃ u, w1.cell? ⟨w.heap.size, k * 8, none⟩ = some u := (HF1.out.cell hl hlt (i := 0) (by decide)).1
      have f1 : w1.frozen? ⟨w.heap.size, k * 8 + 1, none⟩ = false := (HF1.out.cell hl hlt (i := 1) (by decide)).2
      obtain ⟨o1, s1⟩ : ∃ u, w1.cell? ⟨w.heap.size, k * 8 + 1, none⟩ = some u := (HF1.out.cell hl hlt (i := 1) (by decide)).1
      have f2 : w1.frozen? ⟨w.heap.size, k * 8 + 2, none⟩ = false := (HF1.out.cell hl hlt (i := 2) (by decide)).2
      obtain ⟨o2, s2⟩ : ∃ u, w1.cell? ⟨w.heap.size, k * 8 + 2, none⟩ = some u := (HF1.out.cell hl hlt (i := 2) (by decide)).1
      have f3 : w1.frozen? ⟨w.heap.size, k * 8 + 3, none⟩ = false := (HF1.out.cell hl hlt (i := 3) (by decide)).2
      obtain ⟨o3, s3⟩ : ∃ u, w1.cell? ⟨w.heap.size, k * 8 + 3, none⟩ = some u := (HF1.out.cell hl hlt (i := 3) (by decide)).1
      have f4 : w1.frozen? ⟨w.heap.size, k * 8 + 4, none⟩ = false := (HF1.out.cell hl hlt (i := 4) (by decide)).2
      obtain ⟨o4, s4⟩ : ∃ u, w1.cell? ⟨w.heap.size, k * 8 + 4, none⟩ = some u := (HF1.out.cell hl hlt (i := 4) (by decide)).1
      have f5 : w1.frozen? ⟨w.heap.size, k * 8 + 5, none⟩ = false := (HF1.out.cell hl hlt (i := 5) (by decide)).2
      obtain ⟨o5, s5⟩ : ∃ u, w1.cell? ⟨w.heap.size, k * 8 + 5, none⟩ = some u := (HF1.out.cell hl hlt (i := 5) (by decide)).1
      have f6 : w1.frozen? ⟨w.heap.size, k * 8 + 6, none⟩ = false := (HF1.out.cell hl hlt (i := 6) (by decide)).2
      obtain ⟨o6, s6⟩ : ∃ u, w1.cell? ⟨w.heap.size, k * 8 + 6, none⟩ = some u := (HF1.out.cell hl hlt (i := 6) (by decide)).1
      have f7 : w1.frozen? ⟨w.heap.size, k * 8 + 7, none⟩ = false := (HF1.out.cell hl hlt (i := 7) (by decide)).2
      obtain ⟨o7, s7⟩ : ∃ u, w1.cell? ⟨w.heap.size, k * 8 + 7, none⟩ = some u := (HF1.out.cell hl hlt (i := 7) (by decide)).1
      have HST : Hid (Fil kMot w.heap.size ls.length ((((((((w1.setCell ⟨w.heap.size, k * 8, none⟩ (.string e2.title)).setCell ⟨w.heap.size, k * 8 + 1, none⟩ (.int .i64 e2.author)).setCell ⟨w.heap.size, k * 8 + 2, none⟩ (.slice A5 e2.pat.length c5)).setCell ⟨w.heap.size, k * 8 + 3, none⟩ (.int .i64 e2.beg)).setCell ⟨w.heap.size, k * 8 + 4, none⟩ (.int .i64 e2.fin)).setCell ⟨w.heap.size, k * 8 + 5, none⟩ (.int .i64 e2.closes)).setCell ⟨w.heap.size, k * 8 + 6, none⟩ (.slice A6 e2.votes.length c6)).setCell ⟨w.heap.size, k * 8 + 7, none⟩ (.int .i64 e2.result)) w.heap.size (L ++ [⟨e2, .slice A5 e2.pat.length c5, .slice A6 e2.votes.length c6⟩]) (Z.drop 8)) := Lib.hid (HF1.out.step hl hlt (x := ⟨e2, .slice A5 e2.pat.length c5, .slice A6 e2.votes.length c6⟩) (lo := wr.heap.size) (kMot.less HIN.out hb.size) (fun b hb => (kMot.lt HIN.out hb).1) hgr HLT.out)
      clear hin hb1
      go_wp2
      go_roundw
      case rel => exact ⟨k + 1, _, _, by omega, by go_num, HNX.out ⟨e2, .slice A5 e2.pat.length c5, .slice A6 e2.votes.length c6⟩ rfl, HST.out, ((((((((HB1.out.setCell (Nat.le_refl _) _).setCell (Nat.le_refl _) _).setCell (Nat.le_refl _) _).setCell (Nat.le_refl _) _).setCell (Nat.le_refl _) _).setCell (Nat.le_refl _) _).setCell (Nat.le_refl _) _).setCell (Nat.le_refl _) _), by simpa using hgr1⟩
      case measure => simp [RowKit.intOf]; omega
    · have hge : ¬ (k : Int) < (ls.length : Int) := by omega
      have hk' : k = ls.length := by omega
      have HFIN : Hid (L.map VMot.a = ls ∧ TreeO kMot w.heap.size wr (.slice (some ⟨w.heap.size, 0, none⟩) ls.length ls.length) L) := Lib.hid (by
        have hl := map_len_take HM.out hk
        refine ⟨by rw [HM.out, hk', List.take_length], HF.out.tree (hl.trans hk') hgr (Nat.le_refl _) (by unfold maxLen; omega)⟩)
      clear hk' hlt
      go_wp2
      go_ret
      exact ⟨_, L, rfl, HFIN.out.1, HFIN.out.2, hb⟩
end Go.Proofs.YtnandbammmcncaaGreat

namespace Go.Proofs.YtnandbammmcncaaGreat
open Go.RowKit Go.Lib

def Apart (p q : Nat → Prop) : Prop := ∀ b, p b → ¬ q b
/-- An assembly of the call's own: four trees that share no block. -/
structure AsmO (base : Nat) (w : World) (x : VAsm) (a : Asm) (T : List VRow) (C : List VAct) (M : List VMot) : Prop where
  tm : T.map VRow.a = a.trust
  cm : C.map VAct.a = a.acts
  mm : M.map VMot.a = a.mots
  t : TreeO kRow base w x.t T
  b : TreeO kArt base w x.b a.base
  c : TreeO kAct base w x.c C
  m : TreeO kMot base w x.m M
  tb : Apart (Foot kRow x.t T) (Foot kArt x.b a.base)
  tc : Apart (Foot kRow x.t T) (Foot kAct x.c C)
  tmo : Apart (Foot kRow x.t T) (Foot kMot x.m M)
  bc : Apart (Foot kArt x.b a.base) (Foot kAct x.c C)
  bm : Apart (Foot kArt x.b a.base) (Foot kMot x.m M)
  cmo : Apart (Foot kAct x.c C) (Foot kMot x.m M)
theorem AsmO.r {base : Nat} {w : World} {x : VAsm} {a : Asm} {T : List VRow} {C : List VAct} {M : List VMot} (h : AsmO base w x a T C M) : AsmR w w.heap.size x a :=
  ⟨by rw [← h.tm]; exact h.t.rows, h.b.slR, by rw [← h.cm]; exact h.c.acts, by rw [← h.mm]; exact h.m.mots⟩
def asmFoot (x : VAsm) (a : Asm) (T : List VRow) (C : List VAct) (M : List VMot) (b : Nat) : Prop := Foot kRow x.t T b ∨ Foot kArt x.b a.base b ∨ Foot kAct x.c C b ∨ Foot kMot x.m M b
theorem AsmO.touch {base : Nat} {w w' : World} {x : VAsm} {a : Asm} {T : List VRow} {C : List VAct} {M : List VMot} {F : Nat → Prop} (h : AsmO base w x a T C M) (ht : Touch F w w') (hF : ∀ b, asmFoot x a T C M b → ¬ F b) : AsmO base w' x a T C M :=
  ⟨h.tm, h.cm, h.mm, h.t.touch ht (fun b hb => hF b (.inl hb)), h.b.touch ht (fun b hb => hF b (.inr (.inl hb))), h.c.touch ht (fun b hb => hF b (.inr (.inr (.inl hb)))), h.m.touch ht (fun b hb => hF b (.inr (.inr (.inr hb)))), h.tb, h.tc, h.tmo, h.bc, h.bm, h.cmo⟩
theorem AsmO.below {base : Nat} {w w' : World} {x : VAsm} {a : Asm} {T : List VRow} {C : List VAct} {M : List VMot} (h : AsmO base w x a T C M) (hb : Below w.heap.size w w') : AsmO base w' x a T C M :=
  h.touch (F := fun _ => False) (Touch.of_below hb) (fun _ _ h => h)
theorem AsmO.lt {base : Nat} {w : World} {x : VAsm} {a : Asm} {T : List VRow} {C : List VAct} {M : List VMot} (h : AsmO base w x a T C M) {b : Nat} (hb : asmFoot x a T C M b) : base ≤ b ∧ b < w.heap.size := by
  rcases hb with hb | hb | hb | hb
  · exact h.t.lt hb
  · exact h.b.lt hb
  · exact h.c.lt hb
  · exact h.m.lt hb
def RetAsm (a : Asm) (w : World) (e : Ending) (w' : World) : Prop := ∃ x T C M, e = .returned (asmV a x) ∧ AsmO w.heap.size w' x a T C M ∧ Below w.heap.size w w'
theorem asm_ret {a : Asm} {w W2 W3 W4 W1 w1 w2 w3 w4 w' : World} {A1 A2 A3 A4 : Option Addr} {T : List VRow} {B : List Art} {C : List VAct} {M : List VMot} {e : Ending}
    (he : e = .returned (.agg #[.int .i64 a.day, .int .i64 a.rule, .slice A1 a.trust.length a.trust.length, .slice A2 a.base.length a.base.length, .slice A3 a.acts.length a.acts.length, .slice A4 a.mots.length a.mots.length]))
    (m1 : T.map VRow.a = a.trust) (m2 : B.map id = a.base) (m3 : C.map VAct.a = a.acts) (m4 : M.map VMot.a = a.mots)
    (h1 : TreeO kRow w.heap.size w' (.slice A1 a.trust.length a.trust.length) T) (h2 : TreeO kArt w.heap.size w' (.slice A2 a.base.length a.base.length) B) (h3 : TreeO kAct w.heap.size w' (.slice A3 a.acts.length a.acts.length) C) (h4 : TreeO kMot w.heap.size w' (.slice A4 a.mots.length a.mots.length) M)
    (l1 : ∀ b, Foot kRow (.slice A1 a.trust.length a.trust.length) T b → W1.heap.size ≤ b ∧ b < w1.heap.size) (l2 : ∀ b, Foot kArt (.slice A2 a.base.length a.base.length) B b → W2.heap.size ≤ b ∧ b < w2.heap.size)
    (l3 : ∀ b, Foot kAct (.slice A3 a.acts.length a.acts.length) C b → W3.heap.size ≤ b ∧ b < w3.heap.size) (l4 : ∀ b, Foot kMot (.slice A4 a.mots.length a.mots.length) M b → W4.heap.size ≤ b ∧ b < w4.heap.size)
    (s2 : w1.heap.size ≤ W2.heap.size) (s3 : w2.heap.size ≤ W3.heap.size) (s4 : w3.heap.size ≤ W4.heap.size) (z2 : W2.heap.size ≤ w2.heap.size) (z3 : W3.heap.size ≤ w3.heap.size) (hb : Below w.heap.size w w') : RetAsm a w e w' := by
  rw [List.map_id] at m2
  subst m2
  refine ⟨⟨_, _, _, _⟩, T, C, M, he, ⟨m1, m3, m4, h1, h2, h3, h4, ?_, ?_, ?_, ?_, ?_, ?_⟩, hb⟩
  · intro b p q; have := l1 b p; have := l2 b q; omega
  · intro b p q; have := l1 b p; have := l3 b q; omega
  · intro b p q; have := l1 b p; have := l4 b q; omega
  · intro b p q; have := l2 b p; have := l3 b q; omega
  · intro b p q; have := l2 b p; have := l4 b q; omega
  · intro b p q; have := l3 b p; have := l4 b q; omega
set_option maxRecDepth 100000 in
set_option maxHeartbeats 4000000 in
theorem toAsm_go (a : Asm) (At : Option Addr) (ct : Nat) (Ab : Option Addr) (cb : Nat) (Ac : Option Addr) (cc : Nat) (Am : Option Addr) (cm : Nat) (w : World) (hR : AsmR w w.heap.size ⟨.slice At a.trust.length ct, .slice Ab a.base.length cb, .slice Ac a.acts.length cc, .slice Am a.mots.length cm⟩ a) (hf : AsmFits a) :
    Calls Tryz.prog 13 #[.agg #[.int .i64 a.day, .int .i64 a.rule, .slice At a.trust.length ct, .slice Ab a.base.length cb, .slice Ac a.acts.length cc, .slice Am a.mots.length cm]] w (RetAsm a w) := by
  have HhR := Lib.hid hR
  have Hhf := Lib.hid hf
  clear hR hf
  have hfr : ∀ b, (b = w.heap.size + 1 ∨ b = w.heap.size + 1 + 1) → w.heap.size ≤ b := fun b h => by omega
  go_enter Tryz.func13, Tryz.ntmps13
  go_wp2_with (fail)
  obtain ⟨W1, hW1⟩ : ∃ W : World, W = ((w.alloc (.cells #[.int .i64 a.day, .int .i64 a.rule, .slice At a.trust.length ct, .slice Ab a.base.length cb, .slice Ac a.acts.length cc, .slice Am a.mots.length cm] 27)).alloc (.cells #[.int .i64 0, .int .i64 0, .slice none 0 0, .slice none 0 0, .slice none 0 0, .slice none 0 0] 36)).alloc (.cells #[.int .i64 a.day, .int .i64 a.rule, .slice none 0 0, .slice none 0 0, .slice none 0 0, .slice none 0 0] 36) := ⟨_, rfl⟩
  have bW1 : Below w.heap.size w W1 := by rw [hW1]; exact (((Below.refl _ _).alloc (Nat.le_refl _) _).alloc (by simp) _).alloc (by simp; omega) _
  have sW1 : w.heap.size + 1 + 1 < W1.heap.size := by rw [hW1]; simp
  have a1 := ((Row.new w #[.int .i64 a.day, .int .i64 a.rule, .slice At a.trust.length ct, .slice Ab a.base.length cb, .slice Ac a.acts.length cc, .slice Am a.mots.length cm] 27).below (((Below.refl _ (w.alloc (.cells #[.int .i64 a.day, .int .i64 a.rule, .slice At a.trust.length ct, .slice Ab a.base.length cb, .slice Ac a.acts.length cc, .slice Am a.mots.length cm] 27))).alloc (Nat.le_refl _) (.cells #[.int .i64 0, .int .i64 0, .slice none 0 0, .slice none 0 0, .slice none 0 0, .slice none 0 0] 36)).alloc (by simp) (.cells #[.int .i64 a.day, .int .i64 a.rule, .slice none 0 0, .slice none 0 0, .slice none 0 0, .slice none 0 0] 36)) (by simp))
  have a2 := ((Row.new (w.alloc (.cells #[.int .i64 a.day, .int .i64 a.rule, .slice At a.trust.length ct, .slice Ab a.base.length cb, .slice Ac a.acts.length cc, .slice Am a.mots.length cm] 27)) #[.int .i64 0, .int .i64 0, .slice none 0 0, .slice none 0 0, .slice none 0 0, .slice none 0 0] 36).below ((Below.refl _ _).alloc (Nat.le_refl _) (.cells #[.int .i64 a.day, .int .i64 a.rule, .slice none 0 0, .slice none 0 0, .slice none 0 0, .slice none 0 0] 36)) (by simp))
  have a3 := Row.new ((w.alloc (.cells #[.int .i64 a.day, .int .i64 a.rule, .slice At a.trust.length ct, .slice Ab a.base.length cb, .slice Ac a.acts.length cc, .slice Am a.mots.length cm] 27)).alloc (.cells #[.int .i64 0, .int .i64 0, .slice none 0 0, .slice none 0 0, .slice none 0 0, .slice none 0 0] 36)) #[.int .i64 a.day, .int .i64 a.rule, .slice none 0 0, .slice none 0 0, .slice none 0 0, .slice none 0 0] 36
  have HP1 : Hid (Row W1 w.heap.size [.int .i64 a.day, .int .i64 a.rule, .slice At a.trust.length ct, .slice Ab a.base.length cb, .slice Ac a.acts.length cc, .slice Am a.mots.length cm]) := Lib.hid (by rw [hW1]; exact a1)
  have HR1 : Hid (Row W1 (w.heap.size + 1) [.int .i64 0, .int .i64 0, .slice none 0 0, .slice none 0 0, .slice none 0 0, .slice none 0 0]) := Lib.hid (by rw [hW1]; exact (show Row _ _ _ by simpa using a2))
  have HK1 : Hid (Row W1 (w.heap.size + 1 + 1) [.int .i64 a.day, .int .i64 a.rule, .slice none 0 0, .slice none 0 0, .slice none 0 0, .slice none 0 0]) := Lib.hid (by rw [hW1]; exact (show Row _ _ _ by simpa using a3))
  rw [← hW1]
  clear hW1 a1 a2 a3
  refine (toRows_any a.trust _ W1 (HhR.out.on bW1 bW1.size).t Hhf.out.t0 Hhf.out.t).mono ?_
  rintro e1 w1 ⟨A1, L1, rfl, hm1, hT, hb1⟩
  have sw1 : w.heap.size + 1 + 1 < w1.heap.size := Nat.lt_of_lt_of_le sW1 hb1.size
  have HB1 := Lib.hid (bW1.trans (hb1.mono bW1.size))
  have zW1 : W1.heap.size ≤ w1.heap.size := hb1.size
  have HP2 := Lib.hid (HP1.out.below hb1 (by omega))
  have HR2 := Lib.hid (HR1.out.below hb1 (by omega))
  have HK2 := Lib.hid (HK1.out.below hb1 (by omega))
  have HT1 := Lib.hid hT
  have HT1L : ∀ b, Foot kRow (.slice A1 a.trust.length a.trust.length) L1 b → W1.heap.size ≤ b ∧ b < w1.heap.size := fun b hb => hT.lt hb
  have HM1 := Lib.hid hm1
  clear hT hm1
  have x3 := HP2.out.cell 3 _ rfl
  have x4 := HP2.out.cell 4 _ rfl
  have x5 := HP2.out.cell 5 _ rfl
  have k0 := HK2.out.cell 0 _ rfl
  have r0 := HR2.out.cell 0 _ rfl
  have s0 := HR2.out.free 0 (by simp)
  have k1 := HK2.out.cell 1 _ rfl
  have r1 := HR2.out.cell 1 _ rfl
  have s1 := HR2.out.free 1 (by simp)
  have k2 := HK2.out.cell 2 _ rfl
  have f2 := HK2.out.free 2 (by simp)
  have r2 := HR2.out.cell 2 _ rfl
  have s2 := HR2.out.free 2 (by simp)
  have k3 := HK2.out.cell 3 _ rfl
  have f3 := HK2.out.free 3 (by simp)
  have r3 := HR2.out.cell 3 _ rfl
  have s3 := HR2.out.free 3 (by simp)
  have k4 := HK2.out.cell 4 _ rfl
  have f4 := HK2.out.free 4 (by simp)
  have r4 := HR2.out.cell 4 _ rfl
  have s4 := HR2.out.free 4 (by simp)
  have k5 := HK2.out.cell 5 _ rfl
  have f5 := HK2.out.free 5 (by simp)
  have r5 := HR2.out.cell 5 _ rfl
  have s5 := HR2.out.free 5 (by simp)
  clear hb1 bW1 HP1 HR1 HK1
  go_wp2_with (fail)
  obtain ⟨W2, hW2⟩ : ∃ W : World, W = (w1.setCell ⟨w.heap.size + 1 + 1, 2, none⟩ (.slice A1 a.trust.length a.trust.length)) := ⟨_, rfl⟩
  have tW2 : Touch (fun b => b = w.heap.size + 1 ∨ b = w.heap.size + 1 + 1) w1 W2 := by rw [hW2]; exact (Touch.refl _ _).setCell (F := (fun b => b = w.heap.size + 1 ∨ b = w.heap.size + 1 + 1)) (.inr rfl) _
  have bW2 : Below w.heap.size w W2 := HB1.out.trans (tW2.below (Nat.le_of_lt (Nat.lt_of_le_of_lt (by omega) sw1)) hfr)
  have sW2 : w.heap.size + 1 + 1 < W2.heap.size := Nat.lt_of_lt_of_le sw1 tW2.size
  replace HT1 := Lib.hid (TreeO.touch HT1.out tW2 (fun b hb hf => by have h9 := HT1L b hb; have h8 : b = w.heap.size + 1 ∨ b = w.heap.size + 1 + 1 := hf; omega))
  replace HP2 : Hid (Row W2 w.heap.size [.int .i64 a.day, .int .i64 a.rule, .slice At a.trust.length ct, .slice Ab a.base.length cb, .slice Ac a.acts.length cc, .slice Am a.mots.length cm]) := Lib.hid (by rw [hW2]; exact (HP2.out).far _ (by simp; omega))
  replace HR2 : Hid (Row W2 (w.heap.size + 1) [.int .i64 0, .int .i64 0, .slice none 0 0, .slice none 0 0, .slice none 0 0, .slice none 0 0]) := Lib.hid (by rw [hW2]; exact (HR2.out).far _ (by simp))
  replace HK2 : Hid (Row W2 (w.heap.size + 1 + 1) [.int .i64 a.day, .int .i64 a.rule, .slice A1 a.trust.length a.trust.length, .slice none 0 0, .slice none 0 0, .slice none 0 0]) := Lib.hid (by rw [hW2]; exact (HK2.out).set 2 _ (by simp))
  rw [← hW2]
  have lW2 : w1.heap.size ≤ W2.heap.size := tW2.size
  clear hW2 tW2 x3 x4 x5 k0 r0 s0 k1 r1 s1 k2 r2 s2 f2 k3 r3 s3 f3 k4 r4 s4 f4 k5 r5 s5 f5
  refine (toArts_any a.base _ W2 (HhR.out.on bW2 bW2.size).b Hhf.out.b0).mono ?_
  rintro e2 w2 ⟨A2, L2, rfl, hm2, hT, hb2⟩
  have sw2 : w.heap.size + 1 + 1 < w2.heap.size := Nat.lt_of_lt_of_le sW2 hb2.size
  have HB2 := Lib.hid (bW2.trans (hb2.mono bW2.size))
  replace HT1 := Lib.hid (TreeO.touch HT1.out (Touch.of_below (F := (fun b => b = w.heap.size + 1 ∨ b = w.heap.size + 1 + 1)) hb2) (fun b hb hf => by have h9 := HT1L b hb; have h8 : b = w.heap.size + 1 ∨ b = w.heap.size + 1 + 1 := hf; omega))
  have zW2 : W2.heap.size ≤ w2.heap.size := hb2.size
  have HP3 := Lib.hid (HP2.out.below hb2 (by omega))
  have HR3 := Lib.hid (HR2.out.below hb2 (by omega))
  have HK3 := Lib.hid (HK2.out.below hb2 (by omega))
  have HT2 := Lib.hid hT
  have HT2L : ∀ b, Foot kArt (.slice A2 a.base.length a.base.length) L2 b → W2.heap.size ≤ b ∧ b < w2.heap.size := fun b hb => hT.lt hb
  have HM2 := Lib.hid hm2
  clear hT hm2
  have x4 := HP3.out.cell 4 _ rfl
  have x5 := HP3.out.cell 5 _ rfl
  have k0 := HK3.out.cell 0 _ rfl
  have r0 := HR3.out.cell 0 _ rfl
  have s0 := HR3.out.free 0 (by simp)
  have k1 := HK3.out.cell 1 _ rfl
  have r1 := HR3.out.cell 1 _ rfl
  have s1 := HR3.out.free 1 (by simp)
  have k2 := HK3.out.cell 2 _ rfl
  have r2 := HR3.out.cell 2 _ rfl
  have s2 := HR3.out.free 2 (by simp)
  have k3 := HK3.out.cell 3 _ rfl
  have f3 := HK3.out.free 3 (by simp)
  have r3 := HR3.out.cell 3 _ rfl
  have s3 := HR3.out.free 3 (by simp)
  have k4 := HK3.out.cell 4 _ rfl
  have f4 := HK3.out.free 4 (by simp)
  have r4 := HR3.out.cell 4 _ rfl
  have s4 := HR3.out.free 4 (by simp)
  have k5 := HK3.out.cell 5 _ rfl
  have f5 := HK3.out.free 5 (by simp)
  have r5 := HR3.out.cell 5 _ rfl
  have s5 := HR3.out.free 5 (by simp)
  clear hb2 bW2 HP2 HR2 HK2
  go_wp2_with (fail)
  obtain ⟨W3, hW3⟩ : ∃ W : World, W = (w2.setCell ⟨w.heap.size + 1 + 1, 3, none⟩ (.slice A2 a.base.length a.base.length)) := ⟨_, rfl⟩
  have tW3 : Touch (fun b => b = w.heap.size + 1 ∨ b = w.heap.size + 1 + 1) w2 W3 := by rw [hW3]; exact (Touch.refl _ _).setCell (F := (fun b => b = w.heap.size + 1 ∨ b = w.heap.size + 1 + 1)) (.inr rfl) _
  have bW3 : Below w.heap.size w W3 := HB2.out.trans (tW3.below (Nat.le_of_lt (Nat.lt_of_le_of_lt (by omega) sw2)) hfr)
  have sW3 : w.heap.size + 1 + 1 < W3.heap.size := Nat.lt_of_lt_of_le sw2 tW3.size
  replace HT1 := Lib.hid (TreeO.touch HT1.out tW3 (fun b hb hf => by have h9 := HT1L b hb; have h8 : b = w.heap.size + 1 ∨ b = w.heap.size + 1 + 1 := hf; omega))
  replace HT2 := Lib.hid (TreeO.touch HT2.out tW3 (fun b hb hf => by have h9 := HT2L b hb; have h8 : b = w.heap.size + 1 ∨ b = w.heap.size + 1 + 1 := hf; omega))
  replace HP3 : Hid (Row W3 w.heap.size [.int .i64 a.day, .int .i64 a.rule, .slice At a.trust.length ct, .slice Ab a.base.length cb, .slice Ac a.acts.length cc, .slice Am a.mots.length cm]) := Lib.hid (by rw [hW3]; exact (HP3.out).far _ (by simp; omega))
  replace HR3 : Hid (Row W3 (w.heap.size + 1) [.int .i64 0, .int .i64 0, .slice none 0 0, .slice none 0 0, .slice none 0 0, .slice none 0 0]) := Lib.hid (by rw [hW3]; exact (HR3.out).far _ (by simp))
  replace HK3 : Hid (Row W3 (w.heap.size + 1 + 1) [.int .i64 a.day, .int .i64 a.rule, .slice A1 a.trust.length a.trust.length, .slice A2 a.base.length a.base.length, .slice none 0 0, .slice none 0 0]) := Lib.hid (by rw [hW3]; exact (HK3.out).set 3 _ (by simp))
  rw [← hW3]
  have lW3 : w2.heap.size ≤ W3.heap.size := tW3.size
  clear hW3 tW3 x4 x5 k0 r0 s0 k1 r1 s1 k2 r2 s2 k3 r3 s3 f3 k4 r4 s4 f4 k5 r5 s5 f5
  refine (toActs_any a.acts _ W3 (HhR.out.on bW3 bW3.size).c Hhf.out.c0 Hhf.out.c).mono ?_
  rintro e3 w3 ⟨A3, L3, rfl, hm3, hT, hb3⟩
  have sw3 : w.heap.size + 1 + 1 < w3.heap.size := Nat.lt_of_lt_of_le sW3 hb3.size
  have HB3 := Lib.hid (bW3.trans (hb3.mono bW3.size))
  replace HT1 := Lib.hid (TreeO.touch HT1.out (Touch.of_below (F := (fun b => b = w.heap.size + 1 ∨ b = w.heap.size + 1 + 1)) hb3) (fun b hb hf => by have h9 := HT1L b hb; have h8 : b = w.heap.size + 1 ∨ b = w.heap.size + 1 + 1 := hf; omega))
  replace HT2 := Lib.hid (TreeO.touch HT2.out (Touch.of_below (F := (fun b => b = w.heap.size + 1 ∨ b = w.heap.size + 1 + 1)) hb3) (fun b hb hf => by have h9 := HT2L b hb; have h8 : b = w.heap.size + 1 ∨ b = w.heap.size + 1 + 1 := hf; omega))
  have zW3 : W3.heap.size ≤ w3.heap.size := hb3.size
  have HP4 := Lib.hid (HP3.out.below hb3 (by omega))
  have HR4 := Lib.hid (HR3.out.below hb3 (by omega))
  have HK4 := Lib.hid (HK3.out.below hb3 (by omega))
  have HT3 := Lib.hid hT
  have HT3L : ∀ b, Foot kAct (.slice A3 a.acts.length a.acts.length) L3 b → W3.heap.size ≤ b ∧ b < w3.heap.size := fun b hb => hT.lt hb
  have HM3 := Lib.hid hm3
  clear hT hm3
  have x5 := HP4.out.cell 5 _ rfl
  have k0 := HK4.out.cell 0 _ rfl
  have r0 := HR4.out.cell 0 _ rfl
  have s0 := HR4.out.free 0 (by simp)
  have k1 := HK4.out.cell 1 _ rfl
  have r1 := HR4.out.cell 1 _ rfl
  have s1 := HR4.out.free 1 (by simp)
  have k2 := HK4.out.cell 2 _ rfl
  have r2 := HR4.out.cell 2 _ rfl
  have s2 := HR4.out.free 2 (by simp)
  have k3 := HK4.out.cell 3 _ rfl
  have r3 := HR4.out.cell 3 _ rfl
  have s3 := HR4.out.free 3 (by simp)
  have k4 := HK4.out.cell 4 _ rfl
  have f4 := HK4.out.free 4 (by simp)
  have r4 := HR4.out.cell 4 _ rfl
  have s4 := HR4.out.free 4 (by simp)
  have k5 := HK4.out.cell 5 _ rfl
  have f5 := HK4.out.free 5 (by simp)
  have r5 := HR4.out.cell 5 _ rfl
  have s5 := HR4.out.free 5 (by simp)
  clear hb3 bW3 HP3 HR3 HK3
  go_wp2_with (fail)
  obtain ⟨W4, hW4⟩ : ∃ W : World, W = (w3.setCell ⟨w.heap.size + 1 + 1, 4, none⟩ (.slice A3 a.acts.length a.acts.length)) := ⟨_, rfl⟩
  have tW4 : Touch (fun b => b = w.heap.size + 1 ∨ b = w.heap.size + 1 + 1) w3 W4 := by rw [hW4]; exact (Touch.refl _ _).setCell (F := (fun b => b = w.heap.size + 1 ∨ b = w.heap.size + 1 + 1)) (.inr rfl) _
  have bW4 : Below w.heap.size w W4 := HB3.out.trans (tW4.below (Nat.le_of_lt (Nat.lt_of_le_of_lt (by omega) sw3)) hfr)
  have sW4 : w.heap.size + 1 + 1 < W4.heap.size := Nat.lt_of_lt_of_le sw3 tW4.size
  replace HT1 := Lib.hid (TreeO.touch HT1.out tW4 (fun b hb hf => by have h9 := HT1L b hb; have h8 : b = w.heap.size + 1 ∨ b = w.heap.size + 1 + 1 := hf; omega))
  replace HT2 := Lib.hid (TreeO.touch HT2.out tW4 (fun b hb hf => by have h9 := HT2L b hb; have h8 : b = w.heap.size + 1 ∨ b = w.heap.size + 1 + 1 := hf; omega))
  replace HT3 := Lib.hid (TreeO.touch HT3.out tW4 (fun b hb hf => by have h9 := HT3L b hb; have h8 : b = w.heap.size + 1 ∨ b = w.heap.size + 1 + 1 := hf; omega))
  replace HP4 : Hid (Row W4 w.heap.size [.int .i64 a.day, .int .i64 a.rule, .slice At a.trust.length ct, .slice Ab a.base.length cb, .slice Ac a.acts.length cc, .slice Am a.mots.length cm]) := Lib.hid (by rw [hW4]; exact (HP4.out).far _ (by simp; omega))
  replace HR4 : Hid (Row W4 (w.heap.size + 1) [.int .i64 0, .int .i64 0, .slice none 0 0, .slice none 0 0, .slice none 0 0, .slice none 0 0]) := Lib.hid (by rw [hW4]; exact (HR4.out).far _ (by simp))
  replace HK4 : Hid (Row W4 (w.heap.size + 1 + 1) [.int .i64 a.day, .int .i64 a.rule, .slice A1 a.trust.length a.trust.length, .slice A2 a.base.length a.base.length, .slice A3 a.acts.length a.acts.length, .slice none 0 0]) := Lib.hid (by rw [hW4]; exact (HK4.out).set 4 _ (by simp))
  rw [← hW4]
  have lW4 : w3.heap.size ≤ W4.heap.size := tW4.size
  clear hW4 tW4 x5 k0 r0 s0 k1 r1 s1 k2 r2 s2 k3 r3 s3 k4 r4 s4 f4 k5 r5 s5 f5
  refine (toMots_any a.mots _ W4 (HhR.out.on bW4 bW4.size).m Hhf.out.m0 Hhf.out.m).mono ?_
  rintro e4 w4 ⟨A4, L4, rfl, hm4, hT, hb4⟩
  have sw4 : w.heap.size + 1 + 1 < w4.heap.size := Nat.lt_of_lt_of_le sW4 hb4.size
  have HB4 := Lib.hid (bW4.trans (hb4.mono bW4.size))
  replace HT1 := Lib.hid (TreeO.touch HT1.out (Touch.of_below (F := (fun b => b = w.heap.size + 1 ∨ b = w.heap.size + 1 + 1)) hb4) (fun b hb hf => by have h9 := HT1L b hb; have h8 : b = w.heap.size + 1 ∨ b = w.heap.size + 1 + 1 := hf; omega))
  replace HT2 := Lib.hid (TreeO.touch HT2.out (Touch.of_below (F := (fun b => b = w.heap.size + 1 ∨ b = w.heap.size + 1 + 1)) hb4) (fun b hb hf => by have h9 := HT2L b hb; have h8 : b = w.heap.size + 1 ∨ b = w.heap.size + 1 + 1 := hf; omega))
  replace HT3 := Lib.hid (TreeO.touch HT3.out (Touch.of_below (F := (fun b => b = w.heap.size + 1 ∨ b = w.heap.size + 1 + 1)) hb4) (fun b hb hf => by have h9 := HT3L b hb; have h8 : b = w.heap.size + 1 ∨ b = w.heap.size + 1 + 1 := hf; omega))
  have zW4 : W4.heap.size ≤ w4.heap.size := hb4.size
  have HP5 := Lib.hid (HP4.out.below hb4 (by omega))
  have HR5 := Lib.hid (HR4.out.below hb4 (by omega))
  have HK5 := Lib.hid (HK4.out.below hb4 (by omega))
  have HT4 := Lib.hid hT
  have HT4L : ∀ b, Foot kMot (.slice A4 a.mots.length a.mots.length) L4 b → W4.heap.size ≤ b ∧ b < w4.heap.size := fun b hb => hT.lt hb
  have HM4 := Lib.hid hm4
  clear hT hm4
  have k0 := HK5.out.cell 0 _ rfl
  have r0 := HR5.out.cell 0 _ rfl
  have s0 := HR5.out.free 0 (by simp)
  have k1 := HK5.out.cell 1 _ rfl
  have r1 := HR5.out.cell 1 _ rfl
  have s1 := HR5.out.free 1 (by simp)
  have k2 := HK5.out.cell 2 _ rfl
  have r2 := HR5.out.cell 2 _ rfl
  have s2 := HR5.out.free 2 (by simp)
  have k3 := HK5.out.cell 3 _ rfl
  have r3 := HR5.out.cell 3 _ rfl
  have s3 := HR5.out.free 3 (by simp)
  have k4 := HK5.out.cell 4 _ rfl
  have r4 := HR5.out.cell 4 _ rfl
  have s4 := HR5.out.free 4 (by simp)
  have k5 := HK5.out.cell 5 _ rfl
  have f5 := HK5.out.free 5 (by simp)
  have r5 := HR5.out.cell 5 _ rfl
  have s5 := HR5.out.free 5 (by simp)
  clear hb4 bW4 HP4 HR4 HK4
  go_wp2
  have hres : ∀ (ac : Go.Act) (w' : World), ac.tmps[2]? = some (.pointer (some ⟨w.heap.size + 1, 0, none⟩)) → w'.cell? ⟨w.heap.size + 1, 0, none⟩ = some (.int .i64 a.day) → w'.cell? ⟨w.heap.size + 1, 1, none⟩ = some (.int .i64 a.rule) → w'.cell? ⟨w.heap.size + 1, 2, none⟩ = some (.slice A1 a.trust.length a.trust.length) → w'.cell? ⟨w.heap.size + 1, 3, none⟩ = some (.slice A2 a.base.length a.base.length) → w'.cell? ⟨w.heap.size + 1, 4, none⟩ = some (.slice A3 a.acts.length a.acts.length) → w'.cell? ⟨w.heap.size + 1, 5, none⟩ = some (.slice A4 a.mots.length a.mots.length) → (results Tryz.f13 ac.tmps).run Tryz.prog w' = .ok (.agg #[.int .i64 a.day, .int .i64 a.rule, .slice A1 a.trust.length a.trust.length, .slice A2 a.base.length a.base.length, .slice A3 a.acts.length a.acts.length, .slice A4 a.mots.length a.mots.length]) w' := by
    intro ac w' ha hh0 hh1 hh2 hh3 hh4 hh5
    simp [results, Tryz.results13, go_sem, ha, hh0, hh1, hh2, hh3, hh4, hh5]
  refine bodyPost_ret (hres _ _ rfl (by simp [go_sem, r0]) (by simp [go_sem, r1]) (by simp [go_sem, r2]) (by simp [go_sem, r3]) (by simp [go_sem, r4]) (by simp [go_sem, r5])) rfl ?_
  have tF : Touch (fun b => b = w.heap.size + 1 ∨ b = w.heap.size + 1 + 1) w4 (((((((w4.setCell ⟨w.heap.size + 1 + 1, 5, none⟩ (.slice A4 a.mots.length a.mots.length)).setCell ⟨w.heap.size + 1, 0, none⟩ (.int .i64 a.day)).setCell ⟨w.heap.size + 1, 1, none⟩ (.int .i64 a.rule)).setCell ⟨w.heap.size + 1, 2, none⟩ (.slice A1 a.trust.length a.trust.length)).setCell ⟨w.heap.size + 1, 3, none⟩ (.slice A2 a.base.length a.base.length)).setCell ⟨w.heap.size + 1, 4, none⟩ (.slice A3 a.acts.length a.acts.length)).setCell ⟨w.heap.size + 1, 5, none⟩ (.slice A4 a.mots.length a.mots.length)) := by
    iterate 7 refine Touch.setCell ?_ (by first | exact .inl rfl | exact .inr rfl) _
    exact Touch.refl _ _
  replace HT1 := Lib.hid (TreeO.touch HT1.out tF (fun b hb hf => by have h9 := HT1L b hb; have h8 : b = w.heap.size + 1 ∨ b = w.heap.size + 1 + 1 := hf; omega))
  replace HT2 := Lib.hid (TreeO.touch HT2.out tF (fun b hb hf => by have h9 := HT2L b hb; have h8 : b = w.heap.size + 1 ∨ b = w.heap.size + 1 + 1 := hf; omega))
  replace HT3 := Lib.hid (TreeO.touch HT3.out tF (fun b hb hf => by have h9 := HT3L b hb; have h8 : b = w.heap.size + 1 ∨ b = w.heap.size + 1 + 1 := hf; omega))
  replace HT4 := Lib.hid (TreeO.touch HT4.out tF (fun b hb hf => by have h9 := HT4L b hb; have h8 : b = w.heap.size + 1 ∨ b = w.heap.size + 1 + 1 := hf; omega))
  have hbF := HB4.out.trans (tF.below (Nat.le_of_lt (Nat.lt_of_le_of_lt (by omega) sw4)) hfr)
  exact asm_ret rfl HM1.out HM2.out HM3.out HM4.out (HT1.out.less (by omega)) (HT2.out.less (by omega)) (HT3.out.less (by omega)) (HT4.out.less (by omega)) HT1L HT2L HT3L HT4L lW2 lW3 lW4 zW2 zW3 hbF
theorem AsmR.slices {w : World} {B : Nat} {x : VAsm} {a : Asm} (h : AsmR w B x a) : ∃ At ct Ab cb Ac cc Am cm, x = ⟨.slice At a.trust.length ct, .slice Ab a.base.length cb, .slice Ac a.acts.length cc, .slice Am a.mots.length cm⟩ := by
  obtain ⟨At, ct, et, -⟩ := rows_at h.t
  obtain ⟨Ab, cb, eb, -⟩ := h.b
  obtain ⟨Ac, cc, ec, -⟩ := acts_at h.c
  obtain ⟨Am, cm, em, -⟩ := mots_at h.m
  obtain ⟨xt, xb, xc, xm⟩ := x
  exact ⟨At, ct, Ab, cb, Ac, cc, Am, cm, by rw [show xt = _ from et, show xb = _ from eb, show xc = _ from ec, show xm = _ from em]⟩
theorem toAsm_any (a : Asm) (x : VAsm) (w : World) (h : AsmR w w.heap.size x a) (hf : AsmFits a) : Calls Tryz.prog 13 #[asmV a x] w (RetAsm a w) := by
  obtain ⟨At, ct, Ab, cb, Ac, cc, Am, cm, rfl⟩ := h.slices
  exact toAsm_go a At ct Ab cb Ac cc Am cm w h hf
end Go.Proofs.YtnandbammmcncaaGreat

namespace Go.Proofs.YtnandbammmcncaaGreat
open Go.Joins Go.ChangeShapes Go.WideShapes Go.RowKit Go.Deep

section
variable {H : Type} {enc : TypeId × Value → H} {P : Program} {w : World} {base : Nat} {spare : Nat → Bool} {held : Bool}
theorem open_slice_fields {t e : TypeId} {fs : Array Field} {fuel : Nat} {cs : List Value} {x : DataW H × List MemPlace} (ht : P.underlying t = some (.slice e)) (he : P.underlying e = some (.struct fs))
    (hone : oneCellFields P fs = true) (hC : P.cellsOf e = fs.size) (h : DataW.trod enc P w base spare held fuel t cs = some x) :
    (cs = [.slice none 0 0] ∧ x = (.nil, [])) ∨
    ∃ (a : Addr) (len cap m : Nat) (D : Nat → DataW H) (Pl : Nat → List MemPlace), cs = [.slice (some a) len cap] ∧ base ≤ a.block ∧ len ≤ cap ∧ cap ≤ maxLen ∧ m = (if spare a.block then cap else len) ∧
      x = (.slice ((List.range len).map D) ((List.range (m - len)).map fun j => D (len + j)), MemPlace.row a (m * fs.size) ++ (List.range m).flatMap Pl) ∧
      ∀ i, i < m → ∃ (ys : List (DataW H × List MemPlace)) (n : Nat), D i = .agg (ys.map (·.1)) ∧ Pl i = ys.flatMap (·.2) ∧ ys.length = fs.size ∧
        ∀ (j : Nat) (f : Field), fs[j]? = some f → ∃ (v : Value) (y : DataW H × List MemPlace), w.cell? (a.add (i * fs.size + j)) = some v ∧ ys[j]? = some y ∧ DataW.trod enc P w base spare held n f.type [v] = some y := by
  rcases open_slice ht h with h0 | ⟨a, len, cap, m, n, D, Pl, hcs, hb, hl, hm, hmm, hx, hi⟩
  · exact .inl h0
  · refine .inr ⟨a, len, cap, m, D, Pl, hcs, hb, hl, hm, hmm, by rw [hC] at hx; exact hx, fun i him => ?_⟩
    obtain ⟨cs', hc, ht'⟩ := hi i him
    rw [hC] at hc
    obtain ⟨ys, n', hn', hy, hlen, hyl, hf⟩ := DataW.trod_struct he ht'
    obtain ⟨_, hcl, hat⟩ := World.cells?_some hc
    simp only [Prod.mk.injEq] at hy
    refine ⟨ys, n', hy.1, hy.2, hyl, fun j f hj => ?_⟩
    obtain ⟨ho, hk⟩ := hone_of hone j f hj
    have hjl : j < fs.size := (Array.getElem?_eq_some_iff.1 hj).1
    have hcell := hat j hjl
    have hv : cs'[j]? = some (cs'[j]'(by omega)) := List.getElem?_eq_getElem (by omega)
    have h1 := hf j f hj
    rw [ho, hk] at h1
    have hone' : (cs'.drop j).take 1 = [cs'[j]'(by omega)] := by
      rw [List.drop_eq_getElem_cons (by omega)]
      rfl
    rw [hone'] at h1
    have hys : ys[j]? = some (ys[j]'(by omega)) := List.getElem?_eq_getElem (by omega)
    refine ⟨_, _, ?_, hys, h1.trans hys⟩
    rw [← Go.Deep.add_add, hcell, hv]
end

theorem spot_none {w : World} {a : Addr} {v : Value} (h : w.cell? a = some v) : a.spot = none := by simpa using World.cell?_spot h
theorem add_off (b off i : Nat) : (⟨b, off, none⟩ : Addr).add i = ⟨b, off + i, none⟩ := by
  unfold Addr.add
  by_cases h : i = 0 <;> simp [h]
theorem block_lt {w : World} {b o : Nat} {v : Value} (h : w.cell? ⟨b, o, none⟩ = some v) : b < w.heap.size := World.block_lt_of_cell? w ⟨b, o, none⟩ h

section
variable {H : Type} {enc : TypeId × Value → H} {P : Program} {w : World} {base fuel : Nat} {held : Bool} {x : DataW H × List MemPlace}
/-- A slice of numbers that came in. -/
theorem ints_of {t e : TypeId} {v : Value} (ht : P.underlying t = some (.slice e)) (he : P.underlying e = some (.int .i64)) (hc : P.cellsOf e = 1) (h : DataW.trod enc P w base (fun _ => true) held fuel t [v] = some x) :
    ∃ A n c zs, v = .slice A n c ∧ Ints w w.heap.size (.slice A n c) zs := by
  rcases open_ints ht he hc h with ⟨hcs, _⟩ | ⟨a, len, cap, zs, hcs, _, hl, hm, hz, _, hcell, _⟩
  · simp only [List.cons.injEq, and_true] at hcs
    exact ⟨none, 0, 0, [], hcs, SlR.nil _ _ _ _ _ _ (Nat.zero_le _)⟩
  · simp only [List.cons.injEq, and_true] at hcs
    have hz' : zs.length = cap := by simpa using hz
    have hlen : (zs.take len).length = len := by rw [List.length_take]; omega
    refine ⟨some a, len, cap, zs.take len, hcs, ⟨some a, cap, by rw [hlen], by omega, hm, fun h0 => ?_⟩⟩
    have h0c := hcell 0 (by omega)
    obtain ⟨b, off, spot⟩ := a
    have hs : spot = none := by simpa [Addr.add] using spot_none h0c
    subst hs
    refine ⟨b, off, rfl, ?_, fun k z hk => ⟨intCells z, rfl, rfl, fun j u hu => ?_⟩⟩
    · rw [add_off] at h0c; exact block_lt h0c
    · match j, hu with
      | 0, hu =>
        injection hu with hu
        subst hu
        have hk2 : k < len := by have := (List.getElem?_eq_some_iff.1 hk).1; omega
        have := hcell k (by omega)
        rw [add_off] at this
        rw [Nat.mul_one, Nat.add_zero, this]
        rw [List.getElem?_take, if_pos hk2] at hk
        rw [List.getD_eq_getElem?_getD, hk]
        rfl

/-- A slice of edits that came in. -/
theorem edits_of {t e : TypeId} {v : Value} {fs : Array Field} {f0 f1 f2 f3 : Field} (ht : P.underlying t = some (.slice e)) (he : P.underlying e = some (.struct fs)) (hfs : fs = #[f0, f1, f2, f3]) (hone : oneCellFields P fs = true) (hC : P.cellsOf e = fs.size)
    (t0 : P.underlying f0.type = some (.int .i64)) (t1 : P.underlying f1.type = some (.int .i64)) (t2 : P.underlying f2.type = some .string) (t3 : P.underlying f3.type = some .string)
    (h : DataW.trod enc P w base (fun _ => true) held fuel t [v] = some x) :
    ∃ A n c es, v = .slice A n c ∧ Edits w w.heap.size (.slice A n c) es ∧ SizesOk es := by
  rcases open_slice_fields ht he hone hC h with ⟨hcs, _⟩ | ⟨a, len, cap, m, D, Pl', hcs, _, hl, hm, hmm, _, hi⟩
  · simp only [List.cons.injEq, and_true] at hcs
    exact ⟨none, 0, 0, [], hcs, SlR.nil _ _ _ _ _ _ (Nat.zero_le _), fun e he => by cases he⟩
  · simp only [List.cons.injEq, and_true] at hcs
    have hmc : m = cap := by simpa using hmm
    have H : ∀ i, i < m → ∃ e : Edit, SizeOk e ∧ w.cell? (a.add (i * 4)) = some (.int .i64 e.kind) ∧ w.cell? (a.add (i * 4 + 1)) = some (.int .i64 e.id) ∧ w.cell? (a.add (i * 4 + 2)) = some (.string e.old) ∧ w.cell? (a.add (i * 4 + 3)) = some (.string e.new) := by
      intro i him
      obtain ⟨ys, n, _, _, _, hf⟩ := hi i him
      subst hfs
      obtain ⟨u0, y0, c0, _, r0⟩ := hf 0 f0 rfl
      obtain ⟨u1, y1, c1, _, r1⟩ := hf 1 f1 rfl
      obtain ⟨u2, y2, c2, _, r2⟩ := hf 2 f2 rfl
      obtain ⟨u3, y3, c3, _, r3⟩ := hf 3 f3 rfl
      obtain ⟨k0, e0, _, _⟩ := DataW.trod_int t0 r0
      obtain ⟨k1, e1, _, _⟩ := DataW.trod_int t1 r1
      obtain ⟨s2, e2, _, l2⟩ := DataW.trod_string t2 r2
      obtain ⟨s3, e3, _, l3⟩ := DataW.trod_string t3 r3
      simp only [List.cons.injEq, and_true] at e0 e1 e2 e3
      subst e0 e1 e2 e3
      exact ⟨⟨k0, k1, s2, s3⟩, ⟨l2, l3⟩, c0, c1, c2, c3⟩
    obtain ⟨F, hF⟩ : ∃ F : Nat → Edit, ∀ i, i < m → SizeOk (F i) ∧ w.cell? (a.add (i * 4)) = some (.int .i64 (F i).kind) ∧ w.cell? (a.add (i * 4 + 1)) = some (.int .i64 (F i).id) ∧ w.cell? (a.add (i * 4 + 2)) = some (.string (F i).old) ∧ w.cell? (a.add (i * 4 + 3)) = some (.string (F i).new) :=
      ⟨fun i => if h : i < m then Classical.choose (H i h) else ⟨0, 0, ⟨#[]⟩, ⟨#[]⟩⟩, fun i hi => by simp only [dif_pos hi]; exact Classical.choose_spec (H i hi)⟩
    clear H
    have hlen : ((List.range len).map F).length = len := by simp
    have hget : ∀ (i : Nat) (e : Edit), ((List.range len).map F)[i]? = some e → i < m ∧ e = F i := by
      intro i e he
      have hi : i < len := by have := (List.getElem?_eq_some_iff.1 he).1; omega
      refine ⟨by omega, ?_⟩
      simp only [List.getElem?_map, List.getElem?_range hi, Option.map_some, Option.some.injEq] at he
      exact he.symm
    refine ⟨some a, len, cap, (List.range len).map F, hcs, ⟨some a, cap, by rw [hlen], by omega, hm, fun h0 => ?_⟩, fun e he => ?_⟩
    · obtain ⟨_, c0, _⟩ := hF 0 (by omega)
      obtain ⟨b, off, spot⟩ := a
      have hs : spot = none := by simpa [Addr.add] using spot_none c0
      subst hs
      rw [add_off] at c0
      refine ⟨b, off, rfl, block_lt c0, fun k z hk => ⟨editCells z, rfl, rfl, fun j u hu => ?_⟩⟩
      obtain ⟨hkm, rfl⟩ := hget k z hk
      obtain ⟨_, d0, d1, d2, d3⟩ := hF k hkm
      simp only [add_off] at d0 d1 d2 d3
      match j, hu with
      | 0, hu => injection hu with hu; subst hu; exact d0
      | 1, hu => injection hu with hu; subst hu; rw [Nat.add_assoc]; exact d1
      | 2, hu => injection hu with hu; subst hu; rw [Nat.add_assoc]; exact d2
      | 3, hu => injection hu with hu; subst hu; rw [Nat.add_assoc]; exact d3
    · obtain ⟨i, hi⟩ := List.getElem?_of_mem he
      obtain ⟨him, rfl⟩ := hget i e hi
      exact (hF i him).1
end
end Go.Proofs.YtnandbammmcncaaGreat
