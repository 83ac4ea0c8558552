/- A statute drawn, walked: the reference's. -/
import Derived.Test.YtmgdodgofpapgaaDoorDo
import Derived.Test.YtmgdodgofpapgaaDoorSr
namespace Go.Proofs.YtmgdodgofpapgaaDoor
open Go.RowKit Go.Lib

def StatDraw (B : Nat) (w : World) (b k : Nat) (e : Ending) (w' : World) : Prop :=
  ∃ v L, e = .returned v ∧ OwnL artCells L w.heap.size w' v ∧ okStat L = true ∧ Src B w' b k ∧ Only b w w'

/-- A statute that is being drawn. -/
structure Drawn (L : List Art) (d : Int) : Prop where
  rise : RiseA L
  all : ∀ a ∈ L, 1 ≤ a.id ∧ a.id ≤ d ∧ okSent a.text.toList = true
  d0 : 0 ≤ d
  d1 : d ≤ 2 * L.length
theorem Drawn.nil : Drawn [] 0 := ⟨List.Pairwise.nil, fun a h => (by cases h), by omega, by simp⟩
theorem Drawn.snoc {L : List Art} {d x : Int} {l : List UInt8} (h : Drawn L d) (hx : 0 ≤ x) (hx1 : x < 2) (hl : okSent l = true) : Drawn (L ++ [⟨d + (1 + x), ⟨l.toArray⟩⟩]) (d + (1 + x)) where
  rise := by
    have hr := h.rise
    unfold RiseA at *
    rw [List.pairwise_append]
    refine ⟨hr, by simp, fun a ha c hc => ?_⟩
    rw [List.mem_singleton] at hc
    subst hc
    have := h.all a ha
    show a.id < d + (1 + x)
    omega
  all := fun a ha => by
    have := h.d0
    rcases List.mem_append.1 ha with ha | ha
    · have h3 := h.all a ha
      exact ⟨h3.1, by omega, h3.2.2⟩
    · rw [List.mem_singleton] at ha
      subst ha
      refine ⟨by show 1 ≤ d + (1 + x); omega, Int.le_refl _, ?_⟩
      show okSent (⟨l.toArray⟩ : ByteArray).toList = true
      rw [ByteArray.toList_eq]
      exact hl
  d0 := by have := h.d0; omega
  d1 := by have := h.d1; rw [List.length_append]; simp; omega
theorem Drawn.ok {L : List Art} {d : Int} (h : Drawn L d) (h8 : L.length ≤ 8) : okStat L = true := by
  rw [okStat_iff]
  refine ⟨fun a ha => ?_, h.rise, h8⟩
  obtain ⟨h1, h2, h3⟩ := h.all a ha
  have := h.d1
  unfold okArt
  rw [inB_true h1 (by omega), h3]
  rfl
theorem Drawn.last {L : List Art} {a : Art} {d : Int} (h : Drawn (L ++ [a]) d) (h8 : (L ++ [a]).length ≤ 8) : okStat (L ++ [⟨99, a.text⟩]) = true := by
  rw [okStat_iff]
  have hr := h.rise
  have hd := h.d1
  unfold RiseA at hr
  rw [List.pairwise_append] at hr
  refine ⟨fun x hx => ?_, ?_, by simpa using h8⟩
  · rcases List.mem_append.1 hx with hx | hx
    · obtain ⟨h1, h2, h3⟩ := h.all x (List.mem_append_left _ hx)
      unfold okArt
      rw [inB_true h1 (by omega), h3]
      rfl
    · rw [List.mem_singleton] at hx
      subst hx
      obtain ⟨_, _, h3⟩ := h.all a (by simp)
      unfold okArt
      rw [h3]
      rfl
  · unfold RiseA
    rw [List.pairwise_append]
    refine ⟨hr.1, by simp, fun x hx y hy => ?_⟩
    rw [List.mem_singleton] at hy
    subst hy
    obtain ⟨h1, h2, h3⟩ := h.all x (List.mem_append_left _ hx)
    show x.id < 99
    omega
theorem art_set (L : List Art) (a : Art) (n : Int) : ((L ++ [a]).flatMap artCells).set (L.length * 2) (.int .i64 n) = (L ++ [(⟨n, a.text⟩ : Art)]).flatMap artCells := by
  have hl : (L.flatMap artCells).length = L.length * 2 := by
    induction L with
    | nil => rfl
    | cons x r ih => rw [List.flatMap_cons, List.length_append, ih]; simp [artCells]; omega
  rw [flat_snoc, flat_snoc, List.set_append, if_neg (by omega), hl, Nat.sub_self]
  rfl
theorem art_cell (L : List Art) (a : Art) : ((L ++ [a]).flatMap artCells)[L.length * 2]? = some (.int .i64 a.id) := by
  have hl : (L.flatMap artCells).length = L.length * 2 := by
    induction L with
    | nil => rfl
    | cons x r ih => rw [List.flatMap_cons, List.length_append, ih]; simp [artCells]; omega
  rw [flat_snoc, List.getElem?_append_right (by omega), hl, Nat.sub_self]
  rfl

set_option maxRecDepth 100000 in
set_option maxHeartbeats 4000000 in
theorem drawOk_any (B b k : Nat) (w : World) (h : Src B w b k) (hk : k ≤ 50000) :
    Calls Tryd.prog 13 #[.pointer (some ⟨b, 0, none⟩)] w (StatDraw B w b (k + 60)) := by
  have H := Lib.hid h
  have HB := Lib.hid h.lt.1
  clear h
  obtain ⟨i0, hi, hz0, hz1, hz2⟩ := info_parts Tryd.infoA
  go_enter Tryd.func13, Tryd.ntmps13
  go_wp2_with (fail)
  refine (pick_pos B b k 6 _ (H.out.alloc _) (by omega) (by omega) (by omega)).mono ?_
  rintro e w1 ⟨n1, hn1, rfl, hs1, ho1⟩
  have hown1 : w1.ownsRow w.heap.size 48 2 (.slice (some ⟨w.heap.size, 0, none⟩) 0 0) 0 [] := own_only (by simpa using World.ownsRow_made w #[] 0 (Nat.le_refl _) (Nat.zero_le _) rfl) HB.out ho1
  have HO1 : Hid (Only b w w1) := Lib.hid (only_trans (only_of_below ((Below.refl w.heap.size w).alloc (Nat.le_refl _) _)) ho1)
  have HS1 := Lib.hid hs1
  have HOWN1 := Lib.hid hown1
  clear hs1 ho1 hown1
  go_wp2_with (fail)
  refine (one_any B b _ 10 w1 HS1.out (by omega) (by omega) (by omega)).mono ?_
  rintro e w2 ⟨x, rfl, hs2, ho2⟩
  have HOWN2 := Lib.hid (own_only HOWN1.out HB.out ho2)
  have HO2 := Lib.hid (only_trans HO1.out ho2)
  have Hs2 := Lib.hid hs2
  clear hs2 ho2
  cases x with
  | false =>
    go_wp2
    go_loopw [3, 4, 5] (fun o i n wr => ∃ (L : List Art) (m : Nat) (d : Int), wr.ownsRow w.heap.size 48 2 o L.length (L.flatMap artCells) ∧ i = .int .i64 d ∧ n = .int .i64 (m : Int) ∧ L.length + m ≤ 8 ∧ Drawn L d ∧ o ≠ .slice none 0 0 ∧ Src B wr b (k + 4 + 4 * L.length) ∧ Only b w wr) (fun _ _ n _ => (RowKit.intOf n).toNat)
    case atStart => exact ⟨[], n1, 0, HOWN2.out, rfl, rfl, (by simp <;> omega), Drawn.nil, by simp, Hs2.out.more (by simp), HO2.out⟩
    case round =>
      obtain ⟨L, m, d, hown, rfl, rfl, hlm, hD, hnn, hs, ho⟩ := hrel
      obtain ⟨g, cap, rfl, hdc, hcm⟩ := own_some hown hnn
      unfold maxLen at hcm
      have HOWN := Lib.hid hown
      have HD := Lib.hid hD
      have HS := Lib.hid hs
      have HO := Lib.hid ho
      have hd0 := hD.d0
      have hd1 := hD.d1
      clear hown hD hs ho hnn
      by_cases hm : 0 < m
      · have hm' : (0 : Int) < (m : Int) := by omega
        go_wp2_with (fail)
        refine (pick_pos B b _ 2 wr HS.out (by omega) (by omega) (by omega)).mono ?_
        rintro e w3 ⟨x, hx, rfl, hs3, ho3⟩
        have HS3 := Lib.hid hs3
        have HO3 := Lib.hid ho3
        clear hs3 ho3
        go_wp2_with (fail)
        refine (drawSent_any B b _ w3 HS3.out (by omega)).mono ?_
        rintro e w4 ⟨l, hl, rfl, hs4, ho4⟩
        have hown := own_only (own_only HOWN.out HB.out HO3.out) HB.out ho4
        have HO4 : Hid (Only b w w4) := Lib.hid (only_trans (only_trans HO.out HO3.out) ho4)
        have HS4 := Lib.hid hs4
        have HL := Lib.hid hl
        have hsz4 := HO4.out.size
        clear hs4 ho4 hl
        go_wp2_with (at_builtin; refine wpList_append_own _ rfl _ _ 24 rfl w.heap.size 48 i0 (.agg #[.int .i64 0, .string ⟨#[]⟩]) 2 24 Tryd.underlying24 hi hz0 hz1 hz2 rfl (by decide) _ _ _ rfl (hown.alloc _) ⟨w4.heap.size, 0, none⟩ 1 1 (artCells ⟨d + (1 + (x : Int)), ⟨l.toArray⟩⟩) rfl rfl (fun j u hj => new_at hj) (fun u hu => art_one hu) ?c3 ?c4 (base_le hsz4) ?_)
        case c3 => unfold maxLen; omega
        case c4 => omega
        · intro v' w5 hown' hgrow hiff
          have hnn' : v' ≠ .slice none 0 0 := by simpa using hiff
          have hr : ∀ j, (Value.slice (some ⟨g, 0, none⟩) L.length cap).ownBlock = some j → w.heap.size ≤ j := fun j hj => (hown.lt j hj).1
          have HO5 := Lib.hid (only_grown (only_alloc HO4.out _) hgrow hr)
          have HS5 := Lib.hid ((HS4.out.alloc _).grown hgrow (fun j hj => Nat.lt_of_lt_of_le HB.out (hr j hj)))
          clear hown hgrow hiff hr
          go_wp2
          go_roundw
          case rel => exact ⟨L ++ [⟨d + (1 + (x : Int)), ⟨l.toArray⟩⟩], m - 1, d + (1 + (x : Int)), by rw [flat_snoc, List.length_append]; exact hown', rfl, by go_num, by rw [List.length_append]; simp; omega, HD.out.snoc (by omega) (by omega) HL.out, hnn', HS5.out.more (by rw [List.length_append]; simp; omega), HO5.out⟩
          case measure => simp [RowKit.intOf]; omega
      · have hm0 : m = 0 := by omega
        subst hm0
        have hL8 : L.length ≤ 8 := by omega
        by_cases hL : L = []
        · subst hL
          have HOL : Hid (OwnL artCells [] w.heap.size wr (.slice (some ⟨g, 0, none⟩) 0 cap)) := Lib.hid (OwnL.of_own artCells (size := 2) (fun _ => rfl) HOWN.out)
          go_wp2
          go_ret
          exact ⟨_, [], rfl, HOL.out, HD.out.ok (by simp), HS.out.more (by simp), HO.out⟩
        · obtain ⟨L', a, rfl⟩ : ∃ L' a, L = L' ++ [a] := ⟨L.dropLast, L.getLast hL, (List.dropLast_concat_getLast hL).symm⟩
          have hll : (L' ++ [a]).length = L'.length + 1 := by simp
          rw [hll] at hL8 hlm hdc hd1 HOWN HS
          have hpos : (0 : Int) < ((L'.length + 1 : Nat) : Int) := by omega
          have HOL : Hid (OwnL artCells (L' ++ [a]) w.heap.size wr (.slice (some ⟨g, 0, none⟩) (L'.length + 1) cap)) := Lib.hid (OwnL.of_own artCells (size := 2) (fun _ => rfl) (by rw [hll]; exact HOWN.out))
          go_wp2_with (fail)
          refine (one_any B b _ 10 wr HS.out (by omega) (by omega) (by omega)).mono ?_
          rintro e w3 ⟨x, rfl, hs3, ho3⟩
          have HO3 := Lib.hid (only_trans HO.out ho3)
          have HS3 := Lib.hid hs3
          have HOL3 := Lib.hid (HOL.out.only HB.out ho3)
          clear hs3 ho3
          cases x with
          | false =>
            go_wp2
            go_ret
            exact ⟨_, _, rfl, HOL3.out, HD.out.ok (by rw [hll]; omega), HS3.out.more (by omega), HO3.out⟩
          | true =>
            obtain ⟨A', c', hv, hc1, hc2, hc3⟩ := HOL3.out
            obtain ⟨g', hA', hg', hgl, hrow⟩ := hc3 (by simp)
            injection hv with hv1 hv2 hv3
            rw [hA'] at hv1
            injection hv1 with hv1
            injection hv1 with hv1
            subst hv1
            subst hv3
            have x0 := hrow.cell (L'.length * 2) _ (art_cell L' a)
            have f0 := hrow.free (L'.length * 2) (by have := (List.getElem?_eq_some_iff.1 (art_cell L' a)).1; exact this)
            have hr2 := hrow.set (L'.length * 2) (.int .i64 99) (by have := (List.getElem?_eq_some_iff.1 (art_cell L' a)).1; exact this)
            rw [art_set] at hr2
            have HR2 := Lib.hid hr2
            have HGL := Lib.hid hgl
            clear hr2 hrow hc3 hA' hv2 hgl
            go_wp2
            go_ret
            refine ⟨_, L' ++ [⟨99, a.text⟩], rfl, ⟨_, cap, by rw [show (L' ++ [(⟨99, a.text⟩ : Art)]).length = L'.length + 1 by simp]; rfl, by simpa using hc1, hc2, fun _ => ⟨g, rfl, hg', by simpa [World.setCell] using HGL.out, HR2.out⟩⟩, HD.out.last (by rw [hll]; omega), (HS3.out.more (by omega)).below (D := w.heap.size) ((Below.refl _ _).setCell (by simpa using hg') _) HB.out, only_setCell HO3.out (.inr (by simpa using hg')) _⟩
  | true =>
    go_wp2
    go_loopw [3, 4, 5] (fun o i n wr => ∃ (L : List Art) (m : Nat) (d : Int), wr.ownsRow w.heap.size 48 2 o L.length (L.flatMap artCells) ∧ i = .int .i64 d ∧ n = .int .i64 (m : Int) ∧ L.length + m ≤ 8 ∧ Drawn L d ∧ o ≠ .slice none 0 0 ∧ Src B wr b (k + 4 + 4 * L.length) ∧ Only b w wr) (fun _ _ n _ => (RowKit.intOf n).toNat)
    case atStart => exact ⟨[], 8, 0, HOWN2.out, rfl, rfl, (by simp <;> omega), Drawn.nil, by simp, Hs2.out.more (by simp), HO2.out⟩
    case round =>
      obtain ⟨L, m, d, hown, rfl, rfl, hlm, hD, hnn, hs, ho⟩ := hrel
      obtain ⟨g, cap, rfl, hdc, hcm⟩ := own_some hown hnn
      unfold maxLen at hcm
      have HOWN := Lib.hid hown
      have HD := Lib.hid hD
      have HS := Lib.hid hs
      have HO := Lib.hid ho
      have hd0 := hD.d0
      have hd1 := hD.d1
      clear hown hD hs ho hnn
      by_cases hm : 0 < m
      · have hm' : (0 : Int) < (m : Int) := by omega
        go_wp2_with (fail)
        refine (pick_pos B b _ 2 wr HS.out (by omega) (by omega) (by omega)).mono ?_
        rintro e w3 ⟨x, hx, rfl, hs3, ho3⟩
        have HS3 := Lib.hid hs3
        have HO3 := Lib.hid ho3
        clear hs3 ho3
        go_wp2_with (fail)
        refine (drawSent_any B b _ w3 HS3.out (by omega)).mono ?_
        rintro e w4 ⟨l, hl, rfl, hs4, ho4⟩
        have hown := own_only (own_only HOWN.out HB.out HO3.out) HB.out ho4
        have HO4 : Hid (Only b w w4) := Lib.hid (only_trans (only_trans HO.out HO3.out) ho4)
        have HS4 := Lib.hid hs4
        have HL := Lib.hid hl
        have hsz4 := HO4.out.size
        clear hs4 ho4 hl
        go_wp2_with (at_builtin; refine wpList_append_own _ rfl _ _ 24 rfl w.heap.size 48 i0 (.agg #[.int .i64 0, .string ⟨#[]⟩]) 2 24 Tryd.underlying24 hi hz0 hz1 hz2 rfl (by decide) _ _ _ rfl (hown.alloc _) ⟨w4.heap.size, 0, none⟩ 1 1 (artCells ⟨d + (1 + (x : Int)), ⟨l.toArray⟩⟩) rfl rfl (fun j u hj => new_at hj) (fun u hu => art_one hu) ?c3 ?c4 (base_le hsz4) ?_)
        case c3 => unfold maxLen; omega
        case c4 => omega
        · intro v' w5 hown' hgrow hiff
          have hnn' : v' ≠ .slice none 0 0 := by simpa using hiff
          have hr : ∀ j, (Value.slice (some ⟨g, 0, none⟩) L.length cap).ownBlock = some j → w.heap.size ≤ j := fun j hj => (hown.lt j hj).1
          have HO5 := Lib.hid (only_grown (only_alloc HO4.out _) hgrow hr)
          have HS5 := Lib.hid ((HS4.out.alloc _).grown hgrow (fun j hj => Nat.lt_of_lt_of_le HB.out (hr j hj)))
          clear hown hgrow hiff hr
          go_wp2
          go_roundw
          case rel => exact ⟨L ++ [⟨d + (1 + (x : Int)), ⟨l.toArray⟩⟩], m - 1, d + (1 + (x : Int)), by rw [flat_snoc, List.length_append]; exact hown', rfl, by go_num, by rw [List.length_append]; simp; omega, HD.out.snoc (by omega) (by omega) HL.out, hnn', HS5.out.more (by rw [List.length_append]; simp; omega), HO5.out⟩
          case measure => simp [RowKit.intOf]; omega
      · have hm0 : m = 0 := by omega
        subst hm0
        have hL8 : L.length ≤ 8 := by omega
        by_cases hL : L = []
        · subst hL
          have HOL : Hid (OwnL artCells [] w.heap.size wr (.slice (some ⟨g, 0, none⟩) 0 cap)) := Lib.hid (OwnL.of_own artCells (size := 2) (fun _ => rfl) HOWN.out)
          go_wp2
          go_ret
          exact ⟨_, [], rfl, HOL.out, HD.out.ok (by simp), HS.out.more (by simp), HO.out⟩
        · obtain ⟨L', a, rfl⟩ : ∃ L' a, L = L' ++ [a] := ⟨L.dropLast, L.getLast hL, (List.dropLast_concat_getLast hL).symm⟩
          have hll : (L' ++ [a]).length = L'.length + 1 := by simp
          rw [hll] at hL8 hlm hdc hd1 HOWN HS
          have hpos : (0 : Int) < ((L'.length + 1 : Nat) : Int) := by omega
          have HOL : Hid (OwnL artCells (L' ++ [a]) w.heap.size wr (.slice (some ⟨g, 0, none⟩) (L'.length + 1) cap)) := Lib.hid (OwnL.of_own artCells (size := 2) (fun _ => rfl) (by rw [hll]; exact HOWN.out))
          go_wp2_with (fail)
          refine (one_any B b _ 10 wr HS.out (by omega) (by omega) (by omega)).mono ?_
          rintro e w3 ⟨x, rfl, hs3, ho3⟩
          have HO3 := Lib.hid (only_trans HO.out ho3)
          have HS3 := Lib.hid hs3
          have HOL3 := Lib.hid (HOL.out.only HB.out ho3)
          clear hs3 ho3
          cases x with
          | false =>
            go_wp2
            go_ret
            exact ⟨_, _, rfl, HOL3.out, HD.out.ok (by rw [hll]; omega), HS3.out.more (by omega), HO3.out⟩
          | true =>
            obtain ⟨A', c', hv, hc1, hc2, hc3⟩ := HOL3.out
            obtain ⟨g', hA', hg', hgl, hrow⟩ := hc3 (by simp)
            injection hv with hv1 hv2 hv3
            rw [hA'] at hv1
            injection hv1 with hv1
            injection hv1 with hv1
            subst hv1
            subst hv3
            have x0 := hrow.cell (L'.length * 2) _ (art_cell L' a)
            have f0 := hrow.free (L'.length * 2) (by have := (List.getElem?_eq_some_iff.1 (art_cell L' a)).1; exact this)
            have hr2 := hrow.set (L'.length * 2) (.int .i64 99) (by have := (List.getElem?_eq_some_iff.1 (art_cell L' a)).1; exact this)
            rw [art_set] at hr2
            have HR2 := Lib.hid hr2
            have HGL := Lib.hid hgl
            clear hr2 hrow hc3 hA' hv2 hgl
            go_wp2
            go_ret
            refine ⟨_, L' ++ [⟨99, a.text⟩], rfl, ⟨_, cap, by rw [show (L' ++ [(⟨99, a.text⟩ : Art)]).length = L'.length + 1 by simp]; rfl, by simpa using hc1, hc2, fun _ => ⟨g, rfl, hg', by simpa [World.setCell] using HGL.out, HR2.out⟩⟩, HD.out.last (by rw [hll]; omega), (HS3.out.more (by omega)).below (D := w.heap.size) ((Below.refl _ _).setCell (by simpa using hg') _) HB.out, only_setCell HO3.out (.inr (by simpa using hg')) _⟩
end Go.Proofs.YtmgdodgofpapgaaDoor
