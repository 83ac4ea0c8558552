/- Edits that fit a statute, walked: the reference's. -/
import Derived.Test.YtmgdodgofpapgaaDoorDq
namespace Go.Proofs.YtmgdodgofpapgaaDoor
open Go.RowKit Go.Lib

/-- The edits that fit, as long as there is room. -/
def fitF (es : List Art) : Nat → List Edit → List Edit
  | _, [] => []
  | n, e :: r => if (findA es e.id).toList ≠ e.old.toList ∨ (e.kind = 1 ∧ 8 ≤ n) then fitF es n r else e :: fitF es (if e.kind = 1 then n + 1 else n) r
theorem fitF_skip {es : List Art} {n k : Nat} {P Q : List Edit} {e : Edit} {R : List Edit} (h : R = Q ++ fitF es n (P.drop k)) (hk : P[k]? = some e) (hc : (findA es e.id).toList ≠ e.old.toList ∨ (e.kind = 1 ∧ 8 ≤ n)) : R = Q ++ fitF es n (P.drop (k + 1)) := by
  obtain ⟨hlt, he⟩ := List.getElem?_eq_some_iff.1 hk
  rw [h, List.drop_eq_getElem_cons hlt, he, fitF, if_pos hc]
theorem fitF_take {es : List Art} {n k : Nat} {P Q : List Edit} {e : Edit} {R : List Edit} (h : R = Q ++ fitF es n (P.drop k)) (hk : P[k]? = some e) (h1 : (findA es e.id).toList = e.old.toList) (h2 : e.kind ≠ 1 ∨ n < 8) : R = (Q ++ [e]) ++ fitF es (if e.kind = 1 then n + 1 else n) (P.drop (k + 1)) := by
  obtain ⟨hlt, he⟩ := List.getElem?_eq_some_iff.1 hk
  rw [h, List.drop_eq_getElem_cons hlt, he, fitF, if_neg (by
    rintro (h | ⟨h3, h4⟩)
    · exact h h1
    · rcases h2 with h2 | h2
      · exact h2 h3
      · omega)]
  simp
theorem fitF_sub (es : List Art) : ∀ (P : List Edit) (n : Nat), (fitF es n P).Sublist P
  | [], _ => List.Sublist.refl _
  | e :: r, n => by
    rw [fitF]
    split
    · exact (fitF_sub es r n).cons _
    · exact (fitF_sub es r _).cons_cons _
theorem fitF_old (es : List Art) : ∀ (P : List Edit) (n : Nat), ∀ e ∈ fitF es n P, (findA es e.id).toList = e.old.toList
  | [], _, e, h => by cases h
  | a :: r, n, e, h => by
    rw [fitF] at h
    split at h
    · exact fitF_old es r n e h
    · rename_i hc
      rcases List.mem_cons.1 h with rfl | h
      · exact Classical.byContradiction fun hne => hc (.inl hne)
      · exact fitF_old es r _ e h
theorem fitF_room (es : List Art) : ∀ (P : List Edit) (n : Nat), n ≤ 8 → n + ((fitF es n P).filter (fun e => decide (e.kind = 1))).length ≤ 8
  | [], n, h => by simpa [fitF] using h
  | a :: r, n, h => by
    rw [fitF]
    split
    · exact fitF_room es r n h
    · rename_i hc
      by_cases hk : a.kind = 1
      · have hn : n < 8 := by
          rcases Nat.lt_or_ge n 8 with h8 | h8
          · exact h8
          · exact absurd (.inr ⟨hk, h8⟩) hc
        have := fitF_room es r (n + 1) (by omega)
        rw [if_pos hk, List.filter_cons, if_pos (by simp [hk]), List.length_cons]
        omega
      · have := fitF_room es r n h
        rw [if_neg hk, List.filter_cons, if_neg (by simp [hk])]
        exact this
theorem sub_ok {P Q : List Edit} (h : okPatch P = true) (hs : Q.Sublist P) : okPatch Q = true := by
  rw [okPatch_iff] at *
  exact ⟨fun a ha => h.1 a (hs.subset ha), h.2.1.sublist hs, Nat.le_trans hs.length_le h.2.2⟩

set_option maxRecDepth 100000 in
set_option maxHeartbeats 4000000 in
theorem fit1_any (es : List Art) (P : List Edit) (w : World) (vt vp : Value) (hT : Arts w w.heap.size vt es) (hP : Edits w w.heap.size vp P) (he8 : es.length ≤ 8) (hp16 : P.length ≤ 16) :
    Calls Tryd.prog 14 #[vt, vp] w (RetOwn editCells (fitF es es.length P) w) := by
  have HTT := Lib.hid hT
  obtain ⟨T, tc, rfl, _⟩ := hT
  obtain ⟨A, c, rfl, hc, hm, hel⟩ := hP
  unfold maxLen at hm
  have HEL := Lib.hid hel
  clear hel
  have HR : Hid (fitF es es.length P = [] ++ fitF es es.length (P.drop 0)) := Lib.hid rfl
  unfold RetOwn
  generalize fitF es es.length P = R at HR ⊢
  obtain ⟨i0, hi, hz0, hz1, hz2⟩ := info_parts Tryd.infoE
  have hown0 : (w.alloc (.cells #[] 44)).ownsRow w.heap.size 44 4 (.slice (some ⟨w.heap.size, 0, none⟩) 0 0) 0 [] := by simpa using World.ownsRow_made w #[] 0 (Nat.le_refl _) (Nat.zero_le _) rfl
  have HOWN0 := Lib.hid hown0
  have HB0 : Hid (Below w.heap.size w (w.alloc (.cells #[] 44))) := Lib.hid ((Below.refl _ _).alloc (Nat.le_refl _) _)
  clear hown0
  go_enter Tryd.func14, Tryd.ntmps14
  go_wp2
  go_loopw [5, 6, 7] (fun o n6 i wr => ∃ (Q : List Edit) (n k : Nat), wr.ownsRow w.heap.size 44 4 o Q.length (Q.flatMap editCells) ∧ i = .int .i64 (k : Int) ∧ n6 = .int .i64 (n : Int) ∧ Q.length ≤ k ∧ n ≤ 8 + k ∧ k ≤ P.length ∧ R = Q ++ fitF es n (P.drop k) ∧ o ≠ .slice none 0 0 ∧ Below w.heap.size w wr) (fun _ _ i _ => P.length - (RowKit.intOf i).toNat)
  case atStart => exact ⟨[], es.length, 0, HOWN0.out, rfl, rfl, by simp, by omega, by omega, HR.out, by simp, HB0.out⟩
  case round =>
    obtain ⟨Q, n, k, hown, rfl, rfl, hQk, hn8, hk, hR, hnn, hb⟩ := hrel
    obtain ⟨g, cap, rfl, hdc, hcm⟩ := own_some hown hnn
    unfold maxLen at hcm
    have HOWN := Lib.hid hown
    have HRR := Lib.hid hR
    clear hown hR hnn
    by_cases hlt : k < P.length
    · obtain ⟨b, off, rfl, hblt, hcell⟩ := HEL.out (by omega)
      have hget : P[k]? = some P[k] := List.getElem?_eq_getElem hlt
      obtain ⟨c0, c1, c2, c3⟩ := edits_at hcell hget
      have x0 := (hb.cell (p := ⟨b, off + k * 4, none⟩) hblt).trans c0
      have x1 := (hb.cell (p := ⟨b, off + k * 4 + 1, none⟩) hblt).trans c1
      have x2 := (hb.cell (p := ⟨b, off + k * 4 + 2, none⟩) hblt).trans c2
      have x3 := (hb.cell (p := ⟨b, off + k * 4 + 3, none⟩) hblt).trans c3
      have z0 := fun x : Aft wr => x.cell x0
      have z1 := fun x : Aft wr => x.cell x1
      have z2 := fun x : Aft wr => x.cell x2
      have HF : Hid (∀ x : Aft wr, Calls Tryd.prog 26 #[.slice T es.length tc, .int .i64 P[k].id] x.val (RetQ (.string (findA es P[k].id)) x.val)) := Lib.hid (fun x => find1_any es P[k].id x.val _ (SlR.on HTT.out (Pl.stays _) (hb.trans (x.ok.mono hb.size)) (hb.trans (x.ok.mono hb.size)).size))
      have HSKIP := Lib.hid (fun hc => fitF_skip HRR.out hget hc)
      have HTAKE := Lib.hid (fun h1 h2 => fitF_take HRR.out hget h1 h2)
      clear hget hcell c0 c1 c2 c3
      generalize P[k] = e at *
      by_cases h1 : (findA es e.id).toList = e.old.toList
      · have e1 : ((findA es e.id).toList == e.old.toList) = true := by simp [h1]
        by_cases h2 : e.kind = 1
        · have e2 : (e.kind == 1) = true := by simp [h2]
          by_cases h3 : 8 ≤ n
          · have e3 : decide ((8 : Int) ≤ (n : Int)) = true := by simp; omega
            have HS := Lib.hid (HSKIP.out (.inr ⟨h2, h3⟩))
            generalize findA es e.id = F at HF e1 h1
            clear h1 h2
            go_upto_region 6 with (fail)
            refine wp_region_aft (by kernel_rfl) (by kernel_rfl) ?_
            repeat (go_big_quiet_step ((go_at_call 26; exact aft_q (HF.out _))))
            refine wpQuiet_nil ?_
            rintro _ ⟨y, rfl⟩
            have bY := hb.trans (y.ok.mono hb.size)
            have HBY := Lib.hid bY
            have HOWNY := Lib.hid (own_below HOWN.out y.ok)
            have y0 := y.cell x0
            have y1 := y.cell x1
            have y2 := y.cell x2
            have y3 := y.cell x3
            clear z0 z1 z2 x0 x1 x2 x3
            go_wp2
            go_roundw
            case rel => exact ⟨Q, n, k + 1, HOWNY.out, by go_num, rfl, by omega, by omega, by omega, HS.out, by simp, HBY.out⟩
            case measure => simp [RowKit.intOf]; omega
          · have e3 : decide ((8 : Int) ≤ (n : Int)) = false := by simp; omega
            have HT := Lib.hid (HTAKE.out h1 (.inr (by omega)))
            rw [if_pos h2] at HT
            generalize findA es e.id = F at HF e1 h1
            clear h1 h2
            go_upto_region 6 with (fail)
            refine wp_region_aft (by kernel_rfl) (by kernel_rfl) ?_
            repeat (go_big_quiet_step ((go_at_call 26; exact aft_q (HF.out _))))
            refine wpQuiet_nil ?_
            rintro _ ⟨y, rfl⟩
            have bY := hb.trans (y.ok.mono hb.size)
            have HBY := Lib.hid bY
            have HOWNY := Lib.hid (own_below HOWN.out y.ok)
            have y0 := y.cell x0
            have y1 := y.cell x1
            have y2 := y.cell x2
            have y3 := y.cell x3
            clear z0 z1 z2 x0 x1 x2 x3
            have hown := HOWNY.out
            have hszy := HBY.out.size
            clear bY
            go_wp2_with (at_builtin; refine wpList_append_own _ rfl _ _ 25 rfl w.heap.size 44 i0 (.agg #[.int .i64 0, .int .i64 0, .string ⟨#[]⟩, .string ⟨#[]⟩]) 4 48 Tryd.underlying25 hi hz0 hz1 hz2 rfl (by decide) _ _ _ rfl (hown.alloc _) ⟨y.val.heap.size, 0, none⟩ 1 1 (editCells e) rfl rfl (fun j u hj => new_at hj) (fun u hu => edit_one hu) ?c3 ?c4 (base_le hszy) ?_)
            case c3 => unfold maxLen; omega
            case c4 => omega
            · intro v' w5 hown' hgrow hiff
              have hnn' : v' ≠ .slice none 0 0 := by simpa using hiff
              have hb5 := (HBY.out.alloc hszy _).grown hgrow (base_le hszy) (fun j hj => (hown.lt j hj).1)
              clear hown hgrow hiff
              go_wp2
              go_roundw
              case rel => exact ⟨Q ++ [e], n + 1, k + 1, by rw [flat_snoc, List.length_append]; exact hown', by go_num, by go_num, by rw [List.length_append]; simp; omega, by omega, by omega, HT.out, hnn', hb5⟩
              case measure => simp [RowKit.intOf]; omega
        · have e2 : (e.kind == 1) = false := by simp [h2]
          have HT := Lib.hid (HTAKE.out h1 (.inl h2))
          rw [if_neg h2] at HT
          generalize findA es e.id = F at HF e1 h1
          clear h1 h2
          go_upto_region 6 with (fail)
          refine wp_region_aft (by kernel_rfl) (by kernel_rfl) ?_
          repeat (go_big_quiet_step ((go_at_call 26; exact aft_q (HF.out _))))
          refine wpQuiet_nil ?_
          rintro _ ⟨y, rfl⟩
          have bY := hb.trans (y.ok.mono hb.size)
          have HBY := Lib.hid bY
          have HOWNY := Lib.hid (own_below HOWN.out y.ok)
          have y0 := y.cell x0
          have y1 := y.cell x1
          have y2 := y.cell x2
          have y3 := y.cell x3
          clear z0 z1 z2 x0 x1 x2 x3
          have hown := HOWNY.out
          have hszy := HBY.out.size
          clear bY
          go_wp2_with (at_builtin; refine wpList_append_own _ rfl _ _ 25 rfl w.heap.size 44 i0 (.agg #[.int .i64 0, .int .i64 0, .string ⟨#[]⟩, .string ⟨#[]⟩]) 4 48 Tryd.underlying25 hi hz0 hz1 hz2 rfl (by decide) _ _ _ rfl (hown.alloc _) ⟨y.val.heap.size, 0, none⟩ 1 1 (editCells e) rfl rfl (fun j u hj => new_at hj) (fun u hu => edit_one hu) ?c3 ?c4 (base_le hszy) ?_)
          case c3 => unfold maxLen; omega
          case c4 => omega
          · intro v' w5 hown' hgrow hiff
            have hnn' : v' ≠ .slice none 0 0 := by simpa using hiff
            have hb5 := (HBY.out.alloc hszy _).grown hgrow (base_le hszy) (fun j hj => (hown.lt j hj).1)
            clear hown hgrow hiff
            go_wp2
            go_roundw
            case rel => exact ⟨Q ++ [e], n, k + 1, by rw [flat_snoc, List.length_append]; exact hown', by go_num, by go_num, by rw [List.length_append]; simp; omega, by omega, by omega, HT.out, hnn', hb5⟩
            case measure => simp [RowKit.intOf]; omega
      · have e1 : ((findA es e.id).toList == e.old.toList) = false := by simp [h1]
        have HS := Lib.hid (HSKIP.out (.inl h1))
        generalize findA es e.id = F at HF e1 h1
        clear h1
        go_upto_region 6 with (fail)
        refine wp_region_aft (by kernel_rfl) (by kernel_rfl) ?_
        repeat (go_big_quiet_step ((go_at_call 26; exact aft_q (HF.out _))))
        refine wpQuiet_nil ?_
        rintro _ ⟨y, rfl⟩
        have bY := hb.trans (y.ok.mono hb.size)
        have HBY := Lib.hid bY
        have HOWNY := Lib.hid (own_below HOWN.out y.ok)
        have y0 := y.cell x0
        have y1 := y.cell x1
        have y2 := y.cell x2
        have y3 := y.cell x3
        clear z0 z1 z2 x0 x1 x2 x3
        go_wp2
        go_roundw
        case rel => exact ⟨Q, n, k + 1, HOWNY.out, by go_num, rfl, by omega, by omega, by omega, HS.out, by simp, HBY.out⟩
        case measure => simp [RowKit.intOf]; omega
    · have hge : ¬ (k : Int) < (P.length : Int) := by omega
      have HRQ : Hid (R = Q) := Lib.hid (by rw [HRR.out, List.drop_eq_nil_of_le (by omega)]; simp [fitF])
      have HOL : Hid (OwnL editCells Q w.heap.size wr (.slice (some ⟨g, 0, none⟩) Q.length cap)) := Lib.hid (OwnL.of_own editCells (size := 4) (fun _ => rfl) HOWN.out)
      go_wp2
      go_ret
      exact ⟨_, rfl, by rw [HRQ.out]; exact HOL.out, hb⟩
end Go.Proofs.YtmgdodgofpapgaaDoor
