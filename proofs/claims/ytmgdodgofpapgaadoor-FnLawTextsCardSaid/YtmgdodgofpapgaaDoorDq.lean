/- A patch drawn for a statute, walked: the reference's. -/
import Derived.Test.YtmgdodgofpapgaaDoorDp
namespace Go.Proofs.YtmgdodgofpapgaaDoor
open Go.RowKit Go.Lib

def PatchDraw (B : Nat) (w : World) (b k : Nat) (e : Ending) (w' : World) : Prop :=
  ∃ v P, e = .returned v ∧ OwnL editCells P w.heap.size w' v ∧ okPatch P = true ∧ Src B w' b k ∧ Only b w w'

/-- A patch that is being drawn: what is below q. -/
structure DrawnE (P : List Edit) (q : Nat) : Prop where
  rise : RiseE P
  all : ∀ a ∈ P, okEdit a = true ∧ a.id < q
  len : P.length + 1 ≤ q
theorem DrawnE.nil : DrawnE [] 1 := ⟨List.Pairwise.nil, fun a h => (by cases h), by simp⟩
theorem DrawnE.skip {P : List Edit} {q : Nat} (h : DrawnE P q) : DrawnE P (q + 1) := ⟨h.rise, fun a ha => ⟨(h.all a ha).1, by have := (h.all a ha).2; omega⟩, by have := h.len; omega⟩
theorem DrawnE.snoc {P : List Edit} {q : Nat} {E : Edit} (h : DrawnE P q) (hE : okEdit E = true) (hi : E.id = q) : DrawnE (P ++ [E]) (q + 1) where
  rise := by
    have hr := h.rise
    unfold RiseE at *
    rw [List.pairwise_append]
    refine ⟨hr, by simp, fun a ha c hc => ?_⟩
    rw [List.mem_singleton] at hc
    subst hc
    have := (h.all a ha).2
    omega
  all := fun a ha => by
    rcases List.mem_append.1 ha with ha | ha
    · have := h.all a ha
      exact ⟨this.1, by have := this.2; omega⟩
    · rw [List.mem_singleton] at ha
      subst ha
      exact ⟨hE, by omega⟩
  len := by have := h.len; simp; omega
theorem DrawnE.ok {P : List Edit} (h : DrawnE P 17) : okPatch P = true := by
  rw [okPatch_iff]
  exact ⟨fun a ha => (h.all a ha).1, h.rise, by have := h.len; omega⟩
theorem find_ok {es : List Art} (h : okStat es = true) (q : Int) : (findA es q).toList = [] ∨ okSent (findA es q).toList = true := by
  rcases findA_cases es q with ⟨a, ha, _, he⟩ | ⟨he, _⟩
  · rw [he]
    exact .inr (okArt_facts (okStat_mem h ha)).2.2.1
  · rw [he]
    exact .inl (by rw [ByteArray.toList_eq])
theorem sent_txt {l : List UInt8} (h : okSent l = true) : (⟨l.toArray⟩ : ByteArray).toList = [] ∨ okSent (⟨l.toArray⟩ : ByteArray).toList = true := by
  right
  rw [ByteArray.toList_eq]
  exact h
theorem emp_txt : (⟨#[]⟩ : ByteArray).toList = [] ∨ okSent (⟨#[]⟩ : ByteArray).toList = true := by
  left
  rw [ByteArray.toList_eq]

theorem new_at2 {w : World} {o : Obj} {cs : List Value} {T : TypeId} {j : Nat} {u : Value} (h : cs[j]? = some u) : ((w.alloc o).alloc (.cells cs.toArray T)).cell? ((⟨w.heap.size + 1, 0, none⟩ : Addr).add j) = some u := by
  have h := new_at (w := w.alloc o) (T := T) h
  rwa [show (w.alloc o).heap.size = w.heap.size + 1 by simp] at h

set_option maxRecDepth 100000 in
set_option maxHeartbeats 8000000 in
theorem drawFor_any (B b k base : Nat) (es : List Art) (v : Value) (w : World) (h : Src B w b k) (hk : k ≤ 50000) (hT : OwnL artCells es base w v) (hbb : b < base) (hok : okStat es = true) :
    Calls Tryd.prog 15 #[.pointer (some ⟨b, 0, none⟩), v] w (PatchDraw B w b (k + 220)) := by
  have H := Lib.hid h
  have HB := Lib.hid h.lt.1
  have HT := Lib.hid hT
  have HBB := Lib.hid hbb
  have HOK := Lib.hid hok
  obtain ⟨T, tc, rfl, _⟩ := hT
  clear h hbb hok
  obtain ⟨i0, hi, hz0, hz1, hz2⟩ := info_parts Tryd.infoE
  go_enter Tryd.func15, Tryd.ntmps15
  go_wp2_with (fail)
  refine (pick_pos B b k 3 _ (H.out.alloc _) (by omega) (by omega) (by omega)).mono ?_
  rintro e w1 ⟨n1, hn1, rfl, hs1, ho1⟩
  have hown1 : w1.ownsRow w.heap.size 44 4 (.slice (some ⟨w.heap.size, 0, none⟩) 0 0) 0 [] := own_only (by simpa using World.ownsRow_made w #[] 0 (Nat.le_refl _) (Nat.zero_le _) rfl) HB.out ho1
  have HO1 : Hid (Only b w w1) := Lib.hid (only_trans (only_of_below ((Below.refl w.heap.size w).alloc (Nat.le_refl _) _)) ho1)
  have HS1 := Lib.hid hs1
  have HOWN1 := Lib.hid hown1
  clear hs1 ho1 hown1
  go_wp2
  go_loopw [5, 7] (fun o i wr => ∃ (P : List Edit) (q : Nat), wr.ownsRow w.heap.size 44 4 o P.length (P.flatMap editCells) ∧ i = .int .i64 (q : Int) ∧ 1 ≤ q ∧ q ≤ 17 ∧ DrawnE P q ∧ o ≠ .slice none 0 0 ∧ Src B wr b (k + 2 + 12 * (q - 1)) ∧ Only b w wr) (fun _ i _ => 17 - (RowKit.intOf i).toNat)
  case atStart => exact ⟨[], 1, HOWN1.out, rfl, by omega, by omega, DrawnE.nil, by simp, HS1.out.more (by omega), HO1.out⟩
  case round =>
    obtain ⟨P, q, hown, rfl, hq1, hq17, hD, hnn, hs, ho⟩ := hrel
    obtain ⟨g, cap, rfl, hdc, hcm⟩ := own_some hown hnn
    unfold maxLen at hcm
    have HOWN := Lib.hid hown
    have HD := Lib.hid hD
    have HS := Lib.hid hs
    have HO := Lib.hid ho
    have hlen := hD.len
    clear hown hD hs ho hnn
    by_cases hq : q ≤ 16
    · have hq' : (q : Int) ≤ 16 := by omega
      go_wp2_with (fail)
      refine (one_any B b _ (2 + (n1 : Int)) wr HS.out (by omega) (by omega) (by omega)).mono ?_
      rintro e w2 ⟨x2, rfl, hs2, ho2⟩
      have HOWN2 := Lib.hid (own_only HOWN.out HB.out ho2)
      have HO2 := Lib.hid (only_trans HO.out ho2)
      have HS2 := Lib.hid hs2
      clear hs2 ho2
      cases x2 with
      | false =>
        go_wp2
        go_roundw
        case rel => exact ⟨P, q + 1, HOWN2.out, by go_num, by omega, by omega, HD.out.skip, by simp, HS2.out.more (by omega), HO2.out⟩
        case measure => simp [RowKit.intOf]; omega
      | true =>
        have HF := Lib.hid (find1_any es q w2 _ ((HT.out.only HBB.out HO2.out).slR (size := 2) (fun _ => rfl)))
        have HFO := Lib.hid (find_ok HOK.out q)
        generalize findA es q = old at HF HFO
        go_wp2_with (fail)
        refine (HF.out).mono ?_
        rintro e w3 ⟨rfl, m3, rfl⟩
        have HOWN3 := Lib.hid (own_below HOWN2.out (below_drewN (Below.refl w2.heap.size w2) m3))
        have HO3 := Lib.hid (only_drewN HO2.out m3)
        have HS3 := Lib.hid (HS2.out.drewN m3)
        clear HF
        go_wp2_with (fail)
        refine (drawSent_any B b _ _ HS3.out (by omega)).mono ?_
        rintro e w4 ⟨l4, hl4, rfl, hs4, ho4⟩
        have HOWN4 := Lib.hid (own_only HOWN3.out HB.out ho4)
        have HO4 := Lib.hid (only_trans HO3.out ho4)
        have HS4 := Lib.hid hs4
        have HL4 := Lib.hid hl4
        clear hs4 ho4 hl4
        by_cases h0 : old.toList = []
        · have e0 : (old.toList == []) = true := by simp [h0]
          have e0' : (old.toList != []) = false := by simp [h0]
          clear h0
          go_wp2_with (fail)
          refine (one_any B b _ 3 w4 HS4.out (by omega) (by omega) (by omega)).mono ?_
          rintro e w5 ⟨x5, rfl, hs5, ho5⟩
          have HOWN5 := Lib.hid (own_only HOWN4.out HB.out ho5)
          have HO5 := Lib.hid (only_trans HO4.out ho5)
          have HS5 := Lib.hid hs5
          clear hs5 ho5
          cases x5 with
          | false =>
            go_wp2
            go_roundw
            case rel => exact ⟨P, q + 1, HOWN5.out, by go_num, by omega, by omega, HD.out.skip, by simp, HS5.out.more (by omega), HO5.out⟩
            case measure => simp [RowKit.intOf]; omega
          | true =>
            go_wp2_with (fail)
            refine (one_any B b _ 20 w5 HS5.out (by omega) (by omega) (by omega)).mono ?_
            rintro e w6 ⟨x6, rfl, hs6, ho6⟩
            have HOWN6 := Lib.hid (own_only HOWN5.out HB.out ho6)
            have HO6 := Lib.hid (only_trans HO5.out ho6)
            have HS6 := Lib.hid hs6
            clear hs6 ho6
            cases x6 with
            | false =>
              have HOWN7 := HOWN6
              have HO7 := HO6
              have HS7 := HS6
              have HE : Hid ((stepE q old ⟨l4.toArray⟩).kind = 0 ∨ (okEdit (stepE q old ⟨l4.toArray⟩) = true ∧ (stepE q old ⟨l4.toArray⟩).id = q)) := Lib.hid (by
                rcases stepE_ok (i := q) (by omega) (by omega) HFO.out (sent_txt HL4.out) with h | ⟨h1, h2, _⟩
                · left; rw [h]; rfl
                · exact .inr ⟨h1, h2⟩)
              have HST : Hid (Calls Tryd.prog 27 #[.int .i64 q, .string old, .string ⟨l4.toArray⟩] w6 (RetB (.agg #[.int .i64 (stepE q old ⟨l4.toArray⟩).kind, .int .i64 (stepE q old ⟨l4.toArray⟩).id, .string (stepE q old ⟨l4.toArray⟩).old, .string (stepE q old ⟨l4.toArray⟩).new]) w6)) := Lib.hid (step1_any q old ⟨l4.toArray⟩ w6)
              generalize stepE q old ⟨l4.toArray⟩ = E at HE HST
              go_wp2_with (fail)
              refine (HST.out).mono ?_
              rintro e w8 ⟨rfl, hb8⟩
              have hown8 := own_below HOWN7.out hb8
              have hO8 := only_below' HO7.out hb8 HO7.out.size
              have hS8 := HS7.out.below hb8 HS7.out.lt.1
              have HOWN8 := Lib.hid hown8
              have HO8 := Lib.hid hO8
              have HS8 := Lib.hid hS8
              have hsz8 := hO8.size
              clear hown8 hO8 hS8 hb8
              by_cases hk0 : E.kind = 0
              · have e0 : (E.kind != 0) = false := by simp [hk0]
                have HO9 := Lib.hid (only_alloc HO8.out (.cells #[.int .i64 E.kind, .int .i64 E.id, .string E.old, .string E.new] 44))
                have HS9 := Lib.hid (HS8.out.alloc (.cells #[.int .i64 E.kind, .int .i64 E.id, .string E.old, .string E.new] 44))
                have HOWN9 := Lib.hid (HOWN8.out.alloc (.cells #[.int .i64 E.kind, .int .i64 E.id, .string E.old, .string E.new] 44))
                clear hk0
                go_wp2
                go_roundw
                case rel => exact ⟨P, q + 1, HOWN9.out, by go_num, by omega, by omega, HD.out.skip, by simp, HS9.out.more (by omega), HO9.out⟩
                case measure => simp [RowKit.intOf]; omega
              · have e0 : (E.kind != 0) = true := by simp [hk0]
                have HE2 := Lib.hid (HE.out.resolve_left hk0)
                clear hk0
                go_wp2_with (at_builtin; refine wpList_append_own _ rfl _ _ 25 rfl w.heap.size 44 i0 (.agg #[.int .i64 0, .int .i64 0, .string ⟨#[]⟩, .string ⟨#[]⟩]) 4 48 Tryd.underlying25 hi hz0 hz1 hz2 rfl (by decide) _ _ _ rfl ((HOWN8.out.alloc _).alloc _) ⟨w8.heap.size + 1, 0, none⟩ 1 1 (editCells E) rfl rfl (fun j u hj => new_at2 hj) (fun u hu => edit_one hu) ?c3 ?c4 (base_le (base_le hsz8)) ?_)
                case c3 => unfold maxLen; omega
                case c4 => omega
                · intro v' w9 hown' hgrow hiff
                  have hnn' : v' ≠ .slice none 0 0 := by simpa using hiff
                  have hr : ∀ j, (Value.slice (some ⟨g, 0, none⟩) P.length cap).ownBlock = some j → w.heap.size ≤ j := fun j hj => (HOWN8.out.lt j hj).1
                  have HO9 := Lib.hid (only_grown (only_alloc (only_alloc HO8.out _) _) hgrow hr)
                  have HS9 := Lib.hid (((HS8.out.alloc _).alloc _).grown hgrow (fun j hj => Nat.lt_of_lt_of_le HB.out (hr j hj)))
                  clear hgrow hiff hr
                  go_wp2
                  go_roundw
                  case rel => exact ⟨P ++ [E], q + 1, by rw [flat_snoc, List.length_append]; exact hown', by go_num, by omega, by omega, HD.out.snoc HE2.out.1 HE2.out.2, hnn', HS9.out.more (by omega), HO9.out⟩
                  case measure => simp [RowKit.intOf]; omega
            | true =>
              go_wp2_with (fail)
              refine (drawSent_any B b _ w6 HS6.out (by omega)).mono ?_
              rintro e w7 ⟨l7, hl7, rfl, hs7, ho7⟩
              have HOWN7 := Lib.hid (own_only HOWN6.out HB.out ho7)
              have HO7 := Lib.hid (only_trans HO6.out ho7)
              have HS7 := Lib.hid hs7
              have HL7 := Lib.hid hl7
              clear hs7 ho7 hl7
              have HE : Hid ((stepE q ⟨l7.toArray⟩ ⟨l4.toArray⟩).kind = 0 ∨ (okEdit (stepE q ⟨l7.toArray⟩ ⟨l4.toArray⟩) = true ∧ (stepE q ⟨l7.toArray⟩ ⟨l4.toArray⟩).id = q)) := Lib.hid (by
                rcases stepE_ok (i := q) (by omega) (by omega) (sent_txt HL7.out) (sent_txt HL4.out) with h | ⟨h1, h2, _⟩
                · left; rw [h]; rfl
                · exact .inr ⟨h1, h2⟩)
              have HST : Hid (Calls Tryd.prog 27 #[.int .i64 q, .string ⟨l7.toArray⟩, .string ⟨l4.toArray⟩] w7 (RetB (.agg #[.int .i64 (stepE q ⟨l7.toArray⟩ ⟨l4.toArray⟩).kind, .int .i64 (stepE q ⟨l7.toArray⟩ ⟨l4.toArray⟩).id, .string (stepE q ⟨l7.toArray⟩ ⟨l4.toArray⟩).old, .string (stepE q ⟨l7.toArray⟩ ⟨l4.toArray⟩).new]) w7)) := Lib.hid (step1_any q ⟨l7.toArray⟩ ⟨l4.toArray⟩ w7)
              generalize stepE q ⟨l7.toArray⟩ ⟨l4.toArray⟩ = E at HE HST
              go_wp2_with (fail)
              refine (HST.out).mono ?_
              rintro e w8 ⟨rfl, hb8⟩
              have hown8 := own_below HOWN7.out hb8
              have hO8 := only_below' HO7.out hb8 HO7.out.size
              have hS8 := HS7.out.below hb8 HS7.out.lt.1
              have HOWN8 := Lib.hid hown8
              have HO8 := Lib.hid hO8
              have HS8 := Lib.hid hS8
              have hsz8 := hO8.size
              clear hown8 hO8 hS8 hb8
              by_cases hk0 : E.kind = 0
              · have e0 : (E.kind != 0) = false := by simp [hk0]
                have HO9 := Lib.hid (only_alloc HO8.out (.cells #[.int .i64 E.kind, .int .i64 E.id, .string E.old, .string E.new] 44))
                have HS9 := Lib.hid (HS8.out.alloc (.cells #[.int .i64 E.kind, .int .i64 E.id, .string E.old, .string E.new] 44))
                have HOWN9 := Lib.hid (HOWN8.out.alloc (.cells #[.int .i64 E.kind, .int .i64 E.id, .string E.old, .string E.new] 44))
                clear hk0
                go_wp2
                go_roundw
                case rel => exact ⟨P, q + 1, HOWN9.out, by go_num, by omega, by omega, HD.out.skip, by simp, HS9.out.more (by omega), HO9.out⟩
                case measure => simp [RowKit.intOf]; omega
              · have e0 : (E.kind != 0) = true := by simp [hk0]
                have HE2 := Lib.hid (HE.out.resolve_left hk0)
                clear hk0
                go_wp2_with (at_builtin; refine wpList_append_own _ rfl _ _ 25 rfl w.heap.size 44 i0 (.agg #[.int .i64 0, .int .i64 0, .string ⟨#[]⟩, .string ⟨#[]⟩]) 4 48 Tryd.underlying25 hi hz0 hz1 hz2 rfl (by decide) _ _ _ rfl ((HOWN8.out.alloc _).alloc _) ⟨w8.heap.size + 1, 0, none⟩ 1 1 (editCells E) rfl rfl (fun j u hj => new_at2 hj) (fun u hu => edit_one hu) ?c3 ?c4 (base_le (base_le hsz8)) ?_)
                case c3 => unfold maxLen; omega
                case c4 => omega
                · intro v' w9 hown' hgrow hiff
                  have hnn' : v' ≠ .slice none 0 0 := by simpa using hiff
                  have hr : ∀ j, (Value.slice (some ⟨g, 0, none⟩) P.length cap).ownBlock = some j → w.heap.size ≤ j := fun j hj => (HOWN8.out.lt j hj).1
                  have HO9 := Lib.hid (only_grown (only_alloc (only_alloc HO8.out _) _) hgrow hr)
                  have HS9 := Lib.hid (((HS8.out.alloc _).alloc _).grown hgrow (fun j hj => Nat.lt_of_lt_of_le HB.out (hr j hj)))
                  clear hgrow hiff hr
                  go_wp2
                  go_roundw
                  case rel => exact ⟨P ++ [E], q + 1, by rw [flat_snoc, List.length_append]; exact hown', by go_num, by omega, by omega, HD.out.snoc HE2.out.1 HE2.out.2, hnn', HS9.out.more (by omega), HO9.out⟩
                  case measure => simp [RowKit.intOf]; omega
        · have e0 : (old.toList == []) = false := by simp [h0]
          have e0' : (old.toList != []) = true := by simp [h0]
          clear h0
          go_wp2_with (fail)
          refine (one_any B b _ 3 w4 HS4.out (by omega) (by omega) (by omega)).mono ?_
          rintro e w5 ⟨x5, rfl, hs5, ho5⟩
          have HOWN5 := Lib.hid (own_only HOWN4.out HB.out ho5)
          have HO5 := Lib.hid (only_trans HO4.out ho5)
          have HS5 := Lib.hid hs5
          clear hs5 ho5
          cases x5 with
          | false =>
            go_wp2_with (fail)
            refine (one_any B b _ 20 w5 HS5.out (by omega) (by omega) (by omega)).mono ?_
            rintro e w6 ⟨x6, rfl, hs6, ho6⟩
            have HOWN6 := Lib.hid (own_only HOWN5.out HB.out ho6)
            have HO6 := Lib.hid (only_trans HO5.out ho6)
            have HS6 := Lib.hid hs6
            clear hs6 ho6
            cases x6 with
            | false =>
              have HOWN7 := HOWN6
              have HO7 := HO6
              have HS7 := HS6
              have HE : Hid ((stepE q old ⟨l4.toArray⟩).kind = 0 ∨ (okEdit (stepE q old ⟨l4.toArray⟩) = true ∧ (stepE q old ⟨l4.toArray⟩).id = q)) := Lib.hid (by
                rcases stepE_ok (i := q) (by omega) (by omega) HFO.out (sent_txt HL4.out) with h | ⟨h1, h2, _⟩
                · left; rw [h]; rfl
                · exact .inr ⟨h1, h2⟩)
              have HST : Hid (Calls Tryd.prog 27 #[.int .i64 q, .string old, .string ⟨l4.toArray⟩] w6 (RetB (.agg #[.int .i64 (stepE q old ⟨l4.toArray⟩).kind, .int .i64 (stepE q old ⟨l4.toArray⟩).id, .string (stepE q old ⟨l4.toArray⟩).old, .string (stepE q old ⟨l4.toArray⟩).new]) w6)) := Lib.hid (step1_any q old ⟨l4.toArray⟩ w6)
              generalize stepE q old ⟨l4.toArray⟩ = E at HE HST
              go_wp2_with (fail)
              refine (HST.out).mono ?_
              rintro e w8 ⟨rfl, hb8⟩
              have hown8 := own_below HOWN7.out hb8
              have hO8 := only_below' HO7.out hb8 HO7.out.size
              have hS8 := HS7.out.below hb8 HS7.out.lt.1
              have HOWN8 := Lib.hid hown8
              have HO8 := Lib.hid hO8
              have HS8 := Lib.hid hS8
              have hsz8 := hO8.size
              clear hown8 hO8 hS8 hb8
              by_cases hk0 : E.kind = 0
              · have e0 : (E.kind != 0) = false := by simp [hk0]
                have HO9 := Lib.hid (only_alloc HO8.out (.cells #[.int .i64 E.kind, .int .i64 E.id, .string E.old, .string E.new] 44))
                have HS9 := Lib.hid (HS8.out.alloc (.cells #[.int .i64 E.kind, .int .i64 E.id, .string E.old, .string E.new] 44))
                have HOWN9 := Lib.hid (HOWN8.out.alloc (.cells #[.int .i64 E.kind, .int .i64 E.id, .string E.old, .string E.new] 44))
                clear hk0
                go_wp2
                go_roundw
                case rel => exact ⟨P, q + 1, HOWN9.out, by go_num, by omega, by omega, HD.out.skip, by simp, HS9.out.more (by omega), HO9.out⟩
                case measure => simp [RowKit.intOf]; omega
              · have e0 : (E.kind != 0) = true := by simp [hk0]
                have HE2 := Lib.hid (HE.out.resolve_left hk0)
                clear hk0
                go_wp2_with (at_builtin; refine wpList_append_own _ rfl _ _ 25 rfl w.heap.size 44 i0 (.agg #[.int .i64 0, .int .i64 0, .string ⟨#[]⟩, .string ⟨#[]⟩]) 4 48 Tryd.underlying25 hi hz0 hz1 hz2 rfl (by decide) _ _ _ rfl ((HOWN8.out.alloc _).alloc _) ⟨w8.heap.size + 1, 0, none⟩ 1 1 (editCells E) rfl rfl (fun j u hj => new_at2 hj) (fun u hu => edit_one hu) ?c3 ?c4 (base_le (base_le hsz8)) ?_)
                case c3 => unfold maxLen; omega
                case c4 => omega
                · intro v' w9 hown' hgrow hiff
                  have hnn' : v' ≠ .slice none 0 0 := by simpa using hiff
                  have hr : ∀ j, (Value.slice (some ⟨g, 0, none⟩) P.length cap).ownBlock = some j → w.heap.size ≤ j := fun j hj => (HOWN8.out.lt j hj).1
                  have HO9 := Lib.hid (only_grown (only_alloc (only_alloc HO8.out _) _) hgrow hr)
                  have HS9 := Lib.hid (((HS8.out.alloc _).alloc _).grown hgrow (fun j hj => Nat.lt_of_lt_of_le HB.out (hr j hj)))
                  clear hgrow hiff hr
                  go_wp2
                  go_roundw
                  case rel => exact ⟨P ++ [E], q + 1, by rw [flat_snoc, List.length_append]; exact hown', by go_num, by omega, by omega, HD.out.snoc HE2.out.1 HE2.out.2, hnn', HS9.out.more (by omega), HO9.out⟩
                  case measure => simp [RowKit.intOf]; omega
            | true =>
              go_wp2_with (fail)
              refine (drawSent_any B b _ w6 HS6.out (by omega)).mono ?_
              rintro e w7 ⟨l7, hl7, rfl, hs7, ho7⟩
              have HOWN7 := Lib.hid (own_only HOWN6.out HB.out ho7)
              have HO7 := Lib.hid (only_trans HO6.out ho7)
              have HS7 := Lib.hid hs7
              have HL7 := Lib.hid hl7
              clear hs7 ho7 hl7
              have HE : Hid ((stepE q ⟨l7.toArray⟩ ⟨l4.toArray⟩).kind = 0 ∨ (okEdit (stepE q ⟨l7.toArray⟩ ⟨l4.toArray⟩) = true ∧ (stepE q ⟨l7.toArray⟩ ⟨l4.toArray⟩).id = q)) := Lib.hid (by
                rcases stepE_ok (i := q) (by omega) (by omega) (sent_txt HL7.out) (sent_txt HL4.out) with h | ⟨h1, h2, _⟩
                · left; rw [h]; rfl
                · exact .inr ⟨h1, h2⟩)
              have HST : Hid (Calls Tryd.prog 27 #[.int .i64 q, .string ⟨l7.toArray⟩, .string ⟨l4.toArray⟩] w7 (RetB (.agg #[.int .i64 (stepE q ⟨l7.toArray⟩ ⟨l4.toArray⟩).kind, .int .i64 (stepE q ⟨l7.toArray⟩ ⟨l4.toArray⟩).id, .string (stepE q ⟨l7.toArray⟩ ⟨l4.toArray⟩).old, .string (stepE q ⟨l7.toArray⟩ ⟨l4.toArray⟩).new]) w7)) := Lib.hid (step1_any q ⟨l7.toArray⟩ ⟨l4.toArray⟩ w7)
              generalize stepE q ⟨l7.toArray⟩ ⟨l4.toArray⟩ = E at HE HST
              go_wp2_with (fail)
              refine (HST.out).mono ?_
              rintro e w8 ⟨rfl, hb8⟩
              have hown8 := own_below HOWN7.out hb8
              have hO8 := only_below' HO7.out hb8 HO7.out.size
              have hS8 := HS7.out.below hb8 HS7.out.lt.1
              have HOWN8 := Lib.hid hown8
              have HO8 := Lib.hid hO8
              have HS8 := Lib.hid hS8
              have hsz8 := hO8.size
              clear hown8 hO8 hS8 hb8
              by_cases hk0 : E.kind = 0
              · have e0 : (E.kind != 0) = false := by simp [hk0]
                have HO9 := Lib.hid (only_alloc HO8.out (.cells #[.int .i64 E.kind, .int .i64 E.id, .string E.old, .string E.new] 44))
                have HS9 := Lib.hid (HS8.out.alloc (.cells #[.int .i64 E.kind, .int .i64 E.id, .string E.old, .string E.new] 44))
                have HOWN9 := Lib.hid (HOWN8.out.alloc (.cells #[.int .i64 E.kind, .int .i64 E.id, .string E.old, .string E.new] 44))
                clear hk0
                go_wp2
                go_roundw
                case rel => exact ⟨P, q + 1, HOWN9.out, by go_num, by omega, by omega, HD.out.skip, by simp, HS9.out.more (by omega), HO9.out⟩
                case measure => simp [RowKit.intOf]; omega
              · have e0 : (E.kind != 0) = true := by simp [hk0]
                have HE2 := Lib.hid (HE.out.resolve_left hk0)
                clear hk0
                go_wp2_with (at_builtin; refine wpList_append_own _ rfl _ _ 25 rfl w.heap.size 44 i0 (.agg #[.int .i64 0, .int .i64 0, .string ⟨#[]⟩, .string ⟨#[]⟩]) 4 48 Tryd.underlying25 hi hz0 hz1 hz2 rfl (by decide) _ _ _ rfl ((HOWN8.out.alloc _).alloc _) ⟨w8.heap.size + 1, 0, none⟩ 1 1 (editCells E) rfl rfl (fun j u hj => new_at2 hj) (fun u hu => edit_one hu) ?c3 ?c4 (base_le (base_le hsz8)) ?_)
                case c3 => unfold maxLen; omega
                case c4 => omega
                · intro v' w9 hown' hgrow hiff
                  have hnn' : v' ≠ .slice none 0 0 := by simpa using hiff
                  have hr : ∀ j, (Value.slice (some ⟨g, 0, none⟩) P.length cap).ownBlock = some j → w.heap.size ≤ j := fun j hj => (HOWN8.out.lt j hj).1
                  have HO9 := Lib.hid (only_grown (only_alloc (only_alloc HO8.out _) _) hgrow hr)
                  have HS9 := Lib.hid (((HS8.out.alloc _).alloc _).grown hgrow (fun j hj => Nat.lt_of_lt_of_le HB.out (hr j hj)))
                  clear hgrow hiff hr
                  go_wp2
                  go_roundw
                  case rel => exact ⟨P ++ [E], q + 1, by rw [flat_snoc, List.length_append]; exact hown', by go_num, by omega, by omega, HD.out.snoc HE2.out.1 HE2.out.2, hnn', HS9.out.more (by omega), HO9.out⟩
                  case measure => simp [RowKit.intOf]; omega
          | true =>
            go_wp2_with (fail)
            refine (one_any B b _ 20 w5 HS5.out (by omega) (by omega) (by omega)).mono ?_
            rintro e w6 ⟨x6, rfl, hs6, ho6⟩
            have HOWN6 := Lib.hid (own_only HOWN5.out HB.out ho6)
            have HO6 := Lib.hid (only_trans HO5.out ho6)
            have HS6 := Lib.hid hs6
            clear hs6 ho6
            cases x6 with
            | false =>
              have HOWN7 := HOWN6
              have HO7 := HO6
              have HS7 := HS6
              have HE : Hid ((stepE q old ⟨#[]⟩).kind = 0 ∨ (okEdit (stepE q old ⟨#[]⟩) = true ∧ (stepE q old ⟨#[]⟩).id = q)) := Lib.hid (by
                rcases stepE_ok (i := q) (by omega) (by omega) HFO.out emp_txt with h | ⟨h1, h2, _⟩
                · left; rw [h]; rfl
                · exact .inr ⟨h1, h2⟩)
              have HST : Hid (Calls Tryd.prog 27 #[.int .i64 q, .string old, .string ⟨#[]⟩] w6 (RetB (.agg #[.int .i64 (stepE q old ⟨#[]⟩).kind, .int .i64 (stepE q old ⟨#[]⟩).id, .string (stepE q old ⟨#[]⟩).old, .string (stepE q old ⟨#[]⟩).new]) w6)) := Lib.hid (step1_any q old ⟨#[]⟩ w6)
              generalize stepE q old ⟨#[]⟩ = E at HE HST
              go_wp2_with (fail)
              refine (HST.out).mono ?_
              rintro e w8 ⟨rfl, hb8⟩
              have hown8 := own_below HOWN7.out hb8
              have hO8 := only_below' HO7.out hb8 HO7.out.size
              have hS8 := HS7.out.below hb8 HS7.out.lt.1
              have HOWN8 := Lib.hid hown8
              have HO8 := Lib.hid hO8
              have HS8 := Lib.hid hS8
              have hsz8 := hO8.size
              clear hown8 hO8 hS8 hb8
              by_cases hk0 : E.kind = 0
              · have e0 : (E.kind != 0) = false := by simp [hk0]
                have HO9 := Lib.hid (only_alloc HO8.out (.cells #[.int .i64 E.kind, .int .i64 E.id, .string E.old, .string E.new] 44))
                have HS9 := Lib.hid (HS8.out.alloc (.cells #[.int .i64 E.kind, .int .i64 E.id, .string E.old, .string E.new] 44))
                have HOWN9 := Lib.hid (HOWN8.out.alloc (.cells #[.int .i64 E.kind, .int .i64 E.id, .string E.old, .string E.new] 44))
                clear hk0
                go_wp2
                go_roundw
                case rel => exact ⟨P, q + 1, HOWN9.out, by go_num, by omega, by omega, HD.out.skip, by simp, HS9.out.more (by omega), HO9.out⟩
                case measure => simp [RowKit.intOf]; omega
              · have e0 : (E.kind != 0) = true := by simp [hk0]
                have HE2 := Lib.hid (HE.out.resolve_left hk0)
                clear hk0
                go_wp2_with (at_builtin; refine wpList_append_own _ rfl _ _ 25 rfl w.heap.size 44 i0 (.agg #[.int .i64 0, .int .i64 0, .string ⟨#[]⟩, .string ⟨#[]⟩]) 4 48 Tryd.underlying25 hi hz0 hz1 hz2 rfl (by decide) _ _ _ rfl ((HOWN8.out.alloc _).alloc _) ⟨w8.heap.size + 1, 0, none⟩ 1 1 (editCells E) rfl rfl (fun j u hj => new_at2 hj) (fun u hu => edit_one hu) ?c3 ?c4 (base_le (base_le hsz8)) ?_)
                case c3 => unfold maxLen; omega
                case c4 => omega
                · intro v' w9 hown' hgrow hiff
                  have hnn' : v' ≠ .slice none 0 0 := by simpa using hiff
                  have hr : ∀ j, (Value.slice (some ⟨g, 0, none⟩) P.length cap).ownBlock = some j → w.heap.size ≤ j := fun j hj => (HOWN8.out.lt j hj).1
                  have HO9 := Lib.hid (only_grown (only_alloc (only_alloc HO8.out _) _) hgrow hr)
                  have HS9 := Lib.hid (((HS8.out.alloc _).alloc _).grown hgrow (fun j hj => Nat.lt_of_lt_of_le HB.out (hr j hj)))
                  clear hgrow hiff hr
                  go_wp2
                  go_roundw
                  case rel => exact ⟨P ++ [E], q + 1, by rw [flat_snoc, List.length_append]; exact hown', by go_num, by omega, by omega, HD.out.snoc HE2.out.1 HE2.out.2, hnn', HS9.out.more (by omega), HO9.out⟩
                  case measure => simp [RowKit.intOf]; omega
            | true =>
              go_wp2_with (fail)
              refine (drawSent_any B b _ w6 HS6.out (by omega)).mono ?_
              rintro e w7 ⟨l7, hl7, rfl, hs7, ho7⟩
              have HOWN7 := Lib.hid (own_only HOWN6.out HB.out ho7)
              have HO7 := Lib.hid (only_trans HO6.out ho7)
              have HS7 := Lib.hid hs7
              have HL7 := Lib.hid hl7
              clear hs7 ho7 hl7
              have HE : Hid ((stepE q ⟨l7.toArray⟩ ⟨#[]⟩).kind = 0 ∨ (okEdit (stepE q ⟨l7.toArray⟩ ⟨#[]⟩) = true ∧ (stepE q ⟨l7.toArray⟩ ⟨#[]⟩).id = q)) := Lib.hid (by
                rcases stepE_ok (i := q) (by omega) (by omega) (sent_txt HL7.out) emp_txt with h | ⟨h1, h2, _⟩
                · left; rw [h]; rfl
                · exact .inr ⟨h1, h2⟩)
              have HST : Hid (Calls Tryd.prog 27 #[.int .i64 q, .string ⟨l7.toArray⟩, .string ⟨#[]⟩] w7 (RetB (.agg #[.int .i64 (stepE q ⟨l7.toArray⟩ ⟨#[]⟩).kind, .int .i64 (stepE q ⟨l7.toArray⟩ ⟨#[]⟩).id, .string (stepE q ⟨l7.toArray⟩ ⟨#[]⟩).old, .string (stepE q ⟨l7.toArray⟩ ⟨#[]⟩).new]) w7)) := Lib.hid (step1_any q ⟨l7.toArray⟩ ⟨#[]⟩ w7)
              generalize stepE q ⟨l7.toArray⟩ ⟨#[]⟩ = E at HE HST
              go_wp2_with (fail)
              refine (HST.out).mono ?_
              rintro e w8 ⟨rfl, hb8⟩
              have hown8 := own_below HOWN7.out hb8
              have hO8 := only_below' HO7.out hb8 HO7.out.size
              have hS8 := HS7.out.below hb8 HS7.out.lt.1
              have HOWN8 := Lib.hid hown8
              have HO8 := Lib.hid hO8
              have HS8 := Lib.hid hS8
              have hsz8 := hO8.size
              clear hown8 hO8 hS8 hb8
              by_cases hk0 : E.kind = 0
              · have e0 : (E.kind != 0) = false := by simp [hk0]
                have HO9 := Lib.hid (only_alloc HO8.out (.cells #[.int .i64 E.kind, .int .i64 E.id, .string E.old, .string E.new] 44))
                have HS9 := Lib.hid (HS8.out.alloc (.cells #[.int .i64 E.kind, .int .i64 E.id, .string E.old, .string E.new] 44))
                have HOWN9 := Lib.hid (HOWN8.out.alloc (.cells #[.int .i64 E.kind, .int .i64 E.id, .string E.old, .string E.new] 44))
                clear hk0
                go_wp2
                go_roundw
                case rel => exact ⟨P, q + 1, HOWN9.out, by go_num, by omega, by omega, HD.out.skip, by simp, HS9.out.more (by omega), HO9.out⟩
                case measure => simp [RowKit.intOf]; omega
              · have e0 : (E.kind != 0) = true := by simp [hk0]
                have HE2 := Lib.hid (HE.out.resolve_left hk0)
                clear hk0
                go_wp2_with (at_builtin; refine wpList_append_own _ rfl _ _ 25 rfl w.heap.size 44 i0 (.agg #[.int .i64 0, .int .i64 0, .string ⟨#[]⟩, .string ⟨#[]⟩]) 4 48 Tryd.underlying25 hi hz0 hz1 hz2 rfl (by decide) _ _ _ rfl ((HOWN8.out.alloc _).alloc _) ⟨w8.heap.size + 1, 0, none⟩ 1 1 (editCells E) rfl rfl (fun j u hj => new_at2 hj) (fun u hu => edit_one hu) ?c3 ?c4 (base_le (base_le hsz8)) ?_)
                case c3 => unfold maxLen; omega
                case c4 => omega
                · intro v' w9 hown' hgrow hiff
                  have hnn' : v' ≠ .slice none 0 0 := by simpa using hiff
                  have hr : ∀ j, (Value.slice (some ⟨g, 0, none⟩) P.length cap).ownBlock = some j → w.heap.size ≤ j := fun j hj => (HOWN8.out.lt j hj).1
                  have HO9 := Lib.hid (only_grown (only_alloc (only_alloc HO8.out _) _) hgrow hr)
                  have HS9 := Lib.hid (((HS8.out.alloc _).alloc _).grown hgrow (fun j hj => Nat.lt_of_lt_of_le HB.out (hr j hj)))
                  clear hgrow hiff hr
                  go_wp2
                  go_roundw
                  case rel => exact ⟨P ++ [E], q + 1, by rw [flat_snoc, List.length_append]; exact hown', by go_num, by omega, by omega, HD.out.snoc HE2.out.1 HE2.out.2, hnn', HS9.out.more (by omega), HO9.out⟩
                  case measure => simp [RowKit.intOf]; omega
    · have hq2 : ¬ (q : Int) ≤ 16 := by omega
      obtain rfl : q = 17 := by omega
      have HOL : Hid (OwnL editCells P w.heap.size wr (.slice (some ⟨g, 0, none⟩) P.length cap)) := Lib.hid (OwnL.of_own editCells (size := 4) (fun _ => rfl) HOWN.out)
      go_wp2
      go_ret
      exact ⟨_, P, rfl, HOL.out, HD.out.ok, HS.out.more (by omega), HO.out⟩
end Go.Proofs.YtmgdodgofpapgaaDoor
