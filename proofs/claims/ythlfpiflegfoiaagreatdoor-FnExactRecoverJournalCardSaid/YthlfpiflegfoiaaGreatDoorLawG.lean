/- The text of a patch, walked: the program's. -/
import Derived.Test.YthlfpiflegfoiaaGreatDoorLawF
import Derived.Test.YthlfpiflegfoiaaGreatDoorEnv
namespace Go.Proofs.YthlfpiflegfoiaaGreatDoor
open Go.RowKit Go.Lib

theorem okPatch_at {p : List Edit} (h : okPatch p = true) {k : Nat} {e : Edit} (hk : p[k]? = some e) : okEdit e = true := by
  rw [okPatch_eq, Bool.and_eq_true, allLt_true] at h
  have hlt : k < p.length := (List.getElem?_eq_some_iff.1 hk).1
  have := h.1 k hlt
  unfold patchAt at this
  rw [hk, Bool.and_eq_true] at this
  exact this.1
theorem okPatch_len {p : List Edit} (h : okPatch p = true) : p.length ≤ 16 := by
  rw [okPatch_eq, Bool.and_eq_true] at h
  exact of_decide_eq_true h.2
theorem okSent_len {l : List UInt8} (h : okSent l = true) : l.length ≤ 24 := by
  unfold okSent at h
  simp only [Bool.and_eq_true] at h
  exact of_decide_eq_true h.1.1.2
theorem okEdit_facts {e : Edit} (h : okEdit e = true) : 1 ≤ e.id ∧ e.id ≤ 99 ∧ e.old.toList.length ≤ 24 ∧ e.new.toList.length ≤ 24 := by
  unfold okEdit at h
  rw [Bool.and_eq_true] at h
  obtain ⟨h1, h2⟩ := h
  rw [inB_iff] at h1
  refine ⟨h1.1, h1.2, ?_⟩
  simp only [Bool.or_eq_true, Bool.and_eq_true, decide_eq_true_eq] at h2
  rcases h2 with (⟨⟨_, h⟩, hn⟩ | ⟨⟨_, ho⟩, h⟩) | ⟨⟨⟨_, ho⟩, hn⟩, _⟩
  · exact ⟨by rw [h]; simp, okSent_len hn⟩
  · exact ⟨okSent_len ho, by rw [h]; simp⟩
  · exact ⟨okSent_len ho, okSent_len hn⟩
theorem editText_len {e : Edit} (h : okEdit e = true) : (editText e).length ≤ 80 := by
  obtain ⟨h1, h2, h3, h4⟩ := okEdit_facts h
  have := itoa_length_le e.id (by omega) (by omega)
  unfold editText
  split
  · simp; omega
  · split
    · simp; omega
    · simp; omega
theorem patchText_take {p : List Edit} (h : okPatch p = true) (k : Nat) : (patchText (p.take k)).length ≤ 80 * k := by
  induction k with
  | zero => simp [patchText]
  | succ k ih =>
    by_cases hlt : k < p.length
    · rw [List.take_succ_eq_append_getElem hlt]
      unfold patchText at *
      rw [List.flatMap_append, List.length_append]
      have := editText_len (okPatch_at h (List.getElem?_eq_getElem hlt))
      simp only [List.flatMap_cons, List.flatMap_nil, List.append_nil]
      omega
    · have e1 : p.take k = p := List.take_of_length_le (by omega)
      have e2 : p.take (k + 1) = p := List.take_of_length_le (by omega)
      rw [e2]
      rw [e1] at ih
      omega
theorem patchText_succ {p : List Edit} {k : Nat} {e : Edit} (hk : p[k]? = some e) : patchText (p.take (k + 1)) = patchText (p.take k) ++ editText e := by
  have hlt : k < p.length := (List.getElem?_eq_some_iff.1 hk).1
  rw [List.take_succ_eq_append_getElem hlt]
  have : p[k] = e := by rw [List.getElem?_eq_getElem hlt] at hk; exact Option.some.inj hk
  unfold patchText
  rw [List.flatMap_append, this]
  simp

/-- What PatchText gives. -/
def patchOut (es : List Edit) : List UInt8 := if okPatch es = true then patchText es else []
theorem patchOut_no {es : List Edit} (h : okPatch es = false) : patchOut es = [] := by unfold patchOut; rw [if_neg (by rw [h]; simp)]
theorem patchOut_ok {es : List Edit} (h : okPatch es = true) : patchOut es = patchText es := by unfold patchOut; rw [if_pos h]

set_option maxRecDepth 100000 in
set_option maxHeartbeats 4000000 in
theorem patchText2_any (es : List Edit) (w : World) (v : Value) (h : Edits w w.heap.size v es) (hs : SizesOk es) (hE : Env w.heap.size w) :
    Calls Tryz.prog 45 #[v] w (RetB (.tuple #[.string ⟨(patchOut es).toArray⟩, .bool (okPatch es)]) w) := by
  have HV := Lib.hid (patch2_any es w v h hs)
  obtain ⟨A, c, rfl, hc, hm, hel⟩ := h
  unfold maxLen at hm
  have hlm : es.length ≤ 9223372036854775807 := by omega
  have HEL := Lib.hid hel
  have E := Lib.hid hE
  clear hel hs hE
  go_enter Tryz.func45, Tryz.ntmps45
  go_wp2_with (fail)
  refine HV.out.mono ?_
  rintro e w1 ⟨rfl, hb1⟩
  cases hok : okPatch es with
  | false =>
    have HO := Lib.hid hok
    clear hok
    go_wp2
    go_ret2
    exact ⟨by rw [patchOut_no HO.out, HO.out]; rfl, hb1⟩
  | true =>
    have HO := Lib.hid hok
    clear hok
    go_wp2
    go_loopw [4, 6, 12] (fun s _ i wr => ∃ k : Nat, k ≤ es.length ∧ i = .int .i64 (k : Int) ∧ s = .string ⟨(patchText (es.take k)).toArray⟩ ∧ Below w.heap.size w wr) (fun _ _ i _ => es.length - (RowKit.intOf i).toNat)
    case atStart => exact ⟨0, Nat.zero_le _, rfl, by simp [patchText], hb1⟩
    case round =>
      obtain ⟨k, hk, rfl, rfl, hb⟩ := hrel
      by_cases hlt : k < es.length
      · obtain ⟨b, off, hA, hblt, hcell⟩ := HEL.out (by omega)
        subst hA
        have hget : es[k]? = some es[k] := List.getElem?_eq_getElem hlt
        obtain ⟨c0, c1, c2, c3⟩ := edits_at hcell hget
        have x0 := (hb.cell (p := ⟨b, off + k * 4, none⟩) hblt).trans c0
        have x1 := (hb.cell (p := ⟨b, off + k * 4 + 1, none⟩) hblt).trans c1
        have x2 := (hb.cell (p := ⟨b, off + k * 4 + 2, none⟩) hblt).trans c2
        have x3 := (hb.cell (p := ⟨b, off + k * 4 + 3, none⟩) hblt).trans c3
        have HTK := Lib.hid (patchText_succ hget)
        have hoe := okPatch_at HO.out hget
        have hlen := patchText_take HO.out k
        have hl16 := okPatch_len HO.out
        clear hget hcell c0 c1 c2 c3
        generalize es[k] = e at *
        have hlen' : (patchText (es.take k)).length ≤ 1280 := by omega
        generalize patchText (es.take k) = out at *
        obtain ⟨i1, i2, i3, i4⟩ := okEdit_facts hoe
        have il := itoa_length_le e.id (by omega) (by omega)
        clear hoe hlen hl16
        have bW0 := hb.alloc hb.size (.cells #[.int .i64 e.kind, .int .i64 e.id, .string e.old, .string e.new] 66)
        by_cases k1 : e.kind = 1
        · have b1 : (e.kind == 1) = true := by simp [k1]
          have hed : editText e = 43 :: (itoa e.id ++ 32 :: (e.new.toList ++ [10])) := by unfold editText; rw [if_pos k1]
          have HED := Lib.hid hed
          clear k1 hed
          go_upto_region 10 with (fail)
          obtain ⟨W, hW⟩ : ∃ W : World, W = wr.alloc (.cells #[.int .i64 e.kind, .int .i64 e.id, .string e.old, .string e.new] 66) := ⟨_, rfl⟩
          rw [← hW] at bW0
          have y1 : W.cell? ⟨wr.heap.size, 1, none⟩ = some (.int .i64 e.id) := by rw [hW]; simp [go_sem]
          have y2 : W.cell? ⟨wr.heap.size, 2, none⟩ = some (.string e.old) := by rw [hW]; simp [go_sem]
          have y3 : W.cell? ⟨wr.heap.size, 3, none⟩ = some (.string e.new) := by rw [hW]; simp [go_sem]
          rw [← hW]
          clear hW x0 x1 x2 x3
          have z1 := fun x : Aft W => x.cell y1
          have z2 := fun x : Aft W => x.cell y2
          have z3 := fun x : Aft W => x.cell y3
          clear y1 y2 y3
          have q0 : ∀ w, (Op.stringOp .add ⟨#[43]⟩ ⟨(itoa e.id).toArray⟩).run Tryz.prog w = .ok (.string ⟨(43 :: itoa e.id).toArray⟩) w := fun w => cat_llt [43] (itoa e.id) _ (by simp) (by simp) (by omega) w
          have q1 : ∀ w, (Op.stringOp .add ⟨(43 :: itoa e.id).toArray⟩ ⟨#[32]⟩).run Tryz.prog w = .ok (.string ⟨(43 :: (itoa e.id ++ [32])).toArray⟩) w := fun w => cat_llt (43 :: itoa e.id) [32] _ (by simp) (by simp; omega) (by simp) w
          have q2 : ∀ w, (Op.stringOp .add ⟨(43 :: (itoa e.id ++ [32])).toArray⟩ e.new).run Tryz.prog w = .ok (.string ⟨(43 :: (itoa e.id ++ (32 :: e.new.toList))).toArray⟩) w := fun w => cat_lbt (43 :: (itoa e.id ++ [32])) e.new _ (by simp) (by simp; omega) (by omega) w
          have q3 : ∀ w, (Op.stringOp .add ⟨(43 :: (itoa e.id ++ (32 :: e.new.toList))).toArray⟩ ⟨#[10]⟩).run Tryz.prog w = .ok (.string ⟨(43 :: (itoa e.id ++ (32 :: (e.new.toList ++ [10])))).toArray⟩) w := fun w => cat_llt (43 :: (itoa e.id ++ (32 :: e.new.toList))) [10] _ (by simp) (by simp; omega) (by simp) w
          have q4 : ∀ w, (Op.stringOp .add ⟨out.toArray⟩ ⟨(43 :: (itoa e.id ++ (32 :: (e.new.toList ++ [10])))).toArray⟩).run Tryz.prog w = .ok (.string ⟨(out ++ 43 :: (itoa e.id ++ (32 :: (e.new.toList ++ [10])))).toArray⟩) w := fun w => cat_llt out (43 :: (itoa e.id ++ (32 :: (e.new.toList ++ [10])))) _ rfl (by omega) (by simp; omega) w
          refine wp_region_aft (by kernel_rfl) (by kernel_rfl) ?_
          repeat (go_big_quiet_step ((go_at_call 30; exact aft_b (decimal_any w.heap.size _ _ (E.out.on (bW0.trans (Below.mono (Aft.ok _) bW0.size))) (by omega) (by omega)))))
          refine wpQuiet_nil ?_
          rintro _ ⟨y, rfl⟩
          have bY := bW0.trans (y.ok.mono bW0.size)
          go_wp2
          go_roundw
          case rel => exact ⟨k + 1, by omega, by go_num, by rw [HTK.out, HED.out], bY⟩
          case measure => simp [RowKit.intOf]; omega
        · by_cases k2 : e.kind = 2
          · have b1 : (e.kind == 1) = false := by simp [k1]
            have b2 : (e.kind == 2) = true := by simp [k2]
            have hed : editText e = 45 :: (itoa e.id ++ 32 :: (e.old.toList ++ [10])) := by unfold editText; rw [if_neg k1, if_pos k2]
            have HED := Lib.hid hed
            clear k1 k2 hed
            go_upto_region 12 with (fail)
            obtain ⟨W, hW⟩ : ∃ W : World, W = wr.alloc (.cells #[.int .i64 e.kind, .int .i64 e.id, .string e.old, .string e.new] 66) := ⟨_, rfl⟩
            rw [← hW] at bW0
            have y1 : W.cell? ⟨wr.heap.size, 1, none⟩ = some (.int .i64 e.id) := by rw [hW]; simp [go_sem]
            have y2 : W.cell? ⟨wr.heap.size, 2, none⟩ = some (.string e.old) := by rw [hW]; simp [go_sem]
            have y3 : W.cell? ⟨wr.heap.size, 3, none⟩ = some (.string e.new) := by rw [hW]; simp [go_sem]
            rw [← hW]
            clear hW x0 x1 x2 x3
            have z1 := fun x : Aft W => x.cell y1
            have z2 := fun x : Aft W => x.cell y2
            have z3 := fun x : Aft W => x.cell y3
            clear y1 y2 y3
            have q0 : ∀ w, (Op.stringOp .add ⟨#[45]⟩ ⟨(itoa e.id).toArray⟩).run Tryz.prog w = .ok (.string ⟨(45 :: itoa e.id).toArray⟩) w := fun w => cat_llt [45] (itoa e.id) _ (by simp) (by simp) (by omega) w
            have q1 : ∀ w, (Op.stringOp .add ⟨(45 :: itoa e.id).toArray⟩ ⟨#[32]⟩).run Tryz.prog w = .ok (.string ⟨(45 :: (itoa e.id ++ [32])).toArray⟩) w := fun w => cat_llt (45 :: itoa e.id) [32] _ (by simp) (by simp; omega) (by simp) w
            have q2 : ∀ w, (Op.stringOp .add ⟨(45 :: (itoa e.id ++ [32])).toArray⟩ e.old).run Tryz.prog w = .ok (.string ⟨(45 :: (itoa e.id ++ (32 :: e.old.toList))).toArray⟩) w := fun w => cat_lbt (45 :: (itoa e.id ++ [32])) e.old _ (by simp) (by simp; omega) (by omega) w
            have q3 : ∀ w, (Op.stringOp .add ⟨(45 :: (itoa e.id ++ (32 :: e.old.toList))).toArray⟩ ⟨#[10]⟩).run Tryz.prog w = .ok (.string ⟨(45 :: (itoa e.id ++ (32 :: (e.old.toList ++ [10])))).toArray⟩) w := fun w => cat_llt (45 :: (itoa e.id ++ (32 :: e.old.toList))) [10] _ (by simp) (by simp; omega) (by simp) w
            have q4 : ∀ w, (Op.stringOp .add ⟨out.toArray⟩ ⟨(45 :: (itoa e.id ++ (32 :: (e.old.toList ++ [10])))).toArray⟩).run Tryz.prog w = .ok (.string ⟨(out ++ 45 :: (itoa e.id ++ (32 :: (e.old.toList ++ [10])))).toArray⟩) w := fun w => cat_llt out (45 :: (itoa e.id ++ (32 :: (e.old.toList ++ [10])))) _ rfl (by omega) (by simp; omega) w
            refine wp_region_aft (by kernel_rfl) (by kernel_rfl) ?_
            repeat (go_big_quiet_step ((go_at_call 30; exact aft_b (decimal_any w.heap.size _ _ (E.out.on (bW0.trans (Below.mono (Aft.ok _) bW0.size))) (by omega) (by omega)))))
            refine wpQuiet_nil ?_
            rintro _ ⟨y, rfl⟩
            have bY := bW0.trans (y.ok.mono bW0.size)
            go_wp2
            go_roundw
            case rel => exact ⟨k + 1, by omega, by go_num, by rw [HTK.out, HED.out], bY⟩
            case measure => simp [RowKit.intOf]; omega
          · have b1 : (e.kind == 1) = false := by simp [k1]
            have b2 : (e.kind == 2) = false := by simp [k2]
            have hed : editText e = 126 :: (itoa e.id ++ 32 :: (e.old.toList ++ 124 :: (e.new.toList ++ [10]))) := by unfold editText; rw [if_neg k1, if_neg k2]
            have HED := Lib.hid hed
            clear k1 k2 hed
            go_upto_region 8 with (fail)
            obtain ⟨W, hW⟩ : ∃ W : World, W = wr.alloc (.cells #[.int .i64 e.kind, .int .i64 e.id, .string e.old, .string e.new] 66) := ⟨_, rfl⟩
            rw [← hW] at bW0
            have y1 : W.cell? ⟨wr.heap.size, 1, none⟩ = some (.int .i64 e.id) := by rw [hW]; simp [go_sem]
            have y2 : W.cell? ⟨wr.heap.size, 2, none⟩ = some (.string e.old) := by rw [hW]; simp [go_sem]
            have y3 : W.cell? ⟨wr.heap.size, 3, none⟩ = some (.string e.new) := by rw [hW]; simp [go_sem]
            rw [← hW]
            clear hW x0 x1 x2 x3
            have z1 := fun x : Aft W => x.cell y1
            have z2 := fun x : Aft W => x.cell y2
            have z3 := fun x : Aft W => x.cell y3
            clear y1 y2 y3
            have q0 : ∀ w, (Op.stringOp .add ⟨#[126]⟩ ⟨(itoa e.id).toArray⟩).run Tryz.prog w = .ok (.string ⟨(126 :: itoa e.id).toArray⟩) w := fun w => cat_llt [126] (itoa e.id) _ (by simp) (by simp) (by omega) w
            have q1 : ∀ w, (Op.stringOp .add ⟨(126 :: itoa e.id).toArray⟩ ⟨#[32]⟩).run Tryz.prog w = .ok (.string ⟨(126 :: (itoa e.id ++ [32])).toArray⟩) w := fun w => cat_llt (126 :: itoa e.id) [32] _ (by simp) (by simp; omega) (by simp) w
            have q2 : ∀ w, (Op.stringOp .add ⟨(126 :: (itoa e.id ++ [32])).toArray⟩ e.old).run Tryz.prog w = .ok (.string ⟨(126 :: (itoa e.id ++ (32 :: e.old.toList))).toArray⟩) w := fun w => cat_lbt (126 :: (itoa e.id ++ [32])) e.old _ (by simp) (by simp; omega) (by omega) w
            have q3 : ∀ w, (Op.stringOp .add ⟨(126 :: (itoa e.id ++ (32 :: e.old.toList))).toArray⟩ ⟨#[124]⟩).run Tryz.prog w = .ok (.string ⟨(126 :: (itoa e.id ++ (32 :: (e.old.toList ++ [124])))).toArray⟩) w := fun w => cat_llt (126 :: (itoa e.id ++ (32 :: e.old.toList))) [124] _ (by simp) (by simp; omega) (by simp) w
            have q4 : ∀ w, (Op.stringOp .add ⟨(126 :: (itoa e.id ++ (32 :: (e.old.toList ++ [124])))).toArray⟩ e.new).run Tryz.prog w = .ok (.string ⟨(126 :: (itoa e.id ++ (32 :: (e.old.toList ++ (124 :: e.new.toList))))).toArray⟩) w := fun w => cat_lbt (126 :: (itoa e.id ++ (32 :: (e.old.toList ++ [124])))) e.new _ (by simp) (by simp; omega) (by omega) w
            have q5 : ∀ w, (Op.stringOp .add ⟨(126 :: (itoa e.id ++ (32 :: (e.old.toList ++ (124 :: e.new.toList))))).toArray⟩ ⟨#[10]⟩).run Tryz.prog w = .ok (.string ⟨(126 :: (itoa e.id ++ (32 :: (e.old.toList ++ (124 :: (e.new.toList ++ [10])))))).toArray⟩) w := fun w => cat_llt (126 :: (itoa e.id ++ (32 :: (e.old.toList ++ (124 :: e.new.toList))))) [10] _ (by simp) (by simp; omega) (by simp) w
            have q6 : ∀ w, (Op.stringOp .add ⟨out.toArray⟩ ⟨(126 :: (itoa e.id ++ (32 :: (e.old.toList ++ (124 :: (e.new.toList ++ [10])))))).toArray⟩).run Tryz.prog w = .ok (.string ⟨(out ++ 126 :: (itoa e.id ++ (32 :: (e.old.toList ++ (124 :: (e.new.toList ++ [10])))))).toArray⟩) w := fun w => cat_llt out (126 :: (itoa e.id ++ (32 :: (e.old.toList ++ (124 :: (e.new.toList ++ [10])))))) _ rfl (by omega) (by simp; omega) w
            refine wp_region_aft (by kernel_rfl) (by kernel_rfl) ?_
            repeat (go_big_quiet_step ((go_at_call 30; exact aft_b (decimal_any w.heap.size _ _ (E.out.on (bW0.trans (Below.mono (Aft.ok _) bW0.size))) (by omega) (by omega)))))
            refine wpQuiet_nil ?_
            rintro _ ⟨y, rfl⟩
            have bY := bW0.trans (y.ok.mono bW0.size)
            go_wp2
            go_roundw
            case rel => exact ⟨k + 1, by omega, by go_num, by rw [HTK.out, HED.out], bY⟩
            case measure => simp [RowKit.intOf]; omega
      · have hk' : k = es.length := by omega
        have hge : ¬ (k : Int) < (es.length : Int) := by omega
        have hfin : es.take k = es := List.take_of_length_le (by omega)
        rw [hfin]
        clear hk' hlt hfin
        go_wp2
        go_ret2
        exact ⟨by rw [patchOut_ok HO.out, HO.out]; rfl, hb⟩
end Go.Proofs.YthlfpiflegfoiaaGreatDoor
