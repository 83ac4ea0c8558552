/- The text of a statute, walked: the program's. -/
import Derived.Test.YtmgdodgofpapgaaDoorSv
import Derived.Test.YtmgdodgofpapgaaDoorEnv
namespace Go.Proofs.YtmgdodgofpapgaaDoor
open Go.RowKit Go.Lib

set_option maxRecDepth 100000 in
set_option maxHeartbeats 4000000 in
theorem statText2_any (es : List Art) (w : World) (v : Value) (h : Arts w w.heap.size v es) (hs : ∀ a ∈ es, a.text.size ≤ maxLen) (hE : Env w.heap.size w) :
    Calls Tryd.prog 6 #[v] w (RetB (.tuple #[.string ⟨(statOut es).toArray⟩, .bool (okStat es)]) w) := by
  have HV := Lib.hid (stat2_any es w v h hs)
  obtain ⟨A, c, rfl, hc, hm, hel⟩ := h
  unfold maxLen at hm
  have hlm : es.length ≤ 9223372036854775807 := by omega
  have HEL := Lib.hid hel
  have E := Lib.hid hE
  clear hel hs hE
  go_enter Tryd.func6, Tryd.ntmps6
  go_wp2_with (fail)
  refine HV.out.mono ?_
  rintro e w1 ⟨rfl, hb1⟩
  cases hok : okStat es with
  | false =>
    have HO := Lib.hid hok
    clear hok
    go_wp2
    go_ret2
    exact ⟨by rw [statOut_no HO.out, HO.out]; rfl, hb1⟩
  | true =>
    have HO := Lib.hid hok
    clear hok
    go_wp2
    go_loopw [4, 6, 12] (fun s _ i wr => ∃ k : Nat, k ≤ es.length ∧ i = .int .i64 (k : Int) ∧ s = .string ⟨(statText (es.take k)).toArray⟩ ∧ Below w.heap.size w wr) (fun _ _ i _ => es.length - (RowKit.intOf i).toNat)
    case atStart => exact ⟨0, Nat.zero_le _, rfl, by simp [statText], hb1⟩
    case round =>
      obtain ⟨k, hk, rfl, rfl, hb⟩ := hrel
      by_cases hlt : k < es.length
      · obtain ⟨b, off, hA, hblt, hcell⟩ := HEL.out (by omega)
        subst hA
        have hget : es[k]? = some es[k] := List.getElem?_eq_getElem hlt
        obtain ⟨c0, c1⟩ := arts_at hcell hget
        have x0 := (hb.cell (p := ⟨b, off + k * 2, none⟩) hblt).trans c0
        have x1 := (hb.cell (p := ⟨b, off + k * 2 + 1, none⟩) hblt).trans c1
        have HTK := Lib.hid (statText_succ hget)
        have hoe := okStat_at HO.out hget
        have hlen := statText_take HO.out k
        have hl16 := okStat_len HO.out
        clear hget hcell c0 c1
        generalize es[k] = e at *
        have hlen' : (statText (es.take k)).length ≤ 600 := by omega
        generalize statText (es.take k) = out at *
        obtain ⟨i1, i2, i3, i4⟩ := okArt_facts hoe
        have il := itoa_length_le e.id (by omega) (by omega)
        clear hoe hlen hl16 i3
        have bW0 := hb.alloc hb.size (.cells #[.int .i64 e.id, .string e.text] 48)
        have HED : Hid (artLine e ++ [10] = itoa e.id ++ (32 :: (e.text.toList ++ [10]))) := Lib.hid (by unfold artLine; simp)
        go_upto_region 7 with (fail)
        obtain ⟨W, hW⟩ : ∃ W : World, W = wr.alloc (.cells #[.int .i64 e.id, .string e.text] 48) := ⟨_, rfl⟩
        rw [← hW] at bW0
        have y0 : W.cell? ⟨wr.heap.size, 0, none⟩ = some (.int .i64 e.id) := by rw [hW]; simp [go_sem]
        have y1 : W.cell? ⟨wr.heap.size, 1, none⟩ = some (.string e.text) := by rw [hW]; simp [go_sem]
        rw [← hW]
        clear hW x0 x1
        have z0 := fun x : Aft W => x.cell y0
        have z1 := fun x : Aft W => x.cell y1
        clear y0 y1
        have q1 : ∀ w, (Op.stringOp .add ⟨(itoa e.id).toArray⟩ ⟨#[32]⟩).run Tryd.prog w = .ok (.string ⟨(itoa e.id ++ [32]).toArray⟩) w := fun w => cat_llt (itoa e.id) [32] _ rfl (by omega) (by simp) w
        have q2 : ∀ w, (Op.stringOp .add ⟨(itoa e.id ++ [32]).toArray⟩ e.text).run Tryd.prog w = .ok (.string ⟨(itoa e.id ++ (32 :: e.text.toList)).toArray⟩) w := fun w => cat_lbt (itoa e.id ++ [32]) e.text _ (by simp) (by simp; omega) (by omega) w
        have q3 : ∀ w, (Op.stringOp .add ⟨(itoa e.id ++ (32 :: e.text.toList)).toArray⟩ ⟨#[10]⟩).run Tryd.prog w = .ok (.string ⟨(itoa e.id ++ (32 :: (e.text.toList ++ [10]))).toArray⟩) w := fun w => cat_llt (itoa e.id ++ (32 :: e.text.toList)) [10] _ (by simp) (by simp; omega) (by simp) w
        have q4 : ∀ w, (Op.stringOp .add ⟨out.toArray⟩ ⟨(itoa e.id ++ (32 :: (e.text.toList ++ [10]))).toArray⟩).run Tryd.prog w = .ok (.string ⟨(out ++ (itoa e.id ++ (32 :: (e.text.toList ++ [10])))).toArray⟩) w := fun w => cat_llt out (itoa e.id ++ (32 :: (e.text.toList ++ [10]))) _ rfl (by omega) (by simp; omega) w
        refine wp_region_aft (by kernel_rfl) (by kernel_rfl) ?_
        repeat (go_big_quiet_step ((go_at_call 19; exact aft_b (decimal_any w.heap.size _ _ (E.out.on (bW0.trans (Below.mono (Aft.ok _) bW0.size))) (by omega) (by omega)))))
        refine wpQuiet_nil ?_
        rintro _ ⟨y, rfl⟩
        have bY := bW0.trans (y.ok.mono bW0.size)
        go_wp2
        go_roundw
        case rel => exact ⟨k + 1, by omega, by go_num, by rw [HTK.out, HED.out], bY⟩
        case measure => simp [RowKit.intOf]; omega
      · have hge : ¬ (k : Int) < (es.length : Int) := by omega
        have hfin : es.take k = es := List.take_of_length_le (by omega)
        rw [hfin]
        clear hlt hfin
        go_wp2
        go_ret2
        exact ⟨by rw [statOut_ok HO.out, HO.out]; rfl, hb⟩
end Go.Proofs.YtmgdodgofpapgaaDoor
