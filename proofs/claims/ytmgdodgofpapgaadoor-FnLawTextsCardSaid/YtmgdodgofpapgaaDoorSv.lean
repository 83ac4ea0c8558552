/- Statutes: the program's test and text, walked. -/
import Derived.Test.YtmgdodgofpapgaaDoorSt
import Derived.RegionCalls
namespace Go.Proofs.YtmgdodgofpapgaaDoor
open Go.RowKit Go.Lib

theorem sent2_val (s : ByteArray) (w : World) (hs : s.size ≤ maxLen) (r : Bool) (h : okSent s.toList = r) : Calls Tryd.prog 29 #[.string s] w (RetQ (.bool r) w) := h ▸ sent2_any s w hs
theorem okArt_1 {a : Art} (h : inB a.id 1 99 = false) : okArt a = false := by unfold okArt; rw [h]; rfl
theorem okArt_2 {a : Art} (h : okSent a.text.toList = false) : okArt a = false := by unfold okArt; rw [h, Bool.and_false]
theorem okArt_3 {a : Art} (h1 : inB a.id 1 99 = true) (h2 : okSent a.text.toList = true) : okArt a = true := by unfold okArt; rw [h1, h2]; rfl

set_option maxHeartbeats 4000000 in
theorem stat2_any (es : List Art) (w : World) (v : Value) (h : Arts w w.heap.size v es) (hs : ∀ a ∈ es, a.text.size ≤ maxLen) :
    Calls Tryd.prog 18 #[v] w (RetB (.bool (okStat es)) w) := by
  obtain ⟨A, c, rfl, hc, hm, hel⟩ := h
  unfold maxLen at hm
  have hlm : es.length ≤ 9223372036854775807 := by omega
  have HEL := Lib.hid hel
  have HS := Lib.hid hs
  clear hel hs
  go_enter Tryd.func18, Tryd.ntmps18
  go_wp2
  go_loopw [3, 4, 7] (fun _ _ i wr => ∃ k : Nat, k ≤ es.length ∧ i = .int .i64 (k : Int) ∧ allLt k (statAt es) = true ∧ Below w.heap.size w wr) (fun _ _ i _ => es.length - (RowKit.intOf i).toNat)
  case atStart => exact ⟨0, Nat.zero_le _, rfl, rfl, Below.refl _ _⟩
  case round =>
    obtain ⟨k, hk, rfl, hall, hb⟩ := hrel
    have HA := Lib.hid hall
    clear hall
    by_cases hlt : k < es.length
    · obtain ⟨b, off, rfl, hblt, hcell⟩ := HEL.out (by omega)
      have hget : es[k]? = some es[k] := List.getElem?_eq_getElem hlt
      obtain ⟨c0, c1⟩ := arts_at hcell hget
      have x0 := (hb.cell (p := ⟨b, off + k * 2, none⟩) hblt).trans c0
      have x1 := (hb.cell (p := ⟨b, off + k * 2 + 1, none⟩) hblt).trans c1
      have HG := Lib.hid hget
      have HC := Lib.hid hcell
      have hso := HS.out es[k] (List.getElem_mem hlt)
      clear hget hcell c0 c1
      generalize es[k] = e at *
      cases ho1 : inB e.id 1 99 with
      | false =>
        have H1 := Lib.hid ho1
        have H2 : Hid (okSent e.text.toList = okSent e.text.toList) := Lib.hid rfl
        have HB := Lib.hid (okStat_bad hlt (statAt_bad HG.out (okArt_1 ho1)))
        clear ho1
        go_upto_region 4 with (fail)
        obtain ⟨W, hW⟩ : ∃ W : World, W = wr.alloc (.cells (artCells e).toArray 48) := ⟨_, rfl⟩
        change Code.wp _ _ _ _ (wr.alloc (.cells (artCells e).toArray 48))
        have bW : Below w.heap.size w W := by rw [hW]; exact hb.alloc hb.size _
        have y0 : W.cell? ⟨wr.heap.size, 0, none⟩ = some (.int .i64 e.id) := by rw [hW]; simp [go_sem, artCells]
        have y1 : W.cell? ⟨wr.heap.size, 1, none⟩ = some (.string e.text) := by rw [hW]; simp [go_sem, artCells]
        rw [← hW]
        clear hW x0 x1
        have z0 := fun x : Aft W => x.cell y0
        have z1 := fun x : Aft W => x.cell y1
        clear y0 y1
        refine wp_region_aft (by kernel_rfl) (by kernel_rfl) ?_
        repeat (go_big_quiet_step ((first | (go_at_call 28; exact aft_q (in2_val _ _ _ _ false H1.out)) | (go_at_call 29; exact aft_q (sent2_val _ _ hso _ H2.out)))))
        refine wpQuiet_nil ?_
        rintro _ ⟨y, rfl⟩
        have bY := bW.trans (y.ok.mono bW.size)
        go_wp2
        go_ret
        exact ⟨by rw [HB.out]; rfl, bY⟩
      | true =>
        have H1 := Lib.hid ho1
        cases ho2 : okSent e.text.toList with
        | false =>
          have H2 := Lib.hid ho2
          have HB := Lib.hid (okStat_bad hlt (statAt_bad HG.out (okArt_2 ho2)))
          clear ho1 ho2
          go_upto_region 4 with (fail)
          obtain ⟨W, hW⟩ : ∃ W : World, W = wr.alloc (.cells (artCells e).toArray 48) := ⟨_, rfl⟩
          change Code.wp _ _ _ _ (wr.alloc (.cells (artCells e).toArray 48))
          have bW : Below w.heap.size w W := by rw [hW]; exact hb.alloc hb.size _
          have y0 : W.cell? ⟨wr.heap.size, 0, none⟩ = some (.int .i64 e.id) := by rw [hW]; simp [go_sem, artCells]
          have y1 : W.cell? ⟨wr.heap.size, 1, none⟩ = some (.string e.text) := by rw [hW]; simp [go_sem, artCells]
          rw [← hW]
          clear hW x0 x1
          have z0 := fun x : Aft W => x.cell y0
          have z1 := fun x : Aft W => x.cell y1
          clear y0 y1
          refine wp_region_aft (by kernel_rfl) (by kernel_rfl) ?_
          repeat (go_big_quiet_step ((first | (go_at_call 28; exact aft_q (in2_val _ _ _ _ true H1.out)) | (go_at_call 29; exact aft_q (sent2_val _ _ hso false H2.out)))))
          refine wpQuiet_nil ?_
          rintro _ ⟨y, rfl⟩
          have bY := bW.trans (y.ok.mono bW.size)
          go_wp2
          go_ret
          exact ⟨by rw [HB.out]; rfl, bY⟩
        | true =>
          have H2 := Lib.hid ho2
          have HO := Lib.hid (okArt_3 ho1 ho2)
          clear ho1 ho2
          have HSU := allLt_succ k (statAt es)
          rw [HA.out, Bool.true_and] at HSU
          have HSU := Lib.hid HSU
          by_cases hk0 : k = 0
          · have HN : Hid (allLt (k + 1) (statAt es) = true) := HSU.out.trans (statAt_zero hk0 HG.out HO.out)
            have hk1 : decide ((0 : Int) < (k : Int)) = false := by simp; omega
            have hk2 : decide (0 < k) = false := by simp; omega
            clear hk0
            go_upto_region 4 with (fail)
            obtain ⟨W, hW⟩ : ∃ W : World, W = wr.alloc (.cells (artCells e).toArray 48) := ⟨_, rfl⟩
            change Code.wp _ _ _ _ (wr.alloc (.cells (artCells e).toArray 48))
            have bW : Below w.heap.size w W := by rw [hW]; exact hb.alloc hb.size _
            have y0 : W.cell? ⟨wr.heap.size, 0, none⟩ = some (.int .i64 e.id) := by rw [hW]; simp [go_sem, artCells]
            have y1 : W.cell? ⟨wr.heap.size, 1, none⟩ = some (.string e.text) := by rw [hW]; simp [go_sem, artCells]
            rw [← hW]
            clear hW x0 x1
            have z0 := fun x : Aft W => x.cell y0
            have z1 := fun x : Aft W => x.cell y1
            clear y0 y1
            refine wp_region_aft (by kernel_rfl) (by kernel_rfl) ?_
            repeat (go_big_quiet_step ((first | (go_at_call 28; exact aft_q (in2_val _ _ _ _ true H1.out)) | (go_at_call 29; exact aft_q (sent2_val _ _ hso true H2.out)))))
            refine wpQuiet_nil ?_
            rintro _ ⟨y, rfl⟩
            have bY := bW.trans (y.ok.mono bW.size)
            go_wp2
            go_roundw
            case rel => exact ⟨k + 1, by omega, by go_num, HN.out, bY⟩
            case measure => simp [RowKit.intOf]; omega
          · obtain ⟨m, rfl⟩ : ∃ m, k = m + 1 := ⟨k - 1, by omega⟩
            have hd : es[m]? = some (es[m]'(by omega)) := List.getElem?_eq_getElem (by omega)
            obtain ⟨d1, _⟩ := arts_at HC.out hd
            generalize (es[m]'(by omega)) = d at *
            have HP := Lib.hid (statAt_succ hd HG.out HO.out)
            clear hd hk0
            by_cases hid : d.id < e.id
            · have HN : Hid (allLt (m + 1 + 1) (statAt es) = true) := HSU.out.trans (HP.out.trans (decide_eq_true hid))
              have hid2 : ¬ (e.id ≤ d.id) := by omega
              go_upto_region 4 with (fail)
              obtain ⟨W, hW⟩ : ∃ W : World, W = wr.alloc (.cells (artCells e).toArray 48) := ⟨_, rfl⟩
              change Code.wp _ _ _ _ (wr.alloc (.cells (artCells e).toArray 48))
              have bW : Below w.heap.size w W := by rw [hW]; exact hb.alloc hb.size _
              have y0 : W.cell? ⟨wr.heap.size, 0, none⟩ = some (.int .i64 e.id) := by rw [hW]; simp [go_sem, artCells]
              have y1 : W.cell? ⟨wr.heap.size, 1, none⟩ = some (.string e.text) := by rw [hW]; simp [go_sem, artCells]
              rw [← hW]
              clear hW x0 x1
              have z0 := fun x : Aft W => x.cell y0
              have z1 := fun x : Aft W => x.cell y1
              clear y0 y1
              have y4 : W.cell? ⟨b, off + m * 2, none⟩ = some (.int .i64 d.id) := (bW.cell (p := ⟨b, off + m * 2, none⟩) hblt).trans d1
              have z4 := fun x : Aft W => x.cell y4
              clear d1 y4
              refine wp_region_aft (by kernel_rfl) (by kernel_rfl) ?_
              repeat (go_big_quiet_step ((first | (go_at_call 28; exact aft_q (in2_val _ _ _ _ true H1.out)) | (go_at_call 29; exact aft_q (sent2_val _ _ hso true H2.out)))))
              refine wpQuiet_nil ?_
              rintro _ ⟨y, rfl⟩
              have bY := bW.trans (y.ok.mono bW.size)
              go_wp2
              go_roundw
              case rel => exact ⟨(m + 1) + 1, by omega, by go_num, HN.out, bY⟩
              case measure => simp [RowKit.intOf]; omega
            · have HB := Lib.hid (okStat_bad hlt (HP.out.trans (decide_eq_false hid)))
              have hid2 : e.id ≤ d.id := by omega
              go_upto_region 4 with (fail)
              obtain ⟨W, hW⟩ : ∃ W : World, W = wr.alloc (.cells (artCells e).toArray 48) := ⟨_, rfl⟩
              change Code.wp _ _ _ _ (wr.alloc (.cells (artCells e).toArray 48))
              have bW : Below w.heap.size w W := by rw [hW]; exact hb.alloc hb.size _
              have y0 : W.cell? ⟨wr.heap.size, 0, none⟩ = some (.int .i64 e.id) := by rw [hW]; simp [go_sem, artCells]
              have y1 : W.cell? ⟨wr.heap.size, 1, none⟩ = some (.string e.text) := by rw [hW]; simp [go_sem, artCells]
              rw [← hW]
              clear hW x0 x1
              have z0 := fun x : Aft W => x.cell y0
              have z1 := fun x : Aft W => x.cell y1
              clear y0 y1
              have y4 : W.cell? ⟨b, off + m * 2, none⟩ = some (.int .i64 d.id) := (bW.cell (p := ⟨b, off + m * 2, none⟩) hblt).trans d1
              have z4 := fun x : Aft W => x.cell y4
              clear d1 y4
              refine wp_region_aft (by kernel_rfl) (by kernel_rfl) ?_
              repeat (go_big_quiet_step ((first | (go_at_call 28; exact aft_q (in2_val _ _ _ _ true H1.out)) | (go_at_call 29; exact aft_q (sent2_val _ _ hso true H2.out)))))
              refine wpQuiet_nil ?_
              rintro _ ⟨y, rfl⟩
              have bY := bW.trans (y.ok.mono bW.size)
              go_wp2
              go_ret
              exact ⟨by rw [HB.out]; rfl, bY⟩
    · have hk' : k = es.length := by omega
      have hP : okStat es = decide (es.length ≤ 8) := by
        unfold okStat
        rw [← hk', HA.out, Bool.true_and]
      have HP := Lib.hid hP
      have hge : ¬ (k : Int) < (es.length : Int) := by omega
      clear hP hk' hlt
      by_cases h16 : es.length ≤ 8
      · have e16 : decide ((es.length : Int) ≤ 8) = true := by simp; omega
        have H16 := Lib.hid h16
        clear h16
        go_wp2
        go_ret
        exact ⟨by rw [HP.out]; simp [H16.out], hb⟩
      · have e16 : decide ((es.length : Int) ≤ 8) = false := by simp; omega
        have H16 := Lib.hid h16
        clear h16
        go_wp2
        go_ret
        exact ⟨by rw [HP.out]; simp [H16.out], hb⟩
end Go.Proofs.YtmgdodgofpapgaaDoor
