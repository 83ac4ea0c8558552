/- Patches: the program's test, walked. -/
import Derived.Test.YthlfpiflegfoiaaGreatDoorLawB
import Derived.RegionCalls
namespace Go.Proofs.YthlfpiflegfoiaaGreatDoor
open Go.RowKit

def Edits (w : World) (B : Nat) (v : Value) (es : List Edit) : Prop := SlR (Pl editCells) 4 w B v es
def SizesOk (es : List Edit) : Prop := ∀ e, e ∈ es → SizeOk e

theorem edits_at {w : World} {B b off : Nat} {es : List Edit} (h : ∀ (k : Nat) (x : Edit), es[k]? = some x → ∃ us, us.length = 4 ∧ Pl editCells w B us x ∧ ∀ (j : Nat) (u : Value), us[j]? = some u → w.cell? ⟨b, off + k * 4 + j, none⟩ = some u) {k : Nat} {e : Edit} (hk : es[k]? = some e) :
    w.cell? ⟨b, off + k * 4, none⟩ = some (.int .i64 e.kind) ∧ w.cell? ⟨b, off + k * 4 + 1, none⟩ = some (.int .i64 e.id) ∧ w.cell? ⟨b, off + k * 4 + 2, none⟩ = some (.string e.old) ∧ w.cell? ⟨b, off + k * 4 + 3, none⟩ = some (.string e.new) := by
  obtain ⟨us, hl, hp, hc⟩ := h k e hk
  have hp : us = editCells e := hp
  subst hp
  exact ⟨hc 0 _ rfl, hc 1 _ rfl, hc 2 _ rfl, hc 3 _ rfl⟩

def patchAt (p : List Edit) (k : Nat) : Bool := ((p[k]?).map okEdit).getD true && (decide (k = 0) || decide (idAt p (k - 1) < idAt p k))
theorem okPatch_eq (p : List Edit) : okPatch p = (allLt p.length (patchAt p) && decide (p.length ≤ 16)) := rfl

theorem patchAt_bad {p : List Edit} {k : Nat} {e : Edit} (h : p[k]? = some e) (ho : okEdit e = false) : patchAt p k = false := by
  unfold patchAt
  rw [h]
  simp [ho]
theorem patchAt_zero {p : List Edit} {k : Nat} {e : Edit} (hk : k = 0) (h : p[k]? = some e) (ho : okEdit e = true) : patchAt p k = true := by
  subst hk
  unfold patchAt
  rw [h]
  simp [ho]
theorem patchAt_succ {p : List Edit} {m : Nat} {d e : Edit} (hd : p[m]? = some d) (h : p[m + 1]? = some e) (ho : okEdit e = true) : patchAt p (m + 1) = decide (d.id < e.id) := by
  unfold patchAt idAt
  rw [h]
  simp [ho, hd]
theorem okPatch_bad {p : List Edit} {k : Nat} (hk : k < p.length) (h : patchAt p k = false) : okPatch p = false := by
  rw [okPatch_eq, allLt_false hk h]
  rfl

theorem edit2_val (e : Edit) (w : World) (hs : SizeOk e) (r : Bool) (h : okEdit e = r) :
    Calls Tryz.prog 89 #[.agg #[.int .i64 e.kind, .int .i64 e.id, .string e.old, .string e.new]] w (RetB (.bool r) w) := by
  rw [← h]
  exact edit2_any e w hs

set_option maxHeartbeats 4000000 in
theorem patch2_any (es : List Edit) (w : World) (v : Value) (h : Edits w w.heap.size v es) (hs : SizesOk es) :
    Calls Tryz.prog 71 #[v] w (RetB (.bool (okPatch es)) w) := by
  obtain ⟨A, c, rfl, hc, hm, hel⟩ := h
  unfold maxLen at hm
  have hlm : es.length ≤ 9223372036854775807 := by omega
  have HEL := Lib.hid hel
  have HS := Lib.hid hs
  clear hel hs
  go_enter Tryz.func71, Tryz.ntmps71
  go_wp2
  go_loopw [3, 4, 7] (fun _ _ i wr => ∃ k : Nat, k ≤ es.length ∧ i = .int .i64 (k : Int) ∧ allLt k (patchAt es) = true ∧ Below w.heap.size w wr) (fun _ _ i _ => es.length - (intOf i).toNat)
  case atStart => exact ⟨0, Nat.zero_le _, rfl, rfl, Below.refl _ _⟩
  case round =>
    obtain ⟨k, hk, rfl, hall, hb⟩ := hrel
    have HA := Lib.hid hall
    clear hall
    by_cases hlt : k < es.length
    · obtain ⟨b, off, rfl, hblt, hcell⟩ := HEL.out (by omega)
      have hget : es[k]? = some es[k] := List.getElem?_eq_getElem hlt
      obtain ⟨c0, c1, c2, c3⟩ := edits_at hcell hget
      have x0 := (hb.cell (p := ⟨b, off + k * 4, none⟩) hblt).trans c0
      have x1 := (hb.cell (p := ⟨b, off + k * 4 + 1, none⟩) hblt).trans c1
      have x2 := (hb.cell (p := ⟨b, off + k * 4 + 2, none⟩) hblt).trans c2
      have x3 := (hb.cell (p := ⟨b, off + k * 4 + 3, none⟩) hblt).trans c3
      have HG := Lib.hid hget
      have HC := Lib.hid hcell
      have hso := HS.out es[k] (List.getElem_mem hlt)
      clear hget hcell c0 c1 c2 c3
      generalize es[k] = e at *
      cases hok : okEdit e with
      | false =>
        have HO := Lib.hid hok
        have HB := Lib.hid (okPatch_bad hlt (patchAt_bad HG.out hok))
        clear hok
        go_upto_region 4 with (fail)
        obtain ⟨W, hW⟩ : ∃ W : World, W = wr.alloc (.cells (editCells e).toArray 66) := ⟨_, rfl⟩
        change Code.wp _ _ _ _ (wr.alloc (.cells (editCells e).toArray 66))
        have bW : Below w.heap.size w W := by rw [hW]; exact hb.alloc hb.size _
        have y0 : W.cell? ⟨wr.heap.size, 0, none⟩ = some (.int .i64 e.kind) := by rw [hW]; simp [go_sem, editCells]
        have y1 : W.cell? ⟨wr.heap.size, 1, none⟩ = some (.int .i64 e.id) := by rw [hW]; simp [go_sem, editCells]
        have y2 : W.cell? ⟨wr.heap.size, 2, none⟩ = some (.string e.old) := by rw [hW]; simp [go_sem, editCells]
        have y3 : W.cell? ⟨wr.heap.size, 3, none⟩ = some (.string e.new) := by rw [hW]; simp [go_sem, editCells]
        rw [← hW]
        clear hW x0 x1 x2 x3
        have z0 := fun x : Aft W => x.cell y0
        have z1 := fun x : Aft W => x.cell y1
        have z2 := fun x : Aft W => x.cell y2
        have z3 := fun x : Aft W => x.cell y3
        clear y0 y1 y2 y3
        refine wp_region_aft (by kernel_rfl) (by kernel_rfl) ?_
        repeat (go_big_quiet_step ((go_at_call 89; exact aft_b (edit2_val e _ hso false HO.out))))
        refine wpQuiet_nil ?_
        rintro _ ⟨y, rfl⟩
        have bY := bW.trans (y.ok.mono bW.size)
        go_wp2
        go_ret
        exact ⟨by rw [HB.out]; rfl, bY⟩
      | true =>
        have HO := Lib.hid hok
        clear hok
        have HSU := allLt_succ k (patchAt es)
        rw [HA.out, Bool.true_and] at HSU
        have HSU := Lib.hid HSU
        by_cases hk0 : k = 0
        · have HN : Hid (allLt (k + 1) (patchAt es) = true) := HSU.out.trans (patchAt_zero hk0 HG.out HO.out)
          have hk1 : decide ((0 : Int) < (k : Int)) = false := by simp; omega
          have hk2 : decide (0 < k) = false := by simp; omega
          clear hk0
          go_upto_region 4 with (fail)
          obtain ⟨W, hW⟩ : ∃ W : World, W = wr.alloc (.cells (editCells e).toArray 66) := ⟨_, rfl⟩
          change Code.wp _ _ _ _ (wr.alloc (.cells (editCells e).toArray 66))
          have bW : Below w.heap.size w W := by rw [hW]; exact hb.alloc hb.size _
          have y0 : W.cell? ⟨wr.heap.size, 0, none⟩ = some (.int .i64 e.kind) := by rw [hW]; simp [go_sem, editCells]
          have y1 : W.cell? ⟨wr.heap.size, 1, none⟩ = some (.int .i64 e.id) := by rw [hW]; simp [go_sem, editCells]
          have y2 : W.cell? ⟨wr.heap.size, 2, none⟩ = some (.string e.old) := by rw [hW]; simp [go_sem, editCells]
          have y3 : W.cell? ⟨wr.heap.size, 3, none⟩ = some (.string e.new) := by rw [hW]; simp [go_sem, editCells]
          rw [← hW]
          clear hW x0 x1 x2 x3
          have z0 := fun x : Aft W => x.cell y0
          have z1 := fun x : Aft W => x.cell y1
          have z2 := fun x : Aft W => x.cell y2
          have z3 := fun x : Aft W => x.cell y3
          clear y0 y1 y2 y3
          refine wp_region_aft (by kernel_rfl) (by kernel_rfl) ?_
          repeat (go_big_quiet_step ((go_at_call 89; exact aft_b (edit2_val e _ hso true HO.out))))
          refine wpQuiet_nil ?_
          rintro _ ⟨y, rfl⟩
          have bY := bW.trans (y.ok.mono bW.size)
          go_wp2
          go_roundw
          case rel => exact ⟨k + 1, by omega, by go_num, HN.out, bY⟩
          case measure => simp [intOf]; omega
        · obtain ⟨m, rfl⟩ : ∃ m, k = m + 1 := ⟨k - 1, by omega⟩
          have hd : es[m]? = some (es[m]'(by omega)) := List.getElem?_eq_getElem (by omega)
          obtain ⟨_, d1, _, _⟩ := edits_at HC.out hd
          generalize (es[m]'(by omega)) = d at *
          have HP := Lib.hid (patchAt_succ hd HG.out HO.out)
          clear hd hk0
          by_cases hid : d.id < e.id
          · have HN : Hid (allLt (m + 1 + 1) (patchAt es) = true) := HSU.out.trans (HP.out.trans (decide_eq_true hid))
            have hid2 : ¬ (e.id ≤ d.id) := by omega
            go_upto_region 4 with (fail)
            obtain ⟨W, hW⟩ : ∃ W : World, W = wr.alloc (.cells (editCells e).toArray 66) := ⟨_, rfl⟩
            change Code.wp _ _ _ _ (wr.alloc (.cells (editCells e).toArray 66))
            have bW : Below w.heap.size w W := by rw [hW]; exact hb.alloc hb.size _
            have y0 : W.cell? ⟨wr.heap.size, 0, none⟩ = some (.int .i64 e.kind) := by rw [hW]; simp [go_sem, editCells]
            have y1 : W.cell? ⟨wr.heap.size, 1, none⟩ = some (.int .i64 e.id) := by rw [hW]; simp [go_sem, editCells]
            have y2 : W.cell? ⟨wr.heap.size, 2, none⟩ = some (.string e.old) := by rw [hW]; simp [go_sem, editCells]
            have y3 : W.cell? ⟨wr.heap.size, 3, none⟩ = some (.string e.new) := by rw [hW]; simp [go_sem, editCells]
            have y4 : W.cell? ⟨b, off + m * 4 + 1, none⟩ = some (.int .i64 d.id) := (bW.cell (p := ⟨b, off + m * 4 + 1, none⟩) hblt).trans d1
            have z4 := fun x : Aft W => x.cell y4
            clear d1 y4
            rw [← hW]
            clear hW x0 x1 x2 x3
            have z0 := fun x : Aft W => x.cell y0
            have z1 := fun x : Aft W => x.cell y1
            have z2 := fun x : Aft W => x.cell y2
            have z3 := fun x : Aft W => x.cell y3
            clear y0 y1 y2 y3
            refine wp_region_aft (by kernel_rfl) (by kernel_rfl) ?_
            repeat (go_big_quiet_step ((go_at_call 89; exact aft_b (edit2_val e _ hso true HO.out))))
            refine wpQuiet_nil ?_
            rintro _ ⟨y, rfl⟩
            have bY := bW.trans (y.ok.mono bW.size)
            go_wp2
            go_roundw
            case rel => exact ⟨(m + 1) + 1, by omega, by go_num, HN.out, bY⟩
            case measure => simp [intOf]; omega
          · have HB := Lib.hid (okPatch_bad hlt (HP.out.trans (decide_eq_false hid)))
            have hid2 : e.id ≤ d.id := by omega
            go_upto_region 4 with (fail)
            obtain ⟨W, hW⟩ : ∃ W : World, W = wr.alloc (.cells (editCells e).toArray 66) := ⟨_, rfl⟩
            change Code.wp _ _ _ _ (wr.alloc (.cells (editCells e).toArray 66))
            have bW : Below w.heap.size w W := by rw [hW]; exact hb.alloc hb.size _
            have y0 : W.cell? ⟨wr.heap.size, 0, none⟩ = some (.int .i64 e.kind) := by rw [hW]; simp [go_sem, editCells]
            have y1 : W.cell? ⟨wr.heap.size, 1, none⟩ = some (.int .i64 e.id) := by rw [hW]; simp [go_sem, editCells]
            have y2 : W.cell? ⟨wr.heap.size, 2, none⟩ = some (.string e.old) := by rw [hW]; simp [go_sem, editCells]
            have y3 : W.cell? ⟨wr.heap.size, 3, none⟩ = some (.string e.new) := by rw [hW]; simp [go_sem, editCells]
            have y4 : W.cell? ⟨b, off + m * 4 + 1, none⟩ = some (.int .i64 d.id) := (bW.cell (p := ⟨b, off + m * 4 + 1, none⟩) hblt).trans d1
            have z4 := fun x : Aft W => x.cell y4
            clear d1 y4
            rw [← hW]
            clear hW x0 x1 x2 x3
            have z0 := fun x : Aft W => x.cell y0
            have z1 := fun x : Aft W => x.cell y1
            have z2 := fun x : Aft W => x.cell y2
            have z3 := fun x : Aft W => x.cell y3
            clear y0 y1 y2 y3
            refine wp_region_aft (by kernel_rfl) (by kernel_rfl) ?_
            repeat (go_big_quiet_step ((go_at_call 89; exact aft_b (edit2_val e _ hso true HO.out))))
            refine wpQuiet_nil ?_
            rintro _ ⟨y, rfl⟩
            have bY := bW.trans (y.ok.mono bW.size)
            go_wp2
            go_ret
            exact ⟨by rw [HB.out]; rfl, bY⟩
    · have hk' : k = es.length := by omega
      have hP : okPatch es = decide (es.length ≤ 16) := by
        rw [okPatch_eq, ← hk', HA.out, Bool.true_and]
      have HP := Lib.hid hP
      have hge : ¬ (k : Int) < (es.length : Int) := by omega
      clear hP hk' hlt
      by_cases h16 : es.length ≤ 16
      · have e16 : decide ((es.length : Int) ≤ 16) = true := by simp; omega
        have H16 := Lib.hid h16
        clear h16
        go_wp2
        go_ret
        exact ⟨by rw [HP.out]; simp [H16.out], hb⟩
      · have e16 : decide ((es.length : Int) ≤ 16) = false := by simp; omega
        have H16 := Lib.hid h16
        clear h16
        go_wp2
        go_ret
        exact ⟨by rw [HP.out]; simp [H16.out], hb⟩
end Go.Proofs.YthlfpiflegfoiaaGreatDoor
