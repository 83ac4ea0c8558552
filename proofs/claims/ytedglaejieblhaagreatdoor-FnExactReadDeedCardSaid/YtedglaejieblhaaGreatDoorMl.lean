/- Marks in edits and deeds: walked. -/
import Derived.Test.YtedglaejieblhaaGreatDoorMk
import Derived.Test.YtedglaejieblhaaGreatDoorAft
namespace Go.Proofs.YtedglaejieblhaaGreatDoor
open Go.RowKit Go.Lib

def medit (k : Nat) : Edit := ⟨(k : Int), (k : Int) + 1, ⟨(109 :: itoa ((k + 2 : Nat) : Int)).toArray⟩, ⟨(109 :: itoa ((k + 3 : Nat) : Int)).toArray⟩⟩
def medits (k n : Nat) : List Edit := (List.range n).map fun i => medit (k + 4 * i)
theorem medits_len (k n : Nat) : (medits k n).length = n := by simp [medits]
theorem medits_get {k n i : Nat} (h : i < n) : (medits k n)[i]? = some (medit (k + 4 * i)) := by simp [medits, h]
theorem edits_flat (zs : List Edit) : (zs.flatMap editCells).length = zs.length * 4 := by
  induction zs with
  | nil => rfl
  | cons z zs ih => rw [List.flatMap_cons, List.length_append, ih]; simp [editCells]; omega
theorem markText_z (z : Int) (k : Nat) (hz : z = (k : Int)) (w : World) (h0 : 0 < k) (h2 : k ≤ 1099511627776) :
    Calls Tryz.prog 46 #[.int .i64 z] w (RetB (.string ⟨(109 :: itoa (k : Int)).toArray⟩) w) := by
  subst hz
  exact markText_any k w h0 h2

set_option maxHeartbeats 2000000 in
theorem markEdits_any (zs : List Edit) (v : Value) (base k : Nat) (w : World) (h : OwnL editCells zs base w v) (hk0 : 0 < k) (hk : k ≤ 4294967296) (hn : zs.length ≤ 1048576) :
    Calls Tryz.prog 41 #[v, .int .i64 (k : Int)] w (Marked editCells (medits k zs.length) (k + 4 * zs.length) base v w) := by
  obtain ⟨A, c, rfl, hc, hm, hg⟩ := h
  unfold maxLen at hm
  by_cases h0 : zs = []
  · subst h0
    go_enter Tryz.func41, Tryz.ntmps41
    go_wp2
    go_loopw [1, 5] (fun m i wr => m = .int .i64 (k : Int) ∧ i = .int .i64 0 ∧ wr = w) (fun _ _ _ => 0)
    case atStart => exact ⟨rfl, rfl, rfl⟩
    case round =>
      obtain ⟨rfl, rfl, rfl⟩ := hrel
      go_wp2
      go_ret
      exact ⟨rfl, ⟨A, c, rfl, hc, by unfold maxLen; omega, fun h => absurd rfl h⟩, grown_refl _ _⟩
  · obtain ⟨g, rfl, hgb, hgs, hR⟩ := hg h0
    have hlen : ((medits k zs.length).flatMap editCells).length = (zs.flatMap editCells).length := by rw [edits_flat, edits_flat, medits_len]
    have HL := Lib.hid hlen
    have HZ := Lib.hid (edits_flat zs)
    have HR := Lib.hid hR
    have HSQ : Hid (∀ i, i < zs.length → ∀ j u, (editCells (medit (k + 4 * i)))[j]? = some u → ((medits k zs.length).flatMap editCells)[i * 4 + j]? = some u) := Lib.hid (fun i hi j u hu => flat_at editCells (size := 4) (fun _ => rfl) _ i _ j u (medits_get hi) hu (by have := (List.getElem?_eq_some_iff.1 hu).1; simpa [editCells] using this))
    have HSL := Lib.hid (medits_len k zs.length)
    have hnp : 0 < zs.length := List.length_pos_iff.2 h0
    clear hlen hR hg h0
    go_enter Tryz.func41, Tryz.ntmps41
    go_wp2
    go_loopw [1, 5] (fun m i wr => ∃ j : Nat, j ≤ zs.length ∧ i = .int .i64 (j : Int) ∧ m = .int .i64 ((k + 4 * j : Nat) : Int) ∧ Row wr g (mix ((medits k zs.length).flatMap editCells) (zs.flatMap editCells) (j * 4)) ∧ Only g w wr ∧ g < wr.heap.size) (fun _ i _ => zs.length - (RowKit.intOf i).toNat)
    case atStart => exact ⟨0, Nat.zero_le _, rfl, rfl, by simpa [mix] using HR.out, only_refl _ _, hgs⟩
    case round =>
      obtain ⟨j, hj, rfl, rfl, hrow, hon, hgl⟩ := hrel
      have HO := Lib.hid hon
      have hml : ∀ i, (mix ((medits k zs.length).flatMap editCells) (zs.flatMap editCells) i).length = zs.length * 4 := fun i => by rw [mix_length HL.out, HZ.out]
      by_cases hlt : j < zs.length
      · obtain ⟨K, hK⟩ : ∃ K, K = k + 4 * j := ⟨_, rfl⟩
        have u0 := HSQ.out j hlt 0 _ rfl
        have u1 := HSQ.out j hlt 1 _ rfl
        have u2 := HSQ.out j hlt 2 _ rfl
        have u3 := HSQ.out j hlt 3 _ rfl
        have hKb : K ≤ 4303355904 := by omega
        have hK0 : 0 < K := by omega
        have HK2 : Hid (((k + 4 * (j + 1) : Nat) : Int) = (K : Int) + 1 + 1 + 1 + 1) := Lib.hid (by omega)
        rw [← hK] at u0 u1 u2 u3 ⊢
        clear hK hon
        have HT2 : Hid (∀ W, Calls Tryz.prog 46 #[.int .i64 ((K : Int) + 1 + 1)] W (RetB (.string ⟨(109 :: itoa ((K + 2 : Nat) : Int)).toArray⟩) W)) := Lib.hid (fun W => markText_z _ (K + 2) (by omega) W (by omega) (by omega))
        have HT3 : Hid (∀ W, Calls Tryz.prog 46 #[.int .i64 ((K : Int) + 1 + 1 + 1)] W (RetB (.string ⟨(109 :: itoa ((K + 3 : Nat) : Int)).toArray⟩) W)) := Lib.hid (fun W => markText_z _ (K + 3) (by omega) W (by omega) (by omega))
        simp only [medit] at u0 u1 u2 u3
        generalize (⟨(109 :: itoa ((K + 2 : Nat) : Int)).toArray⟩ : ByteArray) = t2 at *
        generalize (⟨(109 :: itoa ((K + 3 : Nat) : Int)).toArray⟩ : ByteArray) = t3 at *
        obtain ⟨z0, x0⟩ := hrow.some (j := j * 4) (by rw [hml]; omega)
        obtain ⟨z1, x1⟩ := hrow.some (j := j * 4 + 1) (by rw [hml]; omega)
        have f0 := hrow.free (j * 4) (by rw [hml]; omega)
        have f1 := hrow.free (j * 4 + 1) (by rw [hml]; omega)
        have R1 := (hrow.step HL.out (u := .int .i64 (K : Int)) u0).step HL.out (u := .int .i64 ((K : Int) + 1)) u1
        have HR1 := Lib.hid R1
        have HU2 := Lib.hid u2
        have HU3 := Lib.hid u3
        have HML := Lib.hid hml
        clear hrow R1 u0 u1 u2 u3 hml
        go_wp2_with (fail)
        refine (HT2.out _).mono ?_
        rintro e V1 ⟨rfl, hb1⟩
        have R2 := HR1.out.below hb1 (by simpa using hgl)
        have O2 : Only g w V1 := only_trans (only_set (only_set HO.out _ _) _ _) (below_only hb1)
        have hg1 : g < V1.heap.size := Nat.lt_of_lt_of_le hgl (by have := hb1.size; simpa using this)
        obtain ⟨z2, x2⟩ := R2.some (j := j * 4 + 2) (by rw [HML.out]; omega)
        have f2 := R2.free (j * 4 + 2) (by rw [HML.out]; omega)
        have HR3 := Lib.hid (R2.step HL.out (u := .string t2) HU2.out)
        have HO2 := Lib.hid O2
        clear x0 x1 f0 f1 hb1 R2 O2
        go_wp2_with (fail)
        refine (HT3.out _).mono ?_
        rintro e V2 ⟨rfl, hb2⟩
        have R4 := HR3.out.below hb2 (by simpa using hg1)
        have O3 : Only g w V2 := only_trans (only_set HO2.out _ _) (below_only hb2)
        have hg2 : g < V2.heap.size := Nat.lt_of_lt_of_le hg1 (by have := hb2.size; simpa using this)
        obtain ⟨z3, x3⟩ := R4.some (j := j * 4 + 3) (by rw [HML.out]; omega)
        have f3 := R4.free (j * 4 + 3) (by rw [HML.out]; omega)
        have HR5 := Lib.hid (R4.step HL.out (u := .string t3) HU3.out)
        have HO3 := Lib.hid O3
        clear x2 f2 hb2 R4 O3
        go_wp2
        go_roundw
        case rel => exact ⟨j + 1, by omega, by go_num, by rw [HK2.out], by rw [show (j + 1) * 4 = j * 4 + 1 + 1 + 1 + 1 by omega]; exact HR5.out, only_set HO3.out _ _, by simpa using hg2⟩
        case measure => simp [RowKit.intOf]; omega
      · have hge : ¬ (j : Int) < (zs.length : Int) := by omega
        have hje : j = zs.length := by omega
        have HF : Hid (Row wr g ((medits k zs.length).flatMap editCells)) := Lib.hid (by
          rw [mix_all HL.out (j * 4) (by rw [HL.out, HZ.out]; omega)] at hrow
          exact hrow)
        have HJ := Lib.hid hje
        clear hrow hon hml hje hlt
        go_wp2
        go_ret
        refine ⟨ret_i64 (by have := HJ.out; omega), ⟨some ⟨g, 0, none⟩, c, by rw [HSL.out], by rw [HSL.out]; exact hc, by unfold maxLen; omega, fun _ => ⟨g, rfl, hgb, hgl, HF.out⟩⟩, by rw [HSL.out, if_neg (by omega)]; exact HO.out⟩

set_option maxHeartbeats 2000000 in
theorem heldEdits_any (n k : Nat) (A : Option Addr) (c : Nat) (w : World) (h : Edits w w.heap.size (.slice A n c) (medits k n)) (hk0 : 0 < k) (hk : k ≤ 4294967296) (hn : n ≤ 1048576) :
    Calls Tryz.prog 43 #[.slice A n c, .int .i64 (k : Int)] w (RetB (.int .i64 ((k + 4 * n : Nat) : Int)) w) := by
  have H := Lib.hid (SlR.aft h (Pl.stays _) (Nat.le_refl _))
  clear h
  refine calls_aft fun x0 => ?_
  go_enter Tryz.func43, Tryz.ntmps43
  go_wp2
  go_loopw [1, 5] (fun m i wr => ∃ (j : Nat) (x : Aft w), j ≤ n ∧ i = .int .i64 (j : Int) ∧ m = .int .i64 ((k + 4 * j : Nat) : Int) ∧ wr = x.val) (fun _ i _ => n - (RowKit.intOf i).toNat)
  case atStart => exact ⟨0, x0, Nat.zero_le _, rfl, rfl, rfl⟩
  case round =>
    obtain ⟨j, x, hj, rfl, rfl, rfl⟩ := hrel
    by_cases hlt : j < n
    · obtain ⟨b, off, rfl, hb, c0, c1, c2, c3⟩ := edits_get (H.out x) (medits_get hlt)
      have C : Hid (∀ y : Aft w, y.val.cell? ⟨b, off + j * 4, none⟩ = some (.int .i64 (medit (k + 4 * j)).kind) ∧ y.val.cell? ⟨b, off + j * 4 + 1, none⟩ = some (.int .i64 (medit (k + 4 * j)).id) ∧ y.val.cell? ⟨b, off + j * 4 + 2, none⟩ = some (.string (medit (k + 4 * j)).old) ∧ y.val.cell? ⟨b, off + j * 4 + 3, none⟩ = some (.string (medit (k + 4 * j)).new)) := Lib.hid (fun y => by
        obtain ⟨b', off', hA, hb', d0, d1, d2, d3⟩ := edits_get (H.out y) (medits_get hlt)
        injection hA with hA
        injection hA with e1 e2
        subst e1 e2
        exact ⟨d0, d1, d2, d3⟩)
      obtain ⟨K, hK⟩ : ∃ K, K = k + 4 * j := ⟨_, rfl⟩
      have hKb : K ≤ 4303355904 := by omega
      have hK0 : 0 < K := by omega
      have HK2 : Hid (((k + 4 * (j + 1) : Nat) : Int) = (K : Int) + 1 + 1 + 1 + 1) := Lib.hid (by omega)
      clear c0 c1 c2 c3
      rw [← hK] at C ⊢
      clear hK
      have HT2 : Hid (∀ W, Calls Tryz.prog 46 #[.int .i64 ((K : Int) + 1 + 1)] W (RetB (.string ⟨(109 :: itoa ((K + 2 : Nat) : Int)).toArray⟩) W)) := Lib.hid (fun W => markText_z _ (K + 2) (by omega) W (by omega) (by omega))
      have HT3 : Hid (∀ W, Calls Tryz.prog 46 #[.int .i64 ((K : Int) + 1 + 1 + 1)] W (RetB (.string ⟨(109 :: itoa ((K + 3 : Nat) : Int)).toArray⟩) W)) := Lib.hid (fun W => markText_z _ (K + 3) (by omega) W (by omega) (by omega))
      have z0 : ∀ y : Aft w, y.val.cell? ⟨b, off + j * 4, none⟩ = some (.int .i64 (K : Int)) := fun y => (C.out y).1
      have z1 : ∀ y : Aft w, y.val.cell? ⟨b, off + j * 4 + 1, none⟩ = some (.int .i64 ((K : Int) + 1)) := fun y => (C.out y).2.1
      have z2 : ∀ y : Aft w, y.val.cell? ⟨b, off + j * 4 + 2, none⟩ = some (.string ⟨(109 :: itoa ((K + 2 : Nat) : Int)).toArray⟩) := fun y => (C.out y).2.2.1
      have z3 : ∀ y : Aft w, y.val.cell? ⟨b, off + j * 4 + 3, none⟩ = some (.string ⟨(109 :: itoa ((K + 3 : Nat) : Int)).toArray⟩) := fun y => (C.out y).2.2.2
      generalize (⟨(109 :: itoa ((K + 2 : Nat) : Int)).toArray⟩ : ByteArray) = t2 at *
      generalize (⟨(109 :: itoa ((K + 3 : Nat) : Int)).toArray⟩ : ByteArray) = t3 at *
      go_upto_region 10 with (fail)
      refine wp_region_at (by kernel_rfl) (by kernel_rfl) ?_
      repeat (go_big_quiet_step ((first | (go_at_call 46; exact aft_b (HT2.out _)))))
      refine wpQuiet_nil ?_
      rintro _ ⟨y, rfl⟩
      go_upto_region 13 with (fail)
      refine wp_region_at (by kernel_rfl) (by kernel_rfl) ?_
      repeat (go_big_quiet_step ((first | (go_at_call 46; exact aft_b (HT3.out _)))))
      refine wpQuiet_nil ?_
      rintro _ ⟨z, rfl⟩
      go_wp2
      go_roundw
      case rel => exact ⟨j + 1, z, by omega, by go_num, by rw [HK2.out], rfl⟩
      case measure => simp [RowKit.intOf]; omega
    · have hge : ¬ (j : Int) < (n : Int) := by omega
      have hje : j = n := by omega
      subst hje
      go_wp2
      go_ret
      exact ⟨ret_i64 (by omega), x.ok⟩
end Go.Proofs.YtedglaejieblhaaGreatDoor
