/- Lists of voices alike: the laws' own test, walked, where they are alike. -/
import Derived.Test.YtbamlilnbhhcmaaDoorQI
import Derived.Test.YtbamlilnbhhcmaaDoorQD
namespace Go.Proofs.YtbamlilnbhhcmaaDoor
open Go.RowKit Go.Lib

theorem nums_alikeV (L : List Int) (w : World) (v1 v2 : Value) (h1 : Ints w w.heap.size v1 L) (h2 : Ints w w.heap.size v2 L) : Calls Tryd.prog 20 #[v1, v2] w (RetB (.bool true) w) :=
  (sameNums_any L L w v1 v2 h1 h2).mono fun e w' ⟨r, he, hr, hb⟩ => ⟨by rw [he, hr.2 rfl], hb⟩
set_option maxRecDepth 100000 in
set_option maxHeartbeats 2000000 in
theorem voices_alike (V : List Voi) (v1 v2 : Value) (w : World) (h1 : Vois w w.heap.size v1 V) (h2 : Vois w w.heap.size v2 V) :
    Calls Tryd.prog 9 #[v1, v2] w (RetB (.bool true) w) := by
  obtain ⟨A1, c1, rfl, e1, g1, f1⟩ := vois_at h1
  obtain ⟨A2, c2, rfl, e2, g2, f2⟩ := vois_at h2
  unfold maxLen at g1 g2
  have H1 := Lib.hid f1
  have H2 := Lib.hid f2
  have hlm : V.length ≤ 9223372036854775807 := by omega
  clear h1 h2 f1 f2
  refine calls_aft fun x0 => ?_
  go_enter Tryd.func9, Tryd.ntmps9
  go_wp2
  go_loopw [5] (fun i wr => ∃ (k : Nat) (x : Aft w), k ≤ V.length ∧ i = .int .i64 (k : Int) ∧ wr = x.val) (fun i _ => V.length - (RowKit.intOf i).toNat)
  case atStart => exact ⟨0, x0, Nat.zero_le _, rfl, rfl⟩
  case round =>
    obtain ⟨k, x, hk, rfl, rfl⟩ := hrel
    by_cases hlt : k < V.length
    · have hget : V[k]? = some V[k] := List.getElem?_eq_getElem hlt
      obtain ⟨b, off, rfl, hb, hc⟩ := H1.out (by omega)
      obtain ⟨b', off', rfl, hb', hc'⟩ := H2.out (by omega)
      obtain ⟨B1, d1, k0, k1, m1, i1⟩ := hc k _ hget
      obtain ⟨B2, d2, l0, l1, m2, i2⟩ := hc' k _ hget
      have z0 := fun y : Aft w => y.cell k0
      have z1 := fun y : Aft w => y.cell k1
      have t0 := fun y : Aft w => y.cell l0
      have t1 := fun y : Aft w => y.cell l1
      have HN : Hid (∀ y : Aft w, Calls Tryd.prog 20 #[.slice B1 V[k].tr.length d1, .slice B2 V[k].tr.length d2] y.val (RetB (.bool true) y.val)) := Lib.hid (fun y => nums_alikeV V[k].tr y.val _ _ (SlR.on i1 (Pl.stays _) y.ok y.ok.size) (SlR.on i2 (Pl.stays _) y.ok y.ok.size))
      clear hget hc hc' k0 k1 l0 l1 i1 i2 m1 m2
      generalize V[k] = v at *
      have hss : (v.sp != v.sp) = false := by cases v.sp <;> rfl
      go_wp2_with (fail)
      refine wp_region_at (by kernel_rfl) (by kernel_rfl) ?_
      repeat (go_big_quiet_step ((first | (go_at_call 20; exact aft_b (HN.out _)))))
      refine wpQuiet_nil ?_
      rintro _ ⟨y, rfl⟩
      go_wp2
      go_roundw
      case rel => exact ⟨k + 1, y, by omega, by go_num, rfl⟩
      case measure => simp [RowKit.intOf]; omega
    · have hge : ¬ (k : Int) < (V.length : Int) := by omega
      go_wp2
      go_ret
      exact ⟨rfl, x.ok⟩
end Go.Proofs.YtbamlilnbhhcmaaDoor
