/- The text of a deed, walked: the reference's. -/
import Derived.Test.YthlfpiflegfoiaaGreatDoorLawO
import Derived.Test.YthlfpiflegfoiaaGreatDoorLawJ
import Derived.Lib.ConvBytes
namespace Go.Proofs.YthlfpiflegfoiaaGreatDoor
open Go.RowKit Go.Lib

theorem deed1_any (d : Deed) (b o : Nat) (A1 : Option Addr) (c1 : Nat) (A2 : Option Addr) (c2 : Nat) (w : World) (h : DeedP w b o d A1 c1 A2 c2) :
    Calls Tryz.prog 54 #[.pointer (some ⟨b, o, none⟩)] w (RetB (.bool (okDeed d)) w) := by
  by_cases k1 : d.kind = 1
  · exact deed1_k1 d b o A1 c1 A2 c2 w h k1
  by_cases k2 : d.kind = 2
  · exact deed1_k2 d b o A1 c1 A2 c2 w h k2
  by_cases k3 : d.kind = 3
  · exact deed1_k3 d b o A1 c1 A2 c2 w h k3
  by_cases k4 : d.kind = 4
  · exact deed1_k4 d b o A1 c1 A2 c2 w h k4
  have OK := Lib.hid (okDeed_0 k1 k2 k3 k4)
  have b1 : (d.kind == 1) = false := by simp [k1]
  have b2 : (d.kind == 2) = false := by simp [k2]
  have b3 : (d.kind == 3) = false := by simp [k3]
  have b4 : (d.kind == 4) = false := by simp [k4]
  have z0 := fun y : Aft w => y.cell h.k0
  have z1 := fun y : Aft w => y.cell h.k1
  clear h k1 k2 k3 k4
  refine calls_aft fun x0 => ?_
  go_enter Tryz.func54, Tryz.ntmps54
  go_wp2_with (fail)
  refine (aft_q (in1_any _ _ _ _)).mono ?_
  rintro e _ ⟨rfl, y, rfl⟩
  go_wp2
  go_ret
  exact ⟨by rw [OK.out]; rfl, y.ok⟩

set_option maxRecDepth 100000 in
set_option maxHeartbeats 4000000 in
theorem patchText1_any (es : List Edit) (w : World) (v : Value) (h : Edits w w.heap.size v es) (hok : okPatch es = true) :
    Calls Tryz.prog 64 #[v] w (RetB (.string ⟨(patchText es).toArray⟩) w) := by
  obtain ⟨A, c, rfl, hc, hm, hel⟩ := h
  unfold maxLen at hm
  have hlm : es.length ≤ 9223372036854775807 := by omega
  have HEL := Lib.hid hel
  have HO := Lib.hid hok
  clear hel hok
  refine calls_aft fun x0 => ?_
  go_enter Tryz.func64, Tryz.ntmps64
  go_wp2
  go_loopw [3, 4] (fun s i wr => ∃ (k : Nat) (x : Aft w), k ≤ es.length ∧ i = .int .i64 (k : Int) ∧ s = .string ⟨(patchText (es.take k)).toArray⟩ ∧ wr = x.val) (fun _ i _ => es.length - (RowKit.intOf i).toNat)
  case atStart => exact ⟨0, x0, Nat.zero_le _, rfl, by simp [patchText], rfl⟩
  case round =>
    obtain ⟨k, x, hk, rfl, rfl, rfl⟩ := hrel
    by_cases hlt : k < es.length
    · obtain ⟨b, off, hA, hblt, hcell⟩ := HEL.out (by omega)
      subst hA
      have hget : es[k]? = some es[k] := List.getElem?_eq_getElem hlt
      obtain ⟨c0, c1, c2, c3⟩ := edits_at hcell hget
      have z0 := fun y : Aft w => y.cell c0
      have z1 := fun y : Aft w => y.cell c1
      have z2 := fun y : Aft w => y.cell c2
      have z3 := fun y : Aft w => y.cell c3
      have HTK := Lib.hid (patchText_succ hget)
      have hoe := okPatch_at HO.out hget
      have hlen := patchText_take HO.out k
      have hl16 := okPatch_len HO.out
      clear hget hcell c0 c1 c2 c3
      generalize es[k] = e at *
      have hlen' : (patchText (es.take k)).length ≤ 1280 := by omega
      generalize patchText (es.take k) = out at *
      obtain ⟨i1, i2, i3, i4⟩ := okEdit_facts hoe
      have il := itoa_length_le e.id (by omega) (by omega)
      clear hoe hlen hl16
      by_cases k1 : e.kind = 1
      · have b1 : (e.kind == 1) = true := by simp [k1]
        have hed : editText e = 43 :: (itoa e.id ++ 32 :: (e.new.toList ++ [10])) := by unfold editText; rw [if_pos k1]
        have HED := Lib.hid hed
        clear k1 hed
        obtain ⟨T1, e1, n1, q1⟩ := cat_op (P := Tryz.prog) [43] (itoa e.id) (by simp) (by omega)
        simp only [List.length_cons, List.length_nil] at n1
        obtain ⟨T2, e2, n2, q2⟩ := cat_op (P := Tryz.prog) T1 [32] (by omega) (by simp)
        simp only [List.length_cons, List.length_nil] at n2
        obtain ⟨T3, e3, n3, q3⟩ := cat_opb (P := Tryz.prog) T2 e.new (by omega) (by omega)
        obtain ⟨T4, e4, n4, q4⟩ := cat_op (P := Tryz.prog) T3 [10] (by omega) (by simp)
        simp only [List.length_cons, List.length_nil] at n4
        obtain ⟨T5, e5, n5, q5⟩ := cat_op (P := Tryz.prog) out T4 (by omega) (by omega)
        have HE : Hid (T5 = patchText (es.take (k + 1))) := Lib.hid (by rw [HTK.out, HED.out, e5, e4, e3, e2, e1]; simp)
        clear e1 e2 e3 e4 e5
        go_wp2_with (fail)
        refine (aft_b (dec1_any e.id _ (by omega) (by omega))).mono ?_
        rintro e _ ⟨rfl, y, rfl⟩
        go_wp2
        go_roundw
        case rel => exact ⟨k + 1, y, by omega, by go_num, by rw [HE.out], rfl⟩
        case measure => simp [RowKit.intOf]; omega
      · by_cases k2 : e.kind = 2
        · have b1 : (e.kind == 1) = false := by simp [k1]
          have b2 : (e.kind == 2) = true := by simp [k2]
          have hed : editText e = 45 :: (itoa e.id ++ 32 :: (e.old.toList ++ [10])) := by unfold editText; rw [if_neg k1, if_pos k2]
          have HED := Lib.hid hed
          clear k1 k2 hed
          obtain ⟨T1, e1, n1, q1⟩ := cat_op (P := Tryz.prog) [45] (itoa e.id) (by simp) (by omega)
          simp only [List.length_cons, List.length_nil] at n1
          obtain ⟨T2, e2, n2, q2⟩ := cat_op (P := Tryz.prog) T1 [32] (by omega) (by simp)
          simp only [List.length_cons, List.length_nil] at n2
          obtain ⟨T3, e3, n3, q3⟩ := cat_opb (P := Tryz.prog) T2 e.old (by omega) (by omega)
          obtain ⟨T4, e4, n4, q4⟩ := cat_op (P := Tryz.prog) T3 [10] (by omega) (by simp)
          simp only [List.length_cons, List.length_nil] at n4
          obtain ⟨T5, e5, n5, q5⟩ := cat_op (P := Tryz.prog) out T4 (by omega) (by omega)
          have HE : Hid (T5 = patchText (es.take (k + 1))) := Lib.hid (by rw [HTK.out, HED.out, e5, e4, e3, e2, e1]; simp)
          clear e1 e2 e3 e4 e5
          go_wp2_with (fail)
          refine (aft_b (dec1_any e.id _ (by omega) (by omega))).mono ?_
          rintro e _ ⟨rfl, y, rfl⟩
          go_wp2
          go_roundw
          case rel => exact ⟨k + 1, y, by omega, by go_num, by rw [HE.out], rfl⟩
          case measure => simp [RowKit.intOf]; omega
        · have b1 : (e.kind == 1) = false := by simp [k1]
          have b2 : (e.kind == 2) = false := by simp [k2]
          have hed : editText e = 126 :: (itoa e.id ++ 32 :: (e.old.toList ++ 124 :: (e.new.toList ++ [10]))) := by unfold editText; rw [if_neg k1, if_neg k2]
          have HED := Lib.hid hed
          clear k1 k2 hed
          obtain ⟨T1, e1, n1, q1⟩ := cat_op (P := Tryz.prog) [126] (itoa e.id) (by simp) (by omega)
          simp only [List.length_cons, List.length_nil] at n1
          obtain ⟨T2, e2, n2, q2⟩ := cat_op (P := Tryz.prog) T1 [32] (by omega) (by simp)
          simp only [List.length_cons, List.length_nil] at n2
          obtain ⟨T3, e3, n3, q3⟩ := cat_opb (P := Tryz.prog) T2 e.old (by omega) (by omega)
          obtain ⟨T4, e4, n4, q4⟩ := cat_op (P := Tryz.prog) T3 [124] (by omega) (by simp)
          simp only [List.length_cons, List.length_nil] at n4
          obtain ⟨T5, e5, n5, q5⟩ := cat_opb (P := Tryz.prog) T4 e.new (by omega) (by omega)
          obtain ⟨T6, e6, n6, q6⟩ := cat_op (P := Tryz.prog) T5 [10] (by omega) (by simp)
          simp only [List.length_cons, List.length_nil] at n6
          obtain ⟨T7, e7, n7, q7⟩ := cat_op (P := Tryz.prog) out T6 (by omega) (by omega)
          have HE : Hid (T7 = patchText (es.take (k + 1))) := Lib.hid (by rw [HTK.out, HED.out, e7, e6, e5, e4, e3, e2, e1]; simp)
          clear e1 e2 e3 e4 e5 e6 e7
          go_wp2_with (fail)
          refine (aft_b (dec1_any e.id _ (by omega) (by omega))).mono ?_
          rintro e _ ⟨rfl, y, rfl⟩
          go_wp2_with (fail)
          refine wp_region_at (by kernel_rfl) (by kernel_rfl) ?_
          repeat (go_big_quiet_step (fail))
          refine wpQuiet_nil ?_
          rintro _ ⟨z, rfl⟩
          go_wp2
          go_roundw
          case rel => exact ⟨k + 1, z, by omega, by go_num, by rw [HE.out], rfl⟩
          case measure => simp [RowKit.intOf]; omega
    · have hge : ¬ (k : Int) < (es.length : Int) := by omega
      have hfin : es.take k = es := List.take_of_length_le (by omega)
      rw [hfin]
      clear hlt hfin
      go_wp2
      go_ret
      exact ⟨rfl, x.ok⟩

theorem nums_one (z : Int) (sep : List UInt8) : nums [z] sep = itoa z := by
  unfold nums
  simp [Lib.join_cons, Lib.joinTail]
theorem nums_snoc (zs : List Int) (z : Int) (sep : List UInt8) (h : zs ≠ []) : nums (zs ++ [z]) sep = nums zs sep ++ (sep ++ itoa z) := by
  obtain ⟨a, r, rfl⟩ := List.exists_cons_of_ne_nil h
  unfold nums
  rw [List.cons_append, List.map_cons, List.map_cons, List.map_append, Lib.join_cons, Lib.join_cons]
  have : ∀ xs : List (List UInt8), Lib.joinTail sep (xs ++ [itoa z]) = Lib.joinTail sep xs ++ (sep ++ itoa z) := by
    intro xs
    simp [Lib.joinTail]
  rw [List.map_cons, List.map_nil, this, List.append_assoc]

set_option maxRecDepth 100000 in
set_option maxHeartbeats 2000000 in
theorem numbers1_any (zs : List Int) (sep : List UInt8) (w : World) (v : Value) (h : Ints w w.heap.size v zs) (hn : zs.length ≤ 64) (hsep : sep.length ≤ 16) (hz : ∀ z ∈ zs, -9223372036854775808 ≤ z ∧ z ≤ 9223372036854775807) :
    Calls Tryz.prog 63 #[v, .string ⟨sep.toArray⟩] w (RetB (.string ⟨(nums zs sep).toArray⟩) w) := by
  obtain ⟨A, c, rfl, hc, hm, hel⟩ := h
  unfold maxLen at hm
  have hlm : zs.length ≤ 9223372036854775807 := by omega
  have HEL := Lib.hid hel
  have HZ := Lib.hid hz
  clear hel hz
  refine calls_aft fun x0 => ?_
  go_enter Tryz.func63, Tryz.ntmps63
  go_wp2
  go_loopw [5, 6] (fun s i wr => ∃ (k : Nat) (x : Aft w), k ≤ zs.length ∧ i = .int .i64 (k : Int) ∧ s = .string ⟨(nums (zs.take k) sep).toArray⟩ ∧ wr = x.val) (fun _ i _ => zs.length - (RowKit.intOf i).toNat)
  case atStart => exact ⟨0, x0, Nat.zero_le _, rfl, by simp [nums, Lib.join_nil], rfl⟩
  case round =>
    obtain ⟨k, x, hk, rfl, rfl, rfl⟩ := hrel
    by_cases hlt : k < zs.length
    · obtain ⟨b, off, hA, hblt, hcell⟩ := HEL.out (by omega)
      subst hA
      have hget : zs[k]? = some zs[k] := List.getElem?_eq_getElem hlt
      have c0 := ints_at hcell hget
      have z0 := fun y : Aft w => y.cell c0
      have hzk := HZ.out zs[k] (List.getElem_mem hlt)
      have hl := nums_len (zs.take k) sep hsep fun z hz => HZ.out z (List.mem_of_mem_take hz)
      rw [List.length_take] at hl
      have hts : zs.take (k + 1) = zs.take k ++ [zs[k]] := by rw [List.take_succ_eq_append_getElem hlt]
      have HTS := Lib.hid hts
      have HK0 : Hid (k = 0 → zs.take k = []) := Lib.hid (by rintro rfl; rfl)
      have HK1 : Hid (¬ k = 0 → zs.take k ≠ []) := Lib.hid (by intro h e; have := congrArg List.length e; rw [List.length_take, List.length_nil] at this; omega)
      clear hget hcell c0 hts
      generalize zs[k] = z at *
      obtain ⟨b1, b2⟩ := hzk
      have il := itoa_length_le z b1 b2
      have hl' : (nums (zs.take k) sep).length ≤ 2368 := by omega
      clear hl
      by_cases h0 : k = 0
      · have hE : Hid (nums (zs.take (k + 1)) sep = itoa z) := Lib.hid (by rw [HTS.out, HK0.out h0, List.nil_append, nums_one])
        have hE0 : nums (zs.take k) sep = [] := by rw [HK0.out h0]; simp [nums, Lib.join_nil]
        rw [hE0]
        have d0 : decide ((0 : Int) < (k : Int)) = false := by simp; omega
        have d1 : decide (0 < k) = false := by simp; omega
        obtain ⟨T1, e1, n1, q1⟩ := cat_op (P := Tryz.prog) [] (itoa z) (by simp) (by omega)
        have HT : Hid (T1 = nums (zs.take (k + 1)) sep) := Lib.hid (by rw [e1, hE.out]; rfl)
        clear h0 hE0 e1 hl'
        go_wp2_with (fail)
        refine (aft_b (dec1_any z _ (by omega) (by omega))).mono ?_
        rintro e _ ⟨rfl, y, rfl⟩
        go_wp2
        go_roundw
        case rel => exact ⟨k + 1, y, by omega, by go_num, by rw [HT.out], rfl⟩
        case measure => simp [RowKit.intOf]; omega
      · have hE : Hid (nums (zs.take (k + 1)) sep = nums (zs.take k) sep ++ (sep ++ itoa z)) := Lib.hid (by rw [HTS.out, nums_snoc _ _ _ (HK1.out h0)])
        have d0 : decide ((0 : Int) < (k : Int)) = true := by simp; omega
        have d1 : decide (0 < k) = true := by simp; omega
        generalize nums (zs.take k) sep = out at *
        obtain ⟨T1, e1, n1, q1⟩ := cat_op (P := Tryz.prog) out sep (by omega) (by omega)
        obtain ⟨T2, e2, n2, q2⟩ := cat_op (P := Tryz.prog) T1 (itoa z) (by omega) (by omega)
        have HT : Hid (T2 = nums (zs.take (k + 1)) sep) := Lib.hid (by rw [e2, e1, hE.out, List.append_assoc])
        clear h0 e1 e2
        go_wp2_with (fail)
        refine (aft_b (dec1_any z _ (by omega) (by omega))).mono ?_
        rintro e _ ⟨rfl, y, rfl⟩
        go_wp2
        go_roundw
        case rel => exact ⟨k + 1, y, by omega, by go_num, by rw [HT.out], rfl⟩
        case measure => simp [RowKit.intOf]; omega
    · have hge : ¬ (k : Int) < (zs.length : Int) := by omega
      have hfin : zs.take k = zs := List.take_of_length_le (by omega)
      rw [hfin]
      clear hlt hfin
      go_wp2
      go_ret
      exact ⟨rfl, x.ok⟩

theorem words1_any (w : World) : Calls Tryz.prog 51 #[] w (fun e w' => e = .returned (.slice (some ⟨w.heap.size, 0, none⟩) 4 4) ∧ w' = w.alloc (.cells #[.string ⟨#[110, 111, 110, 101]⟩, .string ⟨#[121, 101, 115]⟩, .string ⟨#[110, 111]⟩, .string ⟨#[98, 108, 97, 110, 107]⟩] 9)) := by
  go_enter Tryz.func51, Tryz.ntmps51
  go_wp2
  go_ret
  exact ⟨rfl, rfl⟩

/-- Bytes of the call's own, in a block of their own. -/
structure BytesOwn (w : World) (g : Nat) (l : List UInt8) : Prop where
  cell : ∀ j (c : UInt8), l[j]? = some c → w.cell? ⟨g, j, none⟩ = some (.int .u8 (c.toNat : Int))
  free : ∀ j, j < l.length → w.frozen? ⟨g, j, none⟩ = false
def swp (fr to_ : UInt8) (l : List UInt8) (k : Nat) : List UInt8 := (l.take k).map (fun c => if c = fr then to_ else c) ++ l.drop k
theorem swp_length (fr to_ : UInt8) (l : List UInt8) (k : Nat) : (swp fr to_ l k).length = l.length := by
  unfold swp
  rw [List.length_append, List.length_map, List.length_take, List.length_drop]
  omega
theorem swp_get (fr to_ : UInt8) (l : List UInt8) (k : Nat) (h : k < l.length) : (swp fr to_ l k)[k]? = some l[k] := by
  unfold swp
  rw [List.getElem?_append_right (by rw [List.length_map, List.length_take]; omega), List.length_map, List.length_take, List.getElem?_drop]
  rw [show k + (k - min k l.length) = k by omega]
  exact List.getElem?_eq_getElem h
theorem swp_succ (fr to_ : UInt8) (l : List UInt8) (k : Nat) (h : k < l.length) : swp fr to_ l (k + 1) = (swp fr to_ l k).set k (if l[k] = fr then to_ else l[k]) := by
  unfold swp
  rw [List.take_succ_eq_append_getElem h, List.map_append, List.set_append, if_neg (by rw [List.length_map, List.length_take]; omega), List.length_map, List.length_take, show k - min k l.length = 0 by omega]
  have e : (l.drop k).set 0 (if l[k] = fr then to_ else l[k]) = (if l[k] = fr then to_ else l[k]) :: l.drop (k + 1) := by
    rw [List.drop_eq_getElem_cons h]
    rfl
  rw [e]
  simp
theorem swp_keep (fr to_ : UInt8) (l : List UInt8) (k : Nat) (h : k < l.length) (hne : l[k] ≠ fr) : swp fr to_ l (k + 1) = swp fr to_ l k := by
  rw [swp_succ fr to_ l k h, if_neg hne]
  apply List.ext_getElem?
  intro j
  rw [List.getElem?_set]
  by_cases hj : k = j
  · subst hj
    rw [if_pos rfl, swp_get fr to_ l k h, if_pos (by rw [swp_length]; exact h)]
  · rw [if_neg hj]
theorem swp_all (fr to_ : UInt8) (l : List UInt8) (k : Nat) (h : l.length ≤ k) : swp fr to_ l k = l.map (fun c => if c = fr then to_ else c) := by
  unfold swp
  rw [List.take_of_length_le h, List.drop_eq_nil_of_le h, List.append_nil]
theorem BytesOwn.set {w : World} {g : Nat} {l : List UInt8} (h : BytesOwn w g l) (k : Nat) (c : UInt8) (hk : k < l.length) : BytesOwn (w.setCell ⟨g, k, none⟩ (.int .u8 (c.toNat : Int))) g (l.set k c) where
  cell := fun j d hj => by
    by_cases e : k = j
    · subst e
      rw [List.getElem?_set, if_pos rfl, if_pos hk] at hj
      injection hj with hj
      subst hj
      have := h.cell k l[k] (List.getElem?_eq_getElem hk)
      exact World.cell?_setCell_same _ _ _ this
    · rw [List.getElem?_set, if_neg e] at hj
      rw [World.cell?_setCell_other _ _ _ _ (by intro h; injection h with _ h; exact e h)]
      exact h.cell j d hj
  free := fun j hj => by
    rw [List.length_set] at hj
    rw [World.frozen?_setCell]
    exact h.free j hj

end Go.Proofs.YthlfpiflegfoiaaGreatDoor
