/- The reference's readers of an edit and of a patch. -/
import Derived.Test.YthlfpiflegfoiaaGreatDoorRB
namespace Go.Proofs.YthlfpiflegfoiaaGreatDoor
open Go.RowKit Go.Lib

theorem cutL_len (c : UInt8) (l : List UInt8) : (cutL c l).1.length ≤ l.length ∧ (cutL c l).2.length ≤ l.length := by
  unfold cutL
  have h1 := (List.takeWhile_sublist (fun x => x != c) (l := l)).length_le
  have h2 := (List.dropWhile_sublist (fun x => x != c) (l := l)).length_le
  refine ⟨h1, ?_⟩
  rw [List.length_drop]
  omega
theorem mk_size (l : List UInt8) : (⟨l.toArray⟩ : ByteArray).size = l.length := by simp [ByteArray.size]
theorem cons_of (s : ByteArray) (h : 0 < s.size) : s.data.toList = s[0] :: s.data.toList.drop 1 := by
  have := List.drop_eq_getElem_cons (l := s.data.toList) (i := 0) (by simpa using h)
  rw [List.drop_zero] at this
  exact this

set_option maxHeartbeats 2000000 in
theorem line1_any (s : ByteArray) (w : World) (hs : s.size ≤ 1048576) :
    Calls Tryz.prog 77 #[.string s] w (RetB (editV (lineP false (-999999999) 999999999 s.data.toList)) w) := by
  have hsz : s.data.toList.length = s.size := by simp
  by_cases p0 : 0 < s.size
  · have hl1 : (s.toList == []) = false := by rw [ByteArray.toList_eq]; simp; intro h; rw [h] at hsz; simp at hsz; omega
    have HL := Lib.hid (cons_of s p0)
    have hd1 : (s.extract 1 s.size).data.toList = s.data.toList.drop 1 := extract_to_end s 1
    have hz1 : (s.extract 1 s.size).size ≤ 1048576 := by rw [ext_drop, mk_size, List.length_drop]; omega
    have hcut : ∀ W, Calls Tryz.prog 32 #[.string (s.extract 1 s.size), .int .u8 32] W (RetQ (.tuple #[.string ⟨(cutL 32 (s.extract 1 s.size).data.toList).1.toArray⟩, .string ⟨(cutL 32 (s.extract 1 s.size).data.toList).2.toArray⟩]) W) := fun W => cut1_any 32 32 rfl _ W hz1
    rw [hd1] at hcut
    obtain ⟨ha, hb⟩ := cutL_len 32 (s.data.toList.drop 1)
    rw [List.length_drop] at ha hb
    have HDEF : Hid (lineP false (-999999999) 999999999 s.data.toList = lineP false (-999999999) 999999999 (s[0] :: s.data.toList.drop 1)) := Lib.hid (by rw [← HL.out])
    obtain ⟨R, hR⟩ : ∃ R, lineP false (-999999999) 999999999 s.data.toList = R := ⟨_, rfl⟩
    rw [hR] at HDEF ⊢
    have HD2 : Hid (R = if s[0] = 43 then ⟨1, (numOf (-999999999) 999999999 (cutL 32 (s.data.toList.drop 1)).1).getD 0, ⟨#[]⟩, ⟨(cutL 32 (s.data.toList.drop 1)).2.toArray⟩⟩
      else if s[0] = 45 then ⟨2, (numOf (-999999999) 999999999 (cutL 32 (s.data.toList.drop 1)).1).getD 0, ⟨(cutL 32 (s.data.toList.drop 1)).2.toArray⟩, ⟨#[]⟩⟩
      else if (false || s[0] == 126) = true then ⟨3, (numOf (-999999999) 999999999 (cutL 32 (s.data.toList.drop 1)).1).getD 0, ⟨(cutL 124 (cutL 32 (s.data.toList.drop 1)).2).1.toArray⟩, ⟨(cutL 124 (cutL 32 (s.data.toList.drop 1)).2).2.toArray⟩⟩
      else ⟨0, 0, ⟨#[]⟩, ⟨#[]⟩⟩) := Lib.hid HDEF.out
    clear hR HDEF HL hd1
    have HC := Lib.hid hcut
    clear hcut
    generalize cutL 32 (s.data.toList.drop 1) = ab at *
    obtain ⟨a, b⟩ := ab
    simp only at ha hb HD2 HC
    have HA := Lib.hid (fun W => read1_any ⟨a.toArray⟩ W (by rw [mk_size]; omega))
    have hz2 : (⟨b.toArray⟩ : ByteArray).size ≤ 1048576 := by rw [mk_size]; omega
    have HBC : Hid (∀ W, Calls Tryz.prog 32 #[.string ⟨b.toArray⟩, .int .u8 124] W (RetQ (.tuple #[.string ⟨(cutL 124 b).1.toArray⟩, .string ⟨(cutL 124 b).2.toArray⟩]) W)) := Lib.hid (fun W => cut1_any 124 124 rfl _ W hz2)
    rw [show (⟨a.toArray⟩ : ByteArray).data.toList = a from rfl] at HA
    generalize (numOf (-999999999) 999999999 a).getD 0 = z at *
    generalize (numOf (-999999999) 999999999 a).isSome = zok at *
    generalize cutL 124 b = xy at *
    obtain ⟨x, y⟩ := xy
    simp only at HBC HD2
    have hc := s[0].toNat_lt
    have HI : Hid (∀ n : UInt8, s[0] ≠ n → ((s[0].toNat : Int) == (n.toNat : Int)) = false) := Lib.hid (fun n h => by
      simp only [beq_eq_false_iff_ne, ne_eq]
      intro e
      exact h (UInt8.toNat_inj.1 (by omega)))
    have R0 := Row.new w #[.int .i64 0, .int .i64 0, .string ⟨#[]⟩, .string ⟨#[]⟩] 66
    have hx0 : w.heap.size < (w.alloc (.cells #[.int .i64 0, .int .i64 0, .string ⟨#[]⟩, .string ⟨#[]⟩] 66)).heap.size := by simp
    have HB0 : Hid (∀ o, Below w.heap.size w (w.alloc o)) := Lib.hid (fun o => (Below.refl _ _).alloc (Nat.le_refl _) o)
    clear hsz hz1 hz2 ha hb
    have hor : s[0] = 43 ∨ s[0] = 45 ∨ s[0] = 126 ∨ (s[0] ≠ 43 ∧ s[0] ≠ 45 ∧ s[0] ≠ 126) := by
      by_cases h1 : s[0] = 43
      · exact .inl h1
      · by_cases h2 : s[0] = 45
        · exact .inr (.inl h2)
        · by_cases h3 : s[0] = 126
          · exact .inr (.inr (.inl h3))
          · exact .inr (.inr (.inr ⟨h1, h2, h3⟩))
    have HOR := Lib.hid hor
    clear hor
    go_enter Tryz.func77, Tryz.ntmps77
    go_wp2_with (fail)
    refine (HC.out _).mono ?_
    rintro e w1 ⟨rfl, m1, rfl⟩
    go_wp2_with (fail)
    refine (HA.out _).mono ?_
    rintro e w2 ⟨rfl, hb2⟩
    have R2 := (R0.below (below_drewN (Below.refl _ _) m1) hx0).below hb2 hx0
    have HB2 : Hid (Below w.heap.size w w2) := Lib.hid ((below_drewN (HB0.out _) m1).trans (hb2.mono (by simp)))
    clear hb2
    have hor := HOR.out
    rcases hor with h1 | h1 | h1 | ⟨h1, h2, h3⟩
    · have k0 : w2.cell? ⟨w.heap.size, 0, none⟩ = some (.int .i64 0) := R2.cell 0 _ rfl
      have k1 : w2.cell? ⟨w.heap.size, 1, none⟩ = some (.int .i64 0) := R2.cell 1 _ rfl
      have k2 : w2.cell? ⟨w.heap.size, 2, none⟩ = some (.string ⟨#[]⟩) := R2.cell 2 _ rfl
      have k3 : w2.cell? ⟨w.heap.size, 3, none⟩ = some (.string ⟨#[]⟩) := R2.cell 3 _ rfl
      have f0 : w2.frozen? ⟨w.heap.size, 0, none⟩ = false := R2.free 0 (by decide)
      have f1 : w2.frozen? ⟨w.heap.size, 1, none⟩ = false := R2.free 1 (by decide)
      have f2 : w2.frozen? ⟨w.heap.size, 2, none⟩ = false := R2.free 2 (by decide)
      have f3 : w2.frozen? ⟨w.heap.size, 3, none⟩ = false := R2.free 3 (by decide)
      have t1 : ((s[0].toNat : Int) == 43) = true := by rw [h1]; rfl
      have HO : Hid (R = ⟨1, z, ⟨#[]⟩, ⟨b.toArray⟩⟩) := Lib.hid (by rw [HD2.out, if_pos h1])
      clear R0 R2 h1
      go_wp2
      exact bodyPost_ret (v := .agg #[.int .i64 1, .int .i64 z, .string ⟨#[]⟩, .string ⟨b.toArray⟩]) (by simp [results, Tryz.results77, go_sem, k0, k1, k2, k3]) rfl ⟨by rw [HO.out]; rfl, (((HB2.out.setCell (Nat.le_refl _) _).setCell (Nat.le_refl _) _).setCell (Nat.le_refl _) _).setCell (Nat.le_refl _) _⟩
    · have k0 : w2.cell? ⟨w.heap.size, 0, none⟩ = some (.int .i64 0) := R2.cell 0 _ rfl
      have k1 : w2.cell? ⟨w.heap.size, 1, none⟩ = some (.int .i64 0) := R2.cell 1 _ rfl
      have k2 : w2.cell? ⟨w.heap.size, 2, none⟩ = some (.string ⟨#[]⟩) := R2.cell 2 _ rfl
      have k3 : w2.cell? ⟨w.heap.size, 3, none⟩ = some (.string ⟨#[]⟩) := R2.cell 3 _ rfl
      have f0 : w2.frozen? ⟨w.heap.size, 0, none⟩ = false := R2.free 0 (by decide)
      have f1 : w2.frozen? ⟨w.heap.size, 1, none⟩ = false := R2.free 1 (by decide)
      have f2 : w2.frozen? ⟨w.heap.size, 2, none⟩ = false := R2.free 2 (by decide)
      have f3 : w2.frozen? ⟨w.heap.size, 3, none⟩ = false := R2.free 3 (by decide)
      have t0 : ((s[0].toNat : Int) == 43) = false := HI.out 43 (by rw [h1]; decide)
      have t1 : ((s[0].toNat : Int) == 45) = true := by rw [h1]; rfl
      have HO : Hid (R = ⟨2, z, ⟨b.toArray⟩, ⟨#[]⟩⟩) := Lib.hid (by rw [HD2.out, if_neg (by rw [h1]; decide), if_pos h1])
      clear R0 R2 h1
      go_wp2
      exact bodyPost_ret (v := .agg #[.int .i64 2, .int .i64 z, .string ⟨b.toArray⟩, .string ⟨#[]⟩]) (by simp [results, Tryz.results77, go_sem, k0, k1, k2, k3]) rfl ⟨by rw [HO.out]; rfl, (((HB2.out.setCell (Nat.le_refl _) _).setCell (Nat.le_refl _) _).setCell (Nat.le_refl _) _).setCell (Nat.le_refl _) _⟩
    · have t0 : ((s[0].toNat : Int) == 43) = false := HI.out 43 (by rw [h1]; decide)
      have t1 : ((s[0].toNat : Int) == 45) = false := HI.out 45 (by rw [h1]; decide)
      have t2 : ((s[0].toNat : Int) == 126) = true := by rw [h1]; rfl
      have HO : Hid (R = ⟨3, z, ⟨x.toArray⟩, ⟨y.toArray⟩⟩) := Lib.hid (by rw [HD2.out, if_neg (by rw [h1]; decide), if_neg (by rw [h1]; decide), if_pos (by rw [h1]; rfl)])
      clear R0 h1
      go_wp2_with (fail)
      refine (HBC.out _).mono ?_
      rintro e w3 ⟨rfl, m3, rfl⟩
      have R3 : Row (w2.drewN m3) w.heap.size _ := R2.below (below_drewN (Below.refl _ _) m3) (by have := HB2.out.size; exact World.block_lt_of_cell? w2 ⟨w.heap.size, 0, none⟩ (R2.cell 0 _ rfl))
      have HB3 : Hid (Below w.heap.size w (w2.drewN m3)) := Lib.hid (below_drewN HB2.out m3)
      have k0 : (w2.drewN m3).cell? ⟨w.heap.size, 0, none⟩ = some (.int .i64 0) := R3.cell 0 _ rfl
      have k1 : (w2.drewN m3).cell? ⟨w.heap.size, 1, none⟩ = some (.int .i64 0) := R3.cell 1 _ rfl
      have k2 : (w2.drewN m3).cell? ⟨w.heap.size, 2, none⟩ = some (.string ⟨#[]⟩) := R3.cell 2 _ rfl
      have k3 : (w2.drewN m3).cell? ⟨w.heap.size, 3, none⟩ = some (.string ⟨#[]⟩) := R3.cell 3 _ rfl
      have f0 : (w2.drewN m3).frozen? ⟨w.heap.size, 0, none⟩ = false := R3.free 0 (by decide)
      have f1 : (w2.drewN m3).frozen? ⟨w.heap.size, 1, none⟩ = false := R3.free 1 (by decide)
      have f2 : (w2.drewN m3).frozen? ⟨w.heap.size, 2, none⟩ = false := R3.free 2 (by decide)
      have f3 : (w2.drewN m3).frozen? ⟨w.heap.size, 3, none⟩ = false := R3.free 3 (by decide)
      clear R2 R3
      go_wp2
      exact bodyPost_ret (v := .agg #[.int .i64 3, .int .i64 z, .string ⟨x.toArray⟩, .string ⟨y.toArray⟩]) (by simp [results, Tryz.results77, go_sem, k0, k1, k2, k3]) rfl ⟨by rw [HO.out]; rfl, (((HB3.out.setCell (Nat.le_refl _) _).setCell (Nat.le_refl _) _).setCell (Nat.le_refl _) _).setCell (Nat.le_refl _) _⟩
    · have k0 : w2.cell? ⟨w.heap.size, 0, none⟩ = some (.int .i64 0) := R2.cell 0 _ rfl
      have k1 : w2.cell? ⟨w.heap.size, 1, none⟩ = some (.int .i64 0) := R2.cell 1 _ rfl
      have k2 : w2.cell? ⟨w.heap.size, 2, none⟩ = some (.string ⟨#[]⟩) := R2.cell 2 _ rfl
      have k3 : w2.cell? ⟨w.heap.size, 3, none⟩ = some (.string ⟨#[]⟩) := R2.cell 3 _ rfl
      have f0 : w2.frozen? ⟨w.heap.size, 0, none⟩ = false := R2.free 0 (by decide)
      have f1 : w2.frozen? ⟨w.heap.size, 1, none⟩ = false := R2.free 1 (by decide)
      have f2 : w2.frozen? ⟨w.heap.size, 2, none⟩ = false := R2.free 2 (by decide)
      have f3 : w2.frozen? ⟨w.heap.size, 3, none⟩ = false := R2.free 3 (by decide)
      have t0 : ((s[0].toNat : Int) == 43) = false := HI.out 43 h1
      have t1 : ((s[0].toNat : Int) == 45) = false := HI.out 45 h2
      have t2 : ((s[0].toNat : Int) == 126) = false := HI.out 126 h3
      have HO : Hid (R = ⟨0, 0, ⟨#[]⟩, ⟨#[]⟩⟩) := Lib.hid (by rw [HD2.out, if_neg h1, if_neg h2, if_neg (by simpa using h3)])
      clear R0 R2 h1 h2 h3
      go_wp2
      exact bodyPost_ret (v := .agg #[.int .i64 0, .int .i64 0, .string ⟨#[]⟩, .string ⟨#[]⟩]) (by simp [results, Tryz.results77, go_sem, k0, k1, k2, k3]) rfl ⟨by rw [HO.out]; rfl, (((HB2.out.setCell (Nat.le_refl _) _).setCell (Nat.le_refl _) _).setCell (Nat.le_refl _) _).setCell (Nat.le_refl _) _⟩
  · have h0 : s.data.toList = [] := List.eq_nil_of_length_eq_zero (by omega)
    have hl1 : (s.toList == []) = true := by rw [ByteArray.toList_eq, h0]; rfl
    rw [h0]
    clear h0
    go_enter Tryz.func77, Tryz.ntmps77
    go_wp2
    exact bodyPost_ret (v := .agg #[.int .i64 0, .int .i64 0, .string ⟨#[]⟩, .string ⟨#[]⟩]) (by simp [results, Tryz.results77, go_sem]) rfl ⟨rfl, (Below.refl _ _).alloc (Nat.le_refl _) _⟩
end Go.Proofs.YthlfpiflegfoiaaGreatDoor
