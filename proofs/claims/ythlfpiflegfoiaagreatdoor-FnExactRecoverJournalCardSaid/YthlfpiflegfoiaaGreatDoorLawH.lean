/- Numbers in a row as a text, walked: the program's. -/
import Derived.Lib.Join
import Derived.Test.YthlfpiflegfoiaaGreatDoorLawG
namespace Go.Proofs.YthlfpiflegfoiaaGreatDoor
open Go.RowKit Go.Lib

def strCell (l : List UInt8) : List Value := [.string ⟨l.toArray⟩]
theorem join2_any (xs : List (List UInt8)) (sep : ByteArray) (w : World) (v : Value) (h : SlR (Pl strCell) 1 w w.heap.size v xs) (hn : xs.length ≤ 140737488355328) (hl : (Lib.join xs sep.data.toList).length ≤ 140737488355328) :
    Calls Tryz.prog 70 #[v, .string sep] w (RetB (.string ⟨(Lib.join xs sep.data.toList).toArray⟩) w) := by
  obtain ⟨A, c, rfl, hc, hm, hel⟩ := h
  by_cases h0 : xs.length = 0
  · have : xs = [] := List.eq_nil_of_length_eq_zero h0
    subst this
    exact (Tryz.strings_Join_none A c sep w).mono fun e w' ⟨he, hw⟩ => ⟨he, by rw [hw]; exact Below.refl _ _⟩
  · obtain ⟨b, off, rfl, hb, hcell⟩ := hel (by omega)
    have hmm : (xs.map (fun l => (⟨l.toArray⟩ : ByteArray))).map (·.data.toList) = xs := by simp [List.map_map, Function.comp_def]
    have H := Tryz.strings_Join b off c (xs.map (fun l => ⟨l.toArray⟩)) sep w (fun j x hx => by
      rw [List.getElem?_map, Option.map_eq_some_iff] at hx
      obtain ⟨l, hl1, rfl⟩ := hx
      obtain ⟨us, hu1, hu2, hu3⟩ := hcell j l hl1
      have := hu3 0 (.string ⟨l.toArray⟩) (by rw [hu2]; rfl)
      simpa using this) hb (by rw [List.length_map]; exact hn) (by rw [List.length_map]; exact hc) (by rw [hmm]; exact hl)
    rw [hmm, List.length_map] at H
    exact H

/-- Numbers with a text between two of them. -/
def nums (zs : List Int) (sep : List UInt8) : List UInt8 := Lib.join (zs.map itoa) sep
theorem lens_nums (zs : List Int) (hz : ∀ z ∈ zs, -9223372036854775808 ≤ z ∧ z ≤ 9223372036854775807) : Lib.lens (zs.map itoa) ≤ 21 * zs.length := by
  induction zs with
  | nil => simp [Lib.lens]
  | cons z r ih =>
    have := itoa_length_le z (hz z (by simp)).1 (hz z (by simp)).2
    have := ih fun x hx => hz x (by simp [hx])
    simp [Lib.lens] at *
    omega
theorem nums_len (zs : List Int) (sep : List UInt8) (hs : sep.length ≤ 16) (hz : ∀ z ∈ zs, -9223372036854775808 ≤ z ∧ z ≤ 9223372036854775807) : (nums zs sep).length ≤ 37 * zs.length := by
  cases zs with
  | nil => simp [nums, Lib.join_nil]
  | cons z r =>
    unfold nums
    have h1 := itoa_length_le z (hz z (by simp)).1 (hz z (by simp)).2
    have h2 := lens_nums r fun x hx => hz x (by simp [hx])
    rw [List.map_cons, Lib.join_cons, List.length_append, Lib.joinTail_length, List.length_map, List.length_cons]
    have : sep.length * r.length ≤ 16 * r.length := Nat.mul_le_mul_right _ hs
    omega

theorem Tryz.infoS : (Tryz.prog.info? 9).map (fun i => (i.zero, i.size, i.bytes)) = some (some (.string ⟨#[]⟩), 1, 16) := by kernel_rfl

theorem own_below {w w' : World} {base : Nat} {e : TypeId} {size : Nat} {v : Value} {n : Nat} {xs : List Value} (h : w.ownsRow base e size v n xs) (hb : Below w.heap.size w w') : w'.ownsRow base e size v n xs := by
  obtain ⟨hl, h | ⟨g, cap, cur, rfl, hg, hh, hr⟩⟩ := h
  · exact ⟨hl, .inl h⟩
  · refine ⟨hl, .inr ⟨g, cap, cur, rfl, hg, ?_, hr⟩⟩
    have hlt : g < w.heap.size := by
      rcases Nat.lt_or_ge g w.heap.size with hlt | hge
      · exact hlt
      · rw [Array.getElem?_eq_none hge] at hh; cases hh
    rw [hb.block g hlt]
    exact hh
theorem take_cells {zs : List Int} {k : Nat} {z : Int} (h : zs[k]? = some z) : ((zs.take (k + 1)).map itoa).flatMap strCell = ((zs.take k).map itoa).flatMap strCell ++ [.string ⟨(itoa z).toArray⟩] := by
  obtain ⟨hlt, rfl⟩ := List.getElem?_eq_some_iff.1 h
  rw [List.take_succ_eq_append_getElem hlt, List.map_append, List.flatMap_append]
  rfl

set_option maxHeartbeats 2000000 in
theorem decimals_any (zs : List Int) (sep : ByteArray) (w : World) (v : Value) (h : Ints w w.heap.size v zs) (hn : zs.length ≤ 64) (hsep : sep.data.toList.length ≤ 16) (hz : ∀ z ∈ zs, -9223372036854775808 ≤ z ∧ z ≤ 9223372036854775807) (hE : Env w.heap.size w) :
    Calls Tryz.prog 43 #[v, .string sep] w (RetB (.string ⟨(nums zs sep.data.toList).toArray⟩) w) := by
  obtain ⟨A, c, rfl, hc, hm, hel⟩ := h
  unfold maxLen at hm
  have hlm : zs.length ≤ 9223372036854775807 := by omega
  have HEL := Lib.hid hel
  have HZ := Lib.hid hz
  have HSEP := Lib.hid hsep
  have E := Lib.hid hE
  obtain ⟨i0, hi, hz0, hz1, hz2⟩ := info_parts Tryz.infoS
  clear hel hE hz hsep
  go_enter Tryz.func43, Tryz.ntmps43
  go_wp2
  go_loopw [5, 11] (fun o i wr => ∃ k : Nat, k ≤ zs.length ∧ i = .int .i64 (k : Int) ∧ wr.ownsRow w.heap.size 9 1 o k (((zs.take k).map itoa).flatMap strCell) ∧ Below w.heap.size w wr) (fun _ i _ => zs.length - (RowKit.intOf i).toNat)
  case atStart => exact ⟨0, Nat.zero_le _, rfl, by simpa using World.ownsRow_made w #[] 0 (Nat.le_refl _) (Nat.zero_le _) rfl, (Below.refl _ _).alloc (Nat.le_refl _) _⟩
  case round =>
    obtain ⟨k, hk, rfl, hown, hb⟩ := hrel
    by_cases hlt : k < zs.length
    · obtain ⟨b, off, hA, hblt, hcell⟩ := HEL.out (by omega)
      subst hA
      have hget : zs[k]? = some zs[k] := List.getElem?_eq_getElem hlt
      have c0 := ints_at hcell hget
      have x0 := (hb.cell (p := ⟨b, off + k, none⟩) hblt).trans c0
      have hzk := HZ.out zs[k] (List.getElem_mem hlt)
      have HTK := Lib.hid (take_cells hget)
      clear hget hcell c0
      generalize zs[k] = z at *
      obtain ⟨z1, z2⟩ := hzk
      have HOWN := Lib.hid hown
      clear hown
      generalize ((zs.take k).map itoa).flatMap strCell = L at *
      go_wp2_with (fail)
      refine (decimal_any w.heap.size z _ (E.out.on hb) z1 z2).mono ?_
      rintro e w1 ⟨rfl, hb1⟩
      have hown := own_below HOWN.out hb1
      have hbb := hb.trans (hb1.mono hb.size)
      have hsz := hbb.size
      go_wp2_with (at_builtin; refine wpList_append_own _ rfl _ _ 59 rfl w.heap.size 9 i0 (.string ⟨#[]⟩) 1 16 Tryz.underlying59 hi hz0 hz1 hz2 rfl (by decide) _ _ _ rfl (hown.alloc _) ⟨w1.heap.size, 0, none⟩ 1 1 [.string ⟨(itoa z).toArray⟩] rfl rfl ?c1 ?c2 ?c3 ?c4 ?c5 ?_)
      case c1 =>
        intro j u hj
        match j, hj with
        | 0, hj => simp at hj; subst hj; simp [Addr.add]
      case c2 => intro u hu; simp at hu; subst hu; rfl
      case c3 => unfold maxLen; omega
      case c4 => omega
      case c5 => simp; omega
      · intro v' w2 hown' hgrow _
        have hb2 := (hbb.alloc hbb.size _).grown hgrow (by simp; omega) (fun j hj => (hown.lt j hj).1)
        clear hown hgrow hb1 hbb hsz x0
        go_wp2
        go_roundw
        case rel => exact ⟨k + 1, by omega, by go_num, by rw [HTK.out]; exact hown', hb2⟩
        case measure => simp [RowKit.intOf]; omega
    · have hk' : k = zs.length := by omega
      have hge : ¬ (k : Int) < (zs.length : Int) := by omega
      have hfin : zs.take k = zs := List.take_of_length_le (by omega)
      rw [hfin] at hown
      have hS : SlR (Pl strCell) 1 wr wr.heap.size u5 (zs.map itoa) := SlR.of_own strCell (fun _ => rfl) (by rw [List.length_map, ← hk']; exact hown)
      have hl := nums_len zs sep.data.toList HSEP.out HZ.out
      have HJ := Lib.hid (join2_any (zs.map itoa) sep wr u5 hS (by rw [List.length_map]; omega) (by unfold nums at hl; omega))
      clear hk' hlt hfin hown hS hl
      go_wp2_with (fail)
      refine HJ.out.mono ?_
      rintro e w1 ⟨rfl, hb1⟩
      go_wp2
      go_ret
      exact ⟨rfl, hb.trans (hb1.mono hb.size)⟩
end Go.Proofs.YthlfpiflegfoiaaGreatDoor
