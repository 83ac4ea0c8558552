/- Lists of numbers: is a number among them; who may be trusted. -/
import Derived.Test.YthlfpiflegfoiaaGreatDoorLawD
namespace Go.Proofs.YthlfpiflegfoiaaGreatDoor
open Go.RowKit

def intCells (z : Int) : List Value := [.int .i64 z]
def Ints (w : World) (B : Nat) (v : Value) (zs : List Int) : Prop := SlR (Pl intCells) 1 w B v zs

theorem ints_at {w : World} {B b off : Nat} {zs : List Int} (h : ∀ (k : Nat) (x : Int), zs[k]? = some x → ∃ us, us.length = 1 ∧ Pl intCells w B us x ∧ ∀ (j : Nat) (u : Value), us[j]? = some u → w.cell? ⟨b, off + k * 1 + j, none⟩ = some u) {k : Nat} {z : Int} (hk : zs[k]? = some z) :
    w.cell? ⟨b, off + k, none⟩ = some (.int .i64 z) := by
  obtain ⟨us, hl, hp, hc⟩ := h k z hk
  have hp : us = intCells z := hp
  subst hp
  have := hc 0 _ rfl
  simpa using this

theorem SlR.take {α : Type} {R : World → Nat → List Value → α → Prop} {size : Nat} {w : World} {B : Nat} {A : Option Addr} {n c : Nat} {xs : List α} (h : SlR R size w B (.slice A n c) xs) (k : Nat) (hk : k ≤ xs.length) : SlR R size w B (.slice A k c) (xs.take k) := by
  obtain ⟨A', c', hv, h1, h2, h3⟩ := h
  injection hv with e1 e2 e3
  subst e1 e3
  have hl : (xs.take k).length = k := by rw [List.length_take]; omega
  refine ⟨A, c, by rw [hl], by omega, h2, fun h0 => ?_⟩
  obtain ⟨b, off, hA, hb, hc⟩ := h3 (by omega)
  refine ⟨b, off, hA, hb, fun j x hx => hc j x ?_⟩
  rw [List.getElem?_take] at hx
  split at hx
  · exact hx
  · cases hx

def IndexPost (w : World) (zs : List Int) (x : Int) (e : Ending) (w' : World) : Prop :=
  ∃ n : Int, e = .returned (.int .i64 n) ∧ w' = w ∧ (0 ≤ n ↔ x ∈ zs) ∧ -1 ≤ n ∧ n ≤ 9223372036854775807 ∧ (0 ≤ n → zs[n.toNat]? = some x ∧ x ∉ zs.take n.toNat)

set_option maxHeartbeats 1000000 in
theorem index_any (zs : List Int) (x : Int) (w : World) (v : Value) (h : Ints w w.heap.size v zs) :
    Calls Tryz.prog 106 #[v, .int .i64 x] w (IndexPost w zs x) := by
  obtain ⟨A, c, rfl, hc, hm, hel⟩ := h
  unfold maxLen at hm
  have hlm : zs.length ≤ 9223372036854775807 := by omega
  have HEL := Lib.hid hel
  clear hel
  go_enter Tryz.func106, Tryz.ntmps106
  go_wp2
  go_loop [5, 8] (fun _ i => ∃ k : Nat, k ≤ zs.length ∧ i = .int .i64 (k : Int) ∧ x ∉ zs.take k) (fun _ i => zs.length - (intOf i).toNat)
  case atStart => exact ⟨0, Nat.zero_le _, rfl, by simp⟩
  case round =>
    obtain ⟨k, hk, rfl, hno⟩ := hrel
    have HN := Lib.hid hno
    clear hno
    by_cases hlt : k < zs.length
    · obtain ⟨b, off, rfl, hblt, hcell⟩ := HEL.out (by omega)
      have hget : zs[k]? = some zs[k] := List.getElem?_eq_getElem hlt
      have x0 := ints_at hcell hget
      have hts : zs.take (k + 1) = zs.take k ++ [zs[k]] := by rw [List.take_succ_eq_append_getElem hlt]
      have HG := Lib.hid hget
      have HT := Lib.hid hts
      clear hget hcell hts
      generalize zs[k] = z at *
      by_cases hz : x = z
      · have hz1 : (x == z) = true := by simp [hz]
        have HZ := Lib.hid hz
        clear hz
        go_wp2
        go_ret
        refine ⟨k, rfl, rfl, ⟨fun _ => ?_, fun _ => by omega⟩, by omega, by omega, fun _ => ?_⟩
        · rw [HZ.out]; exact List.mem_of_getElem? HG.out
        · rw [show ((k : Int)).toNat = k by omega]
          exact ⟨by rw [HZ.out]; exact HG.out, HN.out⟩
      · have hz1 : (x == z) = false := by simp [hz]
        have HZ := Lib.hid hz
        clear hz
        go_wp2
        go_round
        case rel => exact ⟨k + 1, by omega, by go_num, by rw [HT.out, List.mem_append, List.mem_singleton]; rintro (h | h); exact HN.out h; exact HZ.out h⟩
        case measure => simp [intOf]; omega
    · have hk' : k = zs.length := by omega
      have hge : ¬ (k : Int) < (zs.length : Int) := by omega
      have HK := Lib.hid hk'
      clear hk' hlt
      go_wp2
      go_ret
      refine ⟨-1, rfl, rfl, ⟨fun h => by omega, fun h => ?_⟩, by omega, by omega, fun h => by omega⟩
      have := HN.out
      rw [HK.out, List.take_length] at this
      exact absurd h this

set_option maxHeartbeats 1000000 in
theorem contains_any (zs : List Int) (x : Int) (w : World) (v : Value) (h : Ints w w.heap.size v zs) :
    Calls Tryz.prog 87 #[v, .int .i64 x] w (RetQ (.bool (zs.contains x)) w) := by
  have H := Lib.hid (index_any zs x w v h)
  clear h
  go_enter Tryz.func87, Tryz.ntmps87
  go_wp2_with (fail)
  refine H.out.mono ?_
  rintro e w1 ⟨n, rfl, rfl, hiff, h1, h2, _⟩
  by_cases hn : 0 ≤ n
  · have hd : decide (0 ≤ n) = true := by simp; omega
    have hc : zs.contains x = true := by rw [List.contains_iff_mem]; exact hiff.1 hn
    have HC := Lib.hid hc
    clear hiff hn hc
    go_wp2
    go_ret
    exact ⟨by rw [HC.out]; rfl, 0, rfl⟩
  · have hd : decide (0 ≤ n) = false := by simp; omega
    have hc : zs.contains x = false := by rw [Bool.eq_false_iff, ne_eq, List.contains_iff_mem]; exact fun h => hn (hiff.2 h)
    have HC := Lib.hid hc
    clear hiff hn hc
    go_wp2
    go_ret
    exact ⟨by rw [HC.out]; rfl, 0, rfl⟩

def trustAt (l : List Int) (member n : Int) (k : Nat) : Bool := inB (l.getD k 0) 0 (n - 1) && decide (l.getD k 0 ≠ member) && !((l.take k).contains (l.getD k 0))
theorem okTrust_eq (l : List Int) (member n : Int) : okTrust l member n = (allLt l.length (trustAt l member n) && decide (l.length ≤ 4)) := rfl
theorem okTrust_bad {l : List Int} {member n : Int} {k : Nat} (hk : k < l.length) (h : trustAt l member n k = false) : okTrust l member n = false := by
  rw [okTrust_eq, allLt_false hk h]
  rfl
theorem trustAt_eq {l : List Int} {member n : Int} {k : Nat} {z : Int} (hz : l[k]? = some z) : trustAt l member n k = (inB z 0 (n - 1) && decide (z ≠ member) && !((l.take k).contains z)) := by
  have e : l.getD k 0 = z := by rw [List.getD_eq_getElem?_getD, hz]; rfl
  unfold trustAt
  rw [e]

set_option maxHeartbeats 2000000 in
theorem trust2_any (zs : List Int) (member n : Int) (w : World) (v : Value) (h : Ints w w.heap.size v zs) (hn1 : -1000 ≤ n) (hn2 : n ≤ 1000) :
    Calls Tryz.prog 66 #[v, .int .i64 member, .int .i64 n] w (RetQ (.bool (okTrust zs member n)) w) := by
  have HI := Lib.hid h
  obtain ⟨A, c, rfl, hc, hm, hel⟩ := h
  unfold maxLen at hm
  have hlm : zs.length ≤ 9223372036854775807 := by omega
  have HEL := Lib.hid hel
  clear hel
  go_enter Tryz.func66, Tryz.ntmps66
  go_wp2
  go_loopw [7, 8, 11] (fun _ _ i wr => ∃ k d : Nat, k ≤ zs.length ∧ i = .int .i64 (k : Int) ∧ allLt k (trustAt zs member n) = true ∧ wr = w.drewN d) (fun _ _ i _ => zs.length - (intOf i).toNat)
  case atStart => exact ⟨0, 0, Nat.zero_le _, rfl, rfl, rfl⟩
  case round =>
    obtain ⟨k, d, hk, rfl, hall, rfl⟩ := hrel
    have HA := Lib.hid hall
    clear hall
    by_cases hlt : k < zs.length
    · obtain ⟨b, off, hA, hblt, hcell⟩ := HEL.out (by omega)
      subst hA
      have hget : zs[k]? = some zs[k] := List.getElem?_eq_getElem hlt
      have x0 := ints_at hcell hget
      have HG := Lib.hid hget
      have HT := Lib.hid (trustAt_eq (member := member) (n := n) hget)
      have HSU := allLt_succ k (trustAt zs member n)
      rw [HA.out, Bool.true_and] at HSU
      have HSU := Lib.hid HSU
      have HSub : Hid (Ints w w.heap.size (.slice (some ⟨b, off, none⟩) k c) (zs.take k)) := SlR.take HI.out k hk
      clear hget hcell
      generalize zs[k] = z at *
      go_wp2_with (fail)
      refine (in2_any z 0 (n - 1) _).mono ?_
      rintro e w1 ⟨rfl, d1, rfl⟩
      cases h1 : inB z 0 (n - 1) with
      | false =>
        have HB := Lib.hid (okTrust_bad hlt (HT.out.trans (by rw [h1]; rfl)))
        clear h1
        go_wp2
        go_ret
        exact ⟨by rw [HB.out]; rfl, _, rfl⟩
      | true =>
        have H1 := Lib.hid h1
        clear h1
        by_cases hz : z = member
        · have hz1 : (z == member) = true := by simp [hz]
          have HB := Lib.hid (okTrust_bad hlt (HT.out.trans (by rw [H1.out]; simp [hz])))
          clear hz
          go_wp2
          go_ret
          exact ⟨by rw [HB.out]; rfl, _, rfl⟩
        · have hz1 : (z == member) = false := by simp [hz]
          have HZ := Lib.hid hz
          clear hz
          have hk1 : (k : Int) ≤ (c : Int) := by omega
          have hk0 : (0 : Int) ≤ (k : Int) := by omega
          go_wp2_with (fail)
          refine (contains_any (zs.take k) z _ _ (HSub.out.on (Pl.stays _) (below_drewN (Below.refl _ _) _) (Nat.le_refl _))).mono ?_
          rintro e w2 ⟨rfl, d2, rfl⟩
          cases h2 : (zs.take k).contains z with
          | true =>
            have HB := Lib.hid (okTrust_bad hlt (HT.out.trans (by rw [h2]; simp)))
            clear h2
            go_wp2
            go_ret
            exact ⟨by rw [HB.out]; rfl, _, rfl⟩
          | false =>
            have HN : Hid (allLt (k + 1) (trustAt zs member n) = true) := HSU.out.trans (HT.out.trans (by rw [H1.out, h2]; simp [HZ.out]))
            clear h2
            go_wp2
            go_roundw
            case rel => exact ⟨k + 1, _, by omega, by go_num, HN.out, rfl⟩
            case measure => simp [intOf]; omega
    · have hk' : k = zs.length := by omega
      have hP : okTrust zs member n = decide (zs.length ≤ 4) := by
        rw [okTrust_eq, ← hk', HA.out, Bool.true_and]
      have HP := Lib.hid hP
      have hge : ¬ (k : Int) < (zs.length : Int) := by omega
      clear hP hk' hlt
      by_cases h4 : zs.length ≤ 4
      · have e4 : decide ((zs.length : Int) ≤ 4) = true := by simp; omega
        have H4 := Lib.hid h4
        clear h4
        go_wp2
        go_ret
        exact ⟨by rw [HP.out]; simp [H4.out], _, rfl⟩
      · have e4 : decide ((zs.length : Int) ≤ 4) = false := by simp; omega
        have H4 := Lib.hid h4
        clear h4
        go_wp2
        go_ret
        exact ⟨by rw [HP.out]; simp [H4.out], _, rfl⟩

end Go.Proofs.YthlfpiflegfoiaaGreatDoor
