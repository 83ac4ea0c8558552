/- What the laws write into what a call hands back, and read again: walked. -/
import Derived.Test.YtedglaejieblhaaGreatDoorRow
import Derived.Test.YtedglaejieblhaaGreatDoorRq
namespace Go.Proofs.YtedglaejieblhaaGreatDoor
open Go.RowKit Go.Lib

/-- A row that is being filled. -/
def mix (L Z : List Value) (k : Nat) : List Value := L.take k ++ Z.drop k
theorem mix_length {L Z : List Value} (h : L.length = Z.length) (k : Nat) : (mix L Z k).length = Z.length := by
  unfold mix
  rw [List.length_append, List.length_take, List.length_drop]
  omega
theorem mix_succ {L Z : List Value} (h : L.length = Z.length) {k : Nat} {u : Value} (hu : L[k]? = some u) : mix L Z (k + 1) = (mix L Z k).set k u := by
  obtain ⟨hk, rfl⟩ := List.getElem?_eq_some_iff.1 hu
  unfold mix
  have e : (Z.drop k).set 0 L[k] = L[k] :: Z.drop (k + 1) := by
    rw [List.drop_eq_getElem_cons (by omega)]
    rfl
  rw [List.take_succ_eq_append_getElem hk, List.set_append, if_neg (by rw [List.length_take]; omega), List.length_take, show k - min k L.length = 0 by omega, e, List.append_assoc]
  rfl
theorem mix_all {L Z : List Value} (h : L.length = Z.length) (k : Nat) (hk : L.length ≤ k) : mix L Z k = L := by
  unfold mix
  rw [List.take_of_length_le hk, List.drop_eq_nil_of_le (by omega), List.append_nil]

theorem Row.step {w : World} {g j : Nat} {L Z : List Value} {u : Value} (h : Row w g (mix L Z j)) (hl : L.length = Z.length) (hu : L[j]? = some u) : Row (w.setCell ⟨g, j, none⟩ u) g (mix L Z (j + 1)) := by
  rw [mix_succ hl hu]
  have hj : j < L.length := (List.getElem?_eq_some_iff.1 hu).1
  exact h.set j u (by rw [mix_length hl]; omega)
theorem Row.some {w : World} {g j : Nat} {L : List Value} (h : Row w g L) (hj : j < L.length) : ∃ z, w.cell? ⟨g, j, none⟩ = some z := ⟨_, h.cell j _ (List.getElem?_eq_getElem hj)⟩
theorem below_only {b : Nat} {w w' : World} (h : Below w.heap.size w w') : Only b w w' := ⟨h.os, h.tape, h.output, h.size, fun k hk _ => h.block k hk⟩
theorem only_set {b : Nat} {a w : World} (h : Only b a w) (j : Nat) (u : Value) : Only b a (w.setCell ⟨b, j, none⟩ u) := only_setCell h (.inl rfl) u

set_option maxRecDepth 100000 in
set_option maxHeartbeats 2000000 in
theorem markText_any (k : Nat) (w : World) (h0 : 0 < k) (h2 : k ≤ 1099511627776) :
    Calls Tryz.prog 46 #[.int .i64 (k : Int)] w (RetB (.string ⟨(109 :: itoa (k : Int)).toArray⟩) w) := by
  have hpi : ¬ (k : Int) ≤ 0 := by omega
  have hn1 : -9223372036854775808 ≤ (k : Int) := by omega
  have hn2 : (k : Int) ≤ 9223372036854775807 := by omega
  go_enter Tryz.func46, Tryz.ntmps46
  go_wp2
  go_loopw [0, 3] (fun m o wr => ∃ (u : Nat) (out : List UInt8), m = .int .i64 (u : Int) ∧ (u : Int) ≤ 1099511627776 ∧ o = .string ⟨out.toArray⟩ ∧ out.length ≤ 21 ∧ dg u ++ out = itoa (k : Int) ∧ Below w.heap.size w wr) (fun m _ _ => (RowKit.intOf m).toNat)
  case atStart => exact ⟨k, [], rfl, by omega, rfl, by simp, by rw [List.append_nil]; exact dg_pos (k : Int) (by omega), Below.refl _ _⟩
  case round =>
    obtain ⟨u, out, rfl, hu, rfl, hol, hdg, hb⟩ := hrel
    by_cases hu0 : u = 0
    · subst hu0
      have HO : Hid (out = itoa (k : Int)) := Lib.hid (by simpa [dg] using hdg)
      clear hdg
      obtain ⟨T1, e1, n1, q1⟩ := cat_op (P := Tryz.prog) [109] out (by simp) (by omega)
      have HT : Hid (T1 = 109 :: itoa (k : Int)) := Lib.hid (by rw [e1, HO.out]; rfl)
      clear e1
      go_wp2
      go_ret
      exact ⟨by rw [← HT.out]; rfl, hb⟩
    · have hlt : (0 : Int) < (u : Int) := by omega
      have hmod : (u : Int).tmod 10 = ((u % 10 : Nat) : Int) := by rw [Int.tmod_eq_emod_of_nonneg (by omega)]; omega
      have hdiv : (u : Int).tdiv 10 = ((u / 10 : Nat) : Int) := by rw [Int.tdiv_eq_ediv_of_nonneg (by omega)]; omega
      have hd10 : u % 10 < 10 := Nat.mod_lt _ (by omega)
      have hq10 : u / 10 < u := Nat.div_lt_self (by omega) (by omega)
      obtain ⟨r, hr'⟩ : ∃ r, r = u % 10 := ⟨_, rfl⟩
      obtain ⟨q, hq'⟩ : ∃ q, q = u / 10 := ⟨_, rfl⟩
      rw [← hr'] at hmod hd10
      rw [← hq'] at hdiv hq10
      have hdl : dg u = dg q ++ [UInt8.ofNat (48 + r)] := by rw [hr', hq']; exact dg_step u hu0
      have hcr := digit_of r hd10
      generalize UInt8.ofNat (48 + r) = ch at *
      have hcv : (convert 40 9 (.slice (some ⟨wr.heap.size, 0, none⟩) 1 1)).run Tryz.prog (wr.alloc (.cells #[.int .u8 (48 + (r : Int))] 5)) = .ok (.string ⟨#[ch]⟩) (wr.alloc (.cells #[.int .u8 (48 + (r : Int))] 5)) := run_convert_bytes_back (P := Tryz.prog) (wr.alloc (.cells #[.int .u8 (48 + (r : Int))] 5)) 40 9 5 ⟨wr.heap.size, 0, none⟩ 1 [ch] Tryz.underlying40 Tryz.underlying5 Tryz.underlying9 (fun j hj => by
        have : j = 0 := by simp at hj; omega
        subst this
        simp [go_sem, hcr])
      obtain ⟨T1, e1, n1, q1⟩ := cat_op (P := Tryz.prog) [ch] out (by simp) (by omega)
      have HT : Hid (dg q ++ T1 = itoa (k : Int)) := Lib.hid (by rw [← hdg, hdl, e1, List.append_assoc])
      have hT20 : T1.length ≤ 21 := len20 (dg q) T1 (k : Int) HT.out hn1 hn2
      have hbW := hb.alloc hb.size (.cells #[.int .u8 (48 + (r : Int))] 5)
      clear e1 hdl hr' hq' hdg hu0 hcr
      go_wp2
      go_roundw
      case rel => exact ⟨q, T1, by go_num, by omega, rfl, hT20, HT.out, hbW⟩
      case measure => simp [RowKit.intOf]; omega

def seqI (k n : Nat) : List Int := (List.range n).map fun i => ((k + i : Nat) : Int)
theorem seqI_len (k n : Nat) : (seqI k n).length = n := by simp [seqI]
theorem seqI_get {k n i : Nat} (h : i < n) : (seqI k n)[i]? = some (((k + i : Nat) : Int)) := by simp [seqI, h]
theorem ints_flat (zs : List Int) : (zs.flatMap intCells).length = zs.length := by
  induction zs with
  | nil => rfl
  | cons z zs ih => rw [List.flatMap_cons, List.length_append, ih]; simp [intCells]; omega
theorem ints_flat_get {zs : List Int} {i : Nat} {z : Int} (h : zs[i]? = some z) : (zs.flatMap intCells)[i]? = some (.int .i64 z) := by
  have := flat_at intCells (size := 1) (fun _ => rfl) zs i z 0 (.int .i64 z) h rfl (by omega)
  simpa using this

/-- What a function that marks leaves behind: the marks in the row, all else as it was. -/
def Marked {α : Type} (f : α → List Value) (xs : List α) (k' base : Nat) (v : Value) (w : World) (e : Ending) (w' : World) : Prop :=
  e = .returned (.int .i64 (k' : Int)) ∧ OwnL f xs base w' v ∧ w.grownBy w' (if xs.length = 0 then none else v.ownBlock)
theorem grown_refl (w : World) (r : Option Nat) : w.grownBy w r := ⟨rfl, rfl, rfl, Nat.le_refl _, fun _ _ _ => rfl⟩

set_option maxHeartbeats 1000000 in
theorem markInts_any (zs : List Int) (v : Value) (base k : Nat) (w : World) (h : OwnL intCells zs base w v) (hk : k ≤ 4294967296) (hn : zs.length ≤ 1048576) :
    Calls Tryz.prog 40 #[v, .int .i64 (k : Int)] w (Marked intCells (seqI k zs.length) (k + zs.length) base v w) := by
  obtain ⟨A, c, rfl, hc, hm, hg⟩ := h
  unfold maxLen at hm
  by_cases h0 : zs = []
  · subst h0
    go_enter Tryz.func40, Tryz.ntmps40
    go_wp2
    go_loopw [1, 5] (fun m i wr => m = .int .i64 (k : Int) ∧ i = .int .i64 0 ∧ wr = w) (fun _ _ _ => 0)
    case atStart => exact ⟨rfl, rfl, rfl⟩
    case round =>
      obtain ⟨rfl, rfl, rfl⟩ := hrel
      go_wp2
      go_ret
      exact ⟨rfl, ⟨A, c, rfl, hc, by unfold maxLen; omega, fun h => absurd rfl h⟩, grown_refl _ _⟩
  · obtain ⟨g, rfl, hgb, hgs, hR⟩ := hg h0
    have hlen : ((seqI k zs.length).flatMap intCells).length = (zs.flatMap intCells).length := by rw [ints_flat, ints_flat, seqI_len]
    have HL := Lib.hid hlen
    have HZ := Lib.hid (ints_flat zs)
    have HR := Lib.hid hR
    have HSQ : Hid (∀ i, i < zs.length → ((seqI k zs.length).flatMap intCells)[i]? = some (.int .i64 ((k + i : Nat) : Int))) := Lib.hid (fun i hi => ints_flat_get (seqI_get hi))
    have HSL := Lib.hid (seqI_len k zs.length)
    have hnp : 0 < zs.length := List.length_pos_iff.2 h0
    clear hlen hR hg h0
    go_enter Tryz.func40, Tryz.ntmps40
    go_wp2
    go_loopw [1, 5] (fun m i wr => ∃ j : Nat, j ≤ zs.length ∧ i = .int .i64 (j : Int) ∧ m = .int .i64 ((k + j : Nat) : Int) ∧ Row wr g (mix ((seqI k zs.length).flatMap intCells) (zs.flatMap intCells) j) ∧ Only g w wr ∧ g < wr.heap.size) (fun _ i _ => zs.length - (RowKit.intOf i).toNat)
    case atStart => exact ⟨0, Nat.zero_le _, rfl, rfl, by simpa [mix] using HR.out, only_refl _ _, hgs⟩
    case round =>
      obtain ⟨j, hj, rfl, rfl, hrow, hon, hgl⟩ := hrel
      have HW := Lib.hid hrow
      have HO := Lib.hid hon
      have hml : (mix ((seqI k zs.length).flatMap intCells) (zs.flatMap intCells) j).length = zs.length := by rw [mix_length HL.out, HZ.out]
      by_cases hlt : j < zs.length
      · obtain ⟨z, x0⟩ := hrow.some (by rw [hml]; exact hlt)
        have f0 := hrow.free j (by rw [hml]; exact hlt)
        have HN := Lib.hid (hrow.step HL.out (HSQ.out j hlt))
        clear hrow hon hml
        generalize mix ((seqI k zs.length).flatMap intCells) (zs.flatMap intCells) j = M0 at *
        go_wp2
        go_roundw
        case rel => exact ⟨j + 1, by omega, by go_num, by go_num, HN.out, only_set HO.out j _, by simpa using hgl⟩
        case measure => simp [RowKit.intOf]; omega
      · have hge : ¬ (j : Int) < (zs.length : Int) := by omega
        have hje : j = zs.length := by omega
        have HF : Hid (Row wr g ((seqI k zs.length).flatMap intCells)) := Lib.hid (by
          rw [mix_all HL.out j (by rw [HL.out, HZ.out]; omega)] at hrow
          exact hrow)
        have HJ := Lib.hid hje
        clear hrow hon hml hje hlt
        go_wp2
        go_ret
        refine ⟨ret_i64 (by omega), ⟨some ⟨g, 0, none⟩, c, by rw [HSL.out], by rw [HSL.out]; exact hc, by unfold maxLen; omega, fun _ => ⟨g, rfl, hgb, hgl, HF.out⟩⟩, by rw [HSL.out, if_neg (by omega)]; exact HO.out⟩

set_option maxHeartbeats 1000000 in
theorem heldInts_any (n k : Nat) (A : Option Addr) (c : Nat) (w : World) (h : Ints w w.heap.size (.slice A n c) (seqI k n)) (hk : k ≤ 4294967296) (hn : n ≤ 1048576) :
    Calls Tryz.prog 42 #[.slice A n c, .int .i64 (k : Int)] w (RetQ (.int .i64 ((k + n : Nat) : Int)) w) := by
  have H := Lib.hid h
  clear h
  go_enter Tryz.func42, Tryz.ntmps42
  go_wp2
  go_loop [1, 5] (fun m i => ∃ j : Nat, j ≤ n ∧ i = .int .i64 (j : Int) ∧ m = .int .i64 ((k + j : Nat) : Int)) (fun _ i => n - (RowKit.intOf i).toNat)
  case atStart => exact ⟨0, Nat.zero_le _, rfl, rfl⟩
  case round =>
    obtain ⟨j, hj, rfl, rfl⟩ := hrel
    by_cases hlt : j < n
    · obtain ⟨b, off, rfl, hb, x0⟩ := ints_get H.out (seqI_get hlt)
      go_wp2
      go_round
      case rel => exact ⟨j + 1, by omega, by go_num, by go_num⟩
      case measure => simp [RowKit.intOf]; omega
    · have hge : ¬ (j : Int) < (n : Int) := by omega
      have hje : j = n := by omega
      subst hje
      go_wp2
      go_ret
      exact ⟨ret_i64 (by omega), 0, rfl⟩
end Go.Proofs.YtedglaejieblhaaGreatDoor
