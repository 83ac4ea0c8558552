/- Rows read; equal deeds. (The rows are LawR's.) What the laws write into what a call hands back, and read again: walked. Marks in edits and deeds: walked. Marks in a deed, walked. Marks in a slice of deeds: what they make of it, as plain functions; the rows they touch. Marks in a slice of deeds, walked. A slice of deeds marked, walked. A slice of marked deeds read again, walked. Journals read and recovered: both sides, and two slices of deeds compared, walked. The laws of FnExactReadJournal and FnExactRecoverJournal, walked. -/
import Derived.Test.YthlfpiflegfoiaaGreatDoorRow
import Derived.Test.YthlfpiflegfoiaaGreatDoorLawQ
import Derived.Test.YthlfpiflegfoiaaGreatDoorAft
import Derived.Test.YthlfpiflegfoiaaGreatDoorRZ
import Derived.OwnWalk
namespace Go.Proofs.YthlfpiflegfoiaaGreatDoor
open Go.RowKit

theorem edits_get {w : World} {B n c k : Nat} {A : Option Addr} {es : List Edit} {e : Edit} (h : Edits w B (.slice A n c) es) (hk : es[k]? = some e) :
    ∃ b off, A = some ⟨b, off, none⟩ ∧ b < B ∧ w.cell? ⟨b, off + k * 4, none⟩ = some (.int .i64 e.kind) ∧ w.cell? ⟨b, off + k * 4 + 1, none⟩ = some (.int .i64 e.id) ∧ w.cell? ⟨b, off + k * 4 + 2, none⟩ = some (.string e.old) ∧ w.cell? ⟨b, off + k * 4 + 3, none⟩ = some (.string e.new) := by
  obtain ⟨A', c', hv, h1, h2, h3⟩ := h
  injection hv with e1 e2 e3
  subst e1
  have hlt : k < es.length := (List.getElem?_eq_some_iff.1 hk).1
  obtain ⟨b, off, hA, hb, hc⟩ := h3 (by omega)
  exact ⟨b, off, hA, hb, edits_at hc hk⟩
theorem ints_get {w : World} {B n c k : Nat} {A : Option Addr} {zs : List Int} {z : Int} (h : Ints w B (.slice A n c) zs) (hk : zs[k]? = some z) :
    ∃ b off, A = some ⟨b, off, none⟩ ∧ b < B ∧ w.cell? ⟨b, off + k, none⟩ = some (.int .i64 z) := by
  obtain ⟨A', c', hv, h1, h2, h3⟩ := h
  injection hv with e1 e2 e3
  subst e1
  have hlt : k < zs.length := (List.getElem?_eq_some_iff.1 hk).1
  obtain ⟨b, off, hA, hb, hc⟩ := h3 (by omega)
  exact ⟨b, off, hA, hb, ints_at hc hk⟩
set_option maxHeartbeats 1000000 in
theorem eqInts_any (zs : List Int) (A1 : Option Addr) (n1 c1 : Nat) (A2 : Option Addr) (n2 c2 : Nat) (w : World) (h1 : Ints w w.heap.size (.slice A1 n1 c1) zs) (h2 : Ints w w.heap.size (.slice A2 n2 c2) zs) :
    Calls Tryz.prog 39 #[.slice A1 n1 c1, .slice A2 n2 c2] w (RetB (.bool true) w) := by
  obtain ⟨rfl, e1, g1⟩ := slR_len h1
  obtain ⟨rfl, e2, g2⟩ := slR_len h2
  have H1 := Lib.hid h1
  have H2 := Lib.hid h2
  have hlm : zs.length ≤ 9223372036854775807 := by omega
  clear h1 h2
  refine calls_aft fun x0 => ?_
  go_enter Tryz.func39, Tryz.ntmps39
  go_wp2
  go_loopw [5] (fun i wr => ∃ (k : Nat) (x : Aft w), k ≤ zs.length ∧ i = .int .i64 (k : Int) ∧ wr = x.val) (fun i _ => zs.length - (intOf i).toNat)
  case atStart => exact ⟨0, x0, Nat.zero_le _, rfl, rfl⟩
  case round =>
    obtain ⟨k, x, hk, rfl, rfl⟩ := hrel
    by_cases hlt : k < zs.length
    · have hget : zs[k]? = some zs[k] := List.getElem?_eq_getElem hlt
      obtain ⟨b, off, rfl, hb, c0⟩ := ints_get H1.out hget
      obtain ⟨b', off', rfl, hb', c1⟩ := ints_get H2.out hget
      have z0 := fun y : Aft w => y.cell c0
      have z1 := fun y : Aft w => y.cell c1
      clear hget c0 c1
      generalize zs[k] = z at *
      go_wp2_with (fail)
      refine wp_region_at (by kernel_rfl) (by kernel_rfl) ?_
      repeat (go_big_quiet_step (fail))
      refine wpQuiet_nil ?_
      rintro _ ⟨y, rfl⟩
      go_wp2
      go_roundw
      case rel => exact ⟨k + 1, y, by omega, by go_num, rfl⟩
      case measure => simp [intOf]; omega
    · have hge : ¬ (k : Int) < (zs.length : Int) := by omega
      go_wp2
      go_ret
      exact ⟨rfl, x.ok⟩

set_option maxHeartbeats 1000000 in
theorem eqEdit_any (e : Edit) (w : World) :
    Calls Tryz.prog 62 #[.agg #[.int .i64 e.kind, .int .i64 e.id, .string e.old, .string e.new], .agg #[.int .i64 e.kind, .int .i64 e.id, .string e.old, .string e.new]] w (RetB (.bool true) w) := by
  go_enter Tryz.func62, Tryz.ntmps62
  go_wp2
  go_ret
  exact ⟨rfl, ((Below.refl _ _).alloc (Nat.le_refl _) _).alloc (by simp) _⟩

set_option maxHeartbeats 2000000 in
theorem eqEdits_any (es : List Edit) (A1 : Option Addr) (n1 c1 : Nat) (A2 : Option Addr) (n2 c2 : Nat) (w : World) (h1 : Edits w w.heap.size (.slice A1 n1 c1) es) (h2 : Edits w w.heap.size (.slice A2 n2 c2) es) :
    Calls Tryz.prog 40 #[.slice A1 n1 c1, .slice A2 n2 c2] w (RetB (.bool true) w) := by
  obtain ⟨rfl, e1, g1⟩ := slR_len h1
  obtain ⟨rfl, e2, g2⟩ := slR_len h2
  have H1 := Lib.hid h1
  have H2 := Lib.hid h2
  have hlm : es.length ≤ 9223372036854775807 := by omega
  clear h1 h2
  refine calls_aft fun x0 => ?_
  go_enter Tryz.func40, Tryz.ntmps40
  go_wp2
  go_loopw [5] (fun i wr => ∃ (k : Nat) (x : Aft w), k ≤ es.length ∧ i = .int .i64 (k : Int) ∧ wr = x.val) (fun i _ => es.length - (intOf i).toNat)
  case atStart => exact ⟨0, x0, Nat.zero_le _, rfl, rfl⟩
  case round =>
    obtain ⟨k, x, hk, rfl, rfl⟩ := hrel
    by_cases hlt : k < es.length
    · have hget : es[k]? = some es[k] := List.getElem?_eq_getElem hlt
      obtain ⟨b, off, rfl, hb, c0, c1, c2, c3⟩ := edits_get H1.out hget
      obtain ⟨b', off', rfl, hb', d0, d1, d2, d3⟩ := edits_get H2.out hget
      have z0 := fun y : Aft w => y.cell c0
      have z1 := fun y : Aft w => y.cell c1
      have z2 := fun y : Aft w => y.cell c2
      have z3 := fun y : Aft w => y.cell c3
      have t0 := fun y : Aft w => y.cell d0
      have t1 := fun y : Aft w => y.cell d1
      have t2 := fun y : Aft w => y.cell d2
      have t3 := fun y : Aft w => y.cell d3
      clear hget c0 c1 c2 c3 d0 d1 d2 d3
      generalize es[k] = e at *
      go_wp2_with (fail)
      refine wp_region_at (by kernel_rfl) (by kernel_rfl) ?_
      repeat (go_big_quiet_step ((first | (go_at_call 62; exact aft_b (eqEdit_any e _)))))
      refine wpQuiet_nil ?_
      rintro _ ⟨y, rfl⟩
      go_wp2
      go_roundw
      case rel => exact ⟨k + 1, y, by omega, by go_num, rfl⟩
      case measure => simp [intOf]; omega
    · have hge : ¬ (k : Int) < (es.length : Int) := by omega
      go_wp2
      go_ret
      exact ⟨rfl, x.ok⟩

set_option maxRecDepth 100000 in
set_option maxHeartbeats 2000000 in
theorem eqDeed_any (d : Deed) (A1 : Option Addr) (n1 c1 : Nat) (A2 : Option Addr) (n2 c2 : Nat) (A3 : Option Addr) (n3 c3 : Nat) (A4 : Option Addr) (n4 c4 : Nat) (w : World) (h1 : Ints w w.heap.size (.slice A1 n1 c1) d.trust) (h2 : Edits w w.heap.size (.slice A2 n2 c2) d.patch) (h3 : Ints w w.heap.size (.slice A3 n3 c3) d.trust) (h4 : Edits w w.heap.size (.slice A4 n4 c4) d.patch) :
    Calls Tryz.prog 19 #[.agg #[.int .i64 d.kind, .int .i64 d.member, .slice A1 n1 c1, .string d.title, .int .i64 d.vote, .slice A2 n2 c2, .int .i64 d.start, .int .i64 d.until_, .int .i64 d.closes], .agg #[.int .i64 d.kind, .int .i64 d.member, .slice A3 n3 c3, .string d.title, .int .i64 d.vote, .slice A4 n4 c4, .int .i64 d.start, .int .i64 d.until_, .int .i64 d.closes]] w (RetB (.bool true) w) := by
  go_enter Tryz.func19, Tryz.ntmps19
  go_wp2_with (fail)
  obtain ⟨W, hW⟩ : ∃ W : World, W = (w.alloc (.cells #[.int .i64 d.kind, .int .i64 d.member, .slice A1 n1 c1, .string d.title, .int .i64 d.vote, .slice A2 n2 c2, .int .i64 d.start, .int .i64 d.until_, .int .i64 d.closes] 39)).alloc (.cells #[.int .i64 d.kind, .int .i64 d.member, .slice A3 n3 c3, .string d.title, .int .i64 d.vote, .slice A4 n4 c4, .int .i64 d.start, .int .i64 d.until_, .int .i64 d.closes] 39) := ⟨_, rfl⟩
  have bW : Below w.heap.size w W := by rw [hW]; exact ((Below.refl _ _).alloc (Nat.le_refl _) _).alloc (by simp) _
  have y3 : W.cell? ⟨w.heap.size, 3, none⟩ = some (.string d.title) := by rw [hW]; simp [go_sem]
  have y4 : W.cell? ⟨w.heap.size, 4, none⟩ = some (.int .i64 d.vote) := by rw [hW]; simp [go_sem]
  have y5 : W.cell? ⟨w.heap.size, 5, none⟩ = some (.slice A2 n2 c2) := by rw [hW]; simp [go_sem]
  have y6 : W.cell? ⟨w.heap.size, 6, none⟩ = some (.int .i64 d.start) := by rw [hW]; simp [go_sem]
  have y7 : W.cell? ⟨w.heap.size, 7, none⟩ = some (.int .i64 d.until_) := by rw [hW]; simp [go_sem]
  have y8 : W.cell? ⟨w.heap.size, 8, none⟩ = some (.int .i64 d.closes) := by rw [hW]; simp [go_sem]
  have v3 : W.cell? ⟨w.heap.size + 1, 3, none⟩ = some (.string d.title) := by rw [hW]; simp [go_sem]
  have v4 : W.cell? ⟨w.heap.size + 1, 4, none⟩ = some (.int .i64 d.vote) := by rw [hW]; simp [go_sem]
  have v5 : W.cell? ⟨w.heap.size + 1, 5, none⟩ = some (.slice A4 n4 c4) := by rw [hW]; simp [go_sem]
  have v6 : W.cell? ⟨w.heap.size + 1, 6, none⟩ = some (.int .i64 d.start) := by rw [hW]; simp [go_sem]
  have v7 : W.cell? ⟨w.heap.size + 1, 7, none⟩ = some (.int .i64 d.until_) := by rw [hW]; simp [go_sem]
  have v8 : W.cell? ⟨w.heap.size + 1, 8, none⟩ = some (.int .i64 d.closes) := by rw [hW]; simp [go_sem]
  rw [← hW]
  clear hW
  have Z3 := fun y : Aft W => y.cell y3
  have Z4 := fun y : Aft W => y.cell y4
  have Z5 := fun y : Aft W => y.cell y5
  have Z6 := fun y : Aft W => y.cell y6
  have Z7 := fun y : Aft W => y.cell y7
  have Z8 := fun y : Aft W => y.cell y8
  have V3 := fun y : Aft W => y.cell v3
  have V4 := fun y : Aft W => y.cell v4
  have V5 := fun y : Aft W => y.cell v5
  have V6 := fun y : Aft W => y.cell v6
  have V7 := fun y : Aft W => y.cell v7
  have V8 := fun y : Aft W => y.cell v8
  have HE2 := Lib.hid (fun y : Aft W => h2.on (Pl.stays _) (aft_done bW y) (aft_done bW y).size)
  have HE4 := Lib.hid (fun y : Aft W => h4.on (Pl.stays _) (aft_done bW y) (aft_done bW y).size)
  have I1 := h1.on (Pl.stays _) bW bW.size
  have I3 := h3.on (Pl.stays _) bW bW.size
  clear y3 y4 y5 y6 y7 y8 v3 v4 v5 v6 v7 v8 h1 h2 h3 h4
  refine (eqInts_any d.trust A1 n1 c1 A3 n3 c3 _ I1 I3).mono ?_
  rintro e1 w1 ⟨rfl, hb1⟩
  obtain ⟨y, rfl⟩ : ∃ y : Aft W, w1 = y.val := ⟨⟨w1, hb1⟩, rfl⟩
  go_wp2_with (fail)
  refine (aft_b (eqEdits_any d.patch A2 n2 c2 A4 n4 c4 _ (HE2.out y) (HE4.out y))).mono ?_
  rintro e2 _ ⟨rfl, t, rfl⟩
  go_wp2
  go_ret
  exact ⟨rfl, aft_done bW t⟩
end Go.Proofs.YthlfpiflegfoiaaGreatDoor

namespace Go.Proofs.YthlfpiflegfoiaaGreatDoor
open Go.RowKit Go.Lib

/-- A row that is being filled. -/
def mix (L Z : List Value) (k : Nat) : List Value := L.take k ++ Z.drop k
theorem mix_length {L Z : List Value} (h : L.length = Z.length) (k : Nat) : (mix L Z k).length = Z.length := by
  unfold mix
  rw [List.length_append, List.length_take, List.length_drop]
  omega
theorem mix_succ {L Z : List Value} (h : L.length = Z.length) {k : Nat} {u : Value} (hu : L[k]? = some u) : mix L Z (k + 1) = (mix L Z k).set k u := by
  obtain ⟨hk, rfl⟩ := List.getElem?_eq_some_iff.1 hu
  unfold mix
  have e : (Z.drop k).set 0 L[k] = L[k] :: Z.drop (k + 1) := by
    rw [List.drop_eq_getElem_cons (by omega)]
    rfl
  rw [List.take_succ_eq_append_getElem hk, List.set_append, if_neg (by rw [List.length_take]; omega), List.length_take, show k - min k L.length = 0 by omega, e, List.append_assoc]
  rfl
theorem mix_all {L Z : List Value} (h : L.length = Z.length) (k : Nat) (hk : L.length ≤ k) : mix L Z k = L := by
  unfold mix
  rw [List.take_of_length_le hk, List.drop_eq_nil_of_le (by omega), List.append_nil]

theorem Row.step {w : World} {g j : Nat} {L Z : List Value} {u : Value} (h : Row w g (mix L Z j)) (hl : L.length = Z.length) (hu : L[j]? = some u) : Row (w.setCell ⟨g, j, none⟩ u) g (mix L Z (j + 1)) := by
  rw [mix_succ hl hu]
  have hj : j < L.length := (List.getElem?_eq_some_iff.1 hu).1
  exact h.set j u (by rw [mix_length hl]; omega)
theorem Row.some {w : World} {g j : Nat} {L : List Value} (h : Row w g L) (hj : j < L.length) : ∃ z, w.cell? ⟨g, j, none⟩ = some z := ⟨_, h.cell j _ (List.getElem?_eq_getElem hj)⟩
theorem below_only {b : Nat} {w w' : World} (h : Below w.heap.size w w') : Only b w w' := ⟨h.os, h.tape, h.output, h.size, fun k hk _ => h.block k hk⟩
theorem only_set {b : Nat} {a w : World} (h : Only b a w) (j : Nat) (u : Value) : Only b a (w.setCell ⟨b, j, none⟩ u) := only_setCell h (.inl rfl) u

set_option maxRecDepth 100000 in
set_option maxHeartbeats 2000000 in
theorem markText_any (k : Nat) (w : World) (h0 : 0 < k) (h2 : k ≤ 1099511627776) :
    Calls Tryz.prog 21 #[.int .i64 (k : Int)] w (RetB (.string ⟨(109 :: itoa (k : Int)).toArray⟩) w) := by
  have hpi : ¬ (k : Int) ≤ 0 := by omega
  have hn1 : -9223372036854775808 ≤ (k : Int) := by omega
  have hn2 : (k : Int) ≤ 9223372036854775807 := by omega
  go_enter Tryz.func21, Tryz.ntmps21
  go_wp2
  go_loopw [0, 3] (fun m o wr => ∃ (u : Nat) (out : List UInt8), m = .int .i64 (u : Int) ∧ (u : Int) ≤ 1099511627776 ∧ o = .string ⟨out.toArray⟩ ∧ out.length ≤ 21 ∧ dg u ++ out = itoa (k : Int) ∧ Below w.heap.size w wr) (fun m _ _ => (RowKit.intOf m).toNat)
  case atStart => exact ⟨k, [], rfl, by omega, rfl, by simp, by rw [List.append_nil]; exact dg_pos (k : Int) (by omega), Below.refl _ _⟩
  case round =>
    obtain ⟨u, out, rfl, hu, rfl, hol, hdg, hb⟩ := hrel
    by_cases hu0 : u = 0
    · subst hu0
      have HO : Hid (out = itoa (k : Int)) := Lib.hid (by simpa [dg] using hdg)
      clear hdg
      obtain ⟨T1, e1, n1, q1⟩ := cat_op (P := Tryz.prog) [109] out (by simp) (by omega)
      have HT : Hid (T1 = 109 :: itoa (k : Int)) := Lib.hid (by rw [e1, HO.out]; rfl)
      clear e1
      go_wp2
      go_ret
      exact ⟨by rw [← HT.out]; rfl, hb⟩
    · have hlt : (0 : Int) < (u : Int) := by omega
      have hmod : (u : Int).tmod 10 = ((u % 10 : Nat) : Int) := by rw [Int.tmod_eq_emod_of_nonneg (by omega)]; omega
      have hdiv : (u : Int).tdiv 10 = ((u / 10 : Nat) : Int) := by rw [Int.tdiv_eq_ediv_of_nonneg (by omega)]; omega
      have hd10 : u % 10 < 10 := Nat.mod_lt _ (by omega)
      have hq10 : u / 10 < u := Nat.div_lt_self (by omega) (by omega)
      obtain ⟨r, hr'⟩ : ∃ r, r = u % 10 := ⟨_, rfl⟩
      obtain ⟨q, hq'⟩ : ∃ q, q = u / 10 := ⟨_, rfl⟩
      rw [← hr'] at hmod hd10
      rw [← hq'] at hdiv hq10
      have hdl : dg u = dg q ++ [UInt8.ofNat (48 + r)] := by rw [hr', hq']; exact dg_step u hu0
      have hcr := digit_of r hd10
      generalize UInt8.ofNat (48 + r) = ch at *
      have hcv : (convert 44 9 (.slice (some ⟨wr.heap.size, 0, none⟩) 1 1)).run Tryz.prog (wr.alloc (.cells #[.int .u8 (48 + (r : Int))] 5)) = .ok (.string ⟨#[ch]⟩) (wr.alloc (.cells #[.int .u8 (48 + (r : Int))] 5)) := run_convert_bytes_back (P := Tryz.prog) (wr.alloc (.cells #[.int .u8 (48 + (r : Int))] 5)) 44 9 5 ⟨wr.heap.size, 0, none⟩ 1 [ch] Tryz.underlying44 Tryz.underlying5 Tryz.underlying9 (fun j hj => by
        have : j = 0 := by simp at hj; omega
        subst this
        simp [go_sem, hcr])
      obtain ⟨T1, e1, n1, q1⟩ := cat_op (P := Tryz.prog) [ch] out (by simp) (by omega)
      have HT : Hid (dg q ++ T1 = itoa (k : Int)) := Lib.hid (by rw [← hdg, hdl, e1, List.append_assoc])
      have hT20 : T1.length ≤ 21 := len20 (dg q) T1 (k : Int) HT.out hn1 hn2
      have hbW := hb.alloc hb.size (.cells #[.int .u8 (48 + (r : Int))] 5)
      clear e1 hdl hr' hq' hdg hu0 hcr
      go_wp2
      go_roundw
      case rel => exact ⟨q, T1, by go_num, by omega, rfl, hT20, HT.out, hbW⟩
      case measure => simp [RowKit.intOf]; omega

def seqI (k n : Nat) : List Int := (List.range n).map fun i => ((k + i : Nat) : Int)
theorem seqI_len (k n : Nat) : (seqI k n).length = n := by simp [seqI]
theorem seqI_get {k n i : Nat} (h : i < n) : (seqI k n)[i]? = some (((k + i : Nat) : Int)) := by simp [seqI, h]
theorem ints_flat (zs : List Int) : (zs.flatMap intCells).length = zs.length := by
  induction zs with
  | nil => rfl
  | cons z zs ih => rw [List.flatMap_cons, List.length_append, ih]; simp [intCells]; omega
theorem ints_flat_get {zs : List Int} {i : Nat} {z : Int} (h : zs[i]? = some z) : (zs.flatMap intCells)[i]? = some (.int .i64 z) := by
  have := flat_at intCells (size := 1) (fun _ => rfl) zs i z 0 (.int .i64 z) h rfl (by omega)
  simpa using this

/-- What a function that marks leaves behind: the marks in the row, all else as it was. -/
def Marked {α : Type} (f : α → List Value) (xs : List α) (k' base : Nat) (v : Value) (w : World) (e : Ending) (w' : World) : Prop :=
  e = .returned (.int .i64 (k' : Int)) ∧ OwnL f xs base w' v ∧ w.grownBy w' (if xs.length = 0 then none else v.ownBlock)
theorem grown_refl (w : World) (r : Option Nat) : w.grownBy w r := ⟨rfl, rfl, rfl, Nat.le_refl _, fun _ _ _ => rfl⟩

set_option maxHeartbeats 1000000 in
theorem markInts_any (zs : List Int) (v : Value) (base k : Nat) (w : World) (h : OwnL intCells zs base w v) (hk : k ≤ 4294967296) (hn : zs.length ≤ 1048576) :
    Calls Tryz.prog 20 #[v, .int .i64 (k : Int)] w (Marked intCells (seqI k zs.length) (k + zs.length) base v w) := by
  obtain ⟨A, c, rfl, hc, hm, hg⟩ := h
  unfold maxLen at hm
  by_cases h0 : zs = []
  · subst h0
    go_enter Tryz.func20, Tryz.ntmps20
    go_wp2
    go_loopw [1, 5] (fun m i wr => m = .int .i64 (k : Int) ∧ i = .int .i64 0 ∧ wr = w) (fun _ _ _ => 0)
    case atStart => exact ⟨rfl, rfl, rfl⟩
    case round =>
      obtain ⟨rfl, rfl, rfl⟩ := hrel
      go_wp2
      go_ret
      exact ⟨rfl, ⟨A, c, rfl, hc, by unfold maxLen; omega, fun h => absurd rfl h⟩, grown_refl _ _⟩
  · obtain ⟨g, rfl, hgb, hgs, hR⟩ := hg h0
    have hlen : ((seqI k zs.length).flatMap intCells).length = (zs.flatMap intCells).length := by rw [ints_flat, ints_flat, seqI_len]
    have HL := Lib.hid hlen
    have HZ := Lib.hid (ints_flat zs)
    have HR := Lib.hid hR
    have HSQ : Hid (∀ i, i < zs.length → ((seqI k zs.length).flatMap intCells)[i]? = some (.int .i64 ((k + i : Nat) : Int))) := Lib.hid (fun i hi => ints_flat_get (seqI_get hi))
    have HSL := Lib.hid (seqI_len k zs.length)
    have hnp : 0 < zs.length := List.length_pos_iff.2 h0
    clear hlen hR hg h0
    go_enter Tryz.func20, Tryz.ntmps20
    go_wp2
    go_loopw [1, 5] (fun m i wr => ∃ j : Nat, j ≤ zs.length ∧ i = .int .i64 (j : Int) ∧ m = .int .i64 ((k + j : Nat) : Int) ∧ Row wr g (mix ((seqI k zs.length).flatMap intCells) (zs.flatMap intCells) j) ∧ Only g w wr ∧ g < wr.heap.size) (fun _ i _ => zs.length - (RowKit.intOf i).toNat)
    case atStart => exact ⟨0, Nat.zero_le _, rfl, rfl, by simpa [mix] using HR.out, only_refl _ _, hgs⟩
    case round =>
      obtain ⟨j, hj, rfl, rfl, hrow, hon, hgl⟩ := hrel
      have HW := Lib.hid hrow
      have HO := Lib.hid hon
      have hml : (mix ((seqI k zs.length).flatMap intCells) (zs.flatMap intCells) j).length = zs.length := by rw [mix_length HL.out, HZ.out]
      by_cases hlt : j < zs.length
      · obtain ⟨z, x0⟩ := hrow.some (by rw [hml]; exact hlt)
        have f0 := hrow.free j (by rw [hml]; exact hlt)
        have HN := Lib.hid (hrow.step HL.out (HSQ.out j hlt))
        clear hrow hon hml
        generalize mix ((seqI k zs.length).flatMap intCells) (zs.flatMap intCells) j = M0 at *
        go_wp2
        go_roundw
        case rel => exact ⟨j + 1, by omega, by go_num, by go_num, HN.out, only_set HO.out j _, by simpa using hgl⟩
        case measure => simp [RowKit.intOf]; omega
      · have hge : ¬ (j : Int) < (zs.length : Int) := by omega
        have hje : j = zs.length := by omega
        have HF : Hid (Row wr g ((seqI k zs.length).flatMap intCells)) := Lib.hid (by
          rw [mix_all HL.out j (by rw [HL.out, HZ.out]; omega)] at hrow
          exact hrow)
        have HJ := Lib.hid hje
        clear hrow hon hml hje hlt
        go_wp2
        go_ret
        refine ⟨ret_i64 (by omega), ⟨some ⟨g, 0, none⟩, c, by rw [HSL.out], by rw [HSL.out]; exact hc, by unfold maxLen; omega, fun _ => ⟨g, rfl, hgb, hgl, HF.out⟩⟩, by rw [HSL.out, if_neg (by omega)]; exact HO.out⟩

set_option maxHeartbeats 1000000 in
theorem heldInts_any (n k : Nat) (A : Option Addr) (c : Nat) (w : World) (h : Ints w w.heap.size (.slice A n c) (seqI k n)) (hk : k ≤ 4294967296) (hn : n ≤ 1048576) :
    Calls Tryz.prog 23 #[.slice A n c, .int .i64 (k : Int)] w (RetQ (.int .i64 ((k + n : Nat) : Int)) w) := by
  have H := Lib.hid h
  clear h
  go_enter Tryz.func23, Tryz.ntmps23
  go_wp2
  go_loop [1, 5] (fun m i => ∃ j : Nat, j ≤ n ∧ i = .int .i64 (j : Int) ∧ m = .int .i64 ((k + j : Nat) : Int)) (fun _ i => n - (RowKit.intOf i).toNat)
  case atStart => exact ⟨0, Nat.zero_le _, rfl, rfl⟩
  case round =>
    obtain ⟨j, hj, rfl, rfl⟩ := hrel
    by_cases hlt : j < n
    · obtain ⟨b, off, rfl, hb, x0⟩ := ints_get H.out (seqI_get hlt)
      go_wp2
      go_round
      case rel => exact ⟨j + 1, by omega, by go_num, by go_num⟩
      case measure => simp [RowKit.intOf]; omega
    · have hge : ¬ (j : Int) < (n : Int) := by omega
      have hje : j = n := by omega
      subst hje
      go_wp2
      go_ret
      exact ⟨ret_i64 (by omega), 0, rfl⟩
end Go.Proofs.YthlfpiflegfoiaaGreatDoor

namespace Go.Proofs.YthlfpiflegfoiaaGreatDoor
open Go.RowKit Go.Lib

def medit (k : Nat) : Edit := ⟨(k : Int), (k : Int) + 1, ⟨(109 :: itoa ((k + 2 : Nat) : Int)).toArray⟩, ⟨(109 :: itoa ((k + 3 : Nat) : Int)).toArray⟩⟩
def medits (k n : Nat) : List Edit := (List.range n).map fun i => medit (k + 4 * i)
theorem medits_len (k n : Nat) : (medits k n).length = n := by simp [medits]
theorem medits_get {k n i : Nat} (h : i < n) : (medits k n)[i]? = some (medit (k + 4 * i)) := by simp [medits, h]
theorem edits_flat (zs : List Edit) : (zs.flatMap editCells).length = zs.length * 4 := by
  induction zs with
  | nil => rfl
  | cons z zs ih => rw [List.flatMap_cons, List.length_append, ih]; simp [editCells]; omega
theorem markText_z (z : Int) (k : Nat) (hz : z = (k : Int)) (w : World) (h0 : 0 < k) (h2 : k ≤ 1099511627776) :
    Calls Tryz.prog 21 #[.int .i64 z] w (RetB (.string ⟨(109 :: itoa (k : Int)).toArray⟩) w) := by
  subst hz
  exact markText_any k w h0 h2

set_option maxHeartbeats 2000000 in
theorem markEdits_any (zs : List Edit) (v : Value) (base k : Nat) (w : World) (h : OwnL editCells zs base w v) (hk0 : 0 < k) (hk : k ≤ 4294967296) (hn : zs.length ≤ 1048576) :
    Calls Tryz.prog 22 #[v, .int .i64 (k : Int)] w (Marked editCells (medits k zs.length) (k + 4 * zs.length) base v w) := by
  obtain ⟨A, c, rfl, hc, hm, hg⟩ := h
  unfold maxLen at hm
  by_cases h0 : zs = []
  · subst h0
    go_enter Tryz.func22, Tryz.ntmps22
    go_wp2
    go_loopw [1, 5] (fun m i wr => m = .int .i64 (k : Int) ∧ i = .int .i64 0 ∧ wr = w) (fun _ _ _ => 0)
    case atStart => exact ⟨rfl, rfl, rfl⟩
    case round =>
      obtain ⟨rfl, rfl, rfl⟩ := hrel
      go_wp2
      go_ret
      exact ⟨rfl, ⟨A, c, rfl, hc, by unfold maxLen; omega, fun h => absurd rfl h⟩, grown_refl _ _⟩
  · obtain ⟨g, rfl, hgb, hgs, hR⟩ := hg h0
    have hlen : ((medits k zs.length).flatMap editCells).length = (zs.flatMap editCells).length := by rw [edits_flat, edits_flat, medits_len]
    have HL := Lib.hid hlen
    have HZ := Lib.hid (edits_flat zs)
    have HR := Lib.hid hR
    have HSQ : Hid (∀ i, i < zs.length → ∀ j u, (editCells (medit (k + 4 * i)))[j]? = some u → ((medits k zs.length).flatMap editCells)[i * 4 + j]? = some u) := Lib.hid (fun i hi j u hu => flat_at editCells (size := 4) (fun _ => rfl) _ i _ j u (medits_get hi) hu (by have := (List.getElem?_eq_some_iff.1 hu).1; simpa [editCells] using this))
    have HSL := Lib.hid (medits_len k zs.length)
    have hnp : 0 < zs.length := List.length_pos_iff.2 h0
    clear hlen hR hg h0
    go_enter Tryz.func22, Tryz.ntmps22
    go_wp2
    go_loopw [1, 5] (fun m i wr => ∃ j : Nat, j ≤ zs.length ∧ i = .int .i64 (j : Int) ∧ m = .int .i64 ((k + 4 * j : Nat) : Int) ∧ Row wr g (mix ((medits k zs.length).flatMap editCells) (zs.flatMap editCells) (j * 4)) ∧ Only g w wr ∧ g < wr.heap.size) (fun _ i _ => zs.length - (RowKit.intOf i).toNat)
    case atStart => exact ⟨0, Nat.zero_le _, rfl, rfl, by simpa [mix] using HR.out, only_refl _ _, hgs⟩
    case round =>
      obtain ⟨j, hj, rfl, rfl, hrow, hon, hgl⟩ := hrel
      have HO := Lib.hid hon
      have hml : ∀ i, (mix ((medits k zs.length).flatMap editCells) (zs.flatMap editCells) i).length = zs.length * 4 := fun i => by rw [mix_length HL.out, HZ.out]
      by_cases hlt : j < zs.length
      · obtain ⟨K, hK⟩ : ∃ K, K = k + 4 * j := ⟨_, rfl⟩
        have u0 := HSQ.out j hlt 0 _ rfl
        have u1 := HSQ.out j hlt 1 _ rfl
        have u2 := HSQ.out j hlt 2 _ rfl
        have u3 := HSQ.out j hlt 3 _ rfl
        have hKb : K ≤ 4303355904 := by omega
        have hK0 : 0 < K := by omega
        have HK2 : Hid (((k + 4 * (j + 1) : Nat) : Int) = (K : Int) + 1 + 1 + 1 + 1) := Lib.hid (by omega)
        rw [← hK] at u0 u1 u2 u3 ⊢
        clear hK hon
        have HT2 : Hid (∀ W, Calls Tryz.prog 21 #[.int .i64 ((K : Int) + 1 + 1)] W (RetB (.string ⟨(109 :: itoa ((K + 2 : Nat) : Int)).toArray⟩) W)) := Lib.hid (fun W => markText_z _ (K + 2) (by omega) W (by omega) (by omega))
        have HT3 : Hid (∀ W, Calls Tryz.prog 21 #[.int .i64 ((K : Int) + 1 + 1 + 1)] W (RetB (.string ⟨(109 :: itoa ((K + 3 : Nat) : Int)).toArray⟩) W)) := Lib.hid (fun W => markText_z _ (K + 3) (by omega) W (by omega) (by omega))
        simp only [medit] at u0 u1 u2 u3
        generalize (⟨(109 :: itoa ((K + 2 : Nat) : Int)).toArray⟩ : ByteArray) = t2 at *
        generalize (⟨(109 :: itoa ((K + 3 : Nat) : Int)).toArray⟩ : ByteArray) = t3 at *
        obtain ⟨z0, x0⟩ := hrow.some (j := j * 4) (by rw [hml]; omega)
        obtain ⟨z1, x1⟩ := hrow.some (j := j * 4 + 1) (by rw [hml]; omega)
        have f0 := hrow.free (j * 4) (by rw [hml]; omega)
        have f1 := hrow.free (j * 4 + 1) (by rw [hml]; omega)
        have R1 := (hrow.step HL.out (u := .int .i64 (K : Int)) u0).step HL.out (u := .int .i64 ((K : Int) + 1)) u1
        have HR1 := Lib.hid R1
        have HU2 := Lib.hid u2
        have HU3 := Lib.hid u3
        have HML := Lib.hid hml
        clear hrow R1 u0 u1 u2 u3 hml
        go_wp2_with (fail)
        refine (HT2.out _).mono ?_
        rintro e V1 ⟨rfl, hb1⟩
        have R2 := HR1.out.below hb1 (by simpa using hgl)
        have O2 : Only g w V1 := only_trans (only_set (only_set HO.out _ _) _ _) (below_only hb1)
        have hg1 : g < V1.heap.size := Nat.lt_of_lt_of_le hgl (by have := hb1.size; simpa using this)
        obtain ⟨z2, x2⟩ := R2.some (j := j * 4 + 2) (by rw [HML.out]; omega)
        have f2 := R2.free (j * 4 + 2) (by rw [HML.out]; omega)
        have HR3 := Lib.hid (R2.step HL.out (u := .string t2) HU2.out)
        have HO2 := Lib.hid O2
        clear x0 x1 f0 f1 hb1 R2 O2
        go_wp2_with (fail)
        refine (HT3.out _).mono ?_
        rintro e V2 ⟨rfl, hb2⟩
        have R4 := HR3.out.below hb2 (by simpa using hg1)
        have O3 : Only g w V2 := only_trans (only_set HO2.out _ _) (below_only hb2)
        have hg2 : g < V2.heap.size := Nat.lt_of_lt_of_le hg1 (by have := hb2.size; simpa using this)
        obtain ⟨z3, x3⟩ := R4.some (j := j * 4 + 3) (by rw [HML.out]; omega)
        have f3 := R4.free (j * 4 + 3) (by rw [HML.out]; omega)
        have HR5 := Lib.hid (R4.step HL.out (u := .string t3) HU3.out)
        have HO3 := Lib.hid O3
        clear x2 f2 hb2 R4 O3
        go_wp2
        go_roundw
        case rel => exact ⟨j + 1, by omega, by go_num, by rw [HK2.out], by rw [show (j + 1) * 4 = j * 4 + 1 + 1 + 1 + 1 by omega]; exact HR5.out, only_set HO3.out _ _, by simpa using hg2⟩
        case measure => simp [RowKit.intOf]; omega
      · have hge : ¬ (j : Int) < (zs.length : Int) := by omega
        have hje : j = zs.length := by omega
        have HF : Hid (Row wr g ((medits k zs.length).flatMap editCells)) := Lib.hid (by
          rw [mix_all HL.out (j * 4) (by rw [HL.out, HZ.out]; omega)] at hrow
          exact hrow)
        have HJ := Lib.hid hje
        clear hrow hon hml hje hlt
        go_wp2
        go_ret
        refine ⟨ret_i64 (by have := HJ.out; omega), ⟨some ⟨g, 0, none⟩, c, by rw [HSL.out], by rw [HSL.out]; exact hc, by unfold maxLen; omega, fun _ => ⟨g, rfl, hgb, hgl, HF.out⟩⟩, by rw [HSL.out, if_neg (by omega)]; exact HO.out⟩

set_option maxHeartbeats 2000000 in
theorem heldEdits_any (n k : Nat) (A : Option Addr) (c : Nat) (w : World) (h : Edits w w.heap.size (.slice A n c) (medits k n)) (hk0 : 0 < k) (hk : k ≤ 4294967296) (hn : n ≤ 1048576) :
    Calls Tryz.prog 24 #[.slice A n c, .int .i64 (k : Int)] w (RetB (.int .i64 ((k + 4 * n : Nat) : Int)) w) := by
  have H := Lib.hid (SlR.aft h (Pl.stays _) (Nat.le_refl _))
  clear h
  refine calls_aft fun x0 => ?_
  go_enter Tryz.func24, Tryz.ntmps24
  go_wp2
  go_loopw [1, 5] (fun m i wr => ∃ (j : Nat) (x : Aft w), j ≤ n ∧ i = .int .i64 (j : Int) ∧ m = .int .i64 ((k + 4 * j : Nat) : Int) ∧ wr = x.val) (fun _ i _ => n - (RowKit.intOf i).toNat)
  case atStart => exact ⟨0, x0, Nat.zero_le _, rfl, rfl, rfl⟩
  case round =>
    obtain ⟨j, x, hj, rfl, rfl, rfl⟩ := hrel
    by_cases hlt : j < n
    · obtain ⟨b, off, rfl, hb, c0, c1, c2, c3⟩ := edits_get (H.out x) (medits_get hlt)
      have C : Hid (∀ y : Aft w, y.val.cell? ⟨b, off + j * 4, none⟩ = some (.int .i64 (medit (k + 4 * j)).kind) ∧ y.val.cell? ⟨b, off + j * 4 + 1, none⟩ = some (.int .i64 (medit (k + 4 * j)).id) ∧ y.val.cell? ⟨b, off + j * 4 + 2, none⟩ = some (.string (medit (k + 4 * j)).old) ∧ y.val.cell? ⟨b, off + j * 4 + 3, none⟩ = some (.string (medit (k + 4 * j)).new)) := Lib.hid (fun y => by
        obtain ⟨b', off', hA, hb', d0, d1, d2, d3⟩ := edits_get (H.out y) (medits_get hlt)
        injection hA with hA
        injection hA with e1 e2
        subst e1 e2
        exact ⟨d0, d1, d2, d3⟩)
      obtain ⟨K, hK⟩ : ∃ K, K = k + 4 * j := ⟨_, rfl⟩
      have hKb : K ≤ 4303355904 := by omega
      have hK0 : 0 < K := by omega
      have HK2 : Hid (((k + 4 * (j + 1) : Nat) : Int) = (K : Int) + 1 + 1 + 1 + 1) := Lib.hid (by omega)
      clear c0 c1 c2 c3
      rw [← hK] at C ⊢
      clear hK
      have HT2 : Hid (∀ W, Calls Tryz.prog 21 #[.int .i64 ((K : Int) + 1 + 1)] W (RetB (.string ⟨(109 :: itoa ((K + 2 : Nat) : Int)).toArray⟩) W)) := Lib.hid (fun W => markText_z _ (K + 2) (by omega) W (by omega) (by omega))
      have HT3 : Hid (∀ W, Calls Tryz.prog 21 #[.int .i64 ((K : Int) + 1 + 1 + 1)] W (RetB (.string ⟨(109 :: itoa ((K + 3 : Nat) : Int)).toArray⟩) W)) := Lib.hid (fun W => markText_z _ (K + 3) (by omega) W (by omega) (by omega))
      have z0 : ∀ y : Aft w, y.val.cell? ⟨b, off + j * 4, none⟩ = some (.int .i64 (K : Int)) := fun y => (C.out y).1
      have z1 : ∀ y : Aft w, y.val.cell? ⟨b, off + j * 4 + 1, none⟩ = some (.int .i64 ((K : Int) + 1)) := fun y => (C.out y).2.1
      have z2 : ∀ y : Aft w, y.val.cell? ⟨b, off + j * 4 + 2, none⟩ = some (.string ⟨(109 :: itoa ((K + 2 : Nat) : Int)).toArray⟩) := fun y => (C.out y).2.2.1
      have z3 : ∀ y : Aft w, y.val.cell? ⟨b, off + j * 4 + 3, none⟩ = some (.string ⟨(109 :: itoa ((K + 3 : Nat) : Int)).toArray⟩) := fun y => (C.out y).2.2.2
      generalize (⟨(109 :: itoa ((K + 2 : Nat) : Int)).toArray⟩ : ByteArray) = t2 at *
      generalize (⟨(109 :: itoa ((K + 3 : Nat) : Int)).toArray⟩ : ByteArray) = t3 at *
      go_upto_region 10 with (fail)
      refine wp_region_at (by kernel_rfl) (by kernel_rfl) ?_
      repeat (go_big_quiet_step ((first | (go_at_call 21; exact aft_b (HT2.out _)))))
      refine wpQuiet_nil ?_
      rintro _ ⟨y, rfl⟩
      go_upto_region 13 with (fail)
      refine wp_region_at (by kernel_rfl) (by kernel_rfl) ?_
      repeat (go_big_quiet_step ((first | (go_at_call 21; exact aft_b (HT3.out _)))))
      refine wpQuiet_nil ?_
      rintro _ ⟨z, rfl⟩
      go_wp2
      go_roundw
      case rel => exact ⟨j + 1, z, by omega, by go_num, by rw [HK2.out], rfl⟩
      case measure => simp [RowKit.intOf]; omega
    · have hge : ¬ (j : Int) < (n : Int) := by omega
      have hje : j = n := by omega
      subst hje
      go_wp2
      go_ret
      exact ⟨ret_i64 (by omega), x.ok⟩
end Go.Proofs.YthlfpiflegfoiaaGreatDoor

namespace Go.Proofs.YthlfpiflegfoiaaGreatDoor
open Go.RowKit Go.Lib

theorem grown_below {w w' : World} (h : w.grownBy w' none) : Below w.heap.size w w' := ⟨h.os, h.tape, h.output, h.size, fun k hk => h.block k hk (by simp)⟩
theorem OwnL.nilS {α : Type} (f : α → List Value) (base : Nat) (w : World) (A : Option Addr) {c : Nat} (hc : c ≤ maxLen) : OwnL f ([] : List α) base w (.slice A 0 c) := ⟨A, c, rfl, Nat.zero_le _, hc, fun h => absurd rfl h⟩
theorem OwnL.cap {α : Type} {f : α → List Value} {xs : List α} {base : Nat} {w : World} {A : Option Addr} {n c : Nat} (h : OwnL f xs base w (.slice A n c)) : n = xs.length ∧ c ≤ maxLen := by
  obtain ⟨A', c', hv, h1, h2, _⟩ := h
  injection hv with e1 e2 e3
  subst e1 e2 e3
  exact ⟨rfl, h2⟩
/-- A row's block lies below 'top'. -/
def Under {α : Type} (xs : List α) (A : Option Addr) (top : Nat) : Prop := xs ≠ [] → ∃ g, A = some ⟨g, 0, none⟩ ∧ g < top
theorem OwnL.under {α : Type} {f : α → List Value} {xs : List α} {base : Nat} {w : World} {A : Option Addr} {n c : Nat} (h : OwnL f xs base w (.slice A n c)) : Under xs A w.heap.size := fun h0 => by
  obtain ⟨A', c', hv, _, _, h3⟩ := h
  injection hv with e1 e2 e3
  subst e1
  obtain ⟨g, e, _, hlt, _⟩ := h3 h0
  exact ⟨g, e, hlt⟩
/-- The block that a mark may change. -/
def rowOf (n : Nat) (A : Option Addr) : Option Nat := if n = 0 then none else A.map (·.block)
theorem rowOf_eq {α : Type} (xs : List α) (A : Option Addr) (c : Nat) : (if xs.length = 0 then none else (Value.slice A xs.length c).ownBlock) = rowOf xs.length A := by
  unfold rowOf
  cases A <;> rfl
def MarkedD (d : Deed) (A1 : Option Addr) (c1 : Nat) (A2 : Option Addr) (c2 : Nat) (base top k : Nat) (w : World) (e : Ending) (w' : World) : Prop :=
  e = .returned (.int .i64 ((k + d.trust.length + 4 * d.patch.length : Nat) : Int)) ∧ OwnL intCells (seqI k d.trust.length) base w' (.slice A1 d.trust.length c1) ∧ OwnL editCells (medits (k + d.trust.length) d.patch.length) base w' (.slice A2 d.patch.length c2) ∧ Below base w w' ∧ ∀ b, top ≤ b → b < w.heap.size → w'.heap[b]? = w.heap[b]?

end Go.Proofs.YthlfpiflegfoiaaGreatDoor

namespace Go.Proofs.YthlfpiflegfoiaaGreatDoor
open Go.RowKit Go.Lib

def mDeed (K : Nat) (d : Deed) : Deed :=
  ⟨(K : Int), ((K + 1 : Nat) : Int), seqI (K + 2) d.trust.length, ⟨(109 :: itoa ((K + 2 + d.trust.length : Nat) : Int)).toArray⟩, ((K + 3 + d.trust.length : Nat) : Int), medits (K + 4 + d.trust.length) d.patch.length, ((K + 4 + d.trust.length + 4 * d.patch.length : Nat) : Int), ((K + 5 + d.trust.length + 4 * d.patch.length : Nat) : Int), ((K + 6 + d.trust.length + 4 * d.patch.length : Nat) : Int)⟩
def mNext (K : Nat) (d : Deed) : Nat := K + 7 + d.trust.length + 4 * d.patch.length
def mQ (K : Nat) (q : Dq) : Dq := ⟨mDeed K q.d, q.A1, q.c1, q.A2, q.c2⟩
def mQs : Nat → List Dq → List Dq
  | _, [] => []
  | K, q :: qs => mQ K q :: mQs (mNext K q.d) qs
def mEnd : Nat → List Dq → Nat
  | K, [] => K
  | K, q :: qs => mEnd (mNext K q.d) qs
theorem mQs_snoc (q : Dq) : ∀ (xs : List Dq) (K : Nat), mQs K (xs ++ [q]) = mQs K xs ++ [mQ (mEnd K xs) q]
  | [], _ => rfl
  | x :: xs, K => by rw [List.cons_append, mQs, mQs_snoc q xs, mQs, mEnd]; rfl
theorem mEnd_snoc (q : Dq) : ∀ (xs : List Dq) (K : Nat), mEnd K (xs ++ [q]) = mNext (mEnd K xs) q.d
  | [], _ => rfl
  | x :: xs, K => by rw [List.cons_append, mEnd, mEnd_snoc q xs, mEnd]
theorem mQs_len : ∀ (xs : List Dq) (K : Nat), (mQs K xs).length = xs.length
  | [], _ => rfl
  | x :: xs, K => by rw [mQs, List.length_cons, List.length_cons, mQs_len xs]
theorem mEnd_le : ∀ (xs : List Dq) (K : Nat), (∀ q ∈ xs, q.d.trust.length ≤ 4 ∧ q.d.patch.length ≤ 16) → mEnd K xs ≤ K + 100 * xs.length
  | [], _, _ => Nat.le_refl _
  | x :: xs, K, h => by
    have := mEnd_le xs (mNext K x.d) (fun q hq => h q (by simp [hq]))
    have := h x (by simp)
    rw [mEnd, List.length_cons]
    unfold mNext at *
    omega
theorem mEnd_pos : ∀ (xs : List Dq) (K : Nat), K ≤ mEnd K xs
  | [], _ => Nat.le_refl _
  | x :: xs, K => by
    have := mEnd_pos xs (mNext K x.d)
    rw [mEnd]
    unfold mNext at *
    omega
theorem mQ_blocks {K : Nat} {q : Dq} {g : Nat} (h : (mQ K q).blocks g) : q.blocks g := by
  rcases h with ⟨h0, h⟩ | ⟨h0, h⟩
  · exact .inl ⟨fun e => h0 (by show seqI _ q.d.trust.length = []; rw [e]; rfl), h⟩
  · exact .inr ⟨fun e => h0 (by show medits _ q.d.patch.length = []; rw [e]; rfl), h⟩
theorem flat9 (qs : List Dq) : (qs.flatMap Dq.cells).length = qs.length * 9 := by
  induction qs with
  | nil => rfl
  | cons q qs ih => rw [List.flatMap_cons, List.length_append, ih]; simp [Dq.cells, deedCs]; omega

/-- A row with a part in the midst. -/
theorem Row.mid {w : World} {g m i : Nat} {X C Y : List Value} (h : Row w g (X ++ (C ++ Y))) (hm : X.length = m) (u : Value) (hi : i < C.length) : Row (w.setCell ⟨g, m + i, none⟩ u) g (X ++ (C.set i u ++ Y)) := by
  subst hm
  have := h.set (X.length + i) u (by rw [List.length_append, List.length_append]; omega)
  rw [List.set_append, if_neg (by omega), Nat.add_sub_cancel_left, List.set_append, if_pos hi] at this
  exact this
theorem Row.mid0 {w : World} {g m : Nat} {X C Y : List Value} (h : Row w g (X ++ (C ++ Y))) (hm : X.length = m) (u : Value) (hi : 0 < C.length) : Row (w.setCell ⟨g, m, none⟩ u) g (X ++ (C.set 0 u ++ Y)) := h.mid hm u hi
theorem Row.midc {w : World} {g m i : Nat} {X C Y : List Value} {u : Value} (h : Row w g (X ++ (C ++ Y))) (hm : X.length = m) (hu : C[i]? = Option.some u) : w.cell? ⟨g, m + i, none⟩ = Option.some u ∧ w.frozen? ⟨g, m + i, none⟩ = false := by
  subst hm
  have hi := (List.getElem?_eq_some_iff.1 hu).1
  exact ⟨h.cell _ u (by rw [List.getElem?_append_right (by omega), Nat.add_sub_cancel_left, List.getElem?_append_left hi]; exact hu), h.free _ (by rw [List.length_append, List.length_append]; omega)⟩

/-- The state in the midst of a round: the slice's row, the deeds but this one, this one's rows; and what was left alone since W0. -/
structure Sm (W0 : World) (base top g : Nat) (X Y : List Value) (os : List Dq) (A1 : Option Addr) (c1 : Nat) (A2 : Option Addr) (c2 : Nat) (T : List Int) (P : List Edit) (V : World) (C : List Value) : Prop where
  row : Row V g (X ++ (C ++ Y))
  oth : ∀ p ∈ os, Inn base V p
  o1 : OwnL intCells T base V (.slice A1 T.length c1)
  o2 : OwnL editCells P base V (.slice A2 P.length c2)
  gs : g < V.heap.size
  bel : Below base W0 V
  tch : ∀ b, top ≤ b → b < W0.heap.size → V.heap[b]? = W0.heap[b]?
/-- What holds of the blocks, in every world. -/
structure Bk (base top g : Nat) (os : List Dq) (A1 : Option Addr) (A2 : Option Addr) (nt np : Nat) : Prop where
  hb : base ≤ g
  ht : g < top
  og : ∀ p ∈ os, ∀ b, p.blocks b → b ≠ g
  o1 : ∀ b, rowOf nt A1 = some b → b ≠ g ∧ base ≤ b ∧ b < top ∧ ∀ p ∈ os, ¬ p.blocks b
  o2 : ∀ b, rowOf np A2 = some b → b ≠ g ∧ base ≤ b ∧ b < top ∧ ∀ p ∈ os, ¬ p.blocks b
  one : nt = 0 ∨ np = 0
theorem own_rowOf {α : Type} {f : α → List Value} {xs : List α} {base : Nat} {w : World} {A : Option Addr} {n c : Nat} (h : OwnL f xs base w (.slice A n c)) (h0 : xs ≠ []) {b : Nat} (hb : (Value.slice A n c).ownBlock = some b) : rowOf xs.length A = some b := by
  unfold rowOf
  rw [if_neg (fun e => h0 (List.eq_nil_of_length_eq_zero e))]
  cases A with
  | none => cases hb
  | some a => exact hb
section
variable {W0 : World} {base top g : Nat} {X Y : List Value} {os : List Dq} {A1 : Option Addr} {c1 : Nat} {A2 : Option Addr} {c2 : Nat} {T : List Int} {P : List Edit} {V : World} {C : List Value}
theorem Sm.put (h : Sm W0 base top g X Y os A1 c1 A2 c2 T P V C) (k : Bk base top g os A1 A2 T.length P.length) (htW : top ≤ W0.heap.size) {m : Nat} (hm : X.length = m) (i : Nat) (u : Value) (hi : i < C.length) : Sm W0 base top g X Y os A1 c1 A2 c2 T P (V.setCell ⟨g, m + i, none⟩ u) (C.set i u) := by
  have hg : V.grownBy (V.setCell ⟨g, m + i, none⟩ u) (some g) := only_set (only_refl g V) (m + i) u
  refine ⟨h.row.mid hm u hi, fun p hp => (h.oth p hp).grown hg (fun b hb e => k.og p hp b hb (by injection e with e; exact e.symm)), ?_, ?_, by simpa using h.gs, h.bel.setCell (by simpa using k.hb) _, fun b hb1 hb2 => ?_⟩
  · exact h.o1.grown hg (fun h0 b hb e => (k.o1 b (own_rowOf h.o1 h0 hb)).1 (by injection e with e; exact e.symm))
  · exact h.o2.grown hg (fun h0 b hb e => (k.o2 b (own_rowOf h.o2 h0 hb)).1 (by injection e with e; exact e.symm))
  · rw [← h.tch b hb1 hb2]
    exact hg.block b (Nat.lt_of_lt_of_le hb2 h.bel.size) (fun e => by injection e with e; have := k.ht; omega)
theorem Sm.below (h : Sm W0 base top g X Y os A1 c1 A2 c2 T P V C) (hbg : base ≤ g) {V' : World} (hb : Below V.heap.size V V') : Sm W0 base top g X Y os A1 c1 A2 c2 T P V' C :=
  ⟨h.row.below hb h.gs, fun p hp => (h.oth p hp).below hb, h.o1.on hb, h.o2.on hb, Nat.lt_of_lt_of_le h.gs hb.size, h.bel.trans (hb.mono (by have := h.gs; omega)), fun b h1 h2 => (hb.block b (Nat.lt_of_lt_of_le h2 h.bel.size)).trans (h.tch b h1 h2)⟩
/-- What both marking functions leave of it: r is the row's block that they may change. -/
theorem Sm.grow (h : Sm W0 base top g X Y os A1 c1 A2 c2 T P V C) {V' : World} {r : Option Nat} (hbg : base ≤ g) (hg : V.grownBy V' r) (hr : ∀ b, r = Option.some b → b ≠ g ∧ base ≤ b ∧ b < top ∧ ∀ p ∈ os, ¬ p.blocks b) :
    Row V' g (X ++ (C ++ Y)) ∧ (∀ p ∈ os, Inn base V' p) ∧ g < V'.heap.size ∧ Below base W0 V' ∧ ∀ b, top ≤ b → b < W0.heap.size → V'.heap[b]? = W0.heap[b]? := by
  refine ⟨h.row.same' (hg.block g h.gs (fun e => (hr g e.symm).1 rfl)), fun p hp => (h.oth p hp).grown hg (fun b hb e => (hr b e).2.2.2 p hp hb), Nat.lt_of_lt_of_le h.gs hg.size, ?_, fun b h1 h2 => ?_⟩
  · exact ⟨hg.os.trans h.bel.os, hg.tape.trans h.bel.tape, hg.output.trans h.bel.output, Nat.le_trans h.bel.size hg.size, fun b hb => (hg.block b (by have := h.gs; omega) (fun e => by have := (hr b e.symm).2.1; omega)).trans (h.bel.block b hb)⟩
  · rw [← h.tch b h1 h2]
    exact hg.block b (Nat.lt_of_lt_of_le h2 h.bel.size) (fun e => by have := (hr b e.symm).2.2.1; omega)
end
end Go.Proofs.YthlfpiflegfoiaaGreatDoor

namespace Go.Proofs.YthlfpiflegfoiaaGreatDoor
open Go.RowKit Go.Lib

section
variable {W0 : World} {base top g : Nat} {X Y : List Value} {os : List Dq} {A1 : Option Addr} {c1 : Nat} {A2 : Option Addr} {c2 : Nat} {T : List Int} {P : List Edit} {V : World} {C : List Value}
theorem Sm.ints (h : Sm W0 base top g X Y os A1 c1 A2 c2 T P V C) (k : Bk base top g os A1 A2 T.length P.length) {V' : World} {T' : List Int} (hl : T'.length = T.length) (ho : OwnL intCells T' base V' (.slice A1 T.length c1)) (hg : V.grownBy V' (rowOf T.length A1)) : Sm W0 base top g X Y os A1 c1 A2 c2 T' P V' C := by
  obtain ⟨a, b, c, d, e⟩ := h.grow k.hb hg (fun b hb => k.o1 b hb)
  refine ⟨a, b, by rw [hl]; exact ho, ?_, c, d, e⟩
  rcases k.one with h0 | h0
  · have : rowOf T.length A1 = none := by unfold rowOf; rw [if_pos h0]
    rw [this] at hg
    exact h.o2.on (grown_below hg)
  · have hP : P = [] := List.eq_nil_of_length_eq_zero h0
    subst hP
    exact OwnL.nilS _ _ _ _ h.o2.cap.2
theorem Sm.eds (h : Sm W0 base top g X Y os A1 c1 A2 c2 T P V C) (k : Bk base top g os A1 A2 T.length P.length) {V' : World} {P' : List Edit} (hl : P'.length = P.length) (ho : OwnL editCells P' base V' (.slice A2 P.length c2)) (hg : V.grownBy V' (rowOf P.length A2)) : Sm W0 base top g X Y os A1 c1 A2 c2 T P' V' C := by
  obtain ⟨a, b, c, d, e⟩ := h.grow k.hb hg (fun b hb => k.o2 b hb)
  refine ⟨a, b, ?_, by rw [hl]; exact ho, c, d, e⟩
  rcases k.one with h0 | h0
  · have hT : T = [] := List.eq_nil_of_length_eq_zero h0
    subst hT
    exact OwnL.nilS _ _ _ _ h.o1.cap.2
  · have : rowOf P.length A2 = none := by unfold rowOf; rw [if_pos h0]
    rw [this] at hg
    exact h.o1.on (grown_below hg)
end

/-- Deeds of the call's own, as they are read and written. -/
structure Ms (base : Nat) (w : World) (v : Value) (qs : List Dq) : Prop where
  row : OwnL Dq.cells qs base w v
  inn : ∀ q ∈ qs, Inn base w q
theorem DsOwn.ms {base : Nat} {w : World} {v : Value} {qs : List Dq} (h : DsOwn base w v qs) : Ms base w v qs := ⟨OwnL.of_own Dq.cells (size := 9) (fun _ => rfl) h.row, h.inn⟩
theorem Ms.below {base : Nat} {w w' : World} {v : Value} {qs : List Dq} (h : Ms base w v qs) (hb : Below w.heap.size w w') : Ms base w' v qs := ⟨h.row.on hb, fun q hq => (h.inn q hq).below hb⟩
/-- No two of these deeds share a block, and none lies in the slice's. -/
structure Dj (top : Nat) (v : Value) (qs : List Dq) : Prop where
  lt : ∀ q ∈ qs, ∀ b, q.blocks b → b < top
  vt : ∀ b, v.ownBlock = some b → b < top
  out : ∀ q ∈ qs, ∀ b, q.blocks b → v.ownBlock ≠ some b
  two : ∀ (i j : Nat) (p q : Dq), qs[i]? = some p → qs[j]? = some q → i ≠ j → ∀ b, p.blocks b → ¬ q.blocks b
theorem DsOwn.dj {base : Nat} {w : World} {v : Value} {qs : List Dq} (h : DsOwn base w v qs) : Dj w.heap.size v qs := by
  refine ⟨fun q hq b hb => ((h.inn q hq).lt hb).2, fun b hb => (h.row.lt b hb).2, h.out, fun i j p q hi hj hij b hp hq => ?_⟩
  have hP := List.pairwise_iff_getElem.1 h.prs
  obtain ⟨li, rfl⟩ := List.getElem?_eq_some_iff.1 hi
  obtain ⟨lj, rfl⟩ := List.getElem?_eq_some_iff.1 hj
  rcases Nat.lt_or_ge i j with hlt | hge
  · have := hP i j li lj hlt b b hp hq; omega
  · have := hP j i lj li (by omega) b b hq hp; omega
theorem rowOf_blocks1 {base : Nat} {w : World} {q : Dq} (h : Inn base w q) {b : Nat} (hb : rowOf q.d.trust.length q.A1 = some b) : q.blocks b := by
  unfold rowOf at hb
  split at hb
  · cases hb
  · rename_i h0
    have h0' : q.d.trust ≠ [] := fun e => h0 (by rw [e]; rfl)
    obtain ⟨A, c, hv, _, _, h3⟩ := h.o1
    injection hv with e1 e2 e3
    obtain ⟨g, hA, _⟩ := h3 h0'
    rw [e1, hA] at hb
    injection hb with hb
    have : g = b := hb
    exact .inl ⟨h0', 0, by rw [e1, hA, this]⟩
theorem rowOf_blocks2 {base : Nat} {w : World} {q : Dq} (h : Inn base w q) {b : Nat} (hb : rowOf q.d.patch.length q.A2 = some b) : q.blocks b := by
  unfold rowOf at hb
  split at hb
  · cases hb
  · rename_i h0
    have h0' : q.d.patch ≠ [] := fun e => h0 (by rw [e]; rfl)
    obtain ⟨A, c, hv, _, _, h3⟩ := h.o2
    injection hv with e1 e2 e3
    obtain ⟨g, hA, _⟩ := h3 h0'
    rw [e1, hA] at hb
    injection hb with hb
    have : g = b := hb
    exact .inr ⟨h0', 0, by rw [e1, hA, this]⟩
theorem mem_mQs {p : Dq} : ∀ (xs : List Dq) (K : Nat), p ∈ mQs K xs → ∃ x ∈ xs, ∃ K', p = mQ K' x
  | [], _, h => by cases h
  | x :: xs, K, h => by
    rw [mQs] at h
    rcases List.mem_cons.1 h with rfl | h
    · exact ⟨x, by simp, _, rfl⟩
    · obtain ⟨y, hy, K', e⟩ := mem_mQs xs _ h
      exact ⟨y, by simp [hy], K', e⟩
theorem inn_mQ {base : Nat} {w : World} {q : Dq} {K : Nat} (hone : q.d.trust = [] ∨ q.d.patch = []) (h4 : q.d.trust.length ≤ 4) (h16 : q.d.patch.length ≤ 16) (hK : K ≤ 1048576) (h1 : OwnL intCells (seqI (K + 2) q.d.trust.length) base w (.slice q.A1 q.d.trust.length q.c1)) (h2 : OwnL editCells (medits (K + 4 + q.d.trust.length) q.d.patch.length) base w (.slice q.A2 q.d.patch.length q.c2)) : Inn base w (mQ K q) := by
  have il : ∀ n : Nat, n ≤ 2000000 → (109 :: itoa ((n : Nat) : Int)).length ≤ 22 := fun n hn => by
    have := itoa_length_le (n : Int) (by omega) (by omega)
    rw [List.length_cons]; omega
  refine ⟨?_, ?_, ?_, ?_, ?_, ?_, ?_⟩
  · show OwnL intCells (seqI (K + 2) q.d.trust.length) base w (.slice q.A1 (seqI (K + 2) q.d.trust.length).length q.c1)
    rw [seqI_len]; exact h1
  · show OwnL editCells (medits (K + 4 + q.d.trust.length) q.d.patch.length) base w (.slice q.A2 (medits (K + 4 + q.d.trust.length) q.d.patch.length).length q.c2)
    rw [medits_len]; exact h2
  · rcases hone with h | h
    · left; show seqI _ q.d.trust.length = []; rw [h]; rfl
    · right; show medits _ q.d.patch.length = []; rw [h]; rfl
  · show (seqI _ q.d.trust.length).length ≤ 4; rw [seqI_len]; exact h4
  · show (medits _ q.d.patch.length).length ≤ 16; rw [medits_len]; exact h16
  · show SizesOk (medits _ q.d.patch.length)
    intro e he
    obtain ⟨i, hi⟩ := List.getElem?_of_mem he
    have hlt := (List.getElem?_eq_some_iff.1 hi).1
    rw [medits_len] at hlt
    rw [medits_get hlt] at hi
    injection hi with hi
    subst hi
    have e1 := il (K + 4 + q.d.trust.length + 4 * i + 2) (by omega)
    have e2 := il (K + 4 + q.d.trust.length + 4 * i + 3) (by omega)
    unfold SizeOk medit maxLen
    rw [mk_size, mk_size]
    omega
  · show (⟨(109 :: itoa ((K + 2 + q.d.trust.length : Nat) : Int)).toArray⟩ : ByteArray).size ≤ maxLen
    have e1 := il (K + 2 + q.d.trust.length) (by omega)
    rw [mk_size]
    unfold maxLen
    omega
def MarkedS (qs : List Dq) (base top k : Nat) (v : Value) (w : World) (e : Ending) (w' : World) : Prop :=
  e = .returned (.int .i64 (mEnd k qs : Int)) ∧ Ms base w' v (mQs k qs) ∧ Below base w w' ∧ ∀ b, top ≤ b → b < w.heap.size → w'.heap[b]? = w.heap[b]?
end Go.Proofs.YthlfpiflegfoiaaGreatDoor

namespace Go.Proofs.YthlfpiflegfoiaaGreatDoor
open Go.RowKit Go.Lib

set_option maxRecDepth 100000 in
set_option maxHeartbeats 8000000 in
theorem markDeeds_any (qs : List Dq) (v : Value) (base top k : Nat) (w : World) (h : Ms base w v qs) (hd : Dj top v qs) (hbw : base ≤ w.heap.size) (htW : top ≤ w.heap.size) (hk0 : 0 < k) (hk : k ≤ 65536) (hn : qs.length ≤ 40) :
    Calls Tryz.prog 11 #[v, .int .i64 (k : Int)] w (MarkedS qs base top k v w) := by
  obtain ⟨⟨A, c, rfl, hc, hm, hg⟩, hinn⟩ := h
  unfold maxLen at hm
  by_cases h0 : qs = []
  · subst h0
    go_enter Tryz.func11, Tryz.ntmps11
    go_wp2
    go_loopw [1, 5] (fun m i wr => m = .int .i64 (k : Int) ∧ i = .int .i64 0 ∧ wr = w) (fun _ _ _ => 0)
    case atStart => exact ⟨rfl, rfl, rfl⟩
    case round =>
      obtain ⟨rfl, rfl, rfl⟩ := hrel
      go_wp2
      go_ret
      exact ⟨rfl, ⟨⟨A, c, rfl, hc, by unfold maxLen; omega, fun h => absurd rfl h⟩, fun q hq => (by cases hq)⟩, Below.refl _ _, fun _ _ _ => rfl⟩
  · obtain ⟨g, rfl, hgb, hgs, hR⟩ := hg h0
    have hgt : g < top := hd.vt g rfl
    have HR := Lib.hid hR
    have HD := Lib.hid hd
    have HI := Lib.hid hinn
    have HLIM : Hid (∀ j, j ≤ qs.length → k ≤ mEnd k (qs.take j) ∧ mEnd k (qs.take j) ≤ k + 4000) := Lib.hid (fun j hj => by
      have h1 := mEnd_pos (qs.take j) k
      have h2 := mEnd_le (qs.take j) k (fun q hq => ⟨(hinn q (List.mem_of_mem_take hq)).t4, (hinn q (List.mem_of_mem_take hq)).p16⟩)
      rw [List.length_take] at h2
      omega)
    have hnp : 0 < qs.length := List.length_pos_iff.2 h0
    clear hR hg hinn hd h0
    go_enter Tryz.func11, Tryz.ntmps11
    go_wp2
    go_loopw [1, 5] (fun m i wr => ∃ j : Nat, j ≤ qs.length ∧ i = .int .i64 (j : Int) ∧ m = .int .i64 (mEnd k (qs.take j) : Int) ∧ Row wr g ((mQs k (qs.take j) ++ qs.drop j).flatMap Dq.cells) ∧ (∀ p ∈ mQs k (qs.take j) ++ qs.drop j, Inn base wr p) ∧ g < wr.heap.size ∧ Below base w wr ∧ ∀ b, top ≤ b → b < w.heap.size → wr.heap[b]? = w.heap[b]?) (fun _ i _ => qs.length - (RowKit.intOf i).toNat)
    case atStart => exact ⟨0, Nat.zero_le _, rfl, rfl, by simpa [mQs] using HR.out, by simpa [mQs] using HI.out, hgs, Below.refl _ _, fun _ _ _ => rfl⟩
    case round =>
      obtain ⟨j, hj, rfl, rfl, hrow, hin, hgl, hbl, htc⟩ := hrel
      by_cases hlt : j < qs.length
      · have hq : qs[j]? = some qs[j] := List.getElem?_eq_getElem hlt
        have hdrop : qs.drop j = qs[j] :: qs.drop (j + 1) := List.drop_eq_getElem_cons hlt
        have htake : qs.take (j + 1) = qs.take j ++ [qs[j]] := List.take_succ_eq_append_getElem hlt
        rw [hdrop] at hrow hin
        obtain ⟨lim1, lim2⟩ := HLIM.out j (by omega)
        have hnext : mEnd k (qs.take (j + 1)) = mNext (mEnd k (qs.take j)) qs[j].d := by rw [htake, mEnd_snoc]
        have hmq : mQs k (qs.take (j + 1)) = mQs k (qs.take j) ++ [mQ (mEnd k (qs.take j)) qs[j]] := by rw [htake, mQs_snoc]
        have hX9 : ((mQs k (qs.take j)).flatMap Dq.cells).length = j * 9 := by rw [flat9, mQs_len, List.length_take, Nat.min_eq_left (by omega)]
        have hos1 : ∀ p ∈ mQs k (qs.take j) ++ qs.drop (j + 1), ∃ i x, i ≠ j ∧ qs[i]? = some x ∧ ∀ b, p.blocks b → x.blocks b := fun p hp => by
          rcases List.mem_append.1 hp with hp | hp
          · obtain ⟨x, hx, K', rfl⟩ := mem_mQs _ _ hp
            obtain ⟨i, hi⟩ := List.getElem?_of_mem hx
            have hij : i < j := by have := (List.getElem?_eq_some_iff.1 hi).1; rw [List.length_take] at this; omega
            rw [List.getElem?_take, if_pos hij] at hi
            exact ⟨i, x, by omega, hi, fun b hb => mQ_blocks hb⟩
          · obtain ⟨i, hi⟩ := List.getElem?_of_mem hp
            rw [List.getElem?_drop] at hi
            exact ⟨j + 1 + i, p, by omega, hi, fun b hb => hb⟩
        generalize hqe : qs[j] = q at *
        obtain ⟨d, A1, c1, A2, c2⟩ := q
        have hiq : Inn base wr ⟨d, A1, c1, A2, c2⟩ := hin _ (by simp)
        have hmemq : (⟨d, A1, c1, A2, c2⟩ : Dq) ∈ qs := List.mem_of_getElem? hq
        have hbk : Bk base top g (mQs k (qs.take j) ++ qs.drop (j + 1)) A1 A2 d.trust.length d.patch.length := by
          refine ⟨hgb, hgt, fun p hp b hb e => ?_, fun b hb => ?_, fun b hb => ?_, ?_⟩
          · obtain ⟨i, x, _, hx, hpx⟩ := hos1 p hp
            exact HD.out.out x (List.mem_of_getElem? hx) b (hpx b hb) (by rw [e]; rfl)
          · have hbq := rowOf_blocks1 hiq hb
            refine ⟨fun e => HD.out.out _ hmemq b hbq (by rw [e]; rfl), (hiq.lt hbq).1, HD.out.lt _ hmemq b hbq, fun p hp hpb => ?_⟩
            obtain ⟨i, x, hij, hx, hpx⟩ := hos1 p hp
            exact HD.out.two i j x _ hx hq hij b (hpx b hpb) hbq
          · have hbq := rowOf_blocks2 hiq hb
            refine ⟨fun e => HD.out.out _ hmemq b hbq (by rw [e]; rfl), (hiq.lt hbq).1, HD.out.lt _ hmemq b hbq, fun p hp hpb => ?_⟩
            obtain ⟨i, x, hij, hx, hpx⟩ := hos1 p hp
            exact HD.out.two i j x _ hx hq hij b (hpx b hpb) hbq
          · rcases hiq.one with e | e
            · exact .inl (by show d.trust.length = 0; rw [show d.trust = [] from e]; rfl)
            · exact .inr (by show d.patch.length = 0; rw [show d.patch = [] from e]; rfl)
        have hS : Sm w base top g ((mQs k (qs.take j)).flatMap Dq.cells) ((qs.drop (j + 1)).flatMap Dq.cells) (mQs k (qs.take j) ++ qs.drop (j + 1)) A1 c1 A2 c2 d.trust d.patch wr (deedCs d A1 c1 A2 c2) := by
          refine ⟨?_, fun p hp => hin p (by rcases List.mem_append.1 hp with hp | hp <;> simp [hp]), hiq.o1, hiq.o2, hgl, hbl, htc⟩
          have := hrow
          rw [List.flatMap_append, List.flatMap_cons] at this
          exact this
        have hone := hiq.one
        have ht4 := hiq.t4
        have hp16 := hiq.p16
        simp only at hone ht4 hp16
        obtain ⟨K, hK⟩ : ∃ K, K = mEnd k (qs.take j) := ⟨_, rfl⟩
        rw [← hK] at lim1 lim2 hnext hmq ⊢
        have HNX := Lib.hid hnext
        have HROW : Hid ((mQs k (qs.take (j + 1)) ++ qs.drop (j + 1)).flatMap Dq.cells = (mQs k (qs.take j)).flatMap Dq.cells ++ ((mQ K ⟨d, A1, c1, A2, c2⟩).cells ++ (qs.drop (j + 1)).flatMap Dq.cells)) := Lib.hid (by rw [hmq]; simp)
        have HINC : Hid (∀ p ∈ mQs k (qs.take (j + 1)) ++ qs.drop (j + 1), p ∈ mQs k (qs.take j) ++ qs.drop (j + 1) ∨ p = mQ K ⟨d, A1, c1, A2, c2⟩) := Lib.hid (by
          rw [hmq]
          intro p hp
          simp only [List.mem_append, List.mem_singleton] at hp ⊢
          rcases hp with (hp | hp) | hp
          · exact .inl (.inl hp)
          · exact .inr hp
          · exact .inl (.inr hp))
        have HONE := Lib.hid hone
        have HBK := Lib.hid hbk
        have HX9 := Lib.hid hX9
        clear hK hrow hin hgl hbl htc hiq hmemq hbk hos1 hqe hnext hmq hdrop htake hone hq
        generalize (mQs k (qs.take j)).flatMap Dq.cells = X at *
        generalize (qs.drop (j + 1)).flatMap Dq.cells = Y at *
        generalize mQs k (qs.take j) ++ qs.drop (j + 1) = os at *
        have HMI : Hid (∀ V, OwnL intCells d.trust base V (.slice A1 d.trust.length c1) → Calls Tryz.prog 20 #[.slice A1 d.trust.length c1, .int .i64 ((K : Int) + 1 + 1)] V (Marked intCells (seqI (K + 2) d.trust.length) (K + 2 + d.trust.length) base (.slice A1 d.trust.length c1) V)) := Lib.hid (fun V ho => by
          have := markInts_any d.trust (.slice A1 d.trust.length c1) base (K + 2) V ho (by omega) (by omega)
          rw [show ((K + 2 : Nat) : Int) = (K : Int) + 1 + 1 by omega] at this
          exact this)
        obtain ⟨K2, hK2⟩ : ∃ K2, K2 = K + 2 + d.trust.length := ⟨_, rfl⟩
        rw [← hK2] at HMI
        have HMT : Hid (∀ V, Calls Tryz.prog 21 #[.int .i64 (K2 : Int)] V (RetB (.string ⟨(109 :: itoa (K2 : Int)).toArray⟩) V)) := Lib.hid (fun V => markText_any K2 V (by omega) (by omega))
        have HME : Hid (∀ V, OwnL editCells d.patch base V (.slice A2 d.patch.length c2) → Calls Tryz.prog 22 #[.slice A2 d.patch.length c2, .int .i64 ((K2 : Int) + 1 + 1)] V (Marked editCells (medits (K2 + 2) d.patch.length) (K2 + 2 + 4 * d.patch.length) base (.slice A2 d.patch.length c2) V)) := Lib.hid (fun V ho => by
          have := markEdits_any d.patch (.slice A2 d.patch.length c2) base (K2 + 2) V ho (by omega) (by omega) (by omega)
          rw [show ((K2 + 2 : Nat) : Int) = (K2 : Int) + 1 + 1 by omega] at this
          exact this)
        obtain ⟨K4, hK4⟩ : ∃ K4, K4 = K2 + 2 + 4 * d.patch.length := ⟨_, rfl⟩
        rw [← hK4] at HME
        have HCE : Hid ([.int .i64 (K : Int), .int .i64 ((K : Int) + 1), .slice A1 d.trust.length c1, .string ⟨(109 :: itoa (K2 : Int)).toArray⟩, .int .i64 ((K2 : Int) + 1), .slice A2 d.patch.length c2, .int .i64 (K4 : Int), .int .i64 ((K4 : Int) + 1), .int .i64 ((K4 : Int) + 1 + 1)] = (mQ K ⟨d, A1, c1, A2, c2⟩).cells) := Lib.hid (by
          unfold Dq.cells deedCs mQ mDeed
          simp only [seqI_len, medits_len]
          rw [hK4, hK2]
          simp
          omega)
        have HKN : Hid ((mEnd k (qs.take (j + 1)) : Int) = (K4 : Int) + 1 + 1 + 1) := Lib.hid (by rw [HNX.out, hK4, hK2]; unfold mNext; simp; omega)
        have HK42 := Lib.hid hK2
        have HK44 := Lib.hid hK4
        have hKb : K ≤ 70000 := by omega
        have hK2b : K2 ≤ 70010 := by omega
        have hK4b : K4 ≤ 70100 := by omega
        have S0 := hS
        have x0 : wr.cell? ⟨g, j * 9, none⟩ = some (.int .i64 d.kind) := (Row.midc (i := 0) (S0).row hX9 rfl).1
        have f0 : wr.frozen? ⟨g, j * 9, none⟩ = false := (Row.midc (i := 0) (u := .int .i64 d.kind) (S0).row hX9 rfl).2
        have x1 : wr.cell? ⟨g, j * 9 + 1, none⟩ = some (.int .i64 d.member) := (Row.midc (i := 1) (S0).row hX9 rfl).1
        have f1 : wr.frozen? ⟨g, j * 9 + 1, none⟩ = false := (Row.midc (i := 1) (u := .int .i64 d.member) (S0).row hX9 rfl).2
        have x2 : wr.cell? ⟨g, j * 9 + 2, none⟩ = some (.slice A1 d.trust.length c1) := (Row.midc (i := 2) (S0).row hX9 rfl).1
        have f2 : wr.frozen? ⟨g, j * 9 + 2, none⟩ = false := (Row.midc (i := 2) (u := .slice A1 d.trust.length c1) (S0).row hX9 rfl).2
        have S1 := (S0.put HBK.out htW hX9 0 (.int .i64 (K : Int)) (by simp [deedCs])).put HBK.out htW hX9 1 (.int .i64 ((K : Int) + 1)) (by simp [deedCs])
        have HS1 := Lib.hid S1
        clear hS S0 S1 hK2 hK4
        go_wp2_with (fail)
        refine (HMI.out _ HS1.out.o1).mono ?_
        rintro e V1 ⟨rfl, o1', g1⟩
        rw [show (if (seqI (K + 2) d.trust.length).length = 0 then none else (Value.slice A1 d.trust.length c1).ownBlock) = rowOf d.trust.length A1 by rw [seqI_len]; exact rowOf_eq d.trust A1 c1] at g1
        have S2 := HS1.out.ints HBK.out (seqI_len (K + 2) d.trust.length) o1' g1
        have HBK2 : Hid (Bk base top g os A1 A2 (seqI (K + 2) d.trust.length).length d.patch.length) := Lib.hid (by rw [seqI_len]; exact HBK.out)
        have HS2 := Lib.hid S2
        clear x0 f0 x1 f1 x2 f2 o1' g1 S2
        go_wp2_with (fail)
        refine (HMT.out _).mono ?_
        rintro e V2 ⟨rfl, hb2⟩
        have S3 := HS2.out.below hgb hb2
        have x3 : V2.cell? ⟨g, j * 9 + 3, none⟩ = some (.string d.title) := (Row.midc (i := 3) (S3).row hX9 rfl).1
        have f3 : V2.frozen? ⟨g, j * 9 + 3, none⟩ = false := (Row.midc (i := 3) (u := .string d.title) (S3).row hX9 rfl).2
        have x4 : V2.cell? ⟨g, j * 9 + 4, none⟩ = some (.int .i64 d.vote) := (Row.midc (i := 4) (S3).row hX9 rfl).1
        have f4 : V2.frozen? ⟨g, j * 9 + 4, none⟩ = false := (Row.midc (i := 4) (u := .int .i64 d.vote) (S3).row hX9 rfl).2
        have x5 : V2.cell? ⟨g, j * 9 + 5, none⟩ = some (.slice A2 d.patch.length c2) := (Row.midc (i := 5) (S3).row hX9 rfl).1
        have f5 : V2.frozen? ⟨g, j * 9 + 5, none⟩ = false := (Row.midc (i := 5) (u := .slice A2 d.patch.length c2) (S3).row hX9 rfl).2
        have HS4 := Lib.hid ((S3.put HBK2.out htW hX9 3 (.string ⟨(109 :: itoa (K2 : Int)).toArray⟩) (by simp [deedCs])).put HBK2.out htW hX9 4 (.int .i64 ((K2 : Int) + 1)) (by simp [deedCs]))
        clear hb2 S3
        generalize (⟨(109 :: itoa (K2 : Int)).toArray⟩ : ByteArray) = tt at *
        go_wp2_with (fail)
        refine (HME.out _ HS4.out.o2).mono ?_
        rintro e V3 ⟨rfl, o2', g3⟩
        rw [show (if (medits (K2 + 2) d.patch.length).length = 0 then none else (Value.slice A2 d.patch.length c2).ownBlock) = rowOf d.patch.length A2 by rw [medits_len]; exact rowOf_eq d.patch A2 c2] at g3
        have S5 := HS4.out.eds HBK2.out (medits_len (K2 + 2) d.patch.length) o2' g3
        have HBK3 : Hid (Bk base top g os A1 A2 (seqI (K + 2) d.trust.length).length (medits (K2 + 2) d.patch.length).length) := Lib.hid (by rw [medits_len]; exact HBK2.out)
        clear x3 f3 x4 f4 x5 f5 o2' g3
        have x6 : V3.cell? ⟨g, j * 9 + 6, none⟩ = some (.int .i64 d.start) := (Row.midc (i := 6) (S5).row hX9 rfl).1
        have f6 : V3.frozen? ⟨g, j * 9 + 6, none⟩ = false := (Row.midc (i := 6) (u := .int .i64 d.start) (S5).row hX9 rfl).2
        have x7 : V3.cell? ⟨g, j * 9 + 7, none⟩ = some (.int .i64 d.until_) := (Row.midc (i := 7) (S5).row hX9 rfl).1
        have f7 : V3.frozen? ⟨g, j * 9 + 7, none⟩ = false := (Row.midc (i := 7) (u := .int .i64 d.until_) (S5).row hX9 rfl).2
        have x8 : V3.cell? ⟨g, j * 9 + 8, none⟩ = some (.int .i64 d.closes) := (Row.midc (i := 8) (S5).row hX9 rfl).1
        have f8 : V3.frozen? ⟨g, j * 9 + 8, none⟩ = false := (Row.midc (i := 8) (u := .int .i64 d.closes) (S5).row hX9 rfl).2
        have S6 := ((S5.put HBK3.out htW hX9 6 (.int .i64 (K4 : Int)) (by simp [deedCs])).put HBK3.out htW hX9 7 (.int .i64 ((K4 : Int) + 1)) (by simp [deedCs])).put HBK3.out htW hX9 8 (.int .i64 ((K4 : Int) + 1 + 1)) (by simp [deedCs])
        have HS6 := Lib.hid S6
        have HFR : Hid (Row (((V3.setCell ⟨g, j * 9 + 6, none⟩ (.int .i64 (K4 : Int))).setCell ⟨g, j * 9 + 7, none⟩ (.int .i64 ((K4 : Int) + 1))).setCell ⟨g, j * 9 + 8, none⟩ (.int .i64 ((K4 : Int) + 1 + 1))) g ((mQs k (qs.take (j + 1)) ++ qs.drop (j + 1)).flatMap Dq.cells)) := Lib.hid (by
          rw [HROW.out, ← HCE.out]
          exact HS6.out.row)
        have HFI : Hid (∀ p ∈ mQs k (qs.take (j + 1)) ++ qs.drop (j + 1), Inn base (((V3.setCell ⟨g, j * 9 + 6, none⟩ (.int .i64 (K4 : Int))).setCell ⟨g, j * 9 + 7, none⟩ (.int .i64 ((K4 : Int) + 1))).setCell ⟨g, j * 9 + 8, none⟩ (.int .i64 ((K4 : Int) + 1 + 1))) p) := Lib.hid (by
          intro p hp
          rcases HINC.out p hp with hp | rfl
          · exact HS6.out.oth p hp
          · refine inn_mQ HONE.out ht4 hp16 (by omega) ?_ ?_
            · have := HS6.out.o1
              rw [seqI_len] at this
              exact this
            · have := HS6.out.o2
              rw [medits_len] at this
              rw [HK42.out, show K + 2 + d.trust.length + 2 = K + 4 + d.trust.length by omega] at this
              exact this)
        clear S5 S6
        go_wp2
        go_roundw
        case rel => exact ⟨j + 1, by omega, by go_num, by rw [HKN.out], HFR.out, HFI.out, HS6.out.gs, HS6.out.bel, HS6.out.tch⟩
        case measure => simp [RowKit.intOf]; omega
      · have hge : ¬ (j : Int) < (qs.length : Int) := by omega
        have hje : j = qs.length := by omega
        subst hje
        rw [List.take_of_length_le (Nat.le_refl _), List.drop_eq_nil_of_le (Nat.le_refl _), List.append_nil] at hrow hin
        rw [List.take_of_length_le (Nat.le_refl _)]
        have HF := Lib.hid hrow
        have HIN := Lib.hid hin
        clear hrow hin
        go_wp2
        go_ret
        exact ⟨rfl, ⟨⟨some ⟨g, 0, none⟩, c, by rw [mQs_len], by rw [mQs_len]; exact hc, by unfold maxLen; omega, fun _ => ⟨g, rfl, hgb, hgl, HF.out⟩⟩, HIN.out⟩, hbl, htc⟩
end Go.Proofs.YthlfpiflegfoiaaGreatDoor

namespace Go.Proofs.YthlfpiflegfoiaaGreatDoor
open Go.RowKit Go.Lib

theorem mQs_get : ∀ (qs : List Dq) (K j : Nat) (q : Dq), qs[j]? = some q → (mQs K qs)[j]? = some (mQ (mEnd K (qs.take j)) q)
  | [], _, _, _, h => by simp at h
  | x :: qs, K, 0, q, h => by
    simp only [List.getElem?_cons_zero, Option.some.injEq] at h
    subst h
    rfl
  | x :: qs, K, j + 1, q, h => by
    have := mQs_get qs (mNext K x.d) j q (by simpa using h)
    rw [mQs, List.getElem?_cons_succ, this, List.take_succ_cons, mEnd]
set_option maxRecDepth 100000 in
set_option maxHeartbeats 4000000 in
theorem heldDeeds_any (qs : List Dq) (v : Value) (base k : Nat) (w : World) (h : Ms base w v (mQs k qs)) (h416 : ∀ q ∈ qs, q.d.trust.length ≤ 4 ∧ q.d.patch.length ≤ 16) (hk0 : 0 < k) (hk : k ≤ 65536) (hn : qs.length ≤ 40) :
    Calls Tryz.prog 12 #[v, .int .i64 (k : Int)] w (RetB (.int .i64 (mEnd k qs : Int)) w) := by
  have HLIM : Hid (∀ j, j ≤ qs.length → k ≤ mEnd k (qs.take j) ∧ mEnd k (qs.take j) ≤ k + 4000) := Lib.hid (fun j hj => by
    have h1 := mEnd_pos (qs.take j) k
    have h2 := mEnd_le (qs.take j) k (fun q hq => h416 q (List.mem_of_mem_take hq))
    rw [List.length_take] at h2
    omega)
  have HM := Lib.hid (fun y : Aft w => h.below y.ok)
  have hv : ∃ A c, v = .slice A qs.length c ∧ qs.length ≤ c ∧ c ≤ maxLen := by
    obtain ⟨A, c, e, h1, h2, _⟩ := h.row
    rw [mQs_len] at e h1
    exact ⟨A, c, e, h1, h2⟩
  obtain ⟨A, c, rfl, hc, hm⟩ := hv
  unfold maxLen at hm
  have H4 := Lib.hid h416
  clear h h416
  refine calls_aft fun x0 => ?_
  go_enter Tryz.func12, Tryz.ntmps12
  go_wp2
  go_loopw [1, 5] (fun m i wr => ∃ (j : Nat) (x : Aft w), j ≤ qs.length ∧ i = .int .i64 (j : Int) ∧ m = .int .i64 (mEnd k (qs.take j) : Int) ∧ wr = x.val) (fun _ i _ => qs.length - (RowKit.intOf i).toNat)
  case atStart => exact ⟨0, x0, Nat.zero_le _, rfl, rfl, rfl⟩
  case round =>
    obtain ⟨j, x, hj, rfl, rfl, rfl⟩ := hrel
    by_cases hlt : j < qs.length
    · have hq : qs[j]? = some qs[j] := List.getElem?_eq_getElem hlt
      have htake : qs.take (j + 1) = qs.take j ++ [qs[j]] := List.take_succ_eq_append_getElem hlt
      have hget := mQs_get qs k j qs[j] hq
      have hnext : mEnd k (qs.take (j + 1)) = mNext (mEnd k (qs.take j)) qs[j].d := by rw [htake, mEnd_snoc]
      obtain ⟨lim1, lim2⟩ := HLIM.out j (by omega)
      obtain ⟨ht4, hp16⟩ := H4.out qs[j] (List.getElem_mem hlt)
      generalize qs[j] = q at *
      obtain ⟨d, A1, c1, A2, c2⟩ := q
      simp only at ht4 hp16
      have hne : mQs k qs ≠ [] := fun e => by rw [e] at hget; simp at hget
      obtain ⟨g, hA, _, _, _⟩ := (by
        obtain ⟨A', c', e, _, _, h3⟩ := (HM.out x).row
        injection e with e1 e2 e3
        obtain ⟨g, hA, h5, h6, h7⟩ := h3 hne
        exact ⟨g, e1.trans hA, h5, h6, h7⟩ : ∃ g, A = some ⟨g, 0, none⟩ ∧ base ≤ g ∧ g < x.val.heap.size ∧ Row x.val g ((mQs k qs).flatMap Dq.cells))
      subst hA
      obtain ⟨K, hK⟩ : ∃ K, K = mEnd k (qs.take j) := ⟨_, rfl⟩
      rw [← hK] at lim1 lim2 hnext hget ⊢
      have hcell : ∀ (y : Aft w) (i : Nat) (u : Value), (mQ K ⟨d, A1, c1, A2, c2⟩).cells[i]? = some u → y.val.cell? ⟨g, j * 9 + i, none⟩ = some u := fun y i u hu => by
        obtain ⟨A', c', e, _, _, h3⟩ := (HM.out y).row
        injection e with e1 e2 e3
        obtain ⟨g', hA', _, _, hR⟩ := h3 hne
        have : g = g' := by
          have := e1.trans hA'
          injection this with this
          injection this
        rw [this]
        exact hR.cell _ u (flat_at Dq.cells (size := 9) (fun _ => rfl) _ j _ i u hget hu (by have := (List.getElem?_eq_some_iff.1 hu).1; simpa [Dq.cells, deedCs] using this))
      have hinn : ∀ y : Aft w, Inn base y.val (mQ K ⟨d, A1, c1, A2, c2⟩) := fun y => (HM.out y).inn _ (List.mem_of_getElem? hget)
      have HNX := Lib.hid hnext
      have HHI : Hid (∀ y : Aft w, Calls Tryz.prog 23 #[.slice A1 d.trust.length c1, .int .i64 ((K : Int) + 1 + 1)] y.val (RetQ (.int .i64 ((K + 2 + d.trust.length : Nat) : Int)) y.val)) := Lib.hid (fun y => by
        have ho := (hinn y).o1
        have hI : Ints y.val y.val.heap.size (.slice A1 (seqI (K + 2) d.trust.length).length c1) (seqI (K + 2) d.trust.length) := ho.slR (size := 1) fun _ => rfl
        rw [seqI_len] at hI
        have := heldInts_any d.trust.length (K + 2) A1 c1 y.val hI (by omega) (by omega)
        rw [show ((K + 2 : Nat) : Int) = (K : Int) + 1 + 1 by omega] at this
        exact this)
      obtain ⟨K2, hK2⟩ : ∃ K2, K2 = K + 2 + d.trust.length := ⟨_, rfl⟩
      have HHE : Hid (∀ y : Aft w, Calls Tryz.prog 24 #[.slice A2 d.patch.length c2, .int .i64 ((K2 : Int) + 1 + 1)] y.val (RetB (.int .i64 ((K2 + 2 + 4 * d.patch.length : Nat) : Int)) y.val)) := Lib.hid (fun y => by
        have ho := (hinn y).o2
        have hE : Edits y.val y.val.heap.size (.slice A2 (medits (K + 4 + d.trust.length) d.patch.length).length c2) (medits (K + 4 + d.trust.length) d.patch.length) := ho.slR (size := 4) fun _ => rfl
        rw [medits_len, show K + 4 + d.trust.length = K2 + 2 by omega] at hE
        have := heldEdits_any d.patch.length (K2 + 2) A2 c2 y.val hE (by omega) (by omega) (by omega)
        rw [show ((K2 + 2 : Nat) : Int) = (K2 : Int) + 1 + 1 by omega] at this
        exact this)
      rw [← hK2] at HHI
      have HMT : Hid (∀ V, Calls Tryz.prog 21 #[.int .i64 (K2 : Int)] V (RetB (.string ⟨(109 :: itoa (K2 : Int)).toArray⟩) V)) := Lib.hid (fun V => markText_any K2 V (by omega) (by omega))
      obtain ⟨K4, hK4⟩ : ∃ K4, K4 = K2 + 2 + 4 * d.patch.length := ⟨_, rfl⟩
      rw [← hK4] at HHE
      have z0 : ∀ y : Aft w, y.val.cell? ⟨g, j * 9, none⟩ = some (.int .i64 (K : Int)) := fun y => hcell y 0 _ rfl
      have z1 : ∀ y : Aft w, y.val.cell? ⟨g, j * 9 + 1, none⟩ = some (.int .i64 ((K : Int) + 1)) := fun y => hcell y 1 _ rfl
      have z2 : ∀ y : Aft w, y.val.cell? ⟨g, j * 9 + 2, none⟩ = some (.slice A1 d.trust.length c1) := fun y => (hcell y 2 _ rfl).trans (by show some (Value.slice A1 (seqI _ d.trust.length).length c1) = _; rw [seqI_len])
      have z3 : ∀ y : Aft w, y.val.cell? ⟨g, j * 9 + 3, none⟩ = some (.string ⟨(109 :: itoa (K2 : Int)).toArray⟩) := fun y => (hcell y 3 _ rfl).trans (by rw [hK2]; rfl)
      have z4 : ∀ y : Aft w, y.val.cell? ⟨g, j * 9 + 4, none⟩ = some (.int .i64 ((K2 : Int) + 1)) := fun y => (hcell y 4 _ rfl).trans (by show some (Value.int .i64 ((K + 3 + d.trust.length : Nat) : Int)) = _; congr 2; omega)
      have z5 : ∀ y : Aft w, y.val.cell? ⟨g, j * 9 + 5, none⟩ = some (.slice A2 d.patch.length c2) := fun y => (hcell y 5 _ rfl).trans (by show some (Value.slice A2 (medits _ d.patch.length).length c2) = _; rw [medits_len])
      have z6 : ∀ y : Aft w, y.val.cell? ⟨g, j * 9 + 6, none⟩ = some (.int .i64 (K4 : Int)) := fun y => (hcell y 6 _ rfl).trans (by show some (Value.int .i64 ((K + 4 + d.trust.length + 4 * d.patch.length : Nat) : Int)) = _; congr 2; omega)
      have z7 : ∀ y : Aft w, y.val.cell? ⟨g, j * 9 + 7, none⟩ = some (.int .i64 ((K4 : Int) + 1)) := fun y => (hcell y 7 _ rfl).trans (by show some (Value.int .i64 ((K + 5 + d.trust.length + 4 * d.patch.length : Nat) : Int)) = _; congr 2; omega)
      have z8 : ∀ y : Aft w, y.val.cell? ⟨g, j * 9 + 8, none⟩ = some (.int .i64 ((K4 : Int) + 1 + 1)) := fun y => (hcell y 8 _ rfl).trans (by show some (Value.int .i64 ((K + 6 + d.trust.length + 4 * d.patch.length : Nat) : Int)) = _; congr 2; omega)
      have HKN : Hid ((mEnd k (qs.take (j + 1)) : Int) = (K4 : Int) + 1 + 1 + 1) := Lib.hid (by rw [HNX.out, hK4, hK2]; unfold mNext; simp; omega)
      have hKb : K ≤ 70000 := by omega
      have hK2b : K2 ≤ 70010 := by omega
      have hK4b : K4 ≤ 70100 := by omega
      have hn2 : ¬ (K2 : Int) < 0 := by omega
      have hn4 : ¬ (K4 : Int) < 0 := by omega
      clear hcell hinn hget hnext hq htake hne hK hK2 hK4
      generalize (⟨(109 :: itoa (K2 : Int)).toArray⟩ : ByteArray) = tt at *
      go_wp2_with (fail)
      refine (aft_q (HHI.out x)).mono ?_
      rintro e _ ⟨rfl, y1, rfl⟩
      go_upto_region 13 with (fail)
      refine wp_region_at (by kernel_rfl) (by kernel_rfl) ?_
      repeat (go_big_quiet_step ((first | (go_at_call 21; exact aft_b (HMT.out _)))))
      refine wpQuiet_nil ?_
      rintro _ ⟨y2, rfl⟩
      go_wp2_with (fail)
      refine (aft_b (HHE.out y2)).mono ?_
      rintro e _ ⟨rfl, y3, rfl⟩
      go_wp2
      go_roundw
      case rel => exact ⟨j + 1, y3, by omega, by go_num, by rw [HKN.out], rfl⟩
      case measure => simp [RowKit.intOf]; omega
    · have hge : ¬ (j : Int) < (qs.length : Int) := by omega
      have hfin : qs.take j = qs := List.take_of_length_le (by omega)
      rw [hfin]
      clear hfin
      go_wp2
      go_ret
      exact ⟨rfl, x.ok⟩
end Go.Proofs.YthlfpiflegfoiaaGreatDoor

namespace Go.Proofs.YthlfpiflegfoiaaGreatDoor
open Go.RowKit Go.Lib

set_option maxRecDepth 100000 in
set_option maxHeartbeats 4000000 in
theorem eqDeeds_any (ds : List Deed) (A : Option Addr) (n c : Nat) (A' : Option Addr) (n' c' : Nat) (w : World) (h1 : Deeds w w.heap.size (.slice A n c) ds) (h2 : Deeds w w.heap.size (.slice A' n' c') ds) :
    Calls Tryz.prog 10 #[.slice A n c, .slice A' n' c'] w (RetB (.bool true) w) := by
  obtain ⟨rfl, e1, g1⟩ := slR_len h1
  obtain ⟨rfl, e2, g2⟩ := slR_len h2
  have H1 := Lib.hid h1
  have H2 := Lib.hid h2
  have hlm : ds.length ≤ 9223372036854775807 := by omega
  clear h1 h2
  refine calls_aft fun x0 => ?_
  go_enter Tryz.func10, Tryz.ntmps10
  go_wp2
  go_loopw [5] (fun i wr => ∃ (k : Nat) (x : Aft w), k ≤ ds.length ∧ i = .int .i64 (k : Int) ∧ wr = x.val) (fun i _ => ds.length - (RowKit.intOf i).toNat)
  case atStart => exact ⟨0, x0, Nat.zero_le _, rfl, rfl⟩
  case round =>
    obtain ⟨k, x, hk, rfl, rfl⟩ := hrel
    by_cases hlt : k < ds.length
    · have hget : ds[k]? = some ds[k] := List.getElem?_eq_getElem hlt
      obtain ⟨b, off, A1, c1, A2, c2, rfl, hb, hP⟩ := deeds_get H1.out hget
      obtain ⟨b', off', A3, c3, A4, c4, rfl, hb', hQ⟩ := deeds_get H2.out hget
      clear hget
      generalize ds[k] = d at *
      have z0 := fun y : Aft w => y.cell hP.k0
      have t0 := fun y : Aft w => y.cell hQ.k0
      have z1 := fun y : Aft w => y.cell hP.k1
      have t1 := fun y : Aft w => y.cell hQ.k1
      have z2 := fun y : Aft w => y.cell hP.k2
      have t2 := fun y : Aft w => y.cell hQ.k2
      have z3 := fun y : Aft w => y.cell hP.k3
      have t3 := fun y : Aft w => y.cell hQ.k3
      have z4 := fun y : Aft w => y.cell hP.k4
      have t4 := fun y : Aft w => y.cell hQ.k4
      have z5 := fun y : Aft w => y.cell hP.k5
      have t5 := fun y : Aft w => y.cell hQ.k5
      have z6 := fun y : Aft w => y.cell hP.k6
      have t6 := fun y : Aft w => y.cell hQ.k6
      have z7 := fun y : Aft w => y.cell hP.k7
      have t7 := fun y : Aft w => y.cell hQ.k7
      have z8 := fun y : Aft w => y.cell hP.k8
      have t8 := fun y : Aft w => y.cell hQ.k8
      have HP := Lib.hid (fun y : Aft w => hP.aft y)
      have HQ := Lib.hid (fun y : Aft w => hQ.aft y)
      clear hP hQ
      go_wp2_with (fail)
      refine wp_region_at (by kernel_rfl) (by kernel_rfl) ?_
      repeat (go_big_quiet_step ((first | (go_at_call 19; exact aft_b (eqDeed_any d _ _ _ _ _ _ _ _ _ _ _ _ _ (HP.out _).ints (HP.out _).edits (HQ.out _).ints (HQ.out _).edits)))))
      refine wpQuiet_nil ?_
      rintro _ ⟨y, rfl⟩
      go_wp2
      go_roundw
      case rel => exact ⟨k + 1, y, by omega, by go_num, rfl⟩
      case measure => simp [RowKit.intOf]; omega
    · have hge : ¬ (k : Int) < (ds.length : Int) := by omega
      go_wp2
      go_ret
      exact ⟨rfl, x.ok⟩

set_option maxHeartbeats 400000 in
theorem readJS_any (s : ByteArray) (w : World) (hs9 : s.size ≤ 9223372036854775807) : Calls Tryz.prog 13 #[.string s] w (JP (readJ s.data.toList) w) := by
  have H := Lib.hid (readJ1_any s w hs9)
  generalize readJ s.data.toList = O at *
  go_enter Tryz.func13, Tryz.ntmps13
  go_wp2_with (fail)
  refine H.out.mono ?_
  rintro e w1 ⟨v, qs, rfl, hqs, hds, hb⟩
  have HDS := Lib.hid hds
  have HQ := Lib.hid hqs
  clear hds hqs H
  go_wp2
  go_ret2
  exact ⟨v, qs, rfl, HQ.out, HDS.out, hb⟩

noncomputable def recJ (t : List UInt8) : List Deed × Nat × Bool := if t.length ≤ 40000 then ((recT t).1, (recT t).2, true) else ([], 0, false)
theorem recJ_len (t : List UInt8) : (recJ t).1.length ≤ 40 := by
  unfold recJ
  split
  · exact recT_len t
  · exact Nat.zero_le _
def RJP (o : List Deed × Nat × Bool) (w : World) (e : Ending) (w' : World) : Prop :=
  ∃ v qs, e = .returned (.tuple #[v, .int .i64 (o.2.1 : Int), .bool o.2.2]) ∧ qs.map Dq.d = o.1 ∧ DsOwn w.heap.size w' v qs ∧ Below w.heap.size w w'
set_option maxHeartbeats 1000000 in
theorem recJ1_any (s : ByteArray) (w : World) (hs9 : s.size ≤ 9223372036854775807) : Calls Tryz.prog 8 #[.string s] w (RJP (recJ s.data.toList) w) := by
  have hsz : s.data.toList.length = s.size := by simp
  by_cases h4 : s.size ≤ 40000
  · have HR := Lib.hid (fun (W : World) (bw : Below w.heap.size w W) => recover1_any s W (by omega))
    unfold RecPost at HR
    have HD : Hid (recJ s.data.toList = ((recT s.data.toList).1, (recT s.data.toList).2, true)) := Lib.hid (by unfold recJ; rw [if_pos (by omega)])
    generalize recJ s.data.toList = O at *
    generalize recT s.data.toList = RT at *
    obtain ⟨RD, RN⟩ := RT
    obtain rfl : O = (RD, RN, true) := HD.out
    clear HD
    go_enter Tryz.func8, Tryz.ntmps8
    go_wp2_with (fail)
    refine (HR.out w (Below.refl _ _)).mono ?_
    rintro e w1 ⟨v, qs, rfl, hqs, hds, hb⟩
    have HDS := Lib.hid hds
    have HQ := Lib.hid hqs
    clear hqs hds HR
    go_wp2
    go_ret3
    exact ⟨v, qs, rfl, HQ.out, HDS.out, hb⟩
  · have HO : Hid (recJ s.data.toList = ([], 0, false)) := Lib.hid (by unfold recJ; rw [if_neg (fun hh => h4 (by omega))])
    generalize recJ s.data.toList = O at *
    obtain rfl : O = ([], 0, false) := HO.out
    clear HO
    have h4i : (40000 : Int) < (s.size : Int) := by omega
    go_enter Tryz.func8, Tryz.ntmps8
    go_wp2
    go_ret3
    exact ⟨.slice none 0 0, [], rfl, rfl, DsOwn.nil _ _, Below.refl _ _⟩
set_option maxHeartbeats 1000000 in
theorem recJ2_any (s : ByteArray) (w : World) (hs9 : s.size ≤ 9223372036854775807) (hE : EnvR w.heap.size w) : Calls Tryz.prog 9 #[.string s] w (RJP (recJ s.data.toList) w) := by
  have E := Lib.hid hE
  clear hE
  have hsz : s.data.toList.length = s.size := by simp
  by_cases h4 : s.size ≤ 40000
  · have HR := Lib.hid (fun (W : World) (bw : Below w.heap.size w W) => recover2_any s W (by omega) ((E.out.on bw).more bw.size))
    unfold RecPost at HR
    have HD : Hid (recJ s.data.toList = ((recT s.data.toList).1, (recT s.data.toList).2, true)) := Lib.hid (by unfold recJ; rw [if_pos (by omega)])
    generalize recJ s.data.toList = O at *
    generalize recT s.data.toList = RT at *
    obtain ⟨RD, RN⟩ := RT
    obtain rfl : O = (RD, RN, true) := HD.out
    clear HD
    go_enter Tryz.func9, Tryz.ntmps9
    go_wp2_with (fail)
    refine (HR.out w (Below.refl _ _)).mono ?_
    rintro e w1 ⟨v, qs, rfl, hqs, hds, hb⟩
    have HDS := Lib.hid hds
    have HQ := Lib.hid hqs
    clear hqs hds HR
    go_wp2
    go_ret3
    exact ⟨v, qs, rfl, HQ.out, HDS.out, hb⟩
  · have HO : Hid (recJ s.data.toList = ([], 0, false)) := Lib.hid (by unfold recJ; rw [if_neg (fun hh => h4 (by omega))])
    generalize recJ s.data.toList = O at *
    obtain rfl : O = ([], 0, false) := HO.out
    clear HO
    have h4i : (40000 : Int) < (s.size : Int) := by omega
    go_enter Tryz.func9, Tryz.ntmps9
    go_wp2
    go_ret3
    exact ⟨.slice none 0 0, [], rfl, rfl, DsOwn.nil _ _, Below.refl _ _⟩
end Go.Proofs.YthlfpiflegfoiaaGreatDoor

namespace Go.Proofs.YthlfpiflegfoiaaGreatDoor
open Go.RowKit Go.Lib

set_option maxRecDepth 100000 in
set_option maxHeartbeats 4000000 in
theorem lawReadJ_any (s : ByteArray) (w : World) (hE : EnvR w.heap.size w) (hs9 : s.size ≤ maxLen) : Calls Tryz.prog 5 #[.string s] w (RetB (.bool true) w) := by
  unfold maxLen at hs9
  have hs9' : s.size ≤ 9223372036854775807 := by omega
  have E := Lib.hid hE
  have hlen : ((readJ s.data.toList).getD []).length ≤ 40 := (readJ_ok s.data.toList).2
  have H1 := Lib.hid (readJS_any s w hs9')
  have H2 := Lib.hid (fun (W : World) (bw : Below w.heap.size w W) => readJ2_any s W hs9' ((E.out.on bw).more bw.size))
  unfold JP at H1 H2
  (generalize (readJ s.data.toList).getD [] = D at *; generalize (readJ s.data.toList).isSome = r at *)
  clear hE
  by_cases hs : s.size ≤ 1048576
  · go_enter Tryz.func5, Tryz.ntmps5
    go_wp2_with (fail)
    refine H1.out.mono ?_
    rintro e w1 ⟨vw, qw, rfl, hqw, hdw, hb1⟩
    obtain ⟨AW, cW, rfl, -, -⟩ := hdw.len
    have hDW := hdw.deeds
    rw [hqw] at hDW
    have hlw : qw.length = D.length := by rw [← hqw, List.length_map]
    rw [hlw] at hDW ⊢
    have HDW : Hid (∀ V, Below w1.heap.size w1 V → Deeds V V.heap.size (.slice AW D.length cW) D) := Lib.hid (fun V hb => (SlR.on hDW DeedR.stays hb hb.size))
    have HB1 := Lib.hid hb1
    clear hqw hdw hDW hlw
    go_wp2_with (fail)
    refine (H2.out w1 hb1).mono ?_
    rintro e w2 ⟨vg, qg, rfl, hqg, hdg, hb2⟩
    obtain ⟨AG, cG, rfl, -, -⟩ := hdg.len
    have hDG := hdg.deeds
    rw [hqg] at hDG
    have hlg : qg.length = D.length := by rw [← hqg, List.length_map]
    have HMS := Lib.hid hdg.ms
    have HDJ := Lib.hid hdg.dj
    have HG416 : Hid (∀ q ∈ qg, q.d.trust.length ≤ 4 ∧ q.d.patch.length ≤ 16) := Lib.hid (fun q hq => ⟨(hdg.inn q hq).t4, (hdg.inn q hq).p16⟩)
    rw [hlg] at hDG HMS HDJ ⊢
    have HDG := Lib.hid hDG
    have HB2 := Lib.hid hb2
    have hlq : qg.length ≤ 40 := by omega
    clear hqg hdg hDG hb1 hb2 hlg
    go_wp2_with (fail)
    refine (eqDeeds_any D AG _ cG AW _ cW w2 HDG.out (HDW.out w2 HB2.out)).mono ?_
    rintro e w3 ⟨rfl, hb3⟩
    have h13 : Below w1.heap.size w1 w3 := HB2.out.trans (hb3.mono HB2.out.size)
    have HB13 := Lib.hid h13
    have HMK := Lib.hid (markDeeds_any qg (.slice AG D.length cG) w1.heap.size w2.heap.size 1 w3 (HMS.out.below hb3) HDJ.out h13.size hb3.size (by omega) (by omega) hlq)
    unfold MarkedS at HMK
    have HHD : Hid (∀ V, Ms w1.heap.size V (.slice AG D.length cG) (mQs 1 qg) → Calls Tryz.prog 12 #[.slice AG D.length cG, .int .i64 1] V (RetB (.int .i64 (mEnd 1 qg : Int)) V)) := Lib.hid (fun V hm => heldDeeds_any qg (.slice AG D.length cG) w1.heap.size 1 V hm HG416.out (by omega) (by omega) hlq)
    generalize mEnd 1 qg = M at *
    clear hb3 h13
    go_wp2_with (fail)
    refine HMK.out.mono ?_
    rintro e w4 ⟨rfl, hms, hb4, -⟩
    have HM4 := Lib.hid hms
    have HB14 : Hid (Below w1.heap.size w1 w4) := Lib.hid (HB13.out.trans hb4)
    have hMn : ¬ (M : Int) < 0 := by omega
    clear hms hb4
    go_wp2_with (fail)
    refine (HHD.out w4 HM4.out).mono ?_
    rintro e w5 ⟨rfl, hb5⟩
    have HB45 := Lib.hid hb5
    have HB15 : Hid (Below w1.heap.size w1 w5) := Lib.hid (HB14.out.trans (hb5.mono HB14.out.size))
    clear hb5
    go_wp2_with (fail)
    refine (H2.out w5 (HB1.out.trans (HB15.out.mono HB1.out.size))).mono ?_
    rintro e w6 ⟨vh, qh, rfl, hqh, hdh, hb6⟩
    obtain ⟨AH, cH, rfl, -, -⟩ := hdh.len
    have hDH := hdh.deeds
    rw [hqh] at hDH
    have hlh : qh.length = D.length := by rw [← hqh, List.length_map]
    rw [hlh] at hDH ⊢
    have HDH := Lib.hid hDH
    have HB46 : Hid (Below w4.heap.size w4 w6) := Lib.hid (HB45.out.trans (hb6.mono HB45.out.size))
    have HB16 : Hid (Below w1.heap.size w1 w6) := Lib.hid (HB15.out.trans (hb6.mono HB15.out.size))
    clear hqh hdh hDH hlh hb6
    go_wp2_with (fail)
    refine (eqDeeds_any D AH _ cH AW _ cW w6 HDH.out (HDW.out w6 HB16.out)).mono ?_
    rintro e w7 ⟨rfl, hb7⟩
    have HB47 : Hid (Below w4.heap.size w4 w7) := Lib.hid (HB46.out.trans (hb7.mono HB46.out.size))
    have HB17 : Hid (Below w1.heap.size w1 w7) := Lib.hid (HB16.out.trans (hb7.mono HB16.out.size))
    clear hb7
    go_wp2_with (fail)
    refine (HHD.out w7 (HM4.out.below HB47.out)).mono ?_
    rintro e w8 ⟨rfl, hb8⟩
    have hfin : Below w.heap.size w w8 := (HB1.out.trans (HB17.out.mono HB1.out.size)).trans (hb8.mono (HB1.out.trans (HB17.out.mono HB1.out.size)).size)
    clear hb8
    go_wp2
    go_ret
    exact ⟨rfl, hfin⟩
  · have h2i : (1048576 : Int) < (s.size : Int) := by omega
    go_enter Tryz.func5, Tryz.ntmps5
    go_wp2
    go_ret
    exact ⟨rfl, Below.refl _ _⟩
set_option maxRecDepth 100000 in
set_option maxHeartbeats 4000000 in
theorem lawRecJ_any (s : ByteArray) (w : World) (hE : EnvR w.heap.size w) (hs9 : s.size ≤ maxLen) : Calls Tryz.prog 4 #[.string s] w (RetB (.bool true) w) := by
  unfold maxLen at hs9
  have hs9' : s.size ≤ 9223372036854775807 := by omega
  have E := Lib.hid hE
  have hlen : ((recJ s.data.toList).1).length ≤ 40 := recJ_len s.data.toList
  have H1 := Lib.hid (recJ1_any s w hs9')
  have H2 := Lib.hid (fun (W : World) (bw : Below w.heap.size w W) => recJ2_any s W hs9' ((E.out.on bw).more bw.size))
  unfold RJP at H1 H2
  (generalize recJ s.data.toList = RT at *; obtain ⟨D, n, r⟩ := RT; simp only at H1 H2 hlen)
  clear hE
  by_cases hs : s.size ≤ 1048576
  · go_enter Tryz.func4, Tryz.ntmps4
    go_wp2_with (fail)
    refine H1.out.mono ?_
    rintro e w1 ⟨vw, qw, rfl, hqw, hdw, hb1⟩
    obtain ⟨AW, cW, rfl, -, -⟩ := hdw.len
    have hDW := hdw.deeds
    rw [hqw] at hDW
    have hlw : qw.length = D.length := by rw [← hqw, List.length_map]
    rw [hlw] at hDW ⊢
    have HDW : Hid (∀ V, Below w1.heap.size w1 V → Deeds V V.heap.size (.slice AW D.length cW) D) := Lib.hid (fun V hb => (SlR.on hDW DeedR.stays hb hb.size))
    have HB1 := Lib.hid hb1
    clear hqw hdw hDW hlw
    go_wp2_with (fail)
    refine (H2.out w1 hb1).mono ?_
    rintro e w2 ⟨vg, qg, rfl, hqg, hdg, hb2⟩
    obtain ⟨AG, cG, rfl, -, -⟩ := hdg.len
    have hDG := hdg.deeds
    rw [hqg] at hDG
    have hlg : qg.length = D.length := by rw [← hqg, List.length_map]
    have HMS := Lib.hid hdg.ms
    have HDJ := Lib.hid hdg.dj
    have HG416 : Hid (∀ q ∈ qg, q.d.trust.length ≤ 4 ∧ q.d.patch.length ≤ 16) := Lib.hid (fun q hq => ⟨(hdg.inn q hq).t4, (hdg.inn q hq).p16⟩)
    rw [hlg] at hDG HMS HDJ ⊢
    have HDG := Lib.hid hDG
    have HB2 := Lib.hid hb2
    have hlq : qg.length ≤ 40 := by omega
    clear hqg hdg hDG hb1 hb2 hlg
    go_wp2_with (fail)
    refine (eqDeeds_any D AG _ cG AW _ cW w2 HDG.out (HDW.out w2 HB2.out)).mono ?_
    rintro e w3 ⟨rfl, hb3⟩
    have h13 : Below w1.heap.size w1 w3 := HB2.out.trans (hb3.mono HB2.out.size)
    have HB13 := Lib.hid h13
    have HMK := Lib.hid (markDeeds_any qg (.slice AG D.length cG) w1.heap.size w2.heap.size 1 w3 (HMS.out.below hb3) HDJ.out h13.size hb3.size (by omega) (by omega) hlq)
    unfold MarkedS at HMK
    have HHD : Hid (∀ V, Ms w1.heap.size V (.slice AG D.length cG) (mQs 1 qg) → Calls Tryz.prog 12 #[.slice AG D.length cG, .int .i64 1] V (RetB (.int .i64 (mEnd 1 qg : Int)) V)) := Lib.hid (fun V hm => heldDeeds_any qg (.slice AG D.length cG) w1.heap.size 1 V hm HG416.out (by omega) (by omega) hlq)
    generalize mEnd 1 qg = M at *
    clear hb3 h13
    go_wp2_with (fail)
    refine HMK.out.mono ?_
    rintro e w4 ⟨rfl, hms, hb4, -⟩
    have HM4 := Lib.hid hms
    have HB14 : Hid (Below w1.heap.size w1 w4) := Lib.hid (HB13.out.trans hb4)
    have hMn : ¬ (M : Int) < 0 := by omega
    clear hms hb4
    go_wp2_with (fail)
    refine (HHD.out w4 HM4.out).mono ?_
    rintro e w5 ⟨rfl, hb5⟩
    have HB45 := Lib.hid hb5
    have HB15 : Hid (Below w1.heap.size w1 w5) := Lib.hid (HB14.out.trans (hb5.mono HB14.out.size))
    clear hb5
    go_wp2_with (fail)
    refine (H2.out w5 (HB1.out.trans (HB15.out.mono HB1.out.size))).mono ?_
    rintro e w6 ⟨vh, qh, rfl, hqh, hdh, hb6⟩
    obtain ⟨AH, cH, rfl, -, -⟩ := hdh.len
    have hDH := hdh.deeds
    rw [hqh] at hDH
    have hlh : qh.length = D.length := by rw [← hqh, List.length_map]
    rw [hlh] at hDH ⊢
    have HDH := Lib.hid hDH
    have HB46 : Hid (Below w4.heap.size w4 w6) := Lib.hid (HB45.out.trans (hb6.mono HB45.out.size))
    have HB16 : Hid (Below w1.heap.size w1 w6) := Lib.hid (HB15.out.trans (hb6.mono HB15.out.size))
    clear hqh hdh hDH hlh hb6
    go_wp2_with (fail)
    refine (eqDeeds_any D AH _ cH AW _ cW w6 HDH.out (HDW.out w6 HB16.out)).mono ?_
    rintro e w7 ⟨rfl, hb7⟩
    have HB47 : Hid (Below w4.heap.size w4 w7) := Lib.hid (HB46.out.trans (hb7.mono HB46.out.size))
    have HB17 : Hid (Below w1.heap.size w1 w7) := Lib.hid (HB16.out.trans (hb7.mono HB16.out.size))
    clear hb7
    go_wp2_with (fail)
    refine (HHD.out w7 (HM4.out.below HB47.out)).mono ?_
    rintro e w8 ⟨rfl, hb8⟩
    have hfin : Below w.heap.size w w8 := (HB1.out.trans (HB17.out.mono HB1.out.size)).trans (hb8.mono (HB1.out.trans (HB17.out.mono HB1.out.size)).size)
    clear hb8
    go_wp2
    go_ret
    exact ⟨rfl, hfin⟩
  · have h2i : (1048576 : Int) < (s.size : Int) := by omega
    go_enter Tryz.func4, Tryz.ntmps4
    go_wp2
    go_ret
    exact ⟨rfl, Below.refl _ _⟩
end Go.Proofs.YthlfpiflegfoiaaGreatDoor
