/- The weights of members, walked: the reference's and the program's; the greatest of numbers. The leaders: plain, and walked: the reference's. The leaders, walked: the program's. FnExactLeadersOf, walked. -/
import Derived.Test.YtnandbammmcncaaGreatYG
import Derived.Test.YtnandbammmcncaaGreatYC
namespace Go.Proofs.YtnandbammmcncaaGreat
open Go.RowKit Go.Lib

def weightK (n : Nat) (E : List Int) : Nat → List Int
  | 0 => List.replicate n 0
  | k + 1 => match E[k]? with | some e => if 0 ≤ e then bump (weightK n E k) e.toNat else weightK n E k | none => weightK n E k
theorem weightK_len (n : Nat) (E : List Int) : ∀ k, (weightK n E k).length = n
  | 0 => by unfold weightK; simp
  | k + 1 => by
    have := weightK_len n E k
    unfold weightK
    split
    · split
      · rw [bump_len]; exact this
      · exact this
    · exact this
theorem weightK_no {n : Nat} {E : List Int} {k : Nat} {e : Int} (h : E[k]? = some e) (he : ¬ 0 ≤ e) : weightK n E (k + 1) = weightK n E k := by rw [weightK, h]; exact if_neg he
theorem weightK_yes {n : Nat} {E : List Int} {k j : Nat} (h : E[k]? = some (j : Int)) : weightK n E (k + 1) = bump (weightK n E k) j := by rw [weightK, h]; exact if_pos (Int.natCast_nonneg j)
theorem weightK_bound (n : Nat) (E : List Int) : ∀ k j, 0 ≤ (weightK n E k).getD j 0 ∧ (weightK n E k).getD j 0 ≤ k
  | 0, j => by
    unfold weightK
    rw [List.getD_eq_getElem?_getD, List.getElem?_replicate]
    split <;> simp
  | k + 1, j => by
    have ih := weightK_bound n E k
    cases hE : E[k]? with
    | none =>
      rw [weightK, hE]
      have := ih j
      simp only
      omega
    | some e =>
      rw [weightK, hE]
      simp only
      by_cases he : 0 ≤ e
      · rw [if_pos he]
        by_cases hl : e.toNat < (weightK n E k).length
        · rw [bump_get hl]
          have h1 := ih j
          have h2 := ih e.toNat
          split <;> omega
        · have : bump (weightK n E k) e.toNat = weightK n E k := by unfold bump; exact List.set_eq_of_length_le (by omega)
          rw [this]
          have := ih j
          omega
      · rw [if_neg he]
        have := ih j
        omega
theorem weight_row {n : Nat} {E : List Int} {k j : Nat} {w : World} {g : Nat} (hE : E[k]? = some (j : Int)) (hj : j < n) (h : Row w g ((weightK n E k).map (Value.int .i64))) :
    Row (w.setCell ⟨g, j, none⟩ (.int .i64 ((weightK n E k).getD j 0 + 1))) g ((weightK n E (k + 1)).map (Value.int .i64)) := by
  rw [weightK_yes hE]
  unfold bump
  rw [List.map_set]
  exact h.set j _ (by rw [List.length_map, weightK_len]; exact hj)
theorem weight_zero (n : Nat) (E : List Int) : costL (fun _ => 0) n = (weightK n E 0).map (Value.int .i64) := by
  rw [costL_zero]
  unfold weightK
  simp
noncomputable def weightV (V : List Voi) (rule : Int) : List Int := weightK V.length (endsL V rule) V.length
def WeiO (V : List Voi) (rule : Int) (base : Nat) (w' : World) (g : Nat) : Prop := base ≤ g ∧ g < w'.heap.size ∧ Row w' g ((weightV V rule).map (Value.int .i64))
def WeiPost (V : List Voi) (rule : Int) (w : World) (e : Ending) (w' : World) : Prop :=
  ∃ g, e = .returned (.slice (some ⟨g, 0, none⟩) V.length V.length) ∧ WeiO V rule w.heap.size w' g ∧ Below w.heap.size w w'
def Wei2Post (V : List Voi) (rule : Int) (w : World) (e : Ending) (w' : World) : Prop :=
  ∃ g, e = .returned (.tuple #[.slice (some ⟨g, 0, none⟩) V.length V.length, .bool true]) ∧ WeiO V rule w.heap.size w' g ∧ Below w.heap.size w w'

set_option maxRecDepth 100000 in
set_option maxHeartbeats 4000000 in
theorem weights1_any (V : List Voi) (rule : Int) (v : Value) (w : World) (hV : Vois w w.heap.size v V) (hok : VoisOk V) :
    Calls Tryz.prog 74 #[v, .int .i64 rule] w (WeiPost V rule w) := by
  obtain ⟨i0, hi, hz0, hz1, hz2⟩ := info_parts Tryz.infoI
  have hn12 := hok.n12
  obtain ⟨W, hmk, hrow, hgs, hbW⟩ := make_zero (P := Tryz.prog) w 29 2 i0 Tryz.underlying29 hi hz0 hz1 V.length (by rw [hz2]; omega) (by omega)
  have HSE := Lib.hid (settle1_any V rule v W (hV.on hbW hbW.size) hok)
  obtain ⟨A, c0, rfl, hc0, hm0, _⟩ := vois_at hV
  unfold SettlePost at HSE
  have HROW := Lib.hid hrow
  have HBW := Lib.hid hbW
  unfold WeiPost
  clear hV hok hi hz0 hz1 hz2 hrow hbW
  go_enter Tryz.func74, Tryz.ntmps74
  go_wp2_with (fail)
  refine HSE.out.mono ?_
  rintro e w4 ⟨g, cap, rfl, hel, hei, hen, hb4⟩
  have HB4 := Lib.hid (HBW.out.trans (hb4.mono HBW.out.size))
  have hR4 := HROW.out.below hb4 hgs
  rw [weight_zero V.length (endsL V rule)] at hR4
  have HR4 := Lib.hid hR4
  have HNO := Lib.hid hen
  have HEN := Lib.hid hei
  have HEL := Lib.hid hel
  have HWV : Hid (weightV V rule = weightK V.length (endsL V rule) V.length) := Lib.hid rfl
  have hgl := (hen.row.lt g rfl).1
  have hg4 := Nat.lt_of_lt_of_le hgs hb4.size
  have hgg : ¬ g = w.heap.size := by omega
  have hgb : w.heap.size ≤ w.heap.size := Nat.le_refl _
  clear hR4 hen hei hel hb4 HROW HSE hgl
  generalize endsL V rule = E at *
  go_wp2
  go_loopw [7] (fun i wr => ∃ k : Nat, k ≤ V.length ∧ i = .int .i64 (k : Int) ∧ Row wr w.heap.size ((weightK V.length E k).map (Value.int .i64)) ∧ Touch (fun c => c = w.heap.size) w4 wr) (fun i _ => V.length - (RowKit.intOf i).toNat)
  case atStart => exact ⟨0, Nat.zero_le _, rfl, HR4.out, Touch.refl _ _⟩
  case round =>
    obtain ⟨k, hk, rfl, hrw, ht⟩ := hrel
    have HRW := Lib.hid hrw
    have HT := Lib.hid ht
    clear hrw ht
    by_cases hlt : k < V.length
    · have hlE : k < E.length := by rw [HEL.out]; exact hlt
      have hek := HEN.out k _ (List.getElem?_eq_getElem hlE)
      have HE := Lib.hid (List.getElem?_eq_getElem hlE)
      have x1 := HT.out.cellAt (HNO.out.at HE.out) hgg
      rcases isEnd_range hek with he | ⟨j, he, hj⟩
      · have HN : Hid (Row wr w.heap.size ((weightK V.length E (k + 1)).map (Value.int .i64))) := Lib.hid (by rw [weightK_no HE.out (by omega)]; exact HRW.out)
        rw [he] at x1
        clear hek he
        go_wp2
        go_roundw
        case rel => exact ⟨k + 1, by omega, by go_num, HN.out, HT.out⟩
        case measure => simp [RowKit.intOf]; omega
      · have hE2 : E[k]? = some (j : Int) := by rw [HE.out, he]
        have hji : (j : Int) < (V.length : Int) := by omega
        have hj0 : (0 : Int) ≤ (j : Int) := by omega
        have hlc : j < (weightK V.length E k).length := by rw [weightK_len]; exact hj
        have x5 := HRW.out.cell j _ (map_getD hlc)
        have f5 := HRW.out.free j (by rw [List.length_map]; exact hlc)
        have hzb := weightK_bound V.length E k j
        have HN := Lib.hid (weight_row hE2 hj HRW.out)
        have HT9 := Lib.hid (HT.out.setCell (p := ⟨w.heap.size, j, none⟩) rfl (.int .i64 ((weightK V.length E k).getD j 0 + 1)))
        rw [he] at x1
        clear hek he hE2 hlc
        generalize (weightK V.length E k).getD j 0 = z at *
        go_wp2
        go_roundw
        case rel => exact ⟨k + 1, by omega, by go_num, HN.out, HT9.out⟩
        case measure => simp [RowKit.intOf]; omega
    · have hge : ¬ (k : Int) < (V.length : Int) := by omega
      have HFN : Hid (Row wr w.heap.size ((weightV V rule).map (Value.int .i64))) := Lib.hid (by
        have : k = V.length := by omega
        rw [HWV.out, ← this]
        rw [this] at HRW ⊢
        exact HRW.out)
      have HBF := Lib.hid (HB4.out.trans (HT.out.below HB4.out.size (fun b hb => by rw [hb]; exact hgb)))
      have hwl : w.heap.size < wr.heap.size := Nat.lt_of_lt_of_le hg4 HT.out.size
      go_wp2
      go_ret
      exact ⟨w.heap.size, rfl, ⟨hgb, hwl, HFN.out⟩, HBF.out⟩
set_option maxRecDepth 100000 in
set_option maxHeartbeats 4000000 in
theorem weights2_any (V : List Voi) (rule : Int) (v : Value) (w : World) (hr0 : 0 ≤ rule) (hr2 : rule ≤ 2) (hV : Vois w w.heap.size v V) (hok : VoisOk V) :
    Calls Tryz.prog 77 #[v, .int .i64 rule] w (Wei2Post V rule w) := by
  obtain ⟨i0, hi, hz0, hz1, hz2⟩ := info_parts Tryz.infoI
  have hn12 := hok.n12
  have HSE := Lib.hid (settle2_any V rule v w hr0 hr2 hV hok)
  obtain ⟨A, c0, rfl, hc0, hm0, _⟩ := vois_at hV
  unfold Settle2Post at HSE
  unfold Wei2Post
  clear hV hok
  go_enter Tryz.func77, Tryz.ntmps77
  go_wp2_with (fail)
  refine HSE.out.mono ?_
  rintro e w3 ⟨g, cap, rfl, hel, hei, hen, hb3⟩
  obtain ⟨w4, hmk, hrow, hgs, hbW⟩ := make_zero (P := Tryz.prog) w3 29 2 i0 Tryz.underlying29 hi hz0 hz1 V.length (by rw [hz2]; omega) (by omega)
  have HB4 := Lib.hid (hb3.trans (hbW.mono hb3.size))
  rw [weight_zero V.length (endsL V rule)] at hrow
  have HR4 := Lib.hid hrow
  have HNO := Lib.hid (hen.below hbW)
  have HEN := Lib.hid hei
  have HEL := Lib.hid hel
  have HWV : Hid (weightV V rule = weightK V.length (endsL V rule) V.length) := Lib.hid rfl
  have hgl := (hen.row.lt g rfl).2
  have hg4 := hgs
  have hgg : ¬ g = w3.heap.size := by omega
  have hgb : w.heap.size ≤ w3.heap.size := hb3.size
  clear hrow hen hei hel hb3 hbW HSE hgl hi hz0 hz1 hz2
  generalize endsL V rule = E at *
  go_wp2
  go_loopw [10, 24] (fun _ i wr => ∃ k : Nat, k ≤ V.length ∧ i = .int .i64 (k : Int) ∧ Row wr w3.heap.size ((weightK V.length E k).map (Value.int .i64)) ∧ Touch (fun c => c = w3.heap.size) w4 wr) (fun _ i _ => V.length - (RowKit.intOf i).toNat)
  case atStart => exact ⟨0, Nat.zero_le _, rfl, HR4.out, Touch.refl _ _⟩
  case round =>
    obtain ⟨k, hk, rfl, hrw, ht⟩ := hrel
    have HRW := Lib.hid hrw
    have HT := Lib.hid ht
    clear hrw ht
    by_cases hlt : k < V.length
    · have hlE : k < E.length := by rw [HEL.out]; exact hlt
      have hek := HEN.out k _ (List.getElem?_eq_getElem hlE)
      have HE := Lib.hid (List.getElem?_eq_getElem hlE)
      have x1 := HT.out.cellAt (HNO.out.at HE.out) hgg
      rcases isEnd_range hek with he | ⟨j, he, hj⟩
      · have HN : Hid (Row wr w3.heap.size ((weightK V.length E (k + 1)).map (Value.int .i64))) := Lib.hid (by rw [weightK_no HE.out (by omega)]; exact HRW.out)
        rw [he] at x1
        clear hek he
        go_wp2
        go_roundw
        case rel => exact ⟨k + 1, by omega, by go_num, HN.out, HT.out⟩
        case measure => simp [RowKit.intOf]; omega
      · have hE2 : E[k]? = some (j : Int) := by rw [HE.out, he]
        have hji : (j : Int) < (V.length : Int) := by omega
        have hj0 : (0 : Int) ≤ (j : Int) := by omega
        have hlc : j < (weightK V.length E k).length := by rw [weightK_len]; exact hj
        have x5 := HRW.out.cell j _ (map_getD hlc)
        have f5 := HRW.out.free j (by rw [List.length_map]; exact hlc)
        have hzb := weightK_bound V.length E k j
        have HN := Lib.hid (weight_row hE2 hj HRW.out)
        have HT9 := Lib.hid (HT.out.setCell (p := ⟨w3.heap.size, j, none⟩) rfl (.int .i64 ((weightK V.length E k).getD j 0 + 1)))
        rw [he] at x1
        clear hek he hE2 hlc
        generalize (weightK V.length E k).getD j 0 = z at *
        go_wp2
        go_roundw
        case rel => exact ⟨k + 1, by omega, by go_num, HN.out, HT9.out⟩
        case measure => simp [RowKit.intOf]; omega
    · have hge : ¬ (k : Int) < (V.length : Int) := by omega
      have HFN : Hid (Row wr w3.heap.size ((weightV V rule).map (Value.int .i64))) := Lib.hid (by
        have : k = V.length := by omega
        rw [HWV.out, ← this]
        rw [this] at HRW ⊢
        exact HRW.out)
      have HBF := Lib.hid (HB4.out.trans (HT.out.below HB4.out.size (fun b hb => by rw [hb]; exact hgb)))
      have hwl : w3.heap.size < wr.heap.size := Nat.lt_of_lt_of_le hg4 HT.out.size
      go_wp2
      go_ret2
      exact ⟨w3.heap.size, rfl, ⟨hgb, hwl, HFN.out⟩, HBF.out⟩

theorem foldmax_ge : ∀ (L : List Int) (m : Int), m ≤ L.foldl max m ∧ (∀ z ∈ L, z ≤ L.foldl max m) ∧ (L.foldl max m = m ∨ L.foldl max m ∈ L)
  | [], m => ⟨Int.le_refl _, (fun z hz => by cases hz), Or.inl rfl⟩
  | x :: L, m => by
    obtain ⟨h1, h2, h3⟩ := foldmax_ge L (max m x)
    rw [List.foldl_cons]
    refine ⟨by omega, fun z hz => ?_, ?_⟩
    · rcases List.mem_cons.1 hz with rfl | hz
      · omega
      · exact h2 z hz
    · rcases h3 with h3 | h3
      · rcases Int.le_total m x with h | h
        · right
          rw [h3, Int.max_eq_right h]
          exact List.mem_cons_self ..
        · left
          rw [h3, Int.max_eq_left h]
      · exact Or.inr (List.mem_cons_of_mem _ h3)
theorem fold_take {L : List Int} {m : Int} {k : Nat} (h : k < L.length) : (L.take (k + 1)).foldl max m = max ((L.take k).foldl max m) L[k] := by
  rw [List.take_succ_eq_append_getElem h, List.foldl_append]
  rfl
set_option maxHeartbeats 1000000 in
theorem max1_any (x y : Int) (w : World) : Calls Tryz.prog 75 #[.int .i64 x, .int .i64 y] w (RetB (.int .i64 (max x y)) w) := by
  by_cases h : y < x
  · rw [Int.max_eq_left (by omega)]
    go_enter Tryz.func75, Tryz.ntmps75
    go_wp2
    go_ret
    exact ⟨rfl, Below.refl _ _⟩
  · rw [Int.max_eq_right (by omega)]
    go_enter Tryz.func75, Tryz.ntmps75
    go_wp2
    go_ret
    exact ⟨rfl, Below.refl _ _⟩
set_option maxHeartbeats 2000000 in
theorem max2_any (L : List Int) (v : Value) (w : World) (h : Ints w w.heap.size v L) (h0 : 0 < L.length) (hl : L.length ≤ 1000) : Calls Tryz.prog 78 #[v] w (RetB (.int .i64 (L.foldl max (L[0]'h0))) w) := by
  have hg0 : L[0]? = some (L[0]'h0) := List.getElem?_eq_getElem h0
  have HI := Lib.hid h
  obtain ⟨A, c, rfl, hc, hm⟩ := h.sl
  obtain ⟨b, off, rfl, hb, x0⟩ := ints_get h hg0
  rw [Nat.add_zero] at x0
  have HF : Hid (max (L[0]'h0) (L[0]'h0) = L[0]'h0) := Lib.hid (by omega)
  have HFT : Hid ((L.take 1).foldl max (L[0]'h0) = L[0]'h0) := Lib.hid (by rw [fold_take h0, List.take_zero]; exact Int.max_self _)
  have h1 : ¬ (L.length : Int) < 1 := by omega
  have hl0 : (0 : Int) < (L.length : Int) := by omega
  obtain ⟨z0, hz0⟩ : ∃ z, z = L[0]'h0 := ⟨_, rfl⟩
  rw [← hz0] at HFT x0 ⊢
  clear h hg0 HF hz0
  go_enter Tryz.func78, Tryz.ntmps78
  go_wp2
  go_loopw [3, 4] (fun m i wr => ∃ k : Nat, 1 ≤ k ∧ k ≤ L.length ∧ i = .int .i64 (k : Int) ∧ m = .int .i64 ((L.take k).foldl max z0) ∧ wr = w) (fun _ i _ => L.length - (RowKit.intOf i).toNat)
  case atStart => exact ⟨1, Nat.le_refl _, h0, rfl, by rw [HFT.out], by first | rfl | trivial⟩
  case round =>
    obtain ⟨k, hk1, hk, rfl, rfl, rfl⟩ := hrel
    by_cases hlt : k < L.length
    · obtain ⟨b2, o2, e2, _, x2⟩ := ints_get HI.out (List.getElem?_eq_getElem hlt)
      injection e2 with e2
      injection e2 with e3 e4
      subst e3 e4
      have HN := Lib.hid (fold_take (m := z0) hlt)
      generalize (L.take k).foldl max z0 = m at *
      generalize L[k] = z at *
      go_wp2
      go_roundw
      case rel => exact ⟨k + 1, by omega, by omega, by go_num, by rw [HN.out], by first | rfl | trivial⟩
      case measure => simp [RowKit.intOf]; omega
    · have hge : ¬ (k : Int) < (L.length : Int) := by omega
      have HN : Hid ((L.take k).foldl max z0 = L.foldl max z0) := Lib.hid (by rw [List.take_of_length_le (by omega)])
      generalize (L.take k).foldl max z0 = m at *
      go_wp2
      go_ret
      exact ⟨by rw [← HN.out]; rfl, Below.refl _ _⟩
end Go.Proofs.YtnandbammmcncaaGreat

namespace Go.Proofs.YtnandbammmcncaaGreat
open Go.RowKit Go.Lib

def pickK (p : Nat → Bool) : Nat → List Int
  | 0 => []
  | k + 1 => pickK p k ++ (if p k = true then [(k : Int)] else [])
theorem pickK_len (p : Nat → Bool) : ∀ k, (pickK p k).length ≤ k
  | 0 => Nat.le_refl _
  | k + 1 => by
    have := pickK_len p k
    unfold pickK
    rw [List.length_append]
    split <;> simp <;> omega
theorem pickK_yes {p : Nat → Bool} {k : Nat} (h : p k = true) : pickK p (k + 1) = pickK p k ++ [(k : Int)] := by rw [pickK, if_pos h]
theorem pickK_no {p : Nat → Bool} {k : Nat} (h : p k = false) : pickK p (k + 1) = pickK p k := by rw [pickK, if_neg (by rw [h]; simp), List.append_nil]
def leadP (W : List Int) (k : Nat) : Bool := W.getD k 0 == W.foldl max 1
theorem leadP_at {W : List Int} {k : Nat} (h : k < W.length) : leadP W k = (W[k] == W.foldl max 1) := by unfold leadP; simp [List.getD, h]
/-- The program's test says the same. -/
theorem lead2 {W : List Int} (h0 : 0 < W.length) (hz : ∀ z ∈ W, 0 ≤ z) {k : Nat} (hk : k < W.length) : ((W[k] == W.foldl max (W[0]'h0)) && decide (0 < W.foldl max (W[0]'h0))) = leadP W k := by
  rw [leadP_at hk]
  obtain ⟨a1, a2, a3⟩ := foldmax_ge W 1
  obtain ⟨b1, b2, b3⟩ := foldmax_ge W (W[0]'h0)
  have hb : W.foldl max (W[0]'h0) ∈ W := by
    rcases b3 with b3 | b3
    · rw [b3]; exact List.getElem_mem h0
    · exact b3
  have hwk := a2 _ (List.getElem_mem hk)
  have hwk2 := b2 _ (List.getElem_mem hk)
  have hb2 := a2 _ hb
  have hb0 := hz _ hb
  by_cases hp : 0 < W.foldl max (W[0]'h0)
  · have e : W.foldl max 1 = W.foldl max (W[0]'h0) := by
      rcases a3 with a3 | a3
      · omega
      · have := b2 _ a3
        omega
    rw [e, decide_eq_true hp, Bool.and_true]
  · have hne : (W[k] == W.foldl max 1) = false := by
      simp only [beq_eq_false_iff_ne, ne_eq]
      omega
    rw [hne, decide_eq_false hp, Bool.and_false]
theorem weightV_len {V : List Voi} {rule : Int} : (weightV V rule).length = V.length := weightK_len _ _ _
theorem weightV_pos {V : List Voi} {rule : Int} : ∀ z ∈ weightV V rule, 0 ≤ z := fun z hz => by
  obtain ⟨k, hk, rfl⟩ := List.mem_iff_getElem.1 hz
  have := (weightK_bound V.length (endsL V rule) V.length k).1
  unfold weightV at hk ⊢
  rw [List.getD_eq_getElem?_getD, List.getElem?_eq_getElem hk] at this
  exact this
noncomputable def leadM (a : Asm) (vs : List Int) : List Int := pickK (leadP (weightV (voices vs a.trust) a.rule)) a.trust.length
noncomputable def leadOf (a : Asm) (t : ByteArray) : List Int := if knownB a t = true then leadM a (motOf a t).votes else []
theorem leadOf_no {a : Asm} {t : ByteArray} (h : knownB a t = false) : leadOf a t = [] := by unfold leadOf; rw [if_neg (by rw [h]; simp)]
theorem leadOf_yes {a : Asm} {t : ByteArray} (h : knownB a t = true) : leadOf a t = leadM a (motOf a t).votes := by unfold leadOf; rw [if_pos h]
theorem leadOf_len (a : Asm) (t : ByteArray) : (leadOf a t).length ≤ 1048576 := by
  cases h : knownB a t with
  | false => rw [leadOf_no h]; simp
  | true =>
    rw [leadOf_yes h]
    have := (okAsm_ok (known_at h).1).n12
    have := pickK_len (leadP (weightV (voices (motOf a t).votes a.trust) a.rule)) a.trust.length
    unfold leadM
    omega

set_option maxRecDepth 100000 in
set_option maxHeartbeats 8000000 in
theorem leadOf1_any (a : Asm) (x : VAsm) (t : ByteArray) (w : World) (h : AsmR w w.heap.size x a) (hs : AsmSz a) : Calls Tryz.prog 26 #[asmV a x, .string t] w (ResP (intK (leadOf a t)).own (knownB a t) w) := by
  obtain ⟨At, ct, Ab, cb, Ac, cc, Am, cm, rfl⟩ := h.slices
  unfold asmV
  obtain ⟨W, hW⟩ : ∃ W : World, W = w.alloc (.cells #[.int .i64 a.day, .int .i64 a.rule, .slice At a.trust.length ct, .slice Ab a.base.length cb, .slice Ac a.acts.length cc, .slice Am a.mots.length cm] 36) := ⟨_, rfl⟩
  have bW : Below w.heap.size w W := by rw [hW]; exact (Below.refl _ _).alloc (Nat.le_refl _) _
  have a1 : Row W w.heap.size [.int .i64 a.day, .int .i64 a.rule, .slice At a.trust.length ct, .slice Ab a.base.length cb, .slice Ac a.acts.length cc, .slice Am a.mots.length cm] := by rw [hW]; exact Row.new w _ _
  have z0 := fun y : Aft W => y.cell (a1.cell 0 _ rfl)
  have z1 := fun y : Aft W => y.cell (a1.cell 1 _ rfl)
  have z2 := fun y : Aft W => y.cell (a1.cell 2 _ rfl)
  have z3 := fun y : Aft W => y.cell (a1.cell 3 _ rfl)
  have z4 := fun y : Aft W => y.cell (a1.cell 4 _ rfl)
  have z5 := fun y : Aft W => y.cell (a1.cell 5 _ rfl)
  have hRW := h.on bW bW.size
  have HR := Lib.hid (fun y : Aft W => h.on (aft_done bW y) (aft_done bW y).size)
  have HGM : Hid (0 < a.mots.length → ∃ b off, Am = some ⟨b, off, none⟩ ∧ b < W.heap.size ∧ ∀ (k : Nat) (m : Mot), a.mots[k]? = some m → ∃ A1 c1 A2 c2, MotP W W.heap.size b (off + k * 8) m A1 c1 A2 c2) := Lib.hid (by
    obtain ⟨A, c, hv, _, _, h⟩ := mots_at hRW.m
    have hv : Value.slice Am a.mots.length cm = .slice A a.mots.length c := hv
    injection hv with e1 e2 e3
    rw [e1]
    exact h)
  have HW := Lib.hid hW
  have HROW := Lib.hid a1
  have sW : w.heap.size < W.heap.size := by rw [hW]; simp
  obtain ⟨x0, hx0⟩ : ∃ y : Aft W, y.val = W := ⟨⟨W, Below.refl _ _⟩, rfl⟩
  have HX0 := Lib.hid hx0
  have HOK := Lib.hid (fun y : Aft W => ok1_any a ⟨.slice At a.trust.length ct, .slice Ab a.base.length cb, .slice Ac a.acts.length cc, .slice Am a.mots.length cm⟩ w.heap.size 0 y.val (z0 y) (z1 y) (z2 y) (z3 y) (z4 y) (z5 y) (HR.out y) hs)
  have HFI := Lib.hid (fun y : Aft W => find1_anyT a ⟨.slice At a.trust.length ct, .slice Ab a.base.length cb, .slice Ac a.acts.length cc, .slice Am a.mots.length cm⟩ t w.heap.size 0 y.val (by rw [Nat.zero_add]; exact z5 y) (HR.out y).m)
  clear h hW a1 hx0 hRW hs
  cases hv : okAsm a with
  | false =>
    have hkb := known_bad (t := t) hv
    have HN := Lib.hid (leadOf_no hkb)
    rw [hv] at HOK
    rw [hkb]
    clear hv hkb
    go_enter Tryz.func26, Tryz.ntmps26
    go_wp2_with (fail)
    rw [← HW.out, ← HX0.out]
    refine (aft_b (HOK.out x0)).mono ?_
    rintro e _ ⟨rfl, x1, rfl⟩
    go_wp2
    go_ret2
    exact ⟨_, rfl, by show OwnL intCells (leadOf a t) _ _ _; rw [HN.out]; exact OwnL.nil _ _ _, aft_done bW x1⟩
  | true =>
    rw [hv] at HOK
    cases hk : knownB a t with
    | false =>
      have hn := known_not hk hv
      have HN := Lib.hid (leadOf_no hk)
      generalize findT a.mots t = n at *
      clear hk hv
      go_enter Tryz.func26, Tryz.ntmps26
      go_wp2_with (fail)
      rw [← HW.out, ← HX0.out]
      refine (aft_b (HOK.out x0)).mono ?_
      rintro e _ ⟨rfl, x1, rfl⟩
      go_wp2_with (fail)
      refine (aft_b (HFI.out x1)).mono ?_
      rintro e _ ⟨rfl, x2, rfl⟩
      go_wp2
      go_ret2
      exact ⟨_, rfl, by show OwnL intCells (leadOf a t) _ _ _; rw [HN.out]; exact OwnL.nil _ _ _, aft_done bW x2⟩
    | true =>
      have hok := okAsm_ok hv
      have hn12 := hok.n12
      obtain ⟨_, k, hfk, hkl, hkm⟩ := known_at hk
      have HY := Lib.hid (leadOf_yes hk)
      have hvl := hok.votes hkm
      obtain ⟨b2, off, rfl, hb2, hcell⟩ := HGM.out (by omega)
      obtain ⟨A1, c1, A2, c2, hP⟩ := hcell k _ hkm
      have t6 := fun y : Aft W => y.cell hP.k6
      have HI := Lib.hid (fun y : Aft W => (hP.on y.ok y.ok.size hb2).ints)
      rw [hfk] at HFI
      have hnk : ¬ (k : Int) < 0 := by omega
      have hk0 : (0 : Int) ≤ (k : Int) := by omega
      have hki : (k : Int) < (a.mots.length : Int) := by omega
      obtain ⟨i0, hi, hz0, hz1, hz2⟩ := info_parts Tryz.infoI
      generalize motOf a t = q at *
      have hvk := hok.vois hvl
      have HVO := Lib.hid (fun (W' : World) (h : BehC W W') => voices1_any a At ct q.votes w.heap.size 0 A2 c2 W' (by rw [Nat.zero_add]; exact z2 ⟨W', h⟩) (HR.out ⟨W', h⟩).t (HI.out ⟨W', h⟩) hvl (by omega) (fun l hl => Nat.le_trans (hok.t4 l hl) (by omega)))
      have HSE := Lib.hid (fun (W' : World) (vv : Value) (hv : Vois W' W'.heap.size vv (voices q.votes a.trust)) => weights1_any (voices q.votes a.trust) a.rule vv W' hv hvk)
      have HK := Lib.hid (fun (W' : World) (h : BehC W W') => (⟨z1 ⟨W', h⟩, z5 ⟨W', h⟩, t6 ⟨W', h⟩, h⟩ : W'.cell? ⟨w.heap.size, 1, none⟩ = some (.int .i64 a.rule) ∧ W'.cell? ⟨w.heap.size, 5, none⟩ = some (.slice (some ⟨b2, off, none⟩) a.mots.length cm) ∧ W'.cell? ⟨b2, off + k * 8 + 6, none⟩ = some (.slice A2 q.votes.length c2) ∧ BehC W W'))
      have HKB : Hid (∀ W', (W'.cell? ⟨w.heap.size, 1, none⟩ = some (.int .i64 a.rule) ∧ W'.cell? ⟨w.heap.size, 5, none⟩ = some (.slice (some ⟨b2, off, none⟩) a.mots.length cm) ∧ W'.cell? ⟨b2, off + k * 8 + 6, none⟩ = some (.slice A2 q.votes.length c2) ∧ BehC W W') → BehC W W') := Lib.hid (fun W' h => h.2.2.2)
      unfold VoiPost at HVO
      unfold WeiPost at HSE
      have HVL := Lib.hid hvl
      clear hk hv hfk hkm hcell hP hvl hok hvk
      go_enter Tryz.func26, Tryz.ntmps26
      go_wp2_with (fail)
      rw [← HW.out, ← HX0.out]
      refine (aft_b (HOK.out x0)).mono ?_
      rintro e _ ⟨rfl, x1, rfl⟩
      go_wp2_with (fail)
      refine (aft_b (HFI.out x1)).mono ?_
      rintro e _ ⟨rfl, x2, rfl⟩
      go_upto_region 6 with (fail)
      have hS0 : BehC W x2.val := x2.ok
      obtain ⟨q1, q2, q3, -⟩ := HK.out _ hS0
      obtain ⟨U, hU⟩ : ∃ U, U = x2.val := ⟨_, rfl⟩
      rw [← hU] at hS0 q1 q2 q3 ⊢
      clear hU z0 z1 z2 z3 z4 z5 t6
      go_region_held3 (fun w' => w'.cell? ⟨w.heap.size, 1, none⟩ = some (.int .i64 a.rule) ∧ w'.cell? ⟨w.heap.size, 5, none⟩ = some (.slice (some ⟨b2, off, none⟩) a.mots.length cm) ∧ w'.cell? ⟨b2, off + k * 8 + 6, none⟩ = some (.slice A2 q.votes.length c2) ∧ BehC W w')
        (first | exact HK.out _ hS3 | exact HK.out _ (BehC.go hb4 hS3) | exact HK.out _ hS0 | exact HK.out _ hS0.draw)
        (first
          | (go_at_call 51; refine Calls.mono (HVO.out _ (HKB.out _ (by assumption))) ?_; rintro e w3 ⟨A3, c3, L3, rfl, hm3, hT3, hb3⟩; have hS3 := BehC.go hb3 (HKB.out _ (by assumption)))
          | (go_at_call 74; refine Calls.mono (HSE.out w3 _ (hm3 ▸ hT3.vois)) ?_; rintro e w4 ⟨g, rfl, ⟨hgb, hgl, hgr⟩, hb4⟩))
      all_goals
        have hS4 : BehC W w4 := BehC.go hb4 hS3
        have HB4 := Lib.hid (bW.trans (Below.mono hS4 bW.size))
        have HZ4 := Lib.hid (fun (y : Aft w4) (j : Nat) (z : Int) (hj : (weightV (voices q.votes a.trust) a.rule)[j]? = some z) => y.cell (hgr.cell j (.int .i64 z) (by rw [List.getElem?_map, hj]; rfl)))
        have HZL : Hid ((weightV (voices q.votes a.trust) a.rule).length = a.trust.length) := Lib.hid (by rw [weightV_len, voices_len HVL.out])
        have HLM : Hid (leadM a q.votes = pickK (leadP (weightV (voices q.votes a.trust) a.rule)) a.trust.length) := Lib.hid rfl
        rw [voices_len HVL.out]
        obtain ⟨x4, hx4⟩ : ∃ y : Aft w4, y.val = w4 := ⟨⟨w4, Below.refl _ _⟩, rfl⟩
        have HX4 := Lib.hid hx4
        rw [← hx4]
        clear hm3 hT3 hb3 hS3 hb4 hgr q1 q2 q3 hS0 hx4 hgb
        generalize weightV (voices q.votes a.trust) a.rule = Z at *
        go_wp2
        go_loopw [8, 9] (fun m i wr => ∃ (k : Nat) (y : Aft w4), k ≤ a.trust.length ∧ i = .int .i64 (k : Int) ∧ m = .int .i64 ((Z.take k).foldl max 1) ∧ wr = y.val) (fun _ i _ => a.trust.length - (RowKit.intOf i).toNat)
        case atStart => exact ⟨0, x4, Nat.zero_le _, rfl, rfl, rfl⟩
        case round =>
          obtain ⟨k, y, hk, rfl, rfl, rfl⟩ := hrel
          by_cases hlt : k < a.trust.length
          · have hlZ : k < Z.length := by rw [HZL.out]; exact hlt
            have x1 := fun y : Aft w4 => HZ4.out y k _ (List.getElem?_eq_getElem hlZ)
            have HN := Lib.hid (fold_take (m := 1) hlZ)
            generalize (Z.take k).foldl max 1 = m at *
            generalize Z[k] = z at *
            have HMX := Lib.hid (aft_b (max1_any m z y.val))
            go_wp2_with (fail)
            refine HMX.out.mono ?_
            rintro e _ ⟨rfl, y2, rfl⟩
            go_wp2
            go_roundw
            case rel => exact ⟨k + 1, y2, by omega, by go_num, by rw [HN.out], rfl⟩
            case measure => simp [RowKit.intOf]; omega
          · have hge : ¬ (k : Int) < (a.trust.length : Int) := by omega
            obtain ⟨mm, hmm⟩ : ∃ mm, mm = (Z.take k).foldl max 1 := ⟨_, rfl⟩
            have HMM : Hid (∀ {j : Nat} (h : j < Z.length), leadP Z j = (Z[j] == mm)) := Lib.hid (fun h => by rw [leadP_at h, hmm, List.take_of_length_le (by rw [HZL.out]; omega)])
            rw [← hmm]
            clear hmm
            obtain ⟨w5, hw5⟩ : ∃ w5, w5 = y.val := ⟨_, rfl⟩
            have HB5 := Lib.hid (HB4.out.trans (y.ok.mono HB4.out.size))
            have hg5 := Nat.lt_of_lt_of_le hgl y.ok.size
            have HZR := Lib.hid (HZ4.out y)
            rw [← hw5] at HB5 hg5 HZR ⊢
            have HO0 := Lib.hid (NumO.start w5)
            have HBS0 := Lib.hid ((Below.refl w5.heap.size w5).alloc (Nat.le_refl _) (.cells #[] 2))
            clear hw5
            go_wp2
            go_loopw [10, 11] (fun vo i wr => ∃ (k : Nat) (L : List Int) (g2 cap2 : Nat), k ≤ a.trust.length ∧ i = .int .i64 (k : Int) ∧ vo = .slice (some ⟨g2, 0, none⟩) L.length cap2 ∧ L = pickK (leadP Z) k ∧ NumO wr w5.heap.size g2 cap2 L ∧ Below w5.heap.size w5 wr) (fun vo i _ => a.trust.length - (RowKit.intOf i).toNat)
            case atStart => exact ⟨0, [], _, 0, Nat.zero_le _, rfl, rfl, rfl, HO0.out, HBS0.out⟩
            case round =>
              obtain ⟨k, L, g2, cap2, hk, rfl, rfl, hLk, ho, hb⟩ := hrel
              have HO := Lib.hid ho
              have HB := Lib.hid hb
              have HLK := Lib.hid hLk.symm
              have hll : L.length ≤ k := by rw [hLk]; exact pickK_len _ _
              clear ho hLk
              by_cases hlt : k < a.trust.length
              · have hlZ : k < Z.length := by rw [HZL.out]; exact hlt
                have x1 := (hb.cell (p := ⟨g, k, none⟩) hg5).trans (HZR.out k _ (List.getElem?_eq_getElem hlZ))
                have hlp := HMM.out hlZ
                clear hb
                generalize Z[k] = z at *
                cases hy : (z == mm) with
                | true =>
                  have HYES := Lib.hid (pickK_yes (hlp.trans hy))
                  clear hlp
                  go_wp2_with (at_builtin; refine wpList_append_own_at _ rfl _ _ 29 rfl w5.heap.size 2 i0 (.int .i64 0) 1 8 Tryz.underlying29 hi hz0 hz1 hz2 rfl (by decide) _ _ _ rfl (HO.out.row.alloc _) ⟨wr.heap.size, 0, none⟩ 1 1 (intCells (k : Int)) rfl rfl (fun j u hj => new_at hj) (fun u hu => int_one' _ hu) ?c3 ?c4 (base_le HB.out.size) ?_)
                  case c3 => unfold maxLen; omega
                  case c4 => omega
                  intro v' w9 hown' hgrow hiff hat
                  obtain ⟨g9, cap9, rfl, hdc9, hcm9⟩ := own_some hown' (by simpa using hiff)
                  have HB9 := Lib.hid ((HB.out.alloc HB.out.size (.cells #[.int .i64 (k : Int)] 2)).grown hgrow (base_le HB.out.size) (fun j hj => (HO.out.row.lt j hj).1))
                  have HO9 : Hid (NumO w9 w5.heap.size g9 cap9 (L ++ [(k : Int)])) := Lib.hid (by
                    unfold NumO
                    rw [flat_snoc, List.length_append]
                    exact hown')
                  clear hown' hgrow hiff hat
                  go_wp2
                  go_roundw
                  case rel => exact ⟨k + 1, L ++ [(k : Int)], g9, cap9, by omega, by go_num, by rw [List.length_append]; rfl, by rw [HYES.out, HLK.out], HO9.out, HB9.out⟩
                  case measure => simp [RowKit.intOf]; omega
                | false =>
                  have HNOO := Lib.hid (pickK_no (hlp.trans hy))
                  clear hlp
                  go_wp2
                  go_roundw
                  case rel => exact ⟨k + 1, L, g2, cap2, by omega, by go_num, rfl, by rw [HNOO.out, HLK.out], HO.out, HB.out⟩
                  case measure => simp [RowKit.intOf]; omega
              · have hge : ¬ (k : Int) < (a.trust.length : Int) := by omega
                have HFF : Hid (L = leadOf a t) := Lib.hid (by
                  have : k = a.trust.length := by omega
                  rw [HY.out, HLM.out, ← this]
                  exact HLK.out.symm)
                have hb0 := HB5.out.trans (hb.mono HB5.out.size)
                have HOO := Lib.hid (HO.out.own.less HB5.out.size)
                go_wp2
                go_ret2
                exact ⟨_, rfl, by show OwnL intCells (leadOf a t) _ _ _; rw [← HFF.out]; exact HOO.out, hb0⟩
end Go.Proofs.YtnandbammmcncaaGreat

namespace Go.Proofs.YtnandbammmcncaaGreat
open Go.RowKit Go.Lib

set_option maxRecDepth 100000 in
set_option maxHeartbeats 8000000 in
theorem leadOf2_any (a : Asm) (x : VAsm) (t : ByteArray) (w : World) (h : AsmR w w.heap.size x a) (hs : AsmSz a) : Calls Tryz.prog 27 #[asmV a x, .string t] w (ResP (intK (leadOf a t)).own (knownB a t) w) := by
  obtain ⟨At, ct, Ab, cb, Ac, cc, Am, cm, rfl⟩ := h.slices
  unfold asmV
  obtain ⟨W, hW⟩ : ∃ W : World, W = w.alloc (.cells #[.int .i64 a.day, .int .i64 a.rule, .slice At a.trust.length ct, .slice Ab a.base.length cb, .slice Ac a.acts.length cc, .slice Am a.mots.length cm] 36) := ⟨_, rfl⟩
  have bW : Below w.heap.size w W := by rw [hW]; exact (Below.refl _ _).alloc (Nat.le_refl _) _
  have a1 : Row W w.heap.size [.int .i64 a.day, .int .i64 a.rule, .slice At a.trust.length ct, .slice Ab a.base.length cb, .slice Ac a.acts.length cc, .slice Am a.mots.length cm] := by rw [hW]; exact Row.new w _ _
  have z0 := fun y : Aft W => y.cell (a1.cell 0 _ rfl)
  have z1 := fun y : Aft W => y.cell (a1.cell 1 _ rfl)
  have z2 := fun y : Aft W => y.cell (a1.cell 2 _ rfl)
  have z3 := fun y : Aft W => y.cell (a1.cell 3 _ rfl)
  have z4 := fun y : Aft W => y.cell (a1.cell 4 _ rfl)
  have z5 := fun y : Aft W => y.cell (a1.cell 5 _ rfl)
  have hRW := h.on bW bW.size
  have HR := Lib.hid (fun y : Aft W => h.on (aft_done bW y) (aft_done bW y).size)
  have HGM : Hid (0 < a.mots.length → ∃ b off, Am = some ⟨b, off, none⟩ ∧ b < W.heap.size ∧ ∀ (k : Nat) (m : Mot), a.mots[k]? = some m → ∃ A1 c1 A2 c2, MotP W W.heap.size b (off + k * 8) m A1 c1 A2 c2) := Lib.hid (by
    obtain ⟨A, c, hv, _, _, h⟩ := mots_at hRW.m
    have hv : Value.slice Am a.mots.length cm = .slice A a.mots.length c := hv
    injection hv with e1 e2 e3
    rw [e1]
    exact h)
  have HW := Lib.hid hW
  have HROW := Lib.hid a1
  have sW : w.heap.size < W.heap.size := by rw [hW]; simp
  obtain ⟨x0, hx0⟩ : ∃ y : Aft W, y.val = W := ⟨⟨W, Below.refl _ _⟩, rfl⟩
  have HX0 := Lib.hid hx0
  have HVF := Lib.hid (fun y : Aft W => voicesFor2_any a ⟨.slice At a.trust.length ct, .slice Ab a.base.length cb, .slice Ac a.acts.length cc, .slice Am a.mots.length cm⟩ t y.val (HR.out y) hs)
  unfold ResP asmV at HVF
  clear h hW a1 hx0 hRW hs
  cases hk : knownB a t with
  | false =>
    have HN := Lib.hid (leadOf_no hk)
    rw [hk] at HVF
    clear hk
    go_enter Tryz.func27, Tryz.ntmps27
    go_wp2_with (fail)
    rw [← HW.out, ← HX0.out]
    refine (HVF.out x0).mono ?_
    rintro e w1 ⟨v1, rfl, ⟨L1, A1, c1, rfl, _, _⟩, hb1⟩
    obtain ⟨x1, rfl⟩ : ∃ y : Aft W, w1 = y.val := ⟨⟨w1, x0.ok.trans (hb1.mono x0.ok.size)⟩, rfl⟩
    clear hb1
    go_wp2
    go_ret2
    exact ⟨_, rfl, by show OwnL intCells (leadOf a t) _ _ _; rw [HN.out]; exact OwnL.nil _ _ _, aft_done bW x1⟩
  | true =>
    rw [hk] at HVF
    obtain ⟨hv, k, hfk, hkl, hkm⟩ := known_at hk
    have hok := okAsm_ok hv
    have hn12 := hok.n12
    have hn1 := hok.n1
    have HY := Lib.hid (leadOf_yes hk)
    have hvl := hok.votes hkm
    have HVY := Lib.hid (voicesFor_yes hk)
    obtain ⟨i0, hi, hz0, hz1, hz2⟩ := info_parts Tryz.infoI
    have hvk := hok.vois hvl
    rw [HVY.out] at HVF
    generalize motOf a t = q at *
    have HSE := Lib.hid (fun (W' : World) (vv : Value) (hv : Vois W' W'.heap.size vv (voices q.votes a.trust)) => weights2_any (voices q.votes a.trust) a.rule vv W' hok.rule.1 hok.rule.2 hv hvk)
    unfold Wei2Post at HSE
    have HVL := Lib.hid hvl
    clear hk hv hfk hkm hvl hok hvk
    go_enter Tryz.func27, Tryz.ntmps27
    go_wp2_with (fail)
    rw [← HW.out, ← HX0.out]
    refine (HVF.out x0).mono ?_
    rintro e w3 ⟨v3, rfl, ⟨L3, A3, c3, rfl, hm3, hT3⟩, hb3⟩
    obtain ⟨x3, rfl⟩ : ∃ y : Aft W, w3 = y.val := ⟨⟨w3, x0.ok.trans (hb3.mono x0.ok.size)⟩, rfl⟩
    have HS3 := Lib.hid (HSE.out x3.val _ (hm3 ▸ hT3.vois))
    clear hm3 hT3 hb3
    go_wp2_with (fail)
    refine HS3.out.mono ?_
    rintro e w4 ⟨g, rfl, ⟨hgb, hgl, hgr⟩, hb4⟩
    have HB4 := Lib.hid ((aft_done bW x3).trans (hb4.mono (aft_done bW x3).size))
    have HZL : Hid ((weightV (voices q.votes a.trust) a.rule).length = a.trust.length) := Lib.hid (by rw [weightV_len, voices_len HVL.out])
    have HLM : Hid (leadM a q.votes = pickK (leadP (weightV (voices q.votes a.trust) a.rule)) a.trust.length) := Lib.hid rfl
    have HZP := Lib.hid (weightV_pos (V := voices q.votes a.trust) (rule := a.rule))
    rw [voices_len HVL.out]
    have HGR := Lib.hid hgr
    clear hb4 hgr hgb HS3
    generalize weightV (voices q.votes a.trust) a.rule = Z at *
    have hz0 : 0 < Z.length := by rw [HZL.out]; omega
    have b5 := (Below.refl w4.heap.size w4).alloc (Nat.le_refl _) (.cells #[] 2)
    have hIZ : Ints (w4.alloc (.cells #[] 2)) (w4.alloc (.cells #[] 2)).heap.size (.slice (some ⟨g, 0, none⟩) Z.length a.trust.length) Z := SlR.of_row intCells (fun _ => rfl) (by rw [flat_ints]; exact HGR.out.below b5 hgl) (Nat.lt_of_lt_of_le hgl b5.size) (by rw [HZL.out]; exact Nat.le_refl _) (by unfold maxLen; omega)
    have HMX := max2_any Z _ _ hIZ hz0 (by rw [HZL.out]; omega)
    rw [HZL.out] at HMX
    have HMM : Hid (∀ {j : Nat} (h : j < Z.length), ((Z[j] == Z.foldl max (Z[0]'hz0)) && decide (0 < Z.foldl max (Z[0]'hz0))) = leadP Z j) := Lib.hid (fun h => lead2 hz0 HZP.out h)
    obtain ⟨mm, hmm⟩ : ∃ mm, mm = Z.foldl max (Z[0]'hz0) := ⟨_, rfl⟩
    rw [← hmm] at HMM HMX
    have HMX := Lib.hid HMX
    have HO4 := Lib.hid ((NumO.start w4))
    have HB4' := Lib.hid b5
    clear hIZ hmm hz0 b5
    go_wp2_with (fail)
    refine HMX.out.mono ?_
    rintro e w6 ⟨rfl, hb6⟩
    obtain ⟨w5, hw5⟩ : ∃ w5 : World, w5 = w4 := ⟨_, rfl⟩
    have HB5 : Hid (Below w.heap.size w w5) := Lib.hid (by rw [hw5]; exact HB4.out)
    have hg5 : g < w5.heap.size := by rw [hw5]; exact hgl
    have HZR : Hid (∀ (j : Nat) (z : Int), Z[j]? = some z → w5.cell? ⟨g, j, none⟩ = some (.int .i64 z)) := Lib.hid (fun j z hj => by rw [hw5]; exact HGR.out.cell j _ (by rw [List.getElem?_map, hj]; rfl))
    have HO0 : Hid (NumO w6 w5.heap.size w4.heap.size 0 []) := Lib.hid (by rw [hw5]; exact HO4.out.below hb6)
    have HBS0 : Hid (Below w5.heap.size w5 w6) := Lib.hid (by rw [hw5]; exact HB4'.out.trans (hb6.mono HB4'.out.size))
    clear hb6 hw5
    go_wp2
    go_loopw [10, 12, 13, 34] (fun vo _ _ i wr => ∃ (k : Nat) (L : List Int) (g2 cap2 : Nat), k ≤ a.trust.length ∧ i = .int .i64 (k : Int) ∧ vo = .slice (some ⟨g2, 0, none⟩) L.length cap2 ∧ L = pickK (leadP Z) k ∧ NumO wr w5.heap.size g2 cap2 L ∧ Below w5.heap.size w5 wr) (fun vo _ _ i _ => a.trust.length - (RowKit.intOf i).toNat)
    case atStart => exact ⟨0, [], _, 0, Nat.zero_le _, rfl, rfl, rfl, HO0.out, HBS0.out⟩
    case round =>
      obtain ⟨k, L, g2, cap2, hk, rfl, rfl, hLk, ho, hb⟩ := hrel
      have HO := Lib.hid ho
      have HB := Lib.hid hb
      have HLK := Lib.hid hLk.symm
      have hll : L.length ≤ k := by rw [hLk]; exact pickK_len _ _
      clear ho hLk
      by_cases hlt : k < a.trust.length
      · have hlZ : k < Z.length := by rw [HZL.out]; exact hlt
        have x1 := (hb.cell (p := ⟨g, k, none⟩) hg5).trans (HZR.out k _ (List.getElem?_eq_getElem hlZ))
        have hlp := HMM.out hlZ
        clear hb
        generalize Z[k] = z at *
        cases hy : (z == mm) with
        | true =>
          cases hp : decide (0 < mm) with
          | true =>
            have hp0 := of_decide_eq_true hp
            have HYES := Lib.hid (pickK_yes (show leadP Z k = true by rw [← hlp, hy, Bool.true_and]; exact hp))
            clear hlp hp
            go_wp2_with (at_builtin; refine wpList_append_own_at _ rfl _ _ 29 rfl w5.heap.size 2 i0 (.int .i64 0) 1 8 Tryz.underlying29 hi hz0 hz1 hz2 rfl (by decide) _ _ _ rfl (HO.out.row.alloc _) ⟨wr.heap.size, 0, none⟩ 1 1 (intCells (k : Int)) rfl rfl (fun j u hj => new_at hj) (fun u hu => int_one' _ hu) ?c3 ?c4 (base_le HB.out.size) ?_)
            case c3 => unfold maxLen; omega
            case c4 => omega
            intro v' w9 hown' hgrow hiff hat
            obtain ⟨g9, cap9, rfl, hdc9, hcm9⟩ := own_some hown' (by simpa using hiff)
            have HB9 := Lib.hid ((HB.out.alloc HB.out.size (.cells #[.int .i64 (k : Int)] 2)).grown hgrow (base_le HB.out.size) (fun j hj => (HO.out.row.lt j hj).1))
            have HO9 : Hid (NumO w9 w5.heap.size g9 cap9 (L ++ [(k : Int)])) := Lib.hid (by
              unfold NumO
              rw [flat_snoc, List.length_append]
              exact hown')
            clear hown' hgrow hiff hat
            go_wp2
            go_roundw
            case rel => exact ⟨k + 1, L ++ [(k : Int)], g9, cap9, by omega, by go_num, by rw [List.length_append]; rfl, by rw [HYES.out, HLK.out], HO9.out, HB9.out⟩
            case measure => simp [RowKit.intOf]; omega
          | false =>
            have hp0 := of_decide_eq_false hp
            have HNOO := Lib.hid (pickK_no (show leadP Z k = false by rw [← hlp, hy, Bool.true_and]; exact hp))
            clear hlp hp
            go_wp2
            go_roundw
            case rel => exact ⟨k + 1, L, g2, cap2, by omega, by go_num, rfl, by rw [HNOO.out, HLK.out], HO.out, HB.out⟩
            case measure => simp [RowKit.intOf]; omega
        | false =>
          have HNOO := Lib.hid (pickK_no (show leadP Z k = false by rw [← hlp, hy]; rfl))
          clear hlp
          go_wp2
          go_roundw
          case rel => exact ⟨k + 1, L, g2, cap2, by omega, by go_num, rfl, by rw [HNOO.out, HLK.out], HO.out, HB.out⟩
          case measure => simp [RowKit.intOf]; omega
      · have hge : ¬ (k : Int) < (a.trust.length : Int) := by omega
        have HFF : Hid (L = leadOf a t) := Lib.hid (by
          have : k = a.trust.length := by omega
          rw [HY.out, HLM.out, ← this]
          exact HLK.out.symm)
        have hb0 := HB5.out.trans (hb.mono HB5.out.size)
        have HOO := Lib.hid (HO.out.own.less HB5.out.size)
        go_wp2
        go_ret2
        exact ⟨_, rfl, by show OwnL intCells (leadOf a t) _ _ _; rw [← HFF.out]; exact HOO.out, hb0⟩
end Go.Proofs.YtnandbammmcncaaGreat

namespace Go.Proofs.YtnandbammmcncaaGreat
open Go.RowKit Go.Lib

set_option maxRecDepth 100000 in
set_option maxHeartbeats 8000000 in
theorem lawYld_any (a : Asm) (x : VAsm) (t : ByteArray) (w : World) (h : AsmR w w.heap.size x a) (hs : AsmSz a) (ht9 : t.size ≤ maxLen) : Calls Tryz.prog 7 #[asmV a x, .string t] w (RetB (.bool true) w) := by
  unfold maxLen at ht9
  obtain ⟨At, ct, Ab, cb, Ac, cc, Am, cm, rfl⟩ := h.slices
  obtain ⟨W, hW⟩ : ∃ W : World, W = w.alloc (.cells #[.int .i64 a.day, .int .i64 a.rule, .slice At a.trust.length ct, .slice Ab a.base.length cb, .slice Ac a.acts.length cc, .slice Am a.mots.length cm] 27) := ⟨_, rfl⟩
  have bW : Below w.heap.size w W := by rw [hW]; exact (Below.refl _ _).alloc (Nat.le_refl _) _
  have a1 : Row W w.heap.size [.int .i64 a.day, .int .i64 a.rule, .slice At a.trust.length ct, .slice Ab a.base.length cb, .slice Ac a.acts.length cc, .slice Am a.mots.length cm] := by rw [hW]; exact Row.new w _ _
  have HSP := Lib.hid (fun W x (hx : AsmR W W.heap.size x a) => leadOf1_any a x t W hx hs)
  have HIM := Lib.hid (fun W x (hx : AsmR W W.heap.size x a) => leadOf2_any a x t W hx hs)
  have HEQ := Lib.hid (intK_eq (leadOf a t))
  have HMK := Lib.hid (intK_mark (leadOf a t) (leadOf_len a t))
  have HHD := Lib.hid (intK_held (leadOf a t) (leadOf_len a t))
  have z0 := fun y : Aft W => y.cell (a1.cell 0 _ rfl)
  have z1 := fun y : Aft W => y.cell (a1.cell 1 _ rfl)
  have z2 := fun y : Aft W => y.cell (a1.cell 2 _ rfl)
  have z3 := fun y : Aft W => y.cell (a1.cell 3 _ rfl)
  have z4 := fun y : Aft W => y.cell (a1.cell 4 _ rfl)
  have z5 := fun y : Aft W => y.cell (a1.cell 5 _ rfl)
  have HROW := Lib.hid a1
  have HR := Lib.hid (fun y : Aft W => h.on (aft_done bW y) (aft_done bW y).size)
  have HS := Lib.hid hs
  have HW := Lib.hid hW
  clear h hs hW a1
  unfold ResP at HSP HIM
  generalize intK (leadOf a t) = K at *
  obtain ⟨ok, hok⟩ : ∃ r, r = knownB a t := ⟨_, rfl⟩
  rw [← hok] at HSP HIM
  have hne : (ok != ok) = false := by cases ok <;> rfl
  clear hok
  unfold asmV
  by_cases ht : t.size ≤ 1048576
  case neg =>
    have h2 : (1048576 : Int) < (t.size : Int) := by omega
    go_enter Tryz.func7, Tryz.ntmps7
    go_wp2
    go_ret
    exact ⟨rfl, by rw [← HW.out]; exact bW⟩
  have h2 : ¬ (1048576 : Int) < (t.size : Int) := by omega
  go_enter Tryz.func7, Tryz.ntmps7
  go_wp2_with (fail)
  rw [← HW.out]
  obtain ⟨x0, hx0⟩ : ∃ y : Aft W, y.val = W := ⟨⟨W, Below.refl _ _⟩, rfl⟩
  rw [← hx0]
  clear hx0
  refine (szAsm_any a _ 1048576 _ (HR.out x0) HS.out (by omega) (by omega)).mono ?_
  rintro e1 w1 ⟨r, rfl, hr, hb1⟩
  obtain ⟨x1, rfl⟩ : ∃ y : Aft W, w1 = y.val := ⟨⟨w1, x0.ok.trans (hb1.mono x0.ok.size)⟩, rfl⟩
  clear hb1
  rcases hr with hr | ⟨hf, hr0, hr1⟩
  · go_wp2
    go_ret
    exact ⟨rfl, aft_done bW x1⟩
  have hrn : ¬ r < 0 := by omega
  have HF := Lib.hid hf
  clear hf
  go_wp2_with (fail)
  refine (toAsm_any a _ _ (HR.out x1) HF.out).mono ?_
  rintro e2 w2 ⟨y2, T2, C2, M2, rfl, hO2, hb2⟩
  obtain ⟨x2, rfl⟩ : ∃ y : Aft W, w2 = y.val := ⟨⟨w2, x1.ok.trans (hb2.mono x1.ok.size)⟩, rfl⟩
  have HO2 := Lib.hid hO2.r
  obtain ⟨B1, d1, B2, d2, B3, d3, B4, d4, rfl⟩ := hO2.r.slices
  clear hb2 hO2
  unfold asmV
  go_wp2_with (fail)
  refine (HSP.out _ _ HO2.out).mono ?_
  rintro e3 w3 ⟨vw, rfl, hvw, hb3⟩
  obtain ⟨x3, rfl⟩ : ∃ y : Aft W, w3 = y.val := ⟨⟨w3, x2.ok.trans (hb3.mono x2.ok.size)⟩, rfl⟩
  obtain ⟨AW, nW, cW, rfl⟩ := K.slice hvw
  have HVW := Lib.hid hvw
  clear hb3 hvw
  go_wp2_with (fail)
  refine (toAsm_any a _ _ (HR.out x3) HF.out).mono ?_
  rintro e4 w4 ⟨y4, T4, C4, M4, rfl, hO4, hb4⟩
  obtain ⟨x4, rfl⟩ : ∃ y : Aft W, w4 = y.val := ⟨⟨w4, x3.ok.trans (hb4.mono x3.ok.size)⟩, rfl⟩
  obtain ⟨D1, f1, D2, f2, D3, f3, D4, f4, rfl⟩ := hO4.r.slices
  have HB34 := Lib.hid hb4
  have HO4 := Lib.hid hO4
  clear hb4 hO4
  unfold asmV
  have hsz4 : w.heap.size < x4.val.heap.size := World.block_lt_of_cell? x4.val ⟨w.heap.size, 0, none⟩ (z0 x4)
  go_wp2_with (fail)
  obtain ⟨V, hV⟩ : ∃ V : World, V = x4.val.alloc (.cells #[.int .i64 a.day, .int .i64 a.rule, .slice D1 a.trust.length f1, .slice D2 a.base.length f2, .slice D3 a.acts.length f3, .slice D4 a.mots.length f4] 36) := ⟨_, rfl⟩
  have bV : Below x4.val.heap.size x4.val V := by rw [hV]; exact (Below.refl _ _).alloc (Nat.le_refl _) _
  have sV : x4.val.heap.size < V.heap.size := by rw [hV]; simp
  have r4 : Row V x4.val.heap.size [.int .i64 a.day, .int .i64 a.rule, .slice D1 a.trust.length f1, .slice D2 a.base.length f2, .slice D3 a.acts.length f3, .slice D4 a.mots.length f4] := by rw [hV]; exact Row.new x4.val _ _
  have b3V : Below x3.val.heap.size x3.val V := HB34.out.trans (bV.mono HB34.out.size)
  have bWV : Below W.heap.size W V := x3.ok.trans (b3V.mono x3.ok.size)
  have HROWV := Lib.hid (HROW.out.below bWV (by have : w.heap.size < W.heap.size := World.block_lt_of_cell? W ⟨w.heap.size, 0, none⟩ (HROW.out.cell 0 _ rfl); exact this))
  have HR4 := Lib.hid r4
  have HO := Lib.hid (HO4.out.below bV)
  have HB3V := Lib.hid b3V
  have HFTL : Hid (∀ b, asmFoot ⟨.slice D1 a.trust.length f1, .slice D2 a.base.length f2, .slice D3 a.acts.length f3, .slice D4 a.mots.length f4⟩ a T4 C4 M4 b → x3.val.heap.size ≤ b ∧ b < x4.val.heap.size) := Lib.hid (fun b hb => HO4.out.lt hb)
  have HBW := Lib.hid bW
  have hw3 : w.heap.size < x3.val.heap.size := World.block_lt_of_cell? x3.val ⟨w.heap.size, 0, none⟩ (z0 x3)
  have h34 : x3.val.heap.size ≤ x4.val.heap.size := HB34.out.size
  have HRA := Lib.hid (fun X (hX : Below x3.val.heap.size x3.val X) => HR.out ⟨X, x3.ok.trans (hX.mono x3.ok.size)⟩)
  have HFINB := Lib.hid (fun X (hX : Below x3.val.heap.size x3.val X) => bW.trans ((x3.ok.trans (hX.mono x3.ok.size)).mono bW.size))
  rw [← hV]
  clear hV r4 z0 z1 z2 z3 z4 z5 bWV b3V bV HO4 HB34
  refine (HIM.out V _ HO.out.r).mono ?_
  rintro e5 U ⟨vg, rfl, hvg, bU⟩
  obtain ⟨AG, nG, cG, rfl⟩ := K.slice hvg
  have HVG := Lib.hid hvg
  have HBU := Lib.hid bU
  have HB3U := Lib.hid (HB3V.out.trans (bU.mono HB3V.out.size))
  have HVWU := Lib.hid (K.below HVW.out HB3U.out)
  clear hvg bU
  go_wp2_with (fail)
  refine (HEQ.out U _ _ _ _ HVG.out HVWU.out).mono ?_
  rintro e6 U2 ⟨rfl, bU2⟩
  have HBU2 := Lib.hid (HBU.out.trans (bU2.mono HBU.out.size))
  have HVG2 := Lib.hid (K.below HVG.out bU2)
  clear bU2
  have HKEEP : Hid (∀ w', Below U2.heap.size U2 w' → (fun w' => w'.cell? ⟨x4.val.heap.size, 0, none⟩ = some (.int .i64 a.day) ∧ w'.cell? ⟨x4.val.heap.size, 1, none⟩ = some (.int .i64 a.rule) ∧ w'.cell? ⟨x4.val.heap.size, 2, none⟩ = some (.slice D1 a.trust.length f1) ∧ w'.cell? ⟨x4.val.heap.size, 3, none⟩ = some (.slice D2 a.base.length f2) ∧ w'.cell? ⟨x4.val.heap.size, 4, none⟩ = some (.slice D3 a.acts.length f3) ∧ w'.cell? ⟨x4.val.heap.size, 5, none⟩ = some (.slice D4 a.mots.length f4) ∧ w'.cell? ⟨w.heap.size, 0, none⟩ = some (.int .i64 a.day) ∧ w'.cell? ⟨w.heap.size, 1, none⟩ = some (.int .i64 a.rule) ∧ w'.cell? ⟨w.heap.size, 2, none⟩ = some (.slice At a.trust.length ct) ∧ w'.cell? ⟨w.heap.size, 3, none⟩ = some (.slice Ab a.base.length cb) ∧ w'.cell? ⟨w.heap.size, 4, none⟩ = some (.slice Ac a.acts.length cc) ∧ w'.cell? ⟨w.heap.size, 5, none⟩ = some (.slice Am a.mots.length cm) ∧ Below U2.heap.size U2 w') w') := Lib.hid (fun X hX => by
    have h1 := HR4.out.below (HBU2.out.trans (hX.mono HBU2.out.size)) sV
    have h2 := HROWV.out.below (HBU2.out.trans (hX.mono HBU2.out.size)) (by omega)
    exact ⟨h1.cell 0 _ rfl, h1.cell 1 _ rfl, h1.cell 2 _ rfl, h1.cell 3 _ rfl, h1.cell 4 _ rfl, h1.cell 5 _ rfl, h2.cell 0 _ rfl, h2.cell 1 _ rfl, h2.cell 2 _ rfl, h2.cell 3 _ rfl, h2.cell 4 _ rfl, h2.cell 5 _ rfl, hX⟩)
  have HBEL : Hid (∀ w', (fun w' => w'.cell? ⟨x4.val.heap.size, 0, none⟩ = some (.int .i64 a.day) ∧ w'.cell? ⟨x4.val.heap.size, 1, none⟩ = some (.int .i64 a.rule) ∧ w'.cell? ⟨x4.val.heap.size, 2, none⟩ = some (.slice D1 a.trust.length f1) ∧ w'.cell? ⟨x4.val.heap.size, 3, none⟩ = some (.slice D2 a.base.length f2) ∧ w'.cell? ⟨x4.val.heap.size, 4, none⟩ = some (.slice D3 a.acts.length f3) ∧ w'.cell? ⟨x4.val.heap.size, 5, none⟩ = some (.slice D4 a.mots.length f4) ∧ w'.cell? ⟨w.heap.size, 0, none⟩ = some (.int .i64 a.day) ∧ w'.cell? ⟨w.heap.size, 1, none⟩ = some (.int .i64 a.rule) ∧ w'.cell? ⟨w.heap.size, 2, none⟩ = some (.slice At a.trust.length ct) ∧ w'.cell? ⟨w.heap.size, 3, none⟩ = some (.slice Ab a.base.length cb) ∧ w'.cell? ⟨w.heap.size, 4, none⟩ = some (.slice Ac a.acts.length cc) ∧ w'.cell? ⟨w.heap.size, 5, none⟩ = some (.slice Am a.mots.length cm) ∧ Below U2.heap.size U2 w') w' → Below U2.heap.size U2 w') := Lib.hid (fun X hX => hX.2.2.2.2.2.2.2.2.2.2.2.2)
  have HB3U2 := Lib.hid (HB3V.out.trans (HBU2.out.mono HB3V.out.size))
  have HR2 := Lib.hid (fun X (hX : Below U2.heap.size U2 X) => HRA.out X (HB3U2.out.trans (hX.mono HB3U2.out.size)))
  have HX2 := Lib.hid (fun X (hX : Below U2.heap.size U2 X) => (HO.out.below (HBU2.out.trans (hX.mono HBU2.out.size))).r)
  have bU2 : Below U2.heap.size U2 U2 := Below.refl _ _
  go_wp2_with (fail)
  go_region_held3 (fun w' => w'.cell? ⟨x4.val.heap.size, 0, none⟩ = some (.int .i64 a.day) ∧ w'.cell? ⟨x4.val.heap.size, 1, none⟩ = some (.int .i64 a.rule) ∧ w'.cell? ⟨x4.val.heap.size, 2, none⟩ = some (.slice D1 a.trust.length f1) ∧ w'.cell? ⟨x4.val.heap.size, 3, none⟩ = some (.slice D2 a.base.length f2) ∧ w'.cell? ⟨x4.val.heap.size, 4, none⟩ = some (.slice D3 a.acts.length f3) ∧ w'.cell? ⟨x4.val.heap.size, 5, none⟩ = some (.slice D4 a.mots.length f4) ∧ w'.cell? ⟨w.heap.size, 0, none⟩ = some (.int .i64 a.day) ∧ w'.cell? ⟨w.heap.size, 1, none⟩ = some (.int .i64 a.rule) ∧ w'.cell? ⟨w.heap.size, 2, none⟩ = some (.slice At a.trust.length ct) ∧ w'.cell? ⟨w.heap.size, 3, none⟩ = some (.slice Ab a.base.length cb) ∧ w'.cell? ⟨w.heap.size, 4, none⟩ = some (.slice Ac a.acts.length cc) ∧ w'.cell? ⟨w.heap.size, 5, none⟩ = some (.slice Am a.mots.length cm) ∧ Below U2.heap.size U2 w')
    (first | exact HKEEP.out _ bU2 | exact HKEEP.out _ bU2.drew | exact HKEEP.out _ ((HBEL.out _ (by assumption)).trans (Below.mono (by assumption) (HBEL.out _ (by assumption)).size)))
    (first | (go_at_call 13; refine (toAsm_any a _ _ (HR2.out _ (HBEL.out _ (by assumption))) HF.out).mono ?_; rintro e6 w6 ⟨y6, T6, C6, M6, rfl, hO6, hb6⟩; have hR6 := hO6.r; obtain ⟨E1, l1, E2, l2, E3, l3, E4, l4, rfl⟩ := hO6.r.slices; clear hO6; unfold asmV) | (go_at_call 16; refine (eqAsm_any a _ _ _ (HX2.out _ (HBEL.out _ (by assumption))) hR6).mono ?_; rintro e7 w7 ⟨rfl, hb7⟩))
  all_goals
    have hB7 : Below U2.heap.size U2 w7 := HBEL.out _ (by assumption)
    have hS7 := HKEEP.out _ hB7
    obtain ⟨c0, c1, c2, c3, c4, c5, -⟩ := hS7
    have HBV7 := Lib.hid (HBU2.out.trans (hB7.mono HBU2.out.size))
    have HO7 := Lib.hid (HO.out.below HBV7.out)
    have HVG7 := Lib.hid (K.below HVG2.out hB7)
    have HB37 := Lib.hid (HB3V.out.trans (HBV7.out.mono HB3V.out.size))
    have h37 := HB37.out.size
    have hTF := HF.out.trees HO7.out.tm HO7.out.cm HO7.out.mm
    clear hB7 hb7 hb6 hR6
    go_wp2_with (fail)
    refine (markAsm_any a ⟨.slice D1 a.trust.length f1, .slice D2 a.base.length f2, .slice D3 a.acts.length f3, .slice D4 a.mots.length f4⟩ T4 C4 M4 _ 1 w7 HO7.out hTF (by omega) (by omega)).mono ?_
    rintro e8 X ⟨rfl, -, tX⟩
    have hkn : ¬ ((eAsm 1 a T4 C4 M4 : Nat) : Int) < 0 := by omega
    have HVGX := Lib.hid (K.touch HVG7.out tX (fun c hf => by have q2 := HFTL.out c hf; omega))
    have HB3X := Lib.hid (HB37.out.trans (tX.below h37 (fun b hb => (HFTL.out b hb).1)))
    have hXs := tX.size
    generalize eAsm 1 a T4 C4 M4 = kk at *
    clear tX c0 c1 c2 c3 c4 c5 hTF
    go_wp2_with (fail)
    refine (HEQ.out X _ _ _ _ HVGX.out (K.below HVW.out HB3X.out)).mono ?_
    rintro e9 X1 ⟨rfl, bX1⟩
    have HVG1 := Lib.hid (K.below HVGX.out bX1)
    have HB31 := Lib.hid (HB3X.out.trans (bX1.mono HB3X.out.size))
    have hX1s := bX1.size
    clear bX1
    go_wp2_with (fail)
    refine (HMK.out X1 _ _ HVG1.out).mono ?_
    rintro e10 X2 ⟨rfl, hmk, tM⟩
    have hnn : ¬ ((K.n : Nat) : Int) < 0 := by omega
    have hnz : (((K.n : Nat) : Int) != ((K.n : Nat) : Int)) = false := by simp
    have HB32 := Lib.hid (HB31.out.trans (tM.below HB31.out.size (fun b hb => by have q1 : V.heap.size ≤ b := hb; omega)))
    have HMK2 := Lib.hid hmk
    clear tM hmk
    go_wp2_with (fail)
    refine (HHD.out X2 _ _ HMK2.out).mono ?_
    rintro e11 X3 ⟨rfl, bX3⟩
    have HMK3 := Lib.hid (K.mtouch HMK2.out bX3)
    have HB33 := Lib.hid (HB32.out.trans (bX3.mono HB32.out.size))
    have r3 := HROW.out.below (x3.ok.trans (HB33.out.mono x3.ok.size)) (by have : w.heap.size < W.heap.size := World.block_lt_of_cell? W ⟨w.heap.size, 0, none⟩ (HROW.out.cell 0 _ rfl); exact this)
    have p0 := r3.cell 0 _ rfl
    have p1 := r3.cell 1 _ rfl
    have p2 := r3.cell 2 _ rfl
    have p3 := r3.cell 3 _ rfl
    have p4 := r3.cell 4 _ rfl
    have p5 := r3.cell 5 _ rfl
    clear bX3 r3
    go_wp2_with (fail)
    refine (toAsm_any a _ X3 (HRA.out X3 HB33.out) HF.out).mono ?_
    rintro e12 X4 ⟨y9, T9, C9, M9, rfl, hO9, bX4⟩
    obtain ⟨G1, j1, G2, j2, G3, j3, G4, j4, rfl⟩ := hO9.r.slices
    have HO9 := Lib.hid hO9.r
    have HMK4 := Lib.hid (K.mtouch HMK3.out bX4)
    have HB34' := Lib.hid (HB33.out.trans (bX4.mono HB33.out.size))
    clear bX4 hO9 p0 p1 p2 p3 p4 p5
    unfold asmV
    go_wp2_with (fail)
    refine (HIM.out X4 _ HO9.out).mono ?_
    rintro e13 X5 ⟨vh, rfl, hvh, bX5⟩
    obtain ⟨AH, nH, cH, rfl⟩ := K.slice hvh
    have HVH := Lib.hid hvh
    have HMK5 := Lib.hid (K.mtouch HMK4.out bX5)
    have HB35 := Lib.hid (HB34'.out.trans (bX5.mono HB34'.out.size))
    clear bX5 hvh
    go_wp2_with (fail)
    refine (HEQ.out X5 _ _ _ _ HVH.out (K.below HVW.out HB35.out)).mono ?_
    rintro e14 X6 ⟨rfl, bX6⟩
    have HMK6 := Lib.hid (K.mtouch HMK5.out bX6)
    have HB36 := Lib.hid (HB35.out.trans (bX6.mono HB35.out.size))
    clear bX6
    go_wp2_with (fail)
    refine (HHD.out X6 _ _ HMK6.out).mono ?_
    rintro e15 X7 ⟨rfl, bX7⟩
    have HFIN := Lib.hid (HFINB.out X7 (HB36.out.trans (bX7.mono HB36.out.size)))
    clear bX7
    go_wp2
    go_ret
    exact ⟨rfl, HFIN.out⟩
end Go.Proofs.YtnandbammmcncaaGreat
