/- Marks of numbers and edits, walked, where the count may be great (as in the first texts, under greater bounds). Marks in slices of structs, walked: rows, articles, acts, motions; in an assembly. (Printed by tools/gen/g_vq.py) An assembly marked, walked; marked articles read again, walked. A law on an assembly that compares a result in memory: its walk, laid once; FnExactTextToday, walked. -/
import Derived.Test.YtnandbammmcncaaGreatQE
import Derived.Test.YtnandbammmcncaaGreatQF
import Derived.Test.YtnandbammmcncaaGreatQB
import Derived.Test.YtnandbammmcncaaGreatQG
namespace Go.Proofs.YtnandbammmcncaaGreat
open Go.RowKit Go.Lib

set_option maxRecDepth 100000 in
set_option maxHeartbeats 2000000 in
theorem markText_big (k : Nat) (w : World) (h0 : 0 < k) (h2 : k ≤ 1125899906842624) :
    Calls Tryz.prog 100 #[.int .i64 (k : Int)] w (RetB (.string ⟨(109 :: itoa (k : Int)).toArray⟩) w) := by
  have hpi : ¬ (k : Int) ≤ 0 := by omega
  have hn1 : -9223372036854775808 ≤ (k : Int) := by omega
  have hn2 : (k : Int) ≤ 9223372036854775807 := by omega
  go_enter Tryz.func100, Tryz.ntmps100
  go_wp2
  go_loopw [0, 3] (fun m o wr => ∃ (u : Nat) (out : List UInt8), m = .int .i64 (u : Int) ∧ (u : Int) ≤ 1125899906842624 ∧ o = .string ⟨out.toArray⟩ ∧ out.length ≤ 21 ∧ dg u ++ out = itoa (k : Int) ∧ Below w.heap.size w wr) (fun m _ _ => (RowKit.intOf m).toNat)
  case atStart => exact ⟨k, [], rfl, by omega, rfl, by simp, by rw [List.append_nil]; exact dg_pos (k : Int) (by omega), Below.refl _ _⟩
  case round =>
    obtain ⟨u, out, rfl, hu, rfl, hol, hdg, hb⟩ := hrel
    by_cases hu0 : u = 0
    · subst hu0
      have HO : Hid (out = itoa (k : Int)) := Lib.hid (by simpa [dg] using hdg)
      clear hdg
      obtain ⟨T1, e1, n1, q1⟩ := cat_op (P := Tryz.prog) [109] out (by simp) (by omega)
      have HT : Hid (T1 = 109 :: itoa (k : Int)) := Lib.hid (by rw [e1, HO.out]; rfl)
      clear e1
      go_wp2
      go_ret
      exact ⟨by rw [← HT.out]; rfl, hb⟩
    · have hlt : (0 : Int) < (u : Int) := by omega
      have hmod : (u : Int).tmod 10 = ((u % 10 : Nat) : Int) := by rw [Int.tmod_eq_emod_of_nonneg (by omega)]; omega
      have hdiv : (u : Int).tdiv 10 = ((u / 10 : Nat) : Int) := by rw [Int.tdiv_eq_ediv_of_nonneg (by omega)]; omega
      have hd10 : u % 10 < 10 := Nat.mod_lt _ (by omega)
      have hq10 : u / 10 < u := Nat.div_lt_self (by omega) (by omega)
      obtain ⟨r, hr'⟩ : ∃ r, r = u % 10 := ⟨_, rfl⟩
      obtain ⟨q, hq'⟩ : ∃ q, q = u / 10 := ⟨_, rfl⟩
      rw [← hr'] at hmod hd10
      rw [← hq'] at hdiv hq10
      have hdl : dg u = dg q ++ [UInt8.ofNat (48 + r)] := by rw [hr', hq']; exact dg_step u hu0
      have hcr := digit_of r hd10
      generalize UInt8.ofNat (48 + r) = ch at *
      have hcv : (convert 172 9 (.slice (some ⟨wr.heap.size, 0, none⟩) 1 1)).run Tryz.prog (wr.alloc (.cells #[.int .u8 (48 + (r : Int))] 5)) = .ok (.string ⟨#[ch]⟩) (wr.alloc (.cells #[.int .u8 (48 + (r : Int))] 5)) := run_convert_bytes_back (P := Tryz.prog) (wr.alloc (.cells #[.int .u8 (48 + (r : Int))] 5)) 172 9 5 ⟨wr.heap.size, 0, none⟩ 1 [ch] Tryz.underlying172 Tryz.underlying5 Tryz.underlying9 (fun j hj => by
        have : j = 0 := by simp at hj; omega
        subst this
        simp [go_sem, hcr])
      obtain ⟨T1, e1, n1, q1⟩ := cat_op (P := Tryz.prog) [ch] out (by simp) (by omega)
      have HT : Hid (dg q ++ T1 = itoa (k : Int)) := Lib.hid (by rw [← hdg, hdl, e1, List.append_assoc])
      have hT20 : T1.length ≤ 21 := len20 (dg q) T1 (k : Int) HT.out hn1 hn2
      have hbW := hb.alloc hb.size (.cells #[.int .u8 (48 + (r : Int))] 5)
      clear e1 hdl hr' hq' hdg hu0 hcr
      go_wp2
      go_roundw
      case rel => exact ⟨q, T1, by go_num, by omega, rfl, hT20, HT.out, hbW⟩
      case measure => simp [RowKit.intOf]; omega
set_option maxHeartbeats 1000000 in
theorem markInts_big (zs : List Int) (v : Value) (base k : Nat) (w : World) (h : OwnL intCells zs base w v) (hk : k ≤ 562949953421312) (hn : zs.length ≤ 1048576) :
    Calls Tryz.prog 18 #[v, .int .i64 (k : Int)] w (Marked intCells (seqI k zs.length) (k + zs.length) base v w) := by
  obtain ⟨A, c, rfl, hc, hm, hg⟩ := h
  unfold maxLen at hm
  by_cases h0 : zs = []
  · subst h0
    go_enter Tryz.func18, Tryz.ntmps18
    go_wp2
    go_loopw [1, 5] (fun m i wr => m = .int .i64 (k : Int) ∧ i = .int .i64 0 ∧ wr = w) (fun _ _ _ => 0)
    case atStart => exact ⟨rfl, rfl, rfl⟩
    case round =>
      obtain ⟨rfl, rfl, rfl⟩ := hrel
      go_wp2
      go_ret
      exact ⟨rfl, ⟨A, c, rfl, hc, by unfold maxLen; omega, fun h => absurd rfl h⟩, grown_refl _ _⟩
  · obtain ⟨g, rfl, hgb, hgs, hR⟩ := hg h0
    have hlen : ((seqI k zs.length).flatMap intCells).length = (zs.flatMap intCells).length := by rw [ints_flat, ints_flat, seqI_len]
    have HL := Lib.hid hlen
    have HZ := Lib.hid (ints_flat zs)
    have HR := Lib.hid hR
    have HSQ : Hid (∀ i, i < zs.length → ((seqI k zs.length).flatMap intCells)[i]? = some (.int .i64 ((k + i : Nat) : Int))) := Lib.hid (fun i hi => ints_flat_get (seqI_get hi))
    have HSL := Lib.hid (seqI_len k zs.length)
    have hnp : 0 < zs.length := List.length_pos_iff.2 h0
    clear hlen hR hg h0
    go_enter Tryz.func18, Tryz.ntmps18
    go_wp2
    go_loopw [1, 5] (fun m i wr => ∃ j : Nat, j ≤ zs.length ∧ i = .int .i64 (j : Int) ∧ m = .int .i64 ((k + j : Nat) : Int) ∧ Row wr g (mix ((seqI k zs.length).flatMap intCells) (zs.flatMap intCells) j) ∧ Only g w wr ∧ g < wr.heap.size) (fun _ i _ => zs.length - (RowKit.intOf i).toNat)
    case atStart => exact ⟨0, Nat.zero_le _, rfl, rfl, by simpa [mix] using HR.out, only_refl _ _, hgs⟩
    case round =>
      obtain ⟨j, hj, rfl, rfl, hrow, hon, hgl⟩ := hrel
      have HW := Lib.hid hrow
      have HO := Lib.hid hon
      have hml : (mix ((seqI k zs.length).flatMap intCells) (zs.flatMap intCells) j).length = zs.length := by rw [mix_length HL.out, HZ.out]
      by_cases hlt : j < zs.length
      · obtain ⟨z, x0⟩ := hrow.some (by rw [hml]; exact hlt)
        have f0 := hrow.free j (by rw [hml]; exact hlt)
        have HN := Lib.hid (hrow.step HL.out (HSQ.out j hlt))
        clear hrow hon hml
        generalize mix ((seqI k zs.length).flatMap intCells) (zs.flatMap intCells) j = M0 at *
        go_wp2
        go_roundw
        case rel => exact ⟨j + 1, by omega, by go_num, by go_num, HN.out, only_set HO.out j _, by simpa using hgl⟩
        case measure => simp [RowKit.intOf]; omega
      · have hge : ¬ (j : Int) < (zs.length : Int) := by omega
        have hje : j = zs.length := by omega
        have HF : Hid (Row wr g ((seqI k zs.length).flatMap intCells)) := Lib.hid (by
          rw [mix_all HL.out j (by rw [HL.out, HZ.out]; omega)] at hrow
          exact hrow)
        have HJ := Lib.hid hje
        clear hrow hon hml hje hlt
        go_wp2
        go_ret
        refine ⟨ret_i64 (by omega), ⟨some ⟨g, 0, none⟩, c, by rw [HSL.out], by rw [HSL.out]; exact hc, by unfold maxLen; omega, fun _ => ⟨g, rfl, hgb, hgl, HF.out⟩⟩, by rw [HSL.out, if_neg (by omega)]; exact HO.out⟩
theorem markText_bigz (z : Int) (k : Nat) (hz : z = (k : Int)) (w : World) (h0 : 0 < k) (h2 : k ≤ 1125899906842624) :
    Calls Tryz.prog 100 #[.int .i64 z] w (RetB (.string ⟨(109 :: itoa (k : Int)).toArray⟩) w) := by
  subst hz
  exact markText_big k w h0 h2
set_option maxHeartbeats 2000000 in
theorem markEdits_big (zs : List Edit) (v : Value) (base k : Nat) (w : World) (h : OwnL editCells zs base w v) (hk0 : 0 < k) (hk : k ≤ 562949953421312) (hn : zs.length ≤ 1048576) :
    Calls Tryz.prog 91 #[v, .int .i64 (k : Int)] w (Marked editCells (medits k zs.length) (k + 4 * zs.length) base v w) := by
  obtain ⟨A, c, rfl, hc, hm, hg⟩ := h
  unfold maxLen at hm
  by_cases h0 : zs = []
  · subst h0
    go_enter Tryz.func91, Tryz.ntmps91
    go_wp2
    go_loopw [1, 5] (fun m i wr => m = .int .i64 (k : Int) ∧ i = .int .i64 0 ∧ wr = w) (fun _ _ _ => 0)
    case atStart => exact ⟨rfl, rfl, rfl⟩
    case round =>
      obtain ⟨rfl, rfl, rfl⟩ := hrel
      go_wp2
      go_ret
      exact ⟨rfl, ⟨A, c, rfl, hc, by unfold maxLen; omega, fun h => absurd rfl h⟩, grown_refl _ _⟩
  · obtain ⟨g, rfl, hgb, hgs, hR⟩ := hg h0
    have hlen : ((medits k zs.length).flatMap editCells).length = (zs.flatMap editCells).length := by rw [edits_flat, edits_flat, medits_len]
    have HL := Lib.hid hlen
    have HZ := Lib.hid (edits_flat zs)
    have HR := Lib.hid hR
    have HSQ : Hid (∀ i, i < zs.length → ∀ j u, (editCells (medit (k + 4 * i)))[j]? = some u → ((medits k zs.length).flatMap editCells)[i * 4 + j]? = some u) := Lib.hid (fun i hi j u hu => flat_at editCells (size := 4) (fun _ => rfl) _ i _ j u (medits_get hi) hu (by have := (List.getElem?_eq_some_iff.1 hu).1; simpa [editCells] using this))
    have HSL := Lib.hid (medits_len k zs.length)
    have hnp : 0 < zs.length := List.length_pos_iff.2 h0
    clear hlen hR hg h0
    go_enter Tryz.func91, Tryz.ntmps91
    go_wp2
    go_loopw [1, 5] (fun m i wr => ∃ j : Nat, j ≤ zs.length ∧ i = .int .i64 (j : Int) ∧ m = .int .i64 ((k + 4 * j : Nat) : Int) ∧ Row wr g (mix ((medits k zs.length).flatMap editCells) (zs.flatMap editCells) (j * 4)) ∧ Only g w wr ∧ g < wr.heap.size) (fun _ i _ => zs.length - (RowKit.intOf i).toNat)
    case atStart => exact ⟨0, Nat.zero_le _, rfl, rfl, by simpa [mix] using HR.out, only_refl _ _, hgs⟩
    case round =>
      obtain ⟨j, hj, rfl, rfl, hrow, hon, hgl⟩ := hrel
      have HO := Lib.hid hon
      have hml : ∀ i, (mix ((medits k zs.length).flatMap editCells) (zs.flatMap editCells) i).length = zs.length * 4 := fun i => by rw [mix_length HL.out, HZ.out]
      by_cases hlt : j < zs.length
      · obtain ⟨K, hK⟩ : ∃ K, K = k + 4 * j := ⟨_, rfl⟩
        have u0 := HSQ.out j hlt 0 _ rfl
        have u1 := HSQ.out j hlt 1 _ rfl
        have u2 := HSQ.out j hlt 2 _ rfl
        have u3 := HSQ.out j hlt 3 _ rfl
        have hKb : K ≤ 562949957615616 := by omega
        have hK0 : 0 < K := by omega
        have HK2 : Hid (((k + 4 * (j + 1) : Nat) : Int) = (K : Int) + 1 + 1 + 1 + 1) := Lib.hid (by omega)
        rw [← hK] at u0 u1 u2 u3 ⊢
        clear hK hon
        have HT2 : Hid (∀ W, Calls Tryz.prog 100 #[.int .i64 ((K : Int) + 1 + 1)] W (RetB (.string ⟨(109 :: itoa ((K + 2 : Nat) : Int)).toArray⟩) W)) := Lib.hid (fun W => markText_bigz _ (K + 2) (by omega) W (by omega) (by omega))
        have HT3 : Hid (∀ W, Calls Tryz.prog 100 #[.int .i64 ((K : Int) + 1 + 1 + 1)] W (RetB (.string ⟨(109 :: itoa ((K + 3 : Nat) : Int)).toArray⟩) W)) := Lib.hid (fun W => markText_bigz _ (K + 3) (by omega) W (by omega) (by omega))
        simp only [medit] at u0 u1 u2 u3
        generalize (⟨(109 :: itoa ((K + 2 : Nat) : Int)).toArray⟩ : ByteArray) = t2 at *
        generalize (⟨(109 :: itoa ((K + 3 : Nat) : Int)).toArray⟩ : ByteArray) = t3 at *
        obtain ⟨z0, x0⟩ := hrow.some (j := j * 4) (by rw [hml]; omega)
        obtain ⟨z1, x1⟩ := hrow.some (j := j * 4 + 1) (by rw [hml]; omega)
        have f0 := hrow.free (j * 4) (by rw [hml]; omega)
        have f1 := hrow.free (j * 4 + 1) (by rw [hml]; omega)
        have R1 := (hrow.step HL.out (u := .int .i64 (K : Int)) u0).step HL.out (u := .int .i64 ((K : Int) + 1)) u1
        have HR1 := Lib.hid R1
        have HU2 := Lib.hid u2
        have HU3 := Lib.hid u3
        have HML := Lib.hid hml
        clear hrow R1 u0 u1 u2 u3 hml
        go_wp2_with (fail)
        refine (HT2.out _).mono ?_
        rintro e V1 ⟨rfl, hb1⟩
        have R2 := HR1.out.below hb1 (by simpa using hgl)
        have O2 : Only g w V1 := only_trans (only_set (only_set HO.out _ _) _ _) (below_only hb1)
        have hg1 : g < V1.heap.size := Nat.lt_of_lt_of_le hgl (by have := hb1.size; simpa using this)
        obtain ⟨z2, x2⟩ := R2.some (j := j * 4 + 2) (by rw [HML.out]; omega)
        have f2 := R2.free (j * 4 + 2) (by rw [HML.out]; omega)
        have HR3 := Lib.hid (R2.step HL.out (u := .string t2) HU2.out)
        have HO2 := Lib.hid O2
        clear x0 x1 f0 f1 hb1 R2 O2
        go_wp2_with (fail)
        refine (HT3.out _).mono ?_
        rintro e V2 ⟨rfl, hb2⟩
        have R4 := HR3.out.below hb2 (by simpa using hg1)
        have O3 : Only g w V2 := only_trans (only_set HO2.out _ _) (below_only hb2)
        have hg2 : g < V2.heap.size := Nat.lt_of_lt_of_le hg1 (by have := hb2.size; simpa using this)
        obtain ⟨z3, x3⟩ := R4.some (j := j * 4 + 3) (by rw [HML.out]; omega)
        have f3 := R4.free (j * 4 + 3) (by rw [HML.out]; omega)
        have HR5 := Lib.hid (R4.step HL.out (u := .string t3) HU3.out)
        have HO3 := Lib.hid O3
        clear x2 f2 hb2 R4 O3
        go_wp2
        go_roundw
        case rel => exact ⟨j + 1, by omega, by go_num, by rw [HK2.out], by rw [show (j + 1) * 4 = j * 4 + 1 + 1 + 1 + 1 by omega]; exact HR5.out, only_set HO3.out _ _, by simpa using hg2⟩
        case measure => simp [RowKit.intOf]; omega
      · have hge : ¬ (j : Int) < (zs.length : Int) := by omega
        have hje : j = zs.length := by omega
        have HF : Hid (Row wr g ((medits k zs.length).flatMap editCells)) := Lib.hid (by
          rw [mix_all HL.out (j * 4) (by rw [HL.out, HZ.out]; omega)] at hrow
          exact hrow)
        have HJ := Lib.hid hje
        clear hrow hon hml hje hlt
        go_wp2
        go_ret
        refine ⟨ret_i64 (by have := HJ.out; omega), ⟨some ⟨g, 0, none⟩, c, by rw [HSL.out], by rw [HSL.out]; exact hc, by unfold maxLen; omega, fun _ => ⟨g, rfl, hgb, hgl, HF.out⟩⟩, by rw [HSL.out, if_neg (by omega)]; exact HO.out⟩
end Go.Proofs.YtnandbammmcncaaGreat

namespace Go.Proofs.YtnandbammmcncaaGreat
open Go.RowKit Go.Lib

/-- The elements as they are marked, and the count behind them. -/
def markL {β : Type} (m : Nat → β → β) (nx : Nat → β → Nat) : Nat → List β → List β
  | _, [] => []
  | k, x :: xs => m k x :: markL m nx (nx k x) xs
def endK {β : Type} (nx : Nat → β → Nat) : Nat → List β → Nat
  | k, [] => k
  | k, x :: xs => endK nx (nx k x) xs
theorem endK_snoc {β : Type} (nx : Nat → β → Nat) : ∀ (L : List β) (k : Nat) (x : β), endK nx k (L ++ [x]) = nx (endK nx k L) x
  | [], _, _ => rfl
  | y :: L, k, x => endK_snoc nx L (nx k y) x
theorem markL_snoc {β : Type} (m : Nat → β → β) (nx : Nat → β → Nat) : ∀ (L : List β) (k : Nat) (x : β), markL m nx k (L ++ [x]) = markL m nx k L ++ [m (endK nx k L) x]
  | [], _, _ => rfl
  | y :: L, k, x => by
    rw [List.cons_append, markL, markL_snoc m nx L (nx k y) x]
    rfl
theorem markL_len {β : Type} (m : Nat → β → β) (nx : Nat → β → Nat) : ∀ (L : List β) (k : Nat), (markL m nx k L).length = L.length
  | [], _ => rfl
  | y :: L, k => by rw [markL, List.length_cons, List.length_cons, markL_len m nx L]
theorem TreeO.at {β : Type} {K : Kind β} {base : Nat} {w : World} {v : Value} {P R : List β} {x : β} (h : TreeO K base w v (P ++ x :: R)) {j g : Nat} (hP : P.length = j) (hv : v.ownBlock = some g) {i : Nat} {u : Value} (hu : (K.cells x)[i]? = some u) : w.cell? ⟨g, j * K.size + i, none⟩ = some u ∧ w.frozen? ⟨g, j * K.size + i, none⟩ = false := by
  obtain ⟨g', c, rfl, _, _, _, _, h7⟩ := h.cell (j := j) (x := x) (by rw [List.getElem?_append_right (by omega), hP, Nat.sub_self]; rfl)
  injection hv with hv
  have hv : g' = g := hv
  subst hv
  exact h7 i u hu
theorem TreeO.put {β : Type} {K : Kind β} {base : Nat} {w : World} {v : Value} {P R : List β} {x x' : β} (h : TreeO K base w v (P ++ x :: R)) {j g : Nat} (hP : P.length = j) (hv : v.ownBlock = some g) (i : Nat) (hi : i < K.size) (u : Value) (hc : K.cells x' = (K.cells x).set i u)
    (hb : ∀ b, K.blk x' b ↔ K.blk x b) (hin : ∀ w, K.inn base w x → K.inn base w x') : TreeO K base (w.setCell ⟨g, j * K.size + i, none⟩ u) v (P ++ x' :: R) := by
  have := h.setCell (j := j) (x := x) (x' := x') (by rw [List.getElem?_append_right (by omega), hP, Nat.sub_self]; rfl) hv i hi u hc hb hin
  rwa [List.set_append_right _ _ (by omega), hP, Nat.sub_self, List.set_cons_zero] at this
theorem TreeO.turn {β : Type} {K : Kind β} {base : Nat} {w w' : World} {v : Value} {P R : List β} {x x' : β} {F : Nat → Prop} (h : TreeO K base w v (P ++ x :: R)) {j : Nat} (hP : P.length = j) (ht : Touch F w w') (hF : ∀ b, b < w.heap.size → F b → K.blk x b) (hc : K.cells x' = K.cells x)
    (hb : ∀ b, K.blk x' b ↔ K.blk x b) (hin : K.inn base w' x') : TreeO K base w' v (P ++ x' :: R) := by
  have := h.inner (j := j) (x := x) (x' := x') (by rw [List.getElem?_append_right (by omega), hP, Nat.sub_self]; rfl) ht hF hc hb hin
  rwa [List.set_append_right _ _ (by omega), hP, Nat.sub_self, List.set_cons_zero] at this
theorem rowBlk {α β : Type} {xs : List α} {ys : List β} {v : Value} {b : Nat} (hl : ys.length = xs.length) (h : (if ys.length = 0 then none else v.ownBlock) = some b) : sBlk xs v b := by
  split at h
  · cases h
  · rename_i h0
    exact ⟨fun e => h0 (by rw [hl, e]; rfl), h⟩
theorem sBlk_iff {α β : Type} {xs : List α} {ys : List β} {v : Value} {b : Nat} (hl : xs.length = ys.length) : sBlk xs v b ↔ sBlk ys v b := ⟨fun h => sBlk_len h hl, fun h => sBlk_len h hl.symm⟩
def MarkT {β : Type} (K : Kind β) (m : Nat → β → β) (nx : Nat → β → Nat) (L : List β) (k base : Nat) (v : Value) (w : World) (e : Ending) (w' : World) : Prop :=
  e = .returned (.int .i64 ((endK nx k L : Nat) : Int)) ∧ TreeO K base w' v (markL m nx k L) ∧ Touch (Foot K v L) w w'
def mText (k : Nat) : ByteArray := ⟨(109 :: itoa ((k : Nat) : Int)).toArray⟩
def nRow (k : Nat) (x : VRow) : Nat := k + x.a.length
def mRow (k : Nat) (x : VRow) : VRow := ⟨seqI k x.a.length, x.v⟩
def nArt (k : Nat) (_ : Art) : Nat := k + 2
def mArt (k : Nat) (_ : Art) : Art := ⟨(k : Int), ⟨(109 :: itoa ((k + 1 : Nat) : Int)).toArray⟩⟩
def nAct (k : Nat) (x : VAct) : Nat := k + 2 + 4 * x.a.pat.length
def mAct (k : Nat) (x : VAct) : VAct := ⟨⟨(k : Int), (k : Int) + 1, medits (k + 2) x.a.pat.length⟩, x.v⟩
def nMot (k : Nat) (x : VMot) : Nat := k + 2 + 4 * x.a.pat.length + 3 + x.a.votes.length + 1
def mMot (k : Nat) (x : VMot) : VMot := ⟨⟨⟨(109 :: itoa ((k : Nat) : Int)).toArray⟩, (k : Int) + 1, medits (k + 2) x.a.pat.length, ((k + 2 + 4 * x.a.pat.length : Nat) : Int), ((k + 2 + 4 * x.a.pat.length : Nat) : Int) + 1, ((k + 2 + 4 * x.a.pat.length : Nat) : Int) + 1 + 1, seqI (k + 2 + 4 * x.a.pat.length + 3) x.a.votes.length, ((k + 2 + 4 * x.a.pat.length + 3 + x.a.votes.length : Nat) : Int)⟩, x.p, x.t⟩
theorem nRow_le : ∀ (L : List VRow) (k : Nat), (∀ x ∈ L, x.a.length ≤ 1048576) → endK nRow k L ≤ k + L.length * 1048576 ∧ k ≤ endK nRow k L
  | [], k, _ => by simp [endK]
  | x :: L, k, h => by
    have h1 := h x (by simp)
    have h2 := nRow_le L (nRow k x) (fun y hy => h y (by simp [hy]))
    have h3 : k ≤ nRow k x ∧ nRow k x ≤ k + 1048576 := by unfold nRow; omega
    rw [endK, List.length_cons, Nat.succ_mul]
    omega
set_option maxRecDepth 100000 in
set_option maxHeartbeats 8000000 in
theorem markRows_any (L : List VRow) (v : Value) (base k : Nat) (w : World) (h : TreeO kRow base w v L) (hz : ∀ x ∈ L, x.a.length ≤ 1048576) (hn : L.length ≤ 1048576) (hk0 : 0 < k) (hk : k ≤ 35184372088832) :
    Calls Tryz.prog 64 #[v, .int .i64 (k : Int)] w (MarkT kRow mRow nRow L k base v w) := by
  have hlim := fun j => nRow_le (L.take j) k (fun x hx => hz x (List.mem_of_mem_take hx))
  obtain ⟨A, c, rfl, hc, hm, hg⟩ := h.row
  unfold maxLen at hm
  by_cases h0 : L = []
  · subst h0
    have H := Lib.hid h
    clear h hg
    go_enter Tryz.func64, Tryz.ntmps64
    go_wp2
    go_loopw [1, 5] (fun m i wr => m = .int .i64 (k : Int) ∧ i = .int .i64 0 ∧ wr = w) (fun _ _ _ => 0)
    case atStart => exact ⟨rfl, rfl, rfl⟩
    case round =>
      obtain ⟨rfl, rfl, rfl⟩ := hrel
      go_wp2
      go_ret
      exact ⟨rfl, H.out, Touch.refl _ _⟩
  · obtain ⟨g, rfl, hgb, hgs, hR⟩ := hg h0
    have H := Lib.hid h
    have HZ := Lib.hid hz
    have HLIM := Lib.hid hlim
    have hnp : 0 < L.length := List.length_pos_iff.2 h0
    have HF0 : Hid (Foot kRow (.slice (some ⟨g, 0, none⟩) L.length c) L g) := Lib.hid (.inl ⟨h0, rfl⟩)
    have HFI : Hid (∀ x ∈ L, ∀ b, kRow.blk x b → Foot kRow (.slice (some ⟨g, 0, none⟩) L.length c) L b) := Lib.hid (fun x hx b hb => .inr ⟨x, hx, hb⟩)
    obtain ⟨F, hFe⟩ : ∃ F, F = Foot kRow (.slice (some ⟨g, 0, none⟩) L.length c) L := ⟨_, rfl⟩
    unfold MarkT
    rw [← hFe] at HF0 HFI ⊢
    clear h hg hz hlim h0 hFe hR
    go_enter Tryz.func64, Tryz.ntmps64
    go_wp2
    go_loopw [1, 5] (fun m i wr => ∃ j : Nat, j ≤ L.length ∧ i = .int .i64 (j : Int) ∧ m = .int .i64 ((endK nRow k (L.take j) : Nat) : Int) ∧ TreeO kRow base wr (.slice (some ⟨g, 0, none⟩) L.length c) (markL mRow nRow k (L.take j) ++ L.drop j) ∧ Touch F w wr) (fun _ i _ => L.length - (RowKit.intOf i).toNat)
    case atStart => exact ⟨0, Nat.zero_le _, rfl, rfl, by simpa [markL] using H.out, Touch.refl _ _⟩
    case round =>
      obtain ⟨j, hj, rfl, rfl, hT, hto⟩ := hrel
      have HTO := Lib.hid hto
      clear hto
      by_cases hlt : j < L.length
      · have hq : L[j]? = some L[j] := List.getElem?_eq_getElem hlt
        have hdrop : L.drop j = L[j] :: L.drop (j + 1) := List.drop_eq_getElem_cons hlt
        have htake : L.take (j + 1) = L.take j ++ [L[j]] := List.take_succ_eq_append_getElem hlt
        rw [hdrop] at hT
        obtain ⟨lim1, lim2⟩ := HLIM.out j
        rw [List.length_take, Nat.min_eq_left (by omega)] at lim1
        have HNX : Hid (endK nRow k (L.take (j + 1)) = nRow (endK nRow k (L.take j)) L[j]) := Lib.hid (by rw [htake, endK_snoc])
        obtain ⟨R, hR'⟩ : ∃ R, R = L.drop (j + 1) := ⟨_, rfl⟩
        have HMK : Hid (markL mRow nRow k (L.take (j + 1)) ++ L.drop (j + 1) = markL mRow nRow k (L.take j) ++ mRow (endK nRow k (L.take j)) L[j] :: R) := Lib.hid (by rw [hR', htake, markL_snoc, List.append_assoc]; rfl)
        rw [← hR'] at hT
        have hP : (markL mRow nRow k (L.take j)).length = j := by rw [markL_len, List.length_take, Nat.min_eq_left (by omega)]
        have hzx := HZ.out L[j] (List.getElem_mem hlt)
        have hfx := HFI.out L[j] (List.getElem_mem hlt)
        clear hq hdrop htake
        generalize markL mRow nRow k (L.take j) = P at *
        generalize endK nRow k (L.take j) = K0 at *
        clear hR'
        obtain ⟨x, hx⟩ : ∃ x, x = L[j] := ⟨_, rfl⟩
        rw [← hx] at hT HNX HMK hfx
        first | rw [← hx] at hzx | skip
        clear hx
        have hK0 : 0 < K0 := by omega
        have hKb : K0 ≤ 281474976710656 := by omega
        clear lim1 lim2
        obtain ⟨q0, pv⟩ := x
        try dsimp only at hzx hfx
        obtain ⟨B0, d0, e0, -⟩ := (hT.inn _ (List.mem_append_right _ (List.mem_cons_self ..)) : OwnL intCells q0 base wr pv)
        have g0 : pv = .slice B0 q0.length d0 := e0
        clear e0
        subst g0
        have c0 : wr.cell? ⟨g, j, none⟩ = some (.slice B0 q0.length d0) := by have := (hT.at hP rfl (i := 0) rfl).1; rwa [show j * kRow.size + 0 = j from Nat.mul_one j] at this
        have HT0 := Lib.hid hT
        clear hT
        obtain ⟨K1, hK1⟩ : ∃ z : Nat, z = K0 + q0.length := ⟨_, rfl⟩
        have HX1 : Hid (∀ W, OwnL intCells q0 base W (.slice B0 q0.length d0) → Calls Tryz.prog 18 #[.slice B0 q0.length d0, .int .i64 ((K0 : Int))] W (Marked intCells (seqI K0 q0.length) K1 base (.slice B0 q0.length d0) W)) := Lib.hid (fun V ho => by
          have := markInts_big q0 (.slice B0 q0.length d0) base K0 V ho (by omega) (by omega)
          rw [show ((K0 : Nat) : Int) = (K0 : Int) by omega, ← hK1] at this
          exact this)
        have HKN1 := Lib.hid hK1
        have lK1 : K1 ≤ K0 + 4194400 := by omega
        have mK1 : K0 ≤ K1 := by omega
        clear hK1
        have HTb1 := Lib.hid (HT0.out)
        go_wp2_with (fail)
        refine (HX1.out _ (HTb1.out.inn _ (List.mem_append_right _ (List.mem_cons_self ..)))).mono ?_
        rintro e V1 ⟨rfl, o1, gr1⟩
        have TB1 : Touch (fun b => sBlk q0 (.slice B0 q0.length d0) b) wr V1 := Touch.of_grown gr1 (fun b hb => rowBlk (by simp [seqI_len]) hb)
        have T1 : TreeO kRow base V1 (.slice (some ⟨g, 0, none⟩) L.length c) (P ++ (⟨(seqI K0 q0.length), .slice B0 q0.length d0⟩ : VRow) :: R) := HTb1.out.turn hP TB1 (fun b _ hb => hb) rfl (fun b => sBlk_iff (by simp [seqI_len])) (show OwnL intCells (seqI K0 q0.length) base V1 (.slice B0 q0.length d0) from by have := o1; exact this)
        have HO1 := Lib.hid (HTO.out.trans (TB1.mono (fun b _ hb => hfx b (hb))))
        clear c0 o1 gr1 TB1
        have HT1 := Lib.hid T1
        clear T1
        have HFIN := Lib.hid (HT1.out)
        have HOF := Lib.hid (HO1.out)
        go_wp2
        go_roundw
        case rel =>
          refine ⟨j + 1, by omega, by go_num, ?_, ?_, HOF.out⟩
          · rw [HNX.out]
            unfold nRow
            have := HKN1.out
            first | rfl | (congr 1; push_cast; omega) | (congr 1; omega)
          · rw [HMK.out]
            have hel : (⟨(seqI K0 q0.length), .slice B0 q0.length d0⟩ : VRow) = mRow K0 (⟨q0, .slice B0 q0.length d0⟩ : VRow) := by first | rfl | simp only [mRow, HKN1.out]
            rw [← hel]
            exact HFIN.out
        case measure => simp [RowKit.intOf]; omega
      · have hge : ¬ (j : Int) < (L.length : Int) := by omega
        have hje : j = L.length := by omega
        subst hje
        rw [List.take_of_length_le (Nat.le_refl _), List.drop_eq_nil_of_le (Nat.le_refl _), List.append_nil] at hT
        rw [List.take_of_length_le (Nat.le_refl _)]
        have HFI2 := Lib.hid hT
        clear hT
        go_wp2
        go_ret
        exact ⟨rfl, HFI2.out, HTO.out⟩
theorem nArt_le : ∀ (L : List Art) (k : Nat), (∀ x ∈ L, True) → endK nArt k L ≤ k + L.length * 2 ∧ k ≤ endK nArt k L
  | [], k, _ => by simp [endK]
  | x :: L, k, h => by
    have h1 := h x (by simp)
    have h2 := nArt_le L (nArt k x) (fun y hy => h y (by simp [hy]))
    have h3 : k ≤ nArt k x ∧ nArt k x ≤ k + 2 := by unfold nArt; omega
    rw [endK, List.length_cons, Nat.succ_mul]
    omega
set_option maxRecDepth 100000 in
set_option maxHeartbeats 8000000 in
theorem markArts_any (L : List Art) (v : Value) (base k : Nat) (w : World) (h : TreeO kArt base w v L) (hz : ∀ x ∈ L, True) (hn : L.length ≤ 1048576) (hk0 : 0 < k) (hk : k ≤ 35184372088832) :
    Calls Tryz.prog 65 #[v, .int .i64 (k : Int)] w (MarkT kArt mArt nArt L k base v w) := by
  have hlim := fun j => nArt_le (L.take j) k (fun x hx => hz x (List.mem_of_mem_take hx))
  obtain ⟨A, c, rfl, hc, hm, hg⟩ := h.row
  unfold maxLen at hm
  by_cases h0 : L = []
  · subst h0
    have H := Lib.hid h
    clear h hg
    go_enter Tryz.func65, Tryz.ntmps65
    go_wp2
    go_loopw [1, 5] (fun m i wr => m = .int .i64 (k : Int) ∧ i = .int .i64 0 ∧ wr = w) (fun _ _ _ => 0)
    case atStart => exact ⟨rfl, rfl, rfl⟩
    case round =>
      obtain ⟨rfl, rfl, rfl⟩ := hrel
      go_wp2
      go_ret
      exact ⟨rfl, H.out, Touch.refl _ _⟩
  · obtain ⟨g, rfl, hgb, hgs, hR⟩ := hg h0
    have H := Lib.hid h
    have HZ := Lib.hid hz
    have HLIM := Lib.hid hlim
    have hnp : 0 < L.length := List.length_pos_iff.2 h0
    have HF0 : Hid (Foot kArt (.slice (some ⟨g, 0, none⟩) L.length c) L g) := Lib.hid (.inl ⟨h0, rfl⟩)
    have HFI : Hid (∀ x ∈ L, ∀ b, kArt.blk x b → Foot kArt (.slice (some ⟨g, 0, none⟩) L.length c) L b) := Lib.hid (fun x hx b hb => .inr ⟨x, hx, hb⟩)
    obtain ⟨F, hFe⟩ : ∃ F, F = Foot kArt (.slice (some ⟨g, 0, none⟩) L.length c) L := ⟨_, rfl⟩
    unfold MarkT
    rw [← hFe] at HF0 HFI ⊢
    clear h hg hz hlim h0 hFe hR
    go_enter Tryz.func65, Tryz.ntmps65
    go_wp2
    go_loopw [1, 5] (fun m i wr => ∃ j : Nat, j ≤ L.length ∧ i = .int .i64 (j : Int) ∧ m = .int .i64 ((endK nArt k (L.take j) : Nat) : Int) ∧ TreeO kArt base wr (.slice (some ⟨g, 0, none⟩) L.length c) (markL mArt nArt k (L.take j) ++ L.drop j) ∧ Touch F w wr) (fun _ i _ => L.length - (RowKit.intOf i).toNat)
    case atStart => exact ⟨0, Nat.zero_le _, rfl, rfl, by simpa [markL] using H.out, Touch.refl _ _⟩
    case round =>
      obtain ⟨j, hj, rfl, rfl, hT, hto⟩ := hrel
      have HTO := Lib.hid hto
      clear hto
      by_cases hlt : j < L.length
      · have hq : L[j]? = some L[j] := List.getElem?_eq_getElem hlt
        have hdrop : L.drop j = L[j] :: L.drop (j + 1) := List.drop_eq_getElem_cons hlt
        have htake : L.take (j + 1) = L.take j ++ [L[j]] := List.take_succ_eq_append_getElem hlt
        rw [hdrop] at hT
        obtain ⟨lim1, lim2⟩ := HLIM.out j
        rw [List.length_take, Nat.min_eq_left (by omega)] at lim1
        have HNX : Hid (endK nArt k (L.take (j + 1)) = nArt (endK nArt k (L.take j)) L[j]) := Lib.hid (by rw [htake, endK_snoc])
        obtain ⟨R, hR'⟩ : ∃ R, R = L.drop (j + 1) := ⟨_, rfl⟩
        have HMK : Hid (markL mArt nArt k (L.take (j + 1)) ++ L.drop (j + 1) = markL mArt nArt k (L.take j) ++ mArt (endK nArt k (L.take j)) L[j] :: R) := Lib.hid (by rw [hR', htake, markL_snoc, List.append_assoc]; rfl)
        rw [← hR'] at hT
        have hP : (markL mArt nArt k (L.take j)).length = j := by rw [markL_len, List.length_take, Nat.min_eq_left (by omega)]
        have hzx := HZ.out L[j] (List.getElem_mem hlt)
        have hfx := HFI.out L[j] (List.getElem_mem hlt)
        clear hq hdrop htake
        generalize markL mArt nArt k (L.take j) = P at *
        generalize endK nArt k (L.take j) = K0 at *
        clear hR'
        obtain ⟨x, hx⟩ : ∃ x, x = L[j] := ⟨_, rfl⟩
        rw [← hx] at hT HNX HMK hfx
        first | rw [← hx] at hzx | skip
        clear hx
        have hK0 : 0 < K0 := by omega
        have hKb : K0 ≤ 281474976710656 := by omega
        clear lim1 lim2
        obtain ⟨i0, s1⟩ := x
        try dsimp only at hzx hfx
        have c0 : wr.cell? ⟨g, j * 2, none⟩ = some (.int .i64 (i0)) := (hT.at hP rfl (i := 0) rfl).1
        have f0 : wr.frozen? ⟨g, j * 2, none⟩ = false := (hT.at hP rfl (i := 0) rfl).2
        have c1 : wr.cell? ⟨g, j * 2 + 1, none⟩ = some (.string s1) := (hT.at hP rfl (i := 1) rfl).1
        have f1 : wr.frozen? ⟨g, j * 2 + 1, none⟩ = false := (hT.at hP rfl (i := 1) rfl).2
        have HT0 := Lib.hid hT
        clear hT
        have HX1 : Hid (∀ W, Calls Tryz.prog 100 #[.int .i64 ((K0 : Int) + 1)] W (RetB (.string ⟨(109 :: itoa (((K0 + 1) : Nat) : Int)).toArray⟩) W)) := Lib.hid (fun W => markText_bigz _ ((K0 + 1)) (by omega) W (by omega) (by omega))
        obtain ⟨tx1, htx1⟩ : ∃ t : ByteArray, t = ⟨(109 :: itoa (((K0 + 1) : Nat) : Int)).toArray⟩ := ⟨_, rfl⟩
        rw [← htx1] at HX1
        have HTX1 := Lib.hid htx1
        clear htx1
        go_wp2_with (fail)
        refine (HX1.out _).mono ?_
        rintro e V1 ⟨rfl, hb1⟩
        have T1 := TreeO.below ((show TreeO kArt base (wr.setCell ⟨g, j * 2, none⟩ (.int .i64 ((K0 : Int)))) (.slice (some ⟨g, 0, none⟩) L.length c) (P ++ (⟨(K0 : Int), s1⟩ : Art) :: R) from (HT0.out).put hP rfl 0 (by decide) _ rfl (fun _ => Iff.rfl) (fun _ h => h))) hb1
        have HO1 := Lib.hid ((HTO.out.setCell (p := ⟨g, j * 2, none⟩) HF0.out (.int .i64 ((K0 : Int)))).trans (Touch.of_below (F := F) hb1))
        clear f0 c0 f1 c1 hb1
        have c1 : V1.cell? ⟨g, j * 2 + 1, none⟩ = some (.string s1) := (T1.at hP rfl (i := 1) rfl).1
        have f1 : V1.frozen? ⟨g, j * 2 + 1, none⟩ = false := (T1.at hP rfl (i := 1) rfl).2
        have HT1 := Lib.hid T1
        clear T1
        have HFIN := Lib.hid ((show TreeO kArt base (V1.setCell ⟨g, j * 2 + 1, none⟩ (.string tx1)) (.slice (some ⟨g, 0, none⟩) L.length c) (P ++ (⟨(K0 : Int), tx1⟩ : Art) :: R) from (HT1.out).put hP rfl 1 (by decide) _ rfl (fun _ => Iff.rfl) (fun _ h => h)))
        have HOF := Lib.hid ((HO1.out.setCell (p := ⟨g, j * 2 + 1, none⟩) HF0.out (.string tx1)))
        go_wp2
        go_roundw
        case rel =>
          refine ⟨j + 1, by omega, by go_num, ?_, ?_, HOF.out⟩
          · rw [HNX.out]
            unfold nArt
            first | rfl | (congr 1; push_cast; omega) | (congr 1; omega)
          · rw [HMK.out]
            have hel : (⟨(K0 : Int), tx1⟩ : Art) = mArt K0 (⟨i0, s1⟩ : Art) := by first | rfl | simp only [mArt, HTX1.out]
            rw [← hel]
            exact HFIN.out
        case measure => simp [RowKit.intOf]; omega
      · have hge : ¬ (j : Int) < (L.length : Int) := by omega
        have hje : j = L.length := by omega
        subst hje
        rw [List.take_of_length_le (Nat.le_refl _), List.drop_eq_nil_of_le (Nat.le_refl _), List.append_nil] at hT
        rw [List.take_of_length_le (Nat.le_refl _)]
        have HFI2 := Lib.hid hT
        clear hT
        go_wp2
        go_ret
        exact ⟨rfl, HFI2.out, HTO.out⟩
theorem nAct_le : ∀ (L : List VAct) (k : Nat), (∀ x ∈ L, x.a.pat.length ≤ 1048576) → endK nAct k L ≤ k + L.length * 4194306 ∧ k ≤ endK nAct k L
  | [], k, _ => by simp [endK]
  | x :: L, k, h => by
    have h1 := h x (by simp)
    have h2 := nAct_le L (nAct k x) (fun y hy => h y (by simp [hy]))
    have h3 : k ≤ nAct k x ∧ nAct k x ≤ k + 4194306 := by unfold nAct; omega
    rw [endK, List.length_cons, Nat.succ_mul]
    omega
set_option maxRecDepth 100000 in
set_option maxHeartbeats 8000000 in
theorem markActs_any (L : List VAct) (v : Value) (base k : Nat) (w : World) (h : TreeO kAct base w v L) (hz : ∀ x ∈ L, x.a.pat.length ≤ 1048576) (hn : L.length ≤ 1048576) (hk0 : 0 < k) (hk : k ≤ 35184372088832) :
    Calls Tryz.prog 66 #[v, .int .i64 (k : Int)] w (MarkT kAct mAct nAct L k base v w) := by
  have hlim := fun j => nAct_le (L.take j) k (fun x hx => hz x (List.mem_of_mem_take hx))
  obtain ⟨A, c, rfl, hc, hm, hg⟩ := h.row
  unfold maxLen at hm
  by_cases h0 : L = []
  · subst h0
    have H := Lib.hid h
    clear h hg
    go_enter Tryz.func66, Tryz.ntmps66
    go_wp2
    go_loopw [1, 5] (fun m i wr => m = .int .i64 (k : Int) ∧ i = .int .i64 0 ∧ wr = w) (fun _ _ _ => 0)
    case atStart => exact ⟨rfl, rfl, rfl⟩
    case round =>
      obtain ⟨rfl, rfl, rfl⟩ := hrel
      go_wp2
      go_ret
      exact ⟨rfl, H.out, Touch.refl _ _⟩
  · obtain ⟨g, rfl, hgb, hgs, hR⟩ := hg h0
    have H := Lib.hid h
    have HZ := Lib.hid hz
    have HLIM := Lib.hid hlim
    have hnp : 0 < L.length := List.length_pos_iff.2 h0
    have HF0 : Hid (Foot kAct (.slice (some ⟨g, 0, none⟩) L.length c) L g) := Lib.hid (.inl ⟨h0, rfl⟩)
    have HFI : Hid (∀ x ∈ L, ∀ b, kAct.blk x b → Foot kAct (.slice (some ⟨g, 0, none⟩) L.length c) L b) := Lib.hid (fun x hx b hb => .inr ⟨x, hx, hb⟩)
    obtain ⟨F, hFe⟩ : ∃ F, F = Foot kAct (.slice (some ⟨g, 0, none⟩) L.length c) L := ⟨_, rfl⟩
    unfold MarkT
    rw [← hFe] at HF0 HFI ⊢
    clear h hg hz hlim h0 hFe hR
    go_enter Tryz.func66, Tryz.ntmps66
    go_wp2
    go_loopw [1, 5] (fun m i wr => ∃ j : Nat, j ≤ L.length ∧ i = .int .i64 (j : Int) ∧ m = .int .i64 ((endK nAct k (L.take j) : Nat) : Int) ∧ TreeO kAct base wr (.slice (some ⟨g, 0, none⟩) L.length c) (markL mAct nAct k (L.take j) ++ L.drop j) ∧ Touch F w wr) (fun _ i _ => L.length - (RowKit.intOf i).toNat)
    case atStart => exact ⟨0, Nat.zero_le _, rfl, rfl, by simpa [markL] using H.out, Touch.refl _ _⟩
    case round =>
      obtain ⟨j, hj, rfl, rfl, hT, hto⟩ := hrel
      have HTO := Lib.hid hto
      clear hto
      by_cases hlt : j < L.length
      · have hq : L[j]? = some L[j] := List.getElem?_eq_getElem hlt
        have hdrop : L.drop j = L[j] :: L.drop (j + 1) := List.drop_eq_getElem_cons hlt
        have htake : L.take (j + 1) = L.take j ++ [L[j]] := List.take_succ_eq_append_getElem hlt
        rw [hdrop] at hT
        obtain ⟨lim1, lim2⟩ := HLIM.out j
        rw [List.length_take, Nat.min_eq_left (by omega)] at lim1
        have HNX : Hid (endK nAct k (L.take (j + 1)) = nAct (endK nAct k (L.take j)) L[j]) := Lib.hid (by rw [htake, endK_snoc])
        obtain ⟨R, hR'⟩ : ∃ R, R = L.drop (j + 1) := ⟨_, rfl⟩
        have HMK : Hid (markL mAct nAct k (L.take (j + 1)) ++ L.drop (j + 1) = markL mAct nAct k (L.take j) ++ mAct (endK nAct k (L.take j)) L[j] :: R) := Lib.hid (by rw [hR', htake, markL_snoc, List.append_assoc]; rfl)
        rw [← hR'] at hT
        have hP : (markL mAct nAct k (L.take j)).length = j := by rw [markL_len, List.length_take, Nat.min_eq_left (by omega)]
        have hzx := HZ.out L[j] (List.getElem_mem hlt)
        have hfx := HFI.out L[j] (List.getElem_mem hlt)
        clear hq hdrop htake
        generalize markL mAct nAct k (L.take j) = P at *
        generalize endK nAct k (L.take j) = K0 at *
        clear hR'
        obtain ⟨x, hx⟩ : ∃ x, x = L[j] := ⟨_, rfl⟩
        rw [← hx] at hT HNX HMK hfx
        first | rw [← hx] at hzx | skip
        clear hx
        have hK0 : 0 < K0 := by omega
        have hKb : K0 ≤ 281474976710656 := by omega
        clear lim1 lim2
        obtain ⟨⟨i0, i1, q2⟩, pv⟩ := x
        try dsimp only at hzx hfx
        obtain ⟨B2, d2, e2, -⟩ := (hT.inn _ (List.mem_append_right _ (List.mem_cons_self ..)) : OwnL editCells q2 base wr pv)
        have g2 : pv = .slice B2 q2.length d2 := e2
        clear e2
        subst g2
        have c0 : wr.cell? ⟨g, j * 3, none⟩ = some (.int .i64 (i0)) := (hT.at hP rfl (i := 0) rfl).1
        have f0 : wr.frozen? ⟨g, j * 3, none⟩ = false := (hT.at hP rfl (i := 0) rfl).2
        have c1 : wr.cell? ⟨g, j * 3 + 1, none⟩ = some (.int .i64 (i1)) := (hT.at hP rfl (i := 1) rfl).1
        have f1 : wr.frozen? ⟨g, j * 3 + 1, none⟩ = false := (hT.at hP rfl (i := 1) rfl).2
        have c2 : wr.cell? ⟨g, j * 3 + 2, none⟩ = some (.slice B2 q2.length d2) := (hT.at hP rfl (i := 2) rfl).1
        have HT0 := Lib.hid hT
        clear hT
        obtain ⟨K1, hK1⟩ : ∃ z : Nat, z = (K0 + 2) + 4 * q2.length := ⟨_, rfl⟩
        have HX1 : Hid (∀ W, OwnL editCells q2 base W (.slice B2 q2.length d2) → Calls Tryz.prog 91 #[.slice B2 q2.length d2, .int .i64 ((K0 : Int) + 1 + 1)] W (Marked editCells (medits (K0 + 2) q2.length) K1 base (.slice B2 q2.length d2) W)) := Lib.hid (fun V ho => by
          have := markEdits_big q2 (.slice B2 q2.length d2) base (K0 + 2) V ho (by omega) (by omega) (by omega)
          rw [show (((K0 + 2) : Nat) : Int) = (K0 : Int) + 1 + 1 by omega, ← hK1] at this
          exact this)
        have HKN1 := Lib.hid hK1
        have lK1 : K1 ≤ K0 + 4194400 := by omega
        have mK1 : K0 ≤ K1 := by omega
        clear hK1
        have HTb1 := Lib.hid ((show TreeO kAct base ((wr.setCell ⟨g, j * 3, none⟩ (.int .i64 ((K0 : Int)))).setCell ⟨g, j * 3 + 1, none⟩ (.int .i64 ((K0 : Int) + 1))) (.slice (some ⟨g, 0, none⟩) L.length c) (P ++ (⟨⟨(K0 : Int), (K0 : Int) + 1, q2⟩, .slice B2 q2.length d2⟩ : VAct) :: R) from ((show TreeO kAct base (wr.setCell ⟨g, j * 3, none⟩ (.int .i64 ((K0 : Int)))) (.slice (some ⟨g, 0, none⟩) L.length c) (P ++ (⟨⟨(K0 : Int), i1, q2⟩, .slice B2 q2.length d2⟩ : VAct) :: R) from (HT0.out).put hP rfl 0 (by decide) _ rfl (fun _ => Iff.rfl) (fun _ h => h))).put hP rfl 1 (by decide) _ rfl (fun _ => Iff.rfl) (fun _ h => h)))
        go_wp2_with (fail)
        refine (HX1.out _ (HTb1.out.inn _ (List.mem_append_right _ (List.mem_cons_self ..)))).mono ?_
        rintro e V1 ⟨rfl, o1, gr1⟩
        have TB1 : Touch (fun b => sBlk q2 (.slice B2 q2.length d2) b) ((wr.setCell ⟨g, j * 3, none⟩ (.int .i64 ((K0 : Int)))).setCell ⟨g, j * 3 + 1, none⟩ (.int .i64 ((K0 : Int) + 1))) V1 := Touch.of_grown gr1 (fun b hb => rowBlk (by simp [medits_len]) hb)
        have T1 : TreeO kAct base V1 (.slice (some ⟨g, 0, none⟩) L.length c) (P ++ (⟨⟨(K0 : Int), (K0 : Int) + 1, (medits (K0 + 2) q2.length)⟩, .slice B2 q2.length d2⟩ : VAct) :: R) := HTb1.out.turn hP TB1 (fun b _ hb => hb) rfl (fun b => sBlk_iff (by simp [medits_len])) (show OwnL editCells (medits (K0 + 2) q2.length) base V1 (.slice B2 q2.length d2) from by have := o1; exact this)
        have HO1 := Lib.hid (((HTO.out.setCell (p := ⟨g, j * 3, none⟩) HF0.out (.int .i64 ((K0 : Int)))).setCell (p := ⟨g, j * 3 + 1, none⟩) HF0.out (.int .i64 ((K0 : Int) + 1))).trans (TB1.mono (fun b _ hb => hfx b (hb))))
        clear f0 c0 f1 c1 c2 o1 gr1 TB1
        have HT1 := Lib.hid T1
        clear T1
        have HFIN := Lib.hid (HT1.out)
        have HOF := Lib.hid (HO1.out)
        go_wp2
        go_roundw
        case rel =>
          refine ⟨j + 1, by omega, by go_num, ?_, ?_, HOF.out⟩
          · rw [HNX.out]
            unfold nAct
            have := HKN1.out
            first | rfl | (congr 1; push_cast; omega) | (congr 1; omega)
          · rw [HMK.out]
            have hel : (⟨⟨(K0 : Int), (K0 : Int) + 1, (medits (K0 + 2) q2.length)⟩, .slice B2 q2.length d2⟩ : VAct) = mAct K0 (⟨⟨i0, i1, q2⟩, .slice B2 q2.length d2⟩ : VAct) := by first | rfl | simp only [mAct, HKN1.out]
            rw [← hel]
            exact HFIN.out
        case measure => simp [RowKit.intOf]; omega
      · have hge : ¬ (j : Int) < (L.length : Int) := by omega
        have hje : j = L.length := by omega
        subst hje
        rw [List.take_of_length_le (Nat.le_refl _), List.drop_eq_nil_of_le (Nat.le_refl _), List.append_nil] at hT
        rw [List.take_of_length_le (Nat.le_refl _)]
        have HFI2 := Lib.hid hT
        clear hT
        go_wp2
        go_ret
        exact ⟨rfl, HFI2.out, HTO.out⟩
theorem nMot_le : ∀ (L : List VMot) (k : Nat), (∀ x ∈ L, x.a.pat.length ≤ 1048576 ∧ x.a.votes.length ≤ 1048576) → endK nMot k L ≤ k + L.length * 5242886 ∧ k ≤ endK nMot k L
  | [], k, _ => by simp [endK]
  | x :: L, k, h => by
    have h1 := h x (by simp)
    have h2 := nMot_le L (nMot k x) (fun y hy => h y (by simp [hy]))
    have h3 : k ≤ nMot k x ∧ nMot k x ≤ k + 5242886 := by unfold nMot; omega
    rw [endK, List.length_cons, Nat.succ_mul]
    omega
set_option maxRecDepth 100000 in
set_option maxHeartbeats 8000000 in
theorem markMots_any (L : List VMot) (v : Value) (base k : Nat) (w : World) (h : TreeO kMot base w v L) (hz : ∀ x ∈ L, x.a.pat.length ≤ 1048576 ∧ x.a.votes.length ≤ 1048576) (hn : L.length ≤ 1048576) (hk0 : 0 < k) (hk : k ≤ 35184372088832) :
    Calls Tryz.prog 67 #[v, .int .i64 (k : Int)] w (MarkT kMot mMot nMot L k base v w) := by
  have hlim := fun j => nMot_le (L.take j) k (fun x hx => hz x (List.mem_of_mem_take hx))
  obtain ⟨A, c, rfl, hc, hm, hg⟩ := h.row
  unfold maxLen at hm
  by_cases h0 : L = []
  · subst h0
    have H := Lib.hid h
    clear h hg
    go_enter Tryz.func67, Tryz.ntmps67
    go_wp2
    go_loopw [1, 5] (fun m i wr => m = .int .i64 (k : Int) ∧ i = .int .i64 0 ∧ wr = w) (fun _ _ _ => 0)
    case atStart => exact ⟨rfl, rfl, rfl⟩
    case round =>
      obtain ⟨rfl, rfl, rfl⟩ := hrel
      go_wp2
      go_ret
      exact ⟨rfl, H.out, Touch.refl _ _⟩
  · obtain ⟨g, rfl, hgb, hgs, hR⟩ := hg h0
    have H := Lib.hid h
    have HZ := Lib.hid hz
    have HLIM := Lib.hid hlim
    have hnp : 0 < L.length := List.length_pos_iff.2 h0
    have HF0 : Hid (Foot kMot (.slice (some ⟨g, 0, none⟩) L.length c) L g) := Lib.hid (.inl ⟨h0, rfl⟩)
    have HFI : Hid (∀ x ∈ L, ∀ b, kMot.blk x b → Foot kMot (.slice (some ⟨g, 0, none⟩) L.length c) L b) := Lib.hid (fun x hx b hb => .inr ⟨x, hx, hb⟩)
    obtain ⟨F, hFe⟩ : ∃ F, F = Foot kMot (.slice (some ⟨g, 0, none⟩) L.length c) L := ⟨_, rfl⟩
    unfold MarkT
    rw [← hFe] at HF0 HFI ⊢
    clear h hg hz hlim h0 hFe hR
    go_enter Tryz.func67, Tryz.ntmps67
    go_wp2
    go_loopw [1, 5] (fun m i wr => ∃ j : Nat, j ≤ L.length ∧ i = .int .i64 (j : Int) ∧ m = .int .i64 ((endK nMot k (L.take j) : Nat) : Int) ∧ TreeO kMot base wr (.slice (some ⟨g, 0, none⟩) L.length c) (markL mMot nMot k (L.take j) ++ L.drop j) ∧ Touch F w wr) (fun _ i _ => L.length - (RowKit.intOf i).toNat)
    case atStart => exact ⟨0, Nat.zero_le _, rfl, rfl, by simpa [markL] using H.out, Touch.refl _ _⟩
    case round =>
      obtain ⟨j, hj, rfl, rfl, hT, hto⟩ := hrel
      have HTO := Lib.hid hto
      clear hto
      by_cases hlt : j < L.length
      · have hq : L[j]? = some L[j] := List.getElem?_eq_getElem hlt
        have hdrop : L.drop j = L[j] :: L.drop (j + 1) := List.drop_eq_getElem_cons hlt
        have htake : L.take (j + 1) = L.take j ++ [L[j]] := List.take_succ_eq_append_getElem hlt
        rw [hdrop] at hT
        obtain ⟨lim1, lim2⟩ := HLIM.out j
        rw [List.length_take, Nat.min_eq_left (by omega)] at lim1
        have HNX : Hid (endK nMot k (L.take (j + 1)) = nMot (endK nMot k (L.take j)) L[j]) := Lib.hid (by rw [htake, endK_snoc])
        obtain ⟨R, hR'⟩ : ∃ R, R = L.drop (j + 1) := ⟨_, rfl⟩
        have HMK : Hid (markL mMot nMot k (L.take (j + 1)) ++ L.drop (j + 1) = markL mMot nMot k (L.take j) ++ mMot (endK nMot k (L.take j)) L[j] :: R) := Lib.hid (by rw [hR', htake, markL_snoc, List.append_assoc]; rfl)
        rw [← hR'] at hT
        have hP : (markL mMot nMot k (L.take j)).length = j := by rw [markL_len, List.length_take, Nat.min_eq_left (by omega)]
        have hzx := HZ.out L[j] (List.getElem_mem hlt)
        have hfx := HFI.out L[j] (List.getElem_mem hlt)
        clear hq hdrop htake
        generalize markL mMot nMot k (L.take j) = P at *
        generalize endK nMot k (L.take j) = K0 at *
        clear hR'
        obtain ⟨x, hx⟩ : ∃ x, x = L[j] := ⟨_, rfl⟩
        rw [← hx] at hT HNX HMK hfx
        first | rw [← hx] at hzx | skip
        clear hx
        have hK0 : 0 < K0 := by omega
        have hKb : K0 ≤ 281474976710656 := by omega
        clear lim1 lim2
        obtain ⟨⟨s0, i1, q2, i3, i4, i5, q6, i7⟩, pv, tv⟩ := x
        try dsimp only at hzx hfx
        obtain ⟨B2, d2, e2, -⟩ := ((hT.inn _ (List.mem_append_right _ (List.mem_cons_self ..))).1 : OwnL editCells q2 base wr pv)
        have g2 : pv = .slice B2 q2.length d2 := e2
        clear e2
        subst g2
        obtain ⟨B6, d6, e6, -⟩ := ((hT.inn _ (List.mem_append_right _ (List.mem_cons_self ..))).2.1 : OwnL intCells q6 base wr tv)
        have g6 : tv = .slice B6 q6.length d6 := e6
        clear e6
        subst g6
        have c0 : wr.cell? ⟨g, j * 8, none⟩ = some (.string s0) := (hT.at hP rfl (i := 0) rfl).1
        have f0 : wr.frozen? ⟨g, j * 8, none⟩ = false := (hT.at hP rfl (i := 0) rfl).2
        have c1 : wr.cell? ⟨g, j * 8 + 1, none⟩ = some (.int .i64 (i1)) := (hT.at hP rfl (i := 1) rfl).1
        have f1 : wr.frozen? ⟨g, j * 8 + 1, none⟩ = false := (hT.at hP rfl (i := 1) rfl).2
        have c2 : wr.cell? ⟨g, j * 8 + 2, none⟩ = some (.slice B2 q2.length d2) := (hT.at hP rfl (i := 2) rfl).1
        have c3 : wr.cell? ⟨g, j * 8 + 3, none⟩ = some (.int .i64 (i3)) := (hT.at hP rfl (i := 3) rfl).1
        have f3 : wr.frozen? ⟨g, j * 8 + 3, none⟩ = false := (hT.at hP rfl (i := 3) rfl).2
        have c4 : wr.cell? ⟨g, j * 8 + 4, none⟩ = some (.int .i64 (i4)) := (hT.at hP rfl (i := 4) rfl).1
        have f4 : wr.frozen? ⟨g, j * 8 + 4, none⟩ = false := (hT.at hP rfl (i := 4) rfl).2
        have c5 : wr.cell? ⟨g, j * 8 + 5, none⟩ = some (.int .i64 (i5)) := (hT.at hP rfl (i := 5) rfl).1
        have f5 : wr.frozen? ⟨g, j * 8 + 5, none⟩ = false := (hT.at hP rfl (i := 5) rfl).2
        have c6 : wr.cell? ⟨g, j * 8 + 6, none⟩ = some (.slice B6 q6.length d6) := (hT.at hP rfl (i := 6) rfl).1
        have c7 : wr.cell? ⟨g, j * 8 + 7, none⟩ = some (.int .i64 (i7)) := (hT.at hP rfl (i := 7) rfl).1
        have f7 : wr.frozen? ⟨g, j * 8 + 7, none⟩ = false := (hT.at hP rfl (i := 7) rfl).2
        have HT0 := Lib.hid hT
        clear hT
        have HX1 : Hid (∀ W, Calls Tryz.prog 100 #[.int .i64 ((K0 : Int))] W (RetB (.string ⟨(109 :: itoa ((K0 : Nat) : Int)).toArray⟩) W)) := Lib.hid (fun W => markText_bigz _ (K0) (by omega) W (by omega) (by omega))
        obtain ⟨tx1, htx1⟩ : ∃ t : ByteArray, t = ⟨(109 :: itoa ((K0 : Nat) : Int)).toArray⟩ := ⟨_, rfl⟩
        rw [← htx1] at HX1
        have HTX1 := Lib.hid htx1
        clear htx1
        go_wp2_with (fail)
        refine (HX1.out _).mono ?_
        rintro e V1 ⟨rfl, hb1⟩
        have T1 := TreeO.below (HT0.out) hb1
        have HO1 := Lib.hid (HTO.out.trans (Touch.of_below (F := F) hb1))
        clear f0 c0 f1 c1 c2 f3 c3 f4 c4 f5 c5 c6 f7 c7 hb1
        have c0 : V1.cell? ⟨g, j * 8, none⟩ = some (.string s0) := (T1.at hP rfl (i := 0) rfl).1
        have f0 : V1.frozen? ⟨g, j * 8, none⟩ = false := (T1.at hP rfl (i := 0) rfl).2
        have c1 : V1.cell? ⟨g, j * 8 + 1, none⟩ = some (.int .i64 (i1)) := (T1.at hP rfl (i := 1) rfl).1
        have f1 : V1.frozen? ⟨g, j * 8 + 1, none⟩ = false := (T1.at hP rfl (i := 1) rfl).2
        have c2 : V1.cell? ⟨g, j * 8 + 2, none⟩ = some (.slice B2 q2.length d2) := (T1.at hP rfl (i := 2) rfl).1
        have c3 : V1.cell? ⟨g, j * 8 + 3, none⟩ = some (.int .i64 (i3)) := (T1.at hP rfl (i := 3) rfl).1
        have f3 : V1.frozen? ⟨g, j * 8 + 3, none⟩ = false := (T1.at hP rfl (i := 3) rfl).2
        have c4 : V1.cell? ⟨g, j * 8 + 4, none⟩ = some (.int .i64 (i4)) := (T1.at hP rfl (i := 4) rfl).1
        have f4 : V1.frozen? ⟨g, j * 8 + 4, none⟩ = false := (T1.at hP rfl (i := 4) rfl).2
        have c5 : V1.cell? ⟨g, j * 8 + 5, none⟩ = some (.int .i64 (i5)) := (T1.at hP rfl (i := 5) rfl).1
        have f5 : V1.frozen? ⟨g, j * 8 + 5, none⟩ = false := (T1.at hP rfl (i := 5) rfl).2
        have c6 : V1.cell? ⟨g, j * 8 + 6, none⟩ = some (.slice B6 q6.length d6) := (T1.at hP rfl (i := 6) rfl).1
        have c7 : V1.cell? ⟨g, j * 8 + 7, none⟩ = some (.int .i64 (i7)) := (T1.at hP rfl (i := 7) rfl).1
        have f7 : V1.frozen? ⟨g, j * 8 + 7, none⟩ = false := (T1.at hP rfl (i := 7) rfl).2
        have HT1 := Lib.hid T1
        clear T1
        obtain ⟨K2, hK2⟩ : ∃ z : Nat, z = (K0 + 2) + 4 * q2.length := ⟨_, rfl⟩
        have HX2 : Hid (∀ W, OwnL editCells q2 base W (.slice B2 q2.length d2) → Calls Tryz.prog 91 #[.slice B2 q2.length d2, .int .i64 ((K0 : Int) + 1 + 1)] W (Marked editCells (medits (K0 + 2) q2.length) K2 base (.slice B2 q2.length d2) W)) := Lib.hid (fun V ho => by
          have := markEdits_big q2 (.slice B2 q2.length d2) base (K0 + 2) V ho (by omega) (by omega) (by omega)
          rw [show (((K0 + 2) : Nat) : Int) = (K0 : Int) + 1 + 1 by omega, ← hK2] at this
          exact this)
        have HKN2 := Lib.hid hK2
        have lK2 : K2 ≤ K0 + 4194400 := by omega
        have mK2 : K0 ≤ K2 := by omega
        clear hK2
        have HTb2 := Lib.hid ((show TreeO kMot base ((V1.setCell ⟨g, j * 8, none⟩ (.string tx1)).setCell ⟨g, j * 8 + 1, none⟩ (.int .i64 ((K0 : Int) + 1))) (.slice (some ⟨g, 0, none⟩) L.length c) (P ++ (⟨⟨tx1, (K0 : Int) + 1, q2, i3, i4, i5, q6, i7⟩, .slice B2 q2.length d2, .slice B6 q6.length d6⟩ : VMot) :: R) from ((show TreeO kMot base (V1.setCell ⟨g, j * 8, none⟩ (.string tx1)) (.slice (some ⟨g, 0, none⟩) L.length c) (P ++ (⟨⟨tx1, i1, q2, i3, i4, i5, q6, i7⟩, .slice B2 q2.length d2, .slice B6 q6.length d6⟩ : VMot) :: R) from (HT1.out).put hP rfl 0 (by decide) _ rfl (fun _ => Iff.rfl) (fun _ h => h))).put hP rfl 1 (by decide) _ rfl (fun _ => Iff.rfl) (fun _ h => h)))
        go_wp2_with (fail)
        refine (HX2.out _ ((HTb2.out.inn _ (List.mem_append_right _ (List.mem_cons_self ..))).1)).mono ?_
        rintro e V2 ⟨rfl, o2, gr2⟩
        have TB2 : Touch (fun b => sBlk q2 (.slice B2 q2.length d2) b) ((V1.setCell ⟨g, j * 8, none⟩ (.string tx1)).setCell ⟨g, j * 8 + 1, none⟩ (.int .i64 ((K0 : Int) + 1))) V2 := Touch.of_grown gr2 (fun b hb => rowBlk (by simp [medits_len]) hb)
        have T2 : TreeO kMot base V2 (.slice (some ⟨g, 0, none⟩) L.length c) (P ++ (⟨⟨tx1, (K0 : Int) + 1, (medits (K0 + 2) q2.length), i3, i4, i5, q6, i7⟩, .slice B2 q2.length d2, .slice B6 q6.length d6⟩ : VMot) :: R) := HTb2.out.turn hP TB2 (fun b _ hb => Or.inl hb) rfl (fun b => or_congr_left (sBlk_iff (by simp [medits_len]))) ⟨(show OwnL editCells (medits (K0 + 2) q2.length) base V2 (.slice B2 q2.length d2) from by have := o2; exact this), OwnL.touch (show OwnL intCells q6 base _ _ from (HTb2.out.inn _ (List.mem_append_right _ (List.mem_cons_self ..))).2.1) TB2 (fun b hb hb2 => (HTb2.out.inn _ (List.mem_append_right _ (List.mem_cons_self ..))).2.2 b hb2 hb), fun b h1 h2 => (HTb2.out.inn _ (List.mem_append_right _ (List.mem_cons_self ..))).2.2 b (sBlk_len h1 (by simp [medits_len])) h2⟩
        have HO2 := Lib.hid (((HO1.out.setCell (p := ⟨g, j * 8, none⟩) HF0.out (.string tx1)).setCell (p := ⟨g, j * 8 + 1, none⟩) HF0.out (.int .i64 ((K0 : Int) + 1))).trans (TB2.mono (fun b _ hb => hfx b (Or.inl hb))))
        clear f0 c0 f1 c1 c2 f3 c3 f4 c4 f5 c5 c6 f7 c7 o2 gr2 TB2
        have c3 : V2.cell? ⟨g, j * 8 + 3, none⟩ = some (.int .i64 (i3)) := (T2.at hP rfl (i := 3) rfl).1
        have f3 : V2.frozen? ⟨g, j * 8 + 3, none⟩ = false := (T2.at hP rfl (i := 3) rfl).2
        have c4 : V2.cell? ⟨g, j * 8 + 4, none⟩ = some (.int .i64 (i4)) := (T2.at hP rfl (i := 4) rfl).1
        have f4 : V2.frozen? ⟨g, j * 8 + 4, none⟩ = false := (T2.at hP rfl (i := 4) rfl).2
        have c5 : V2.cell? ⟨g, j * 8 + 5, none⟩ = some (.int .i64 (i5)) := (T2.at hP rfl (i := 5) rfl).1
        have f5 : V2.frozen? ⟨g, j * 8 + 5, none⟩ = false := (T2.at hP rfl (i := 5) rfl).2
        have c6 : V2.cell? ⟨g, j * 8 + 6, none⟩ = some (.slice B6 q6.length d6) := (T2.at hP rfl (i := 6) rfl).1
        have c7 : V2.cell? ⟨g, j * 8 + 7, none⟩ = some (.int .i64 (i7)) := (T2.at hP rfl (i := 7) rfl).1
        have f7 : V2.frozen? ⟨g, j * 8 + 7, none⟩ = false := (T2.at hP rfl (i := 7) rfl).2
        have HT2 := Lib.hid T2
        clear T2
        obtain ⟨K3, hK3⟩ : ∃ z : Nat, z = (K2 + 3) + q6.length := ⟨_, rfl⟩
        have HX3 : Hid (∀ W, OwnL intCells q6 base W (.slice B6 q6.length d6) → Calls Tryz.prog 18 #[.slice B6 q6.length d6, .int .i64 ((K2 : Int) + 1 + 1 + 1)] W (Marked intCells (seqI (K2 + 3) q6.length) K3 base (.slice B6 q6.length d6) W)) := Lib.hid (fun V ho => by
          have := markInts_big q6 (.slice B6 q6.length d6) base (K2 + 3) V ho (by omega) (by omega)
          rw [show (((K2 + 3) : Nat) : Int) = (K2 : Int) + 1 + 1 + 1 by omega, ← hK3] at this
          exact this)
        have HKN3 := Lib.hid hK3
        have lK3 : K3 ≤ K2 + 4194400 := by omega
        have mK3 : K2 ≤ K3 := by omega
        clear hK3
        have HTb3 := Lib.hid ((show TreeO kMot base (((V2.setCell ⟨g, j * 8 + 3, none⟩ (.int .i64 ((K2 : Int)))).setCell ⟨g, j * 8 + 4, none⟩ (.int .i64 ((K2 : Int) + 1))).setCell ⟨g, j * 8 + 5, none⟩ (.int .i64 ((K2 : Int) + 1 + 1))) (.slice (some ⟨g, 0, none⟩) L.length c) (P ++ (⟨⟨tx1, (K0 : Int) + 1, (medits (K0 + 2) q2.length), (K2 : Int), (K2 : Int) + 1, (K2 : Int) + 1 + 1, q6, i7⟩, .slice B2 q2.length d2, .slice B6 q6.length d6⟩ : VMot) :: R) from ((show TreeO kMot base ((V2.setCell ⟨g, j * 8 + 3, none⟩ (.int .i64 ((K2 : Int)))).setCell ⟨g, j * 8 + 4, none⟩ (.int .i64 ((K2 : Int) + 1))) (.slice (some ⟨g, 0, none⟩) L.length c) (P ++ (⟨⟨tx1, (K0 : Int) + 1, (medits (K0 + 2) q2.length), (K2 : Int), (K2 : Int) + 1, i5, q6, i7⟩, .slice B2 q2.length d2, .slice B6 q6.length d6⟩ : VMot) :: R) from ((show TreeO kMot base (V2.setCell ⟨g, j * 8 + 3, none⟩ (.int .i64 ((K2 : Int)))) (.slice (some ⟨g, 0, none⟩) L.length c) (P ++ (⟨⟨tx1, (K0 : Int) + 1, (medits (K0 + 2) q2.length), (K2 : Int), i4, i5, q6, i7⟩, .slice B2 q2.length d2, .slice B6 q6.length d6⟩ : VMot) :: R) from (HT2.out).put hP rfl 3 (by decide) _ rfl (fun _ => Iff.rfl) (fun _ h => h))).put hP rfl 4 (by decide) _ rfl (fun _ => Iff.rfl) (fun _ h => h))).put hP rfl 5 (by decide) _ rfl (fun _ => Iff.rfl) (fun _ h => h)))
        go_wp2_with (fail)
        refine (HX3.out _ ((HTb3.out.inn _ (List.mem_append_right _ (List.mem_cons_self ..))).2.1)).mono ?_
        rintro e V3 ⟨rfl, o3, gr3⟩
        have TB3 : Touch (fun b => sBlk q6 (.slice B6 q6.length d6) b) (((V2.setCell ⟨g, j * 8 + 3, none⟩ (.int .i64 ((K2 : Int)))).setCell ⟨g, j * 8 + 4, none⟩ (.int .i64 ((K2 : Int) + 1))).setCell ⟨g, j * 8 + 5, none⟩ (.int .i64 ((K2 : Int) + 1 + 1))) V3 := Touch.of_grown gr3 (fun b hb => rowBlk (by simp [seqI_len]) hb)
        have T3 : TreeO kMot base V3 (.slice (some ⟨g, 0, none⟩) L.length c) (P ++ (⟨⟨tx1, (K0 : Int) + 1, (medits (K0 + 2) q2.length), (K2 : Int), (K2 : Int) + 1, (K2 : Int) + 1 + 1, (seqI (K2 + 3) q6.length), i7⟩, .slice B2 q2.length d2, .slice B6 q6.length d6⟩ : VMot) :: R) := HTb3.out.turn hP TB3 (fun b _ hb => Or.inr hb) rfl (fun b => or_congr_right (sBlk_iff (by simp [seqI_len]))) ⟨OwnL.touch (show OwnL editCells _ base _ _ from (HTb3.out.inn _ (List.mem_append_right _ (List.mem_cons_self ..))).1) TB3 (fun b hb hb2 => (HTb3.out.inn _ (List.mem_append_right _ (List.mem_cons_self ..))).2.2 b hb hb2), (show OwnL intCells (seqI (K2 + 3) q6.length) base V3 (.slice B6 q6.length d6) from by have := o3; exact this), fun b h1 h2 => (HTb3.out.inn _ (List.mem_append_right _ (List.mem_cons_self ..))).2.2 b h1 (sBlk_len h2 (by simp [seqI_len]))⟩
        have HO3 := Lib.hid ((((HO2.out.setCell (p := ⟨g, j * 8 + 3, none⟩) HF0.out (.int .i64 ((K2 : Int)))).setCell (p := ⟨g, j * 8 + 4, none⟩) HF0.out (.int .i64 ((K2 : Int) + 1))).setCell (p := ⟨g, j * 8 + 5, none⟩) HF0.out (.int .i64 ((K2 : Int) + 1 + 1))).trans (TB3.mono (fun b _ hb => hfx b (Or.inr hb))))
        clear f3 c3 f4 c4 f5 c5 c6 f7 c7 o3 gr3 TB3
        have c7 : V3.cell? ⟨g, j * 8 + 7, none⟩ = some (.int .i64 (i7)) := (T3.at hP rfl (i := 7) rfl).1
        have f7 : V3.frozen? ⟨g, j * 8 + 7, none⟩ = false := (T3.at hP rfl (i := 7) rfl).2
        have HT3 := Lib.hid T3
        clear T3
        have HFIN := Lib.hid ((show TreeO kMot base (V3.setCell ⟨g, j * 8 + 7, none⟩ (.int .i64 ((K3 : Int)))) (.slice (some ⟨g, 0, none⟩) L.length c) (P ++ (⟨⟨tx1, (K0 : Int) + 1, (medits (K0 + 2) q2.length), (K2 : Int), (K2 : Int) + 1, (K2 : Int) + 1 + 1, (seqI (K2 + 3) q6.length), (K3 : Int)⟩, .slice B2 q2.length d2, .slice B6 q6.length d6⟩ : VMot) :: R) from (HT3.out).put hP rfl 7 (by decide) _ rfl (fun _ => Iff.rfl) (fun _ h => h)))
        have HOF := Lib.hid ((HO3.out.setCell (p := ⟨g, j * 8 + 7, none⟩) HF0.out (.int .i64 ((K3 : Int)))))
        go_wp2
        go_roundw
        case rel =>
          refine ⟨j + 1, by omega, by go_num, ?_, ?_, HOF.out⟩
          · rw [HNX.out]
            unfold nMot
            have := HKN2.out
            have := HKN3.out
            first | rfl | (congr 1; push_cast; omega) | (congr 1; omega)
          · rw [HMK.out]
            have hel : (⟨⟨tx1, (K0 : Int) + 1, (medits (K0 + 2) q2.length), (K2 : Int), (K2 : Int) + 1, (K2 : Int) + 1 + 1, (seqI (K2 + 3) q6.length), (K3 : Int)⟩, .slice B2 q2.length d2, .slice B6 q6.length d6⟩ : VMot) = mMot K0 (⟨⟨s0, i1, q2, i3, i4, i5, q6, i7⟩, .slice B2 q2.length d2, .slice B6 q6.length d6⟩ : VMot) := by first | rfl | simp only [mMot, HKN2.out, HKN3.out, HTX1.out]
            rw [← hel]
            exact HFIN.out
        case measure => simp [RowKit.intOf]; omega
      · have hge : ¬ (j : Int) < (L.length : Int) := by omega
        have hje : j = L.length := by omega
        subst hje
        rw [List.take_of_length_le (Nat.le_refl _), List.drop_eq_nil_of_le (Nat.le_refl _), List.append_nil] at hT
        rw [List.take_of_length_le (Nat.le_refl _)]
        have HFI2 := Lib.hid hT
        clear hT
        go_wp2
        go_ret
        exact ⟨rfl, HFI2.out, HTO.out⟩
end Go.Proofs.YtnandbammmcncaaGreat

namespace Go.Proofs.YtnandbammmcncaaGreat
open Go.RowKit Go.Lib

theorem foot_mark {β : Type} {K : Kind β} {m : Nat → β → β} {nx : Nat → β → Nat} (hm : ∀ k x b, K.blk (m k x) b ↔ K.blk x b) (v : Value) (b : Nat) : ∀ (L : List β) (k : Nat), (∃ q ∈ markL m nx k L, K.blk q b) ↔ ∃ q ∈ L, K.blk q b
  | [], _ => by simp [markL]
  | x :: L, k => by
    rw [markL]
    simp only [List.mem_cons, exists_eq_or_imp]
    rw [hm k x b, foot_mark hm v b L (nx k x)]
theorem foot_mark' {β : Type} {K : Kind β} {m : Nat → β → β} {nx : Nat → β → Nat} (hm : ∀ k x b, K.blk (m k x) b ↔ K.blk x b) (v : Value) (L : List β) (k : Nat) : Foot K v (markL m nx k L) = Foot K v L := by
  funext b
  apply propext
  unfold Foot
  rw [foot_mark hm v b L k]
  constructor
  · rintro (h | h)
    · exact .inl (sBlk_len h (markL_len m nx L k))
    · exact .inr h
  · rintro (h | h)
    · exact .inl (sBlk_len h (markL_len m nx L k).symm)
    · exact .inr h
theorem blk_mRow (k : Nat) (x : VRow) (b : Nat) : kRow.blk (mRow k x) b ↔ kRow.blk x b := sBlk_iff (by simp [mRow, seqI_len])
theorem blk_mArt (k : Nat) (x : Art) (b : Nat) : kArt.blk (mArt k x) b ↔ kArt.blk x b := Iff.rfl
theorem blk_mAct (k : Nat) (x : VAct) (b : Nat) : kAct.blk (mAct k x) b ↔ kAct.blk x b := sBlk_iff (by simp [mAct, medits_len])
theorem blk_mMot (k : Nat) (x : VMot) (b : Nat) : kMot.blk (mMot k x) b ↔ kMot.blk x b := or_congr (sBlk_iff (by simp [mMot, medits_len])) (sBlk_iff (by simp [mMot, seqI_len]))
/-- An assembly as it is marked. -/
def mAsm (k : Nat) (a : Asm) (T : List VRow) (C : List VAct) (M : List VMot) : Asm :=
  ⟨a.day, a.rule, (markL mRow nRow k T).map VRow.a, markL mArt nArt (endK nRow k T) a.base, (markL mAct nAct (endK nArt (endK nRow k T) a.base) C).map VAct.a, (markL mMot nMot (endK nAct (endK nArt (endK nRow k T) a.base) C) M).map VMot.a⟩
def eAsm (k : Nat) (a : Asm) (T : List VRow) (C : List VAct) (M : List VMot) : Nat := endK nMot (endK nAct (endK nArt (endK nRow k T) a.base) C) M
def MarkA (x : VAsm) (a : Asm) (T : List VRow) (C : List VAct) (M : List VMot) (k base : Nat) (w : World) (e : Ending) (w' : World) : Prop :=
  e = .returned (.int .i64 ((eAsm k a T C M : Nat) : Int)) ∧
  AsmO base w' x (mAsm k a T C M) (markL mRow nRow k T) (markL mAct nAct (endK nArt (endK nRow k T) a.base) C) (markL mMot nMot (endK nAct (endK nArt (endK nRow k T) a.base) C) M) ∧
  Touch (asmFoot x a T C M) w w'
structure TreesFit (T : List VRow) (b : List Art) (C : List VAct) (M : List VMot) : Prop where
  t0 : T.length ≤ 1048576
  t : ∀ x ∈ T, x.a.length ≤ 1048576
  b0 : b.length ≤ 1048576
  c0 : C.length ≤ 1048576
  c : ∀ x ∈ C, x.a.pat.length ≤ 1048576
  m0 : M.length ≤ 1048576
  m : ∀ x ∈ M, x.a.pat.length ≤ 1048576 ∧ x.a.votes.length ≤ 1048576
theorem AsmFits.trees {a : Asm} (h : AsmFits a) {T : List VRow} {C : List VAct} {M : List VMot} (ht : T.map VRow.a = a.trust) (hc : C.map VAct.a = a.acts) (hm : M.map VMot.a = a.mots) : TreesFit T a.base C M where
  t0 := by have := h.t0; rw [← ht, List.length_map] at this; exact this
  t := fun x hx => h.t _ (by rw [← ht]; exact List.mem_map_of_mem hx)
  b0 := h.b0
  c0 := by have := h.c0; rw [← hc, List.length_map] at this; exact this
  c := fun x hx => (h.c _ (by rw [← hc]; exact List.mem_map_of_mem hx)).1
  m0 := by have := h.m0; rw [← hm, List.length_map] at this; exact this
  m := fun x hx => by have := h.m _ (by rw [← hm]; exact List.mem_map_of_mem hx); exact ⟨this.2.1, this.2.2.2⟩
set_option maxRecDepth 100000 in
set_option maxHeartbeats 8000000 in
theorem markAsm_any (a : Asm) (x : VAsm) (T : List VRow) (C : List VAct) (M : List VMot) (base k : Nat) (w : World) (h : AsmO base w x a T C M) (hf : TreesFit T a.base C M) (hk0 : 0 < k) (hk : k ≤ 1048576) :
    Calls Tryz.prog 17 #[asmV a x, .int .i64 (k : Int)] w (MarkA x a T C M k base w) := by
  obtain ⟨A1, c1, A2, c2, A3, c3, A4, c4, rfl⟩ := h.r.slices
  have l1 := nRow_le T k hf.t
  have l2 := nArt_le a.base (endK nRow k T) (fun _ _ => trivial)
  have l3 := nAct_le C (endK nArt (endK nRow k T) a.base) hf.c
  have q1 := hf.t0
  have q2 := hf.b0
  have q3 := hf.c0
  obtain ⟨W, hW⟩ : ∃ W : World, W = w.alloc (.cells #[.int .i64 a.day, .int .i64 a.rule, .slice A1 a.trust.length c1, .slice A2 a.base.length c2, .slice A3 a.acts.length c3, .slice A4 a.mots.length c4] 36) := ⟨_, rfl⟩
  have bW : Below w.heap.size w W := by rw [hW]; exact (Below.refl _ _).alloc (Nat.le_refl _) _
  have sW : w.heap.size < W.heap.size := by rw [hW]; simp
  have a1 : Row W w.heap.size [.int .i64 a.day, .int .i64 a.rule, .slice A1 a.trust.length c1, .slice A2 a.base.length c2, .slice A3 a.acts.length c3, .slice A4 a.mots.length c4] := by rw [hW]; exact Row.new w _ _
  obtain ⟨F, hFe⟩ : ∃ F, F = asmFoot ⟨.slice A1 a.trust.length c1, .slice A2 a.base.length c2, .slice A3 a.acts.length c3, .slice A4 a.mots.length c4⟩ a T C M := ⟨_, rfl⟩
  have hFl : ∀ b, F b → b < w.heap.size := fun b hb => by rw [hFe] at hb; exact (h.lt hb).2
  have hW1 := h.below bW
  have HF := Lib.hid hf
  have HO := Lib.hid hW1
  have HFL := Lib.hid hFl
  have HFE := Lib.hid hFe
  have HWE := Lib.hid hW
  have HBW := Lib.hid bW
  have HROW := Lib.hid a1
  have K1 : endK nRow k T ≤ 35184372088832 := by omega
  have K2 : endK nArt (endK nRow k T) a.base ≤ 35184372088832 := by omega
  have K3 : endK nAct (endK nArt (endK nRow k T) a.base) C ≤ 35184372088832 := by omega
  have P1 : 0 < endK nRow k T := by omega
  have P2 : 0 < endK nArt (endK nRow k T) a.base := by omega
  have P3 : 0 < endK nAct (endK nArt (endK nRow k T) a.base) C := by omega
  have HM1 := Lib.hid (fun V (ho : TreeO kRow base V (.slice A1 a.trust.length c1) T) => markRows_any T _ base k V ho hf.t hf.t0 hk0 (by omega))
  have HM2 := Lib.hid (fun V (ho : TreeO kArt base V (.slice A2 a.base.length c2) a.base) => markArts_any a.base _ base (endK nRow k T) V ho (fun _ _ => trivial) hf.b0 P1 K1)
  have HM3 := Lib.hid (fun V (ho : TreeO kAct base V (.slice A3 a.acts.length c3) C) => markActs_any C _ base (endK nArt (endK nRow k T) a.base) V ho hf.c hf.c0 P2 K2)
  have HM4 := Lib.hid (fun V (ho : TreeO kMot base V (.slice A4 a.mots.length c4) M) => markMots_any M _ base (endK nAct (endK nArt (endK nRow k T) a.base) C) V ho hf.m hf.m0 P3 K3)
  have HRES : Hid (∀ w4, TreeO kRow base w4 (.slice A1 a.trust.length c1) (markL mRow nRow k T) → TreeO kArt base w4 (.slice A2 a.base.length c2) (markL mArt nArt (endK nRow k T) a.base) → TreeO kAct base w4 (.slice A3 a.acts.length c3) (markL mAct nAct (endK nArt (endK nRow k T) a.base) C) → TreeO kMot base w4 (.slice A4 a.mots.length c4) (markL mMot nMot (endK nAct (endK nArt (endK nRow k T) a.base) C) M) → Touch F w w4 → MarkA ⟨.slice A1 a.trust.length c1, .slice A2 a.base.length c2, .slice A3 a.acts.length c3, .slice A4 a.mots.length c4⟩ a T C M k base w (.returned (.int .i64 ((eAsm k a T C M : Nat) : Int))) w4) := Lib.hid (fun w4 t1 t2 t3 t4 tt => by
    refine ⟨rfl, ⟨rfl, rfl, rfl, t1, t2, t3, t4, ?_, ?_, ?_, ?_, ?_, ?_⟩, by rw [← HFE.out]; exact tt⟩
    · show Apart (Foot kRow _ (markL mRow nRow k T)) (Foot kArt _ (markL mArt nArt _ a.base)); rw [foot_mark' blk_mRow, foot_mark' blk_mArt]; exact h.tb
    · show Apart (Foot kRow _ (markL mRow nRow k T)) (Foot kAct _ (markL mAct nAct _ C)); rw [foot_mark' blk_mRow, foot_mark' blk_mAct]; exact h.tc
    · show Apart (Foot kRow _ (markL mRow nRow k T)) (Foot kMot _ (markL mMot nMot _ M)); rw [foot_mark' blk_mRow, foot_mark' blk_mMot]; exact h.tmo
    · show Apart (Foot kArt _ (markL mArt nArt _ a.base)) (Foot kAct _ (markL mAct nAct _ C)); rw [foot_mark' blk_mArt, foot_mark' blk_mAct]; exact h.bc
    · show Apart (Foot kArt _ (markL mArt nArt _ a.base)) (Foot kMot _ (markL mMot nMot _ M)); rw [foot_mark' blk_mArt, foot_mark' blk_mMot]; exact h.bm
    · show Apart (Foot kAct _ (markL mAct nAct _ C)) (Foot kMot _ (markL mMot nMot _ M)); rw [foot_mark' blk_mAct, foot_mark' blk_mMot]; exact h.cmo)
  have e4 : eAsm k a T C M = endK nMot (endK nAct (endK nArt (endK nRow k T) a.base) C) M := rfl
  rw [e4] at HRES
  unfold MarkT at HM1 HM2 HM3 HM4
  generalize endK nRow k T = k1 at *
  generalize endK nArt k1 a.base = k2 at *
  generalize endK nAct k2 C = k3 at *
  clear h hf hW1 hFl hFe hW bW a1 l1 l2 l3 e4
  unfold asmV
  dsimp only
  go_enter Tryz.func17, Tryz.ntmps17
  go_wp2_with (fail)
  rw [← HWE.out]
  refine (HM1.out W HO.out.t).mono ?_
  rintro e w1 ⟨rfl, t1, g1⟩
  have n1 : ¬ Foot kRow (.slice A1 a.trust.length c1) T w.heap.size := fun hb => Nat.lt_irrefl _ (HFL.out _ (by rw [HFE.out]; exact .inl hb))
  have HR1 := Lib.hid (HROW.out.touch sW g1 n1)
  have s1 := Nat.lt_of_lt_of_le sW g1.size
  have b1 := HO.out.b.touch g1 (fun b hb hf => HO.out.tb b hf hb)
  have c1' := HO.out.c.touch g1 (fun b hb hf => HO.out.tc b hf hb)
  have m1 := HO.out.m.touch g1 (fun b hb hf => HO.out.tmo b hf hb)
  have HT1 := Lib.hid t1
  have HB1 := Lib.hid b1
  have HC1 := Lib.hid c1'
  have HMM1 := Lib.hid m1
  have HG1 := Lib.hid ((Touch.of_below (F := F) HBW.out).trans (g1.mono (fun b _ hb => by rw [HFE.out]; exact .inl hb)))
  have y3 := HR1.out.cell 3 _ rfl
  clear t1 b1 c1' m1 g1 n1
  go_wp2_with (fail)
  refine (HM2.out w1 HB1.out).mono ?_
  rintro e w2 ⟨rfl, t2, g2⟩
  have n2 : ¬ Foot kArt (.slice A2 a.base.length c2) a.base w.heap.size := fun hb => Nat.lt_irrefl _ (HFL.out _ (by rw [HFE.out]; exact .inr (.inl hb)))
  have HR2 := Lib.hid (HR1.out.touch s1 g2 n2)
  have s2 := Nat.lt_of_lt_of_le s1 g2.size
  have HT2 := Lib.hid (HT1.out.touch g2 (fun b hb hf => HO.out.tb b (by rw [foot_mark' blk_mRow] at hb; exact hb) hf))
  have HB2 := Lib.hid t2
  have HC2 := Lib.hid (HC1.out.touch g2 (fun b hb hf => HO.out.bc b hf hb))
  have HMM2 := Lib.hid (HMM1.out.touch g2 (fun b hb hf => HO.out.bm b hf hb))
  have HG2 := Lib.hid (HG1.out.trans (g2.mono (fun b _ hb => by rw [HFE.out]; exact .inr (.inl hb))))
  have y4 := HR2.out.cell 4 _ rfl
  clear t2 g2 n2 y3
  go_wp2_with (fail)
  refine (HM3.out w2 HC2.out).mono ?_
  rintro e w3 ⟨rfl, t3, g3⟩
  have n3 : ¬ Foot kAct (.slice A3 a.acts.length c3) C w.heap.size := fun hb => Nat.lt_irrefl _ (HFL.out _ (by rw [HFE.out]; exact .inr (.inr (.inl hb))))
  have HR3 := Lib.hid (HR2.out.touch s2 g3 n3)
  have s3 := Nat.lt_of_lt_of_le s2 g3.size
  have HT3 := Lib.hid (HT2.out.touch g3 (fun b hb hf => HO.out.tc b (by rw [foot_mark' blk_mRow] at hb; exact hb) hf))
  have HB3 := Lib.hid (HB2.out.touch g3 (fun b hb hf => HO.out.bc b (by rw [foot_mark' blk_mArt] at hb; exact hb) hf))
  have HC3 := Lib.hid t3
  have HMM3 := Lib.hid (HMM2.out.touch g3 (fun b hb hf => HO.out.cmo b hf hb))
  have HG3 := Lib.hid (HG2.out.trans (g3.mono (fun b _ hb => by rw [HFE.out]; exact .inr (.inr (.inl hb)))))
  have y5 := HR3.out.cell 5 _ rfl
  clear t3 g3 n3 y4
  go_wp2_with (fail)
  refine (HM4.out w3 HMM3.out).mono ?_
  rintro e w4 ⟨rfl, t4, g4⟩
  have HT4 := Lib.hid (HT3.out.touch g4 (fun b hb hf => HO.out.tmo b (by rw [foot_mark' blk_mRow] at hb; exact hb) hf))
  have HB4 := Lib.hid (HB3.out.touch g4 (fun b hb hf => HO.out.bm b (by rw [foot_mark' blk_mArt] at hb; exact hb) hf))
  have HC4 := Lib.hid (HC3.out.touch g4 (fun b hb hf => HO.out.cmo b (by rw [foot_mark' blk_mAct] at hb; exact hb) hf))
  have HG4 := Lib.hid (HG3.out.trans (g4.mono (fun b _ hb => by rw [HFE.out]; exact .inr (.inr (.inr hb)))))
  have HFIN := Lib.hid (HRES.out w4 HT4.out HB4.out HC4.out t4 HG4.out)
  clear t4 g4 y5
  go_wp2
  go_ret
  exact HFIN.out

end Go.Proofs.YtnandbammmcncaaGreat

namespace Go.Proofs.YtnandbammmcncaaGreat
open Go.RowKit Go.Lib

/-- A result in memory with a flag. -/
def ResP (own : Nat → World → Value → Prop) (r : Bool) (w : World) (e : Ending) (w' : World) : Prop := ∃ v, e = .returned (.tuple #[v, .bool r]) ∧ own w.heap.size w' v ∧ Below w.heap.size w w'
/-- What a result in memory is. -/
structure ResK where
  own : Nat → World → Value → Prop
  mrk : Nat → World → Value → Prop
  n : Nat
  slice : ∀ {b W v}, own b W v → ∃ A m c, v = .slice A m c
  touch : ∀ {b W W' v} {F : Nat → Prop}, own b W v → Touch F W W' → (∀ c, F c → c < b) → own b W' v
  mtouch : ∀ {b W W' v}, mrk b W v → Below W.heap.size W W' → mrk b W' v
theorem ResK.below (K : ResK) {b : Nat} {W W' : World} {v : Value} (h : K.own b W v) (hb : Below W.heap.size W W') : K.own b W' v := K.touch (F := fun _ => False) h (Touch.of_below hb) (fun _ h => h.elim)

/-- Articles as a result. -/
def artK (R : List Art) : ResK where
  own b W v := OwnL artCells R b W v
  mrk b W v := OwnL artCells (markL mArt nArt 1 R) b W v
  n := endK nArt 1 R
  slice h := by obtain ⟨A, c, e, _⟩ := h; exact ⟨A, _, c, e⟩
  touch h ht hF := OwnL.touch h ht (fun c hc hf => by have q1 := (OwnL.sblk h hc).1; have q2 := hF c hf; omega)
  mtouch h hb := OwnL.on h hb
noncomputable def today (a : Asm) : List Art := if okAsm a = true then (onO a.base a.acts a.day).getD [] else []
theorem okAsm_parts {a : Asm} (h : okAsm a = true) : okStat a.base = true ∧ okActs a.acts = true ∧ AllDays a.base a.acts ∧ 0 ≤ a.day ∧ a.day ≤ 999 := by
  unfold okAsm okHead at h
  simp only [Bool.and_eq_true, decide_eq_true_eq, inB_iff] at h
  exact ⟨h.1.1.2, h.1.2, h.2, h.1.1.1.1.1.1.1.1.1, h.1.1.1.1.1.1.1.1.2⟩
end Go.Proofs.YtnandbammmcncaaGreat
