/- A frame and a set of a law's input; what the laws ask of lists, walked. A set of arguments of a law's input, walked. FnStanding, plain: grounded, preferred and ideal sets agree, and how an argument stands. -/
import Derived.Test.YteljpodjjeoddaaKE
namespace Go.Proofs.Yteljpodjjeoddaa
open Go.RowKit Go.Lib

set_option maxHeartbeats 1000000 in
theorem long8_any (A1 : Option Addr) (n1 c1 : Nat) (A2 : Option Addr) (n2 c2 : Nat) (w : World) : Calls Try.prog 4 #[.slice A1 n1 c1, .slice A2 n2 c2] w (RetQ (.bool (decide (48 < n1) || decide (48 < n2))) w) := by
  obtain ⟨r, hr⟩ : ∃ r : Bool, r = (decide (48 < n1) || decide (48 < n2)) := ⟨_, rfl⟩
  rw [← hr]
  have HR := Lib.hid hr
  clear hr
  by_cases h1 : 48 < n1
  · have h1i : (48 : Int) < (n1 : Int) := by omega
    have HE : Hid (r = true) := Lib.hid (by rw [HR.out]; simp [h1])
    clear h1
    go_enter Try.func4, Try.ntmps4
    go_wp2
    go_ret
    exact ⟨by rw [HE.out]; rfl, 0, rfl⟩
  · have h1i : ¬ (48 : Int) < (n1 : Int) := by omega
    by_cases h2 : 48 < n2
    · have h2i : (48 : Int) < (n2 : Int) := by omega
      have HE : Hid (r = true) := Lib.hid (by rw [HR.out]; simp [h2])
      clear h1 h2
      go_enter Try.func4, Try.ntmps4
      go_wp2
      go_ret
      exact ⟨by rw [HE.out]; rfl, 0, rfl⟩
    · have h2i : ¬ (48 : Int) < (n2 : Int) := by omega
      have HE : Hid (r = false) := Lib.hid (by rw [HR.out]; simp [h1, h2])
      clear h1 h2
      go_enter Try.func4, Try.ntmps4
      go_wp2
      go_ret
      exact ⟨by rw [HE.out]; rfl, 0, rfl⟩
set_option maxRecDepth 100000 in
set_option maxHeartbeats 4000000 in
theorem has8_any (l : List Nat) (x : Nat) (v : Value) (w : World) (hI : Ints w w.heap.size v (barL l)) : Calls Try.prog 14 #[v, .int .i64 (x : Int)] w (RetQ (.bool (l.contains x)) w) := by
  obtain ⟨A, c, rfl, hc, hm⟩ := hI.sl
  unfold maxLen at hm
  rw [barL_len] at hI hc ⊢
  have HI := Lib.hid hI
  obtain ⟨r, hr⟩ : ∃ r, r = l.contains x := ⟨_, rfl⟩
  rw [← hr]
  have HR := Lib.hid hr
  clear hI hr
  go_enter Try.func14, Try.ntmps14
  go_wp2
  go_loopw [5] (fun i wr => ∃ k : Nat, k ≤ l.length ∧ i = .int .i64 (k : Int) ∧ (l.take k).contains x = false ∧ wr = w) (fun i _ => l.length - (RowKit.intOf i).toNat)
  case atStart => exact ⟨0, Nat.zero_le _, rfl, rfl, rfl⟩
  case round =>
    obtain ⟨k, hk, rfl, hno, rfl⟩ := hrel
    have HNO := Lib.hid hno
    clear hno
    by_cases hlt : k < l.length
    · have hget : l[k]? = some l[k] := List.getElem?_eq_getElem hlt
      obtain ⟨b, off, rfl, hb, u0⟩ := ints_get HI.out (barL_get hget)
      have HT := Lib.hid (List.take_succ_eq_append_getElem hlt)
      have HM := Lib.hid (List.getElem_mem hlt)
      have hki : (k : Int) < (l.length : Int) := by omega
      have hk0 : (0 : Int) ≤ (k : Int) := by omega
      generalize l[k] = a at *
      clear hget
      by_cases hax : a = x
      · have hb2 : ((a : Int) == (x : Int)) = true := by simp [hax]
        have HE : Hid (r = true) := Lib.hid (by rw [HR.out, List.contains_iff_mem, ← hax]; exact HM.out)
        clear hax
        go_wp2
        go_ret
        exact ⟨by rw [HE.out]; rfl, 0, rfl⟩
      · have hb2 : ((a : Int) == (x : Int)) = false := by simp; omega
        have HN : Hid ((l.take (k + 1)).contains x = false) := Lib.hid (by
          have := HNO.out
          rw [HT.out]
          rw [Bool.eq_false_iff, ne_eq, List.contains_iff_mem] at this ⊢
          intro h
          rcases List.mem_append.1 h with h | h
          · exact this h
          · exact hax (List.mem_singleton.1 h).symm)
        clear hax
        go_wp2
        go_roundw
        case rel => exact ⟨k + 1, by omega, by go_num, HN.out, trivial⟩
        case measure => simp [RowKit.intOf]; omega
    · have hge : ¬ (k : Int) < (l.length : Int) := by omega
      have HE : Hid (r = false) := Lib.hid (by have := HNO.out; rw [List.take_of_length_le (by omega)] at this; rw [HR.out]; exact this)
      go_wp2
      go_ret
      exact ⟨by rw [HE.out]; rfl, 0, rfl⟩
def insB (a b : List Nat) : Bool := a.all (fun x => b.contains x)
set_option maxRecDepth 100000 in
set_option maxHeartbeats 4000000 in
theorem inside8_any (a b : List Nat) (v1 v2 : Value) (w : World) (h1 : Ints w w.heap.size v1 (barL a)) (h2 : Ints w w.heap.size v2 (barL b)) : Calls Try.prog 10 #[v1, v2] w (RetQ (.bool (insB a b)) w) := by
  obtain ⟨A, c, rfl, hc, hm⟩ := h1.sl
  obtain ⟨A2, c2, rfl, hc2, hm2⟩ := h2.sl
  unfold maxLen at hm
  have HB := Lib.hid (fun (x d : Nat) => has8_any b x _ (w.drewN d) h2)
  rw [barL_len] at h1 hc HB ⊢
  rw [barL_len]
  have HI := Lib.hid h1
  obtain ⟨r, hr⟩ : ∃ r, r = insB a b := ⟨_, rfl⟩
  rw [← hr]
  have HR := Lib.hid hr
  clear h1 h2 hr
  go_enter Try.func10, Try.ntmps10
  go_wp2
  go_loopw [5] (fun i wr => ∃ k d : Nat, k ≤ a.length ∧ i = .int .i64 (k : Int) ∧ insB (a.take k) b = true ∧ wr = w.drewN d) (fun i _ => a.length - (RowKit.intOf i).toNat)
  case atStart => exact ⟨0, 0, Nat.zero_le _, rfl, rfl, rfl⟩
  case round =>
    obtain ⟨k, d, hk, rfl, hall, rfl⟩ := hrel
    have HALL := Lib.hid hall
    clear hall
    by_cases hlt : k < a.length
    · have hget : a[k]? = some a[k] := List.getElem?_eq_getElem hlt
      obtain ⟨b1, off, rfl, hb, u0⟩ := ints_get HI.out (barL_get hget)
      have HT := Lib.hid (List.take_succ_eq_append_getElem hlt)
      have HM := Lib.hid (List.getElem_mem hlt)
      have hki : (k : Int) < (a.length : Int) := by omega
      have hk0 : (0 : Int) ≤ (k : Int) := by omega
      generalize a[k] = y at *
      clear hget
      have HH := Lib.hid (HB.out y d)
      cases hy : b.contains y with
      | true =>
        rw [hy] at HH
        have HN : Hid (insB (a.take (k + 1)) b = true) := Lib.hid (by
          rw [HT.out]
          unfold insB
          rw [List.all_append]
          have := HALL.out
          unfold insB at this
          rw [this]
          simp [List.contains_iff_mem.1 hy])
        clear hy
        go_wp2_with (fail)
        refine HH.out.mono ?_
        rintro e _ ⟨rfl, d2, rfl⟩
        go_wp2
        go_roundw
        case rel => exact ⟨k + 1, d + d2, by omega, by go_num, HN.out, by simp⟩
        case measure => simp [RowKit.intOf]; omega
      | false =>
        rw [hy] at HH
        have HE : Hid (r = false) := Lib.hid (by
          rw [HR.out]
          unfold insB
          rw [List.all_eq_false]
          exact ⟨y, HM.out, by rw [hy]; simp⟩)
        clear hy
        go_wp2_with (fail)
        refine HH.out.mono ?_
        rintro e _ ⟨rfl, d2, rfl⟩
        go_wp2
        go_ret
        exact ⟨by rw [HE.out]; rfl, d + d2, by simp⟩
    · have hge : ¬ (k : Int) < (a.length : Int) := by omega
      have HE : Hid (r = true) := Lib.hid (by have := HALL.out; rw [List.take_of_length_le (by omega)] at this; rw [HR.out]; exact this)
      go_wp2
      go_ret
      exact ⟨by rw [HE.out]; rfl, d, rfl⟩
def FramePost (w : World) (e : Ending) (w' : World) : Prop :=
  ∃ (F : Fr) (A : Option Addr) (c : Nat), e = .returned (frV F A c) ∧ F.Ok ∧ FrR w' w'.heap.size F A c ∧ Below w.heap.size w w'
theorem bytesAt_up {w w' : World} {B : Nat} {A : Option Addr} {n : Nat} (h : BytesAt w B A n) (hb : Below B w w') (hB : B ≤ w'.heap.size) : BytesAt w' w'.heap.size A n := by
  have h' := bytesAt_below h hb
  exact ⟨h'.1, fun hn => by
    obtain ⟨b, off, e, hlt, hc⟩ := h'.2 hn
    exact ⟨b, off, e, Nat.lt_of_lt_of_le hlt hB, hc⟩⟩
set_option maxRecDepth 100000 in
set_option maxHeartbeats 4000000 in
theorem frame8_any (A : Option Addr) (n c : Nat) (w : World) (h : BytesAt w w.heap.size A n) : Calls Try.prog 5 #[.slice A n c] w (FramePost w) := by
  have b0 : Below w.heap.size w (w.alloc (.cells #[.int .i64 0, .slice none 0 0] 26)) := (Below.refl _ _).alloc (Nat.le_refl _) _
  have HF := Lib.hid (from_any A n c (w.alloc (.cells #[.int .i64 0, .slice none 0 0] 26)) (bytesAt_up h b0 b0.size))
  unfold FramePost
  clear h
  go_enter Try.func5, Try.ntmps5
  go_wp2_with (fail)
  refine HF.out.mono ?_
  rintro e w1 ⟨rfl, hs1, hb1⟩
  have hsz : (w.alloc (.cells #[.int .i64 0, .slice none 0 0] 26)).heap.size = w.heap.size + 1 := by simp
  rw [hsz] at hs1 hb1 ⊢
  have HD := Lib.hid (drawF_any _ _ 0 w1 hs1 (by omega))
  have hl1 := hs1.lt.1
  have hbt : Row w1 w.heap.size [.int .i64 0, .slice none 0 0] := (Row.new w #[.int .i64 0, .slice none 0 0] 26).below hb1 (by omega)
  have HBT := Lib.hid hbt
  have HB1 := Lib.hid (b0.trans (hb1.mono (by omega)))
  unfold FrDraw at HD
  clear hs1 hb1 hbt b0 HF
  go_wp2_with (fail)
  refine HD.out.mono ?_
  rintro e w2 ⟨F, g, cc, rfl, hok, L, hT, hmap, hlen, hs2, ho2⟩
  have HOK := Lib.hid hok
  have hrow := HBT.out.only (by omega) (by omega) ho2
  have c0 := hrow.cell 0 _ rfl
  have c1 := hrow.cell 1 _ rfl
  have f0 := hrow.free 0 (by simp)
  have f1 := hrow.free 1 (by simp)
  have ht : Touch (fun c => c = w.heap.size) w2 ((w2.setCell ⟨w.heap.size, 0, none⟩ (.int .i64 (F.n : Int))).setCell ⟨w.heap.size, 1, none⟩ (.slice (some ⟨g, 0, none⟩) F.R.length cc)) := Touch.setCell (F := fun c => c = w.heap.size) (Touch.setCell (F := fun c => c = w.heap.size) (Touch.refl _ _) rfl _) rfl _
  have hgw := hT.lt
  have HTE : Hid (TreeW kRow 28 (w1.heap.size + 1) ((w2.setCell ⟨w.heap.size, 0, none⟩ (.int .i64 (F.n : Int))).setCell ⟨w.heap.size, 1, none⟩ (.slice (some ⟨g, 0, none⟩) F.R.length cc)) g cc L) := Lib.hid ⟨own_touchC hT.row ht (fun b hb e => by injection hb with hb; have hb : g = b := hb; omega), fun x hx => kRow.touch (hT.inn x hx) ht (fun c hc e => by have := (kRow.lt (hT.inn x hx) hc).1; omega), hT.out, hT.two⟩
  have HFR := Lib.hid (fr_tree HTE.out hmap hlen)
  have HRF := Lib.hid ((hrow.set 0 (.int .i64 (F.n : Int)) (by simp)).set 1 (.slice (some ⟨g, 0, none⟩) F.R.length cc) (by simp))
  have hb2 : Below w.heap.size w w2 := ⟨ho2.os.trans HB1.out.os, ho2.tape.trans HB1.out.tape, ho2.output.trans HB1.out.output, Nat.le_trans HB1.out.size ho2.size, fun i hi => (ho2.block i (by omega) (fun e => by injection e; omega)).trans (HB1.out.block i hi)⟩
  have HB2 := Lib.hid ((hb2.setCell (p := ⟨w.heap.size, 0, none⟩) (Nat.le_refl _) (.int .i64 (F.n : Int))).setCell (p := ⟨w.heap.size, 1, none⟩) (Nat.le_refl _) (.slice (some ⟨g, 0, none⟩) F.R.length cc))
  unfold frV
  clear hok hT hmap hlen hs2 ho2 hrow ht HTE hb2 HD
  go_wp2
  obtain ⟨W9, hW9⟩ : ∃ X, X = (w2.setCell ⟨w.heap.size, 0, none⟩ (.int .i64 (F.n : Int))).setCell ⟨w.heap.size, 1, none⟩ (.slice (some ⟨g, 0, none⟩) F.R.length cc) := ⟨_, rfl⟩
  rw [← hW9] at HFR HRF HB2 ⊢
  have k0 := HRF.out.cell 0 _ rfl
  have k1 := HRF.out.cell 1 _ rfl
  clear hW9
  refine bodyPost_ret (v := .agg #[.int .i64 (F.n : Int), .slice (some ⟨g, 0, none⟩) F.R.length cc]) (by simp [results, Try.results5, go_sem, k0, k1]) rfl ?_
  exact ⟨F, some ⟨g, 0, none⟩, cc, rfl, HOK.out, HFR.out, HB2.out⟩
end Go.Proofs.Yteljpodjjeoddaa

namespace Go.Proofs.Yteljpodjjeoddaa
open Go.RowKit Go.Lib

def Set8Post (n : Nat) (w : World) (e : Ending) (w' : World) : Prop :=
  ∃ (l : List Nat) (g c : Nat), e = .returned (.slice (some ⟨g, 0, none⟩) l.length c) ∧ UpL n l ∧ NumO w' w.heap.size g c (barL l) ∧ Below w.heap.size w w'
set_option maxRecDepth 100000 in
set_option maxHeartbeats 4000000 in
theorem set8_any (A : Option Addr) (n1 c1 n : Nat) (hn : n ≤ 10) (w : World) (h : BytesAt w w.heap.size A n1) : Calls Try.prog 11 #[.slice A n1 c1, .int .i64 (n : Int)] w (Set8Post n w) := by
  have HF := Lib.hid (from_any A n1 c1 w h)
  obtain ⟨i0, hi, hz0, hz1, hz2⟩ := info_parts Try.infoC64
  unfold Set8Post
  clear h
  go_enter Try.func11, Try.ntmps11
  go_wp2_with (fail)
  refine HF.out.mono ?_
  rintro e w1 ⟨rfl, hs1, hb1⟩
  have hl1 := hs1.lt.1
  have hown2 : NumO (w1.alloc (.cells #[] 2)) (w.heap.size + 1) w1.heap.size 0 (barL []) := (NumO.start w1).less (by omega)
  have HS2 := Lib.hid (hs1.alloc (.cells #[] 2))
  have HN2 := Lib.hid hown2
  have hb2 : Below w.heap.size w (w1.alloc (.cells #[] 2)) := hb1.alloc hb1.size _
  have HB2 := Lib.hid hb2
  clear hs1 hb1 hown2 hb2 HF
  go_wp2_with (fail)
  refine (pick_pos _ _ _ 2 _ HS2.out (by omega) (by omega) (by omega)).mono ?_
  rintro e w3 ⟨x3, hx3, rfl, hs3, ho3⟩
  have HS3 := Lib.hid hs3
  have HN3 := Lib.hid (own_only (show _ from HN2.out) (by omega) ho3)
  have HB3 : Hid (Below w.heap.size w w3) := Lib.hid ⟨ho3.os.trans HB2.out.os, ho3.tape.trans HB2.out.tape, ho3.output.trans HB2.out.output, Nat.le_trans HB2.out.size ho3.size, fun i hi => (ho3.block i (Nat.lt_of_lt_of_le hi HB2.out.size) (fun e => by injection e; omega)).trans (HB2.out.block i hi)⟩
  clear hs3 ho3 HS2 HN2 HB2
  go_wp2
  go_loopw [6, 8] (fun o i wr => ∃ (a g cap : Nat) (l : List Nat), a ≤ n ∧ i = .int .i64 (a : Int) ∧ o = .slice (some ⟨g, 0, none⟩) l.length cap ∧ UpL a l ∧ NumO wr (w.heap.size + 1) g cap (barL l) ∧ Src w.heap.size wr w.heap.size (10 + 2 * a) ∧ Below w.heap.size w wr) (fun _ i _ => n - (RowKit.intOf i).toNat)
  case atStart => exact ⟨0, w1.heap.size, 0, [], Nat.zero_le _, rfl, rfl, ⟨List.Pairwise.nil, fun x h => by cases h⟩, HN3.out, HS3.out.more (by omega), HB3.out⟩
  case round =>
    obtain ⟨a, g, cap, l, ha, rfl, rfl, hup, hnum, hs, hb⟩ := hrel
    have HUP := Lib.hid hup
    have HNU := Lib.hid hnum
    have HSR := Lib.hid hs
    have HB := Lib.hid hb
    have hll := hup.len
    clear HN3 HS3 HB3 hup hnum hs hb
    by_cases hlt : a < n
    · have hai : (a : Int) < (n : Int) := by omega
      go_wp2_with (fail)
      refine (one_any _ _ _ _ wr HSR.out (by omega) (by omega) (by omega)).mono ?_
      rintro e w4 ⟨y, rfl, hs4, ho4⟩
      have HS4 := Lib.hid hs4
      have HN4 := Lib.hid (show NumO w4 (w.heap.size + 1) g cap (barL l) from own_only (show _ from HNU.out) (by omega) ho4)
      have HB4 : Hid (Below w.heap.size w w4) := Lib.hid ⟨ho4.os.trans HB.out.os, ho4.tape.trans HB.out.tape, ho4.output.trans HB.out.output, Nat.le_trans HB.out.size ho4.size, fun i hi => (ho4.block i (Nat.lt_of_lt_of_le hi HB.out.size) (fun e => by injection e; omega)).trans (HB.out.block i hi)⟩
      clear hs4 ho4 HNU HSR HB
      cases y with
      | false =>
        have HU : Hid (UpL (a + 1) l) := Lib.hid ⟨HUP.out.up, fun x hx => Nat.lt_succ_of_lt (HUP.out.lt x hx)⟩
        go_wp2
        go_roundw
        case rel => exact ⟨a + 1, g, cap, l, by omega, by go_num, rfl, HU.out, HN4.out, HS4.out.more (by omega), HB4.out⟩
        case measure => simp [RowKit.intOf]; omega
      | true =>
        have HU : Hid (UpL (a + 1) (l ++ [a])) := Lib.hid ⟨by
          rw [List.pairwise_append]
          exact ⟨HUP.out.up, List.pairwise_singleton _ _, fun x hx y hy => by rw [List.mem_singleton.1 hy]; exact HUP.out.lt x hx⟩, fun x hx => by
          rcases List.mem_append.1 hx with h | h
          · exact Nat.lt_succ_of_lt (HUP.out.lt x h)
          · rw [List.mem_singleton.1 h]; exact Nat.lt_succ_self a⟩
        have HROW := Lib.hid HN4.out.row
        rw [barL_len] at HROW
        have hw4 : w.heap.size + 1 ≤ w4.heap.size := by have := HS4.out.lt.1; omega
        go_wp2_with (at_builtin; refine wpList_append_own_at _ rfl _ _ 28 rfl (w.heap.size + 1) 2 i0 (.int .i64 0) 1 8 Try.underlying28 hi hz0 hz1 hz2 rfl (by decide) _ _ _ rfl (HROW.out.alloc _) ⟨w4.heap.size, 0, none⟩ 1 1 (intCells (a : Int)) rfl rfl (fun j u hj => new_at hj) (fun u hu => int_one' _ hu) ?c3 ?c4 (base_le hw4) ?_)
        case c3 => unfold maxLen; omega
        case c4 => omega
        intro v' w9 hown' hgrow hiff hat
        obtain ⟨g9, cap9, rfl, hdc9, hcm9⟩ := own_some hown' (by simpa using hiff)
        have HB9 := Lib.hid ((HB4.out.alloc HB4.out.size (.cells #[.int .i64 (a : Int)] 2)).grown hgrow (base_le HB4.out.size) (fun j hj => by have := (HROW.out.lt j hj).1; omega))
        have HS9 := Lib.hid ((HS4.out.alloc (.cells #[.int .i64 (a : Int)] 2)).grown hgrow (fun j hj => by have := (HROW.out.lt j hj).1; omega))
        have HN9 : Hid (NumO w9 (w.heap.size + 1) g9 cap9 (barL (l ++ [a]))) := Lib.hid (by
          unfold NumO
          rw [barL_snoc', flat_snoc, List.length_append, barL_len]
          exact hown')
        clear hown' hgrow hiff hat
        go_wp2
        go_roundw
        case rel => exact ⟨a + 1, g9, cap9, l ++ [a], by omega, by go_num, by rw [List.length_append]; rfl, HU.out, HN9.out, HS9.out.more (by omega), HB9.out⟩
        case measure => simp [RowKit.intOf]; omega
    · have hge : ¬ (a : Int) < (n : Int) := by omega
      have han : a = n := by omega
      have HU : Hid (UpL n l) := Lib.hid (han ▸ HUP.out)
      clear han
      go_wp2
      go_ret
      exact ⟨l, g, cap, rfl, HU.out, HNU.out.less (by omega), HB.out⟩
end Go.Proofs.Yteljpodjjeoddaa

namespace Go.Proofs.Yteljpodjjeoddaa
open Go.RowKit Go.Lib

theorem insB_iff {a b : List Nat} : insB a b = true ↔ ∀ x ∈ a, x ∈ b := by
  unfold insB
  rw [List.all_eq_true]
  exact ⟨fun h x hx => List.contains_iff_mem.1 (h x hx), fun h x hx => List.contains_iff_mem.2 (h x hx)⟩
theorem up_ext : ∀ (a b : List Nat), a.Pairwise (· < ·) → b.Pairwise (· < ·) → (∀ x, x ∈ a ↔ x ∈ b) → a = b
  | [], [], _, _, _ => rfl
  | [], y :: b, _, _, h => by have := (h y).2 (by simp); cases this
  | x :: a, [], _, _, h => by have := (h x).1 (by simp); cases this
  | x :: a, y :: b, ha, hb, h => by
    obtain ⟨h1, h2⟩ := List.pairwise_cons.1 ha
    obtain ⟨h3, h4⟩ := List.pairwise_cons.1 hb
    have e : x = y := by
      have hx : x = y ∨ x ∈ b := by simpa using (h x).1 (by simp)
      have hy : y = x ∨ y ∈ a := by simpa using (h y).2 (by simp)
      rcases hx with hx | hx
      · exact hx
      · rcases hy with hy | hy
        · exact hy.symm
        · have := h3 x hx; have := h1 y hy; omega
    subst e
    congr 1
    refine up_ext a b h2 h4 fun z => ⟨fun hz => ?_, fun hz => ?_⟩
    · have : z = x ∨ z ∈ b := by simpa using (h z).1 (by simp [hz])
      rcases this with e | h5
      · have := h1 z hz; omega
      · exact h5
    · have : z = x ∨ z ∈ a := by simpa using (h z).2 (by simp [hz])
      rcases this with e | h5
      · have := h3 z hz; omega
      · exact h5
theorem setL_setM {n : Nat} {l : List Nat} (h : UpL n l) (hn : n ≤ 10) : setL (setM l) = l := by
  have hm : setM l < 1024 := by
    have h1 := setM_lt (n := n) (l := l) h.lt
    have h2 := Nat.pow_le_pow_right (n := 2) (by omega) hn
    omega
  refine up_ext _ _ (setL_up (n := 10) (by omega) (Nat.le_refl _)).up h.up fun x => ?_
  rw [setL_mem hm, setM_bit]
theorem mask_len {a b : Nat} (ha : a < 1024) (hb : b < 1024) (h : Sub a b) (hl : (setL b).length ≤ (setL a).length) : Sub b a := by
  have e : setL a = (setL b).filter (fun i => a.testBit i) := by
    refine up_ext _ _ (setL_up (n := 10) (by omega) (Nat.le_refl _)).up (List.Pairwise.filter _ (setL_up (n := 10) (by omega) (Nat.le_refl _)).up) fun x => ?_
    rw [List.mem_filter, setL_mem ha, setL_mem hb]
    exact ⟨fun h1 => ⟨h x h1, h1⟩, fun h1 => h1.2⟩
  rw [e] at hl
  have h2 : (setL b).filter (fun i => a.testBit i) = setL b := List.Sublist.eq_of_length_le List.filter_sublist hl
  intro i hi
  have h3 := (setL_mem hb).2 hi
  rw [← h2, List.mem_filter] at h3
  exact h3.2
theorem best_spec {C : Nat} : ∀ (l : List Nat) (b : Nat), anN b C = 0 →
    let r := l.foldl (fun b m => if anN m C == 0 && decide ((setL b).length < (setL m).length) then m else b) b
    anN r C = 0 ∧ (r = b ∨ r ∈ l) ∧ (setL b).length ≤ (setL r).length ∧ ∀ m ∈ l, anN m C = 0 → (setL m).length ≤ (setL r).length
  | [], b, h => ⟨h, .inl rfl, Nat.le_refl _, fun m hm => by cases hm⟩
  | a :: l, b, h => by
    simp only [List.foldl_cons]
    by_cases hc : (anN a C == 0 && decide ((setL b).length < (setL a).length)) = true
    · rw [if_pos hc]
      rw [Bool.and_eq_true, beq_iff_eq, decide_eq_true_eq] at hc
      obtain ⟨h1, h2, h3, h4⟩ := best_spec l a hc.1
      refine ⟨h1, .inr ?_, by have := hc.2; omega, fun m hm hmc => ?_⟩
      · rcases h2 with h2 | h2
        · rw [h2]; simp
        · exact List.mem_cons_of_mem _ h2
      · rcases List.mem_cons.1 hm with rfl | hm
        · exact h3
        · exact h4 m hm hmc
    · rw [if_neg hc]
      obtain ⟨h1, h2, h3, h4⟩ := best_spec l b h
      refine ⟨h1, h2.imp id (List.mem_cons_of_mem _), h3, fun m hm hmc => ?_⟩
      rcases List.mem_cons.1 hm with rfl | hm
      · have : ¬ (setL b).length < (setL m).length := fun hlt => hc (by rw [hmc]; simp [hlt])
        omega
      · exact h4 m hm hmc
theorem com_bit {F : Fr} {i : Nat} : (comM F).testBit i = true ↔ i < F.n ∧ ∀ p ∈ prefs F, p.testBit i = true := by
  unfold comM
  rw [andS_bit, Nat.testBit_two_pow_sub_one, decide_eq_true_eq]
theorem ideal_good (F : Fr) : Good F (idealM F) := by
  obtain ⟨_, h2, _, _⟩ := best_spec (C := comM F) (goods F) 0 (anN_zero.2 (fun i hi => by simp at hi))
  rcases h2 with h2 | h2
  · show Good F (bestS _ _)
    unfold bestS
    rw [h2]
    exact zero_good F
  · exact goods_mem.1 h2
theorem ideal_sub (F : Fr) {p : Nat} (hp : p ∈ prefs F) : Sub (idealM F) p := fun i hi => by
  obtain ⟨h1, _, _, _⟩ := best_spec (C := comM F) (goods F) 0 (anN_zero.2 (fun i hi => by simp at hi))
  exact (com_bit.1 (anN_zero.1 h1 i hi)).2 p hp
theorem ideal_top {F : Fr} (hF : F.Ok) {m : Nat} (hm : Good F m) (h : ∀ p ∈ prefs F, Sub m p) : Sub m (idealM F) := by
  obtain ⟨h1, _, _, h4⟩ := best_spec (C := comM F) (goods F) 0 (anN_zero.2 (fun i hi => by simp at hi))
  obtain ⟨p, hp⟩ := List.exists_mem_of_ne_nil _ (prefs_pos F)
  have hg := good_or (ideal_good F) hm (prefs_mem.1 hp).1 (ideal_sub F hp) (h p hp)
  have hc : anN (idealM F ||| m) (comM F) = 0 := anN_zero.2 (fun i hi => com_bit.2 ⟨(hg.1.dfd i hi).1, fun q hq => by
    rw [Nat.testBit_or, Bool.or_eq_true] at hi
    rcases hi with hi | hi
    · exact ideal_sub F hq i hi
    · exact h q hq i hi⟩)
  have hl := h4 _ (goods_mem.2 hg.1) hc
  have hs := mask_len (a := idealM F) (b := idealM F ||| m) (goods_lt hF _ (goods_mem.2 (ideal_good F))) (goods_lt hF _ (goods_mem.2 hg.1)) (fun i hi => by rw [Nat.testBit_or, hi]; rfl) hl
  exact fun i hi => hs i (by rw [Nat.testBit_or, hi, Bool.or_true])
/-- What the law says of the sets. -/
structure StandOk (F : Fr) (m : Nat) (qs : List (List Nat)) : Prop where
  ne : qs ≠ []
  adm : goodB F (setM (setL (idealM F))) = true
  grd : insB (setL m) (setL (idealM F)) = true
  low : ∀ q ∈ qs, insB (setL (idealM F)) q = true
  top : ∀ l, UpL F.n l → goodB F (setM l) = true → (∀ q ∈ qs, insB l q = true) → insB l (setL (idealM F)) = true
  how : ∀ x, x < F.n → standI F m x = if (setL m).contains x then 3 else if qs.all (fun q => q.contains x) then 2 else if qs.any (fun q => q.contains x) then 1 else 0
  non : ∀ x, (∀ a, Good F a → a.testBit x = false) → qs.any (fun q => q.contains x) = false
  som : ∀ x a, Good F a → a.testBit x = true → qs.any (fun q => q.contains x) = true ∧ goodB F (setM (setL a)) = true ∧ (setL a).contains x = true
  few : ∀ x a l, UpL F.n l → goodB F (setM l) = true → l.contains x = true → (∀ a', Good F a' → a'.testBit x = true → (setL a).length ≤ (setL a').length) → (setL a).length ≤ l.length
theorem stand_ok {F : Fr} (hF : F.Ok) {m j : Nat} (hg : Grd F m j) {qs : List (List Nat)} (hp : qs.Perm ((prefs F).map setL)) : StandOk F m qs := by
  have hm4 : m < 1024 := goods_lt hF _ (goods_mem.2 hg.good)
  have hi4 : idealM F < 1024 := goods_lt hF _ (goods_mem.2 (ideal_good F))
  have hP4 : ∀ p ∈ prefs F, p < 1024 := fun p hp => goods_lt hF _ (goods_mem.2 (prefs_mem.1 hp).1)
  have hq : ∀ q, q ∈ qs ↔ ∃ p ∈ prefs F, setL p = q := fun q => by rw [hp.mem_iff, List.mem_map]
  have hall : ∀ x, qs.all (fun q => q.contains x) = true ↔ ∀ p ∈ prefs F, p.testBit x = true := fun x => by
    rw [List.all_eq_true]
    constructor
    · intro h p hp
      exact (setL_mem (hP4 p hp)).1 (List.contains_iff_mem.1 (h _ ((hq _).2 ⟨p, hp, rfl⟩)))
    · intro h q hqm
      obtain ⟨p, hp, rfl⟩ := (hq q).1 hqm
      exact List.contains_iff_mem.2 ((setL_mem (hP4 p hp)).2 (h p hp))
  have hany : ∀ x, qs.any (fun q => q.contains x) = true ↔ ∃ p ∈ prefs F, p.testBit x = true := fun x => by
    rw [List.any_eq_true]
    constructor
    · rintro ⟨q, hqm, h⟩
      obtain ⟨p, hp, rfl⟩ := (hq q).1 hqm
      exact ⟨p, hp, (setL_mem (hP4 p hp)).1 (List.contains_iff_mem.1 h)⟩
    · rintro ⟨p, hp, h⟩
      exact ⟨_, (hq _).2 ⟨p, hp, rfl⟩, List.contains_iff_mem.2 ((setL_mem (hP4 p hp)).2 h)⟩
  have hne : qs ≠ [] := by
    obtain ⟨p, hp⟩ := List.exists_mem_of_ne_nil _ (prefs_pos F)
    intro e
    have := (hq (setL p)).2 ⟨p, hp, rfl⟩
    rw [e] at this
    cases this
  refine ⟨hne, ?_, ?_, fun q hqm => ?_, fun l hl hgl hin => ?_, fun x hx => ?_, fun x h => ?_, fun x a ha hax => ?_, fun x a l hl hgl hlx hmin => ?_⟩
  · rw [setM_setL hi4, good_iff]
    exact ideal_good F
  · rw [insB_iff]
    intro x hx
    exact (setL_mem hi4).2 (ideal_top hF hg.good (fun p hp => hg.pref hF hp) x ((setL_mem hm4).1 hx))
  · obtain ⟨p, hp, rfl⟩ := (hq q).1 hqm
    rw [insB_iff]
    intro x hx
    exact (setL_mem (hP4 p hp)).2 (ideal_sub F hp x ((setL_mem hi4).1 hx))
  · rw [insB_iff]
    intro x hx
    refine (setL_mem hi4).2 (ideal_top hF (good_iff.1 hgl) (fun p hp i hi => ?_) x (setM_bit.2 hx))
    exact (setL_mem (hP4 p hp)).1 (insB_iff.1 (hin _ ((hq _).2 ⟨p, hp, rfl⟩)) i (setM_bit.1 hi))
  · unfold standI
    have e1 : (setL m).contains x = m.testBit x := by
      rw [Bool.eq_iff_iff, List.contains_iff_mem, setL_mem hm4]
    rw [e1]
    by_cases h1 : m.testBit x = true
    · rw [if_pos h1, if_pos h1]
    · rw [if_neg h1, if_neg h1]
      by_cases h2 : qs.all (fun q => q.contains x) = true
      · rw [if_pos h2]
        have h3 : cntS x (prefs F) = (prefs F).length := by
          unfold cntS
          rw [List.filter_eq_self.2 (fun p hp => (hall x).1 h2 p hp)]
        have h4 : 0 < (prefs F).length := List.length_pos_iff.2 (prefs_pos F)
        rw [if_neg (by omega), if_pos h3]
      · rw [if_neg h2]
        have h3 : cntS x (prefs F) ≠ (prefs F).length := fun e => by
          unfold cntS at e
          refine h2 ((hall x).2 (fun p hp => ?_))
          have := List.Sublist.eq_of_length_le (List.filter_sublist (p := fun m => Nat.testBit m x) (l := prefs F)) (by omega)
          rw [← this, List.mem_filter] at hp
          exact hp.2
        by_cases h4 : qs.any (fun q => q.contains x) = true
        · rw [if_pos h4]
          obtain ⟨p, hp, hpx⟩ := (hany x).1 h4
          have h5 : 0 < cntS x (prefs F) := List.length_pos_iff.2 (fun e => by
            have : p ∈ (prefs F).filter (fun m => m.testBit x) := List.mem_filter.2 ⟨hp, hpx⟩
            rw [e] at this
            cases this)
          rw [if_neg (by omega), if_neg h3]
        · rw [if_neg h4]
          have h5 : cntS x (prefs F) = 0 := by
            unfold cntS
            rw [List.length_eq_zero_iff, List.filter_eq_nil_iff]
            intro p hp hpx
            exact h4 ((hany x).2 ⟨p, hp, hpx⟩)
          rw [if_pos h5]
  · rw [Bool.eq_false_iff]
    intro h1
    obtain ⟨p, hp, hpx⟩ := (hany x).1 h1
    rw [h p (prefs_mem.1 hp).1] at hpx
    cases hpx
  · have ha4 := goods_lt hF _ (goods_mem.2 ha)
    obtain ⟨p, hp, hs⟩ := in_pref (2 ^ F.n) a (by omega) ha
    refine ⟨(hany x).2 ⟨p, hp, hs x hax⟩, ?_, List.contains_iff_mem.2 ((setL_mem ha4).2 hax)⟩
    rw [setM_setL ha4, good_iff]
    exact ha
  · have := hmin (setM l) (good_iff.1 hgl) (setM_bit.2 (List.contains_iff_mem.1 hlx))
    rwa [setL_setM hl hF.n10] at this
end Go.Proofs.Yteljpodjjeoddaa
