/- slices.DeleteFunc at masks, and the preferred masks, walked. The preferred masks, walked. How many bits a mask has, walked; the ideal set. The ideal set, walked. How an argument stands, walked. -/
import Derived.Test.YteljpodjjeoddaaKB
import Derived.Laws.IdiomCopy
import Derived.Lib.SliceRun
import Derived.Laws.BitsAllLaws
namespace Go.Proofs.Yteljpodjjeoddaa
open Go.RowKit Go.Lib

theorem nCells_len (L : List Nat) : (nCells L).length = L.length := by unfold nCells; rw [List.length_map]
/-- What the row holds while masks are struck out: i are kept of the first j. -/
structure DelSt (L : List Nat) (p : Nat → Bool) (j i : Nat) (X : List Value) : Prop where
  len : X.length = L.length
  lt : i < j
  le : j ≤ L.length
  many : ((L.take j).filter (fun x => !p x)).length = i
  low : X.take i = nCells ((L.take j).filter (fun x => !p x))
  high : X.drop j = nCells (L.drop j)
theorem DelSt.start {L : List Nat} {p : Nat → Bool} {i x : Nat} (h : L[i]? = some x) (hp : p x = true) (hn : ∀ y ∈ L.take i, p y = false) : DelSt L p (i + 1) i (nCells L) := by
  obtain ⟨h1, h2⟩ := List.getElem?_eq_some_iff.1 h
  have e : (L.take (i + 1)).filter (fun x => !p x) = L.take i := by
    rw [List.take_succ_eq_append_getElem h1, h2, List.filter_append, List.filter_eq_self.2 (fun y hy => by rw [hn y hy]; rfl)]
    simp [hp]
  refine ⟨nCells_len L, by omega, by omega, by rw [e, List.length_take]; omega, ?_, ?_⟩
  · rw [e]; unfold nCells; rw [List.map_take]
  · unfold nCells; rw [List.map_drop]
theorem DelSt.get {L : List Nat} {p : Nat → Bool} {j i : Nat} {X : List Value} (h : DelSt L p j i X) {x : Nat} (hx : L[j]? = some x) : X[j]? = some (.int .i64 (x : Int)) := by
  have h1 : (X.drop j)[0]? = X[j]? := by rw [List.getElem?_drop, Nat.add_zero]
  rw [← h1, h.high, nCells_get (m := x)]
  rw [List.getElem?_drop, Nat.add_zero]
  exact hx
theorem DelSt.keep {L : List Nat} {p : Nat → Bool} {j i : Nat} {X : List Value} (h : DelSt L p j i X) {x : Nat} (hx : L[j]? = some x) (hp : p x = false) : DelSt L p (j + 1) (i + 1) (X.set i (.int .i64 (x : Int))) := by
  obtain ⟨h1, h2⟩ := List.getElem?_eq_some_iff.1 hx
  have hi := h.lt
  have hl := h.len
  have e : (L.take (j + 1)).filter (fun x => !p x) = (L.take j).filter (fun x => !p x) ++ [x] := by
    rw [List.take_succ_eq_append_getElem h1, h2, List.filter_append]
    simp [hp]
  refine ⟨by rw [List.length_set]; exact hl, by omega, by omega, by rw [e, List.length_append, h.many]; rfl, ?_, ?_⟩
  · rw [e, show nCells ((L.take j).filter (fun x => !p x) ++ [x]) = nCells ((L.take j).filter (fun x => !p x)) ++ [.int .i64 (x : Int)] by unfold nCells; rw [List.map_append]; rfl, ← h.low]
    rw [List.take_succ_eq_append_getElem (by rw [List.length_set]; omega), List.getElem_set_self]
    congr 1
    rw [List.take_set_of_le (Nat.le_refl _)]
  · rw [List.drop_set_of_lt (by omega), show X.drop (j + 1) = (X.drop j).drop 1 by rw [List.drop_drop], h.high]
    unfold nCells
    rw [← List.map_drop, List.drop_drop]
theorem DelSt.skip {L : List Nat} {p : Nat → Bool} {j i : Nat} {X : List Value} (h : DelSt L p j i X) {x : Nat} (hx : L[j]? = some x) (hp : p x = true) : DelSt L p (j + 1) i X := by
  obtain ⟨h1, h2⟩ := List.getElem?_eq_some_iff.1 hx
  have hi := h.lt
  have e : (L.take (j + 1)).filter (fun x => !p x) = (L.take j).filter (fun x => !p x) := by
    rw [List.take_succ_eq_append_getElem h1, h2, List.filter_append]
    simp [hp]
  refine ⟨h.len, by omega, by omega, by rw [e]; exact h.many, by rw [e]; exact h.low, ?_⟩
  rw [show X.drop (j + 1) = (X.drop j).drop 1 by rw [List.drop_drop], h.high]
  unfold nCells
  rw [← List.map_drop, List.drop_drop]
theorem row_ints {w : World} {g c : Nat} {L : List Nat} (h : Row w g (nCells L)) (hg : g < w.heap.size) (hc : L.length ≤ c) (hm : c ≤ maxLen) : Ints w w.heap.size (.slice (some ⟨g, 0, none⟩) L.length c) (barL L) := by
  have := SlR.of_row (xs := barL L) intCells (size := 1) (fun _ => rfl) (by rw [cells_bar]; exact h) hg (c := c) (by rw [barL_len]; exact hc) hm
  rwa [barL_len] at this
theorem below_cells {B : Nat} {a : World} (b : Nat) (hb : B ≤ b) : ∀ (vs : List Value) (o : Nat) {w : World}, Below B a w → Below B a (w.setCells b o vs)
  | [], _, _, h => h
  | v :: r, o, _, h => below_cells b hb r (o + 1) (h.setCell (p := ⟨b, o, none⟩) hb v)
theorem size_cells (b : Nat) : ∀ (vs : List Value) (o : Nat) (w : World), (w.setCells b o vs).heap.size = w.heap.size
  | [], _, _ => rfl
  | v :: r, o, w => by
    show ((w.setCell ⟨b, o, none⟩ v).setCells b (o + 1) r).heap.size = _
    rw [size_cells b r]
    simp
def StruckPost (L : List Nat) (p : Nat → Bool) (B g c : Nat) (w : World) (e : Ending) (w' : World) : Prop :=
  e = .returned (.slice (some ⟨g, 0, none⟩) (L.filter (fun x => !p x)).length c) ∧ Row w' g (nCells (L.filter (fun x => !p x))) ∧ g < w'.heap.size ∧ Below B w w'
set_option maxRecDepth 100000 in
set_option maxHeartbeats 8000000 in
theorem del_any (L : List Nat) (p : Nat → Bool) (u : Value) (B g c : Nat) (w : World) (hr : Row w g (nCells L)) (hg : g < w.heap.size) (hB : B ≤ g) (hcL : L.length ≤ c) (hcm : c ≤ maxLen)
    (hc : ∀ k ∈ L, ∀ W, Below B w W → Calls Try.prog 37 #[.int .i64 ((k : Nat) : Int), u] W (RetB (.bool (p k)) W)) :
    Calls Try.prog 35 #[.slice (some ⟨g, 0, none⟩) L.length c, .func (.func 37) #[] #[u]] w (StruckPost L p B g c w) := by
  have HX := Lib.hid (idx1_any L p u _ c w (row_ints hr hg hcL hcm) (fun k hk W hW => hc k hk W (hW.mono (by omega))))
  have HC := Lib.hid hc
  have HR := Lib.hid hr
  unfold maxLen at hcm
  unfold IdxPost at HX
  unfold StruckPost
  clear hr hc
  go_enter Try.func35, Try.ntmps35
  go_wp2_with (fail)
  refine HX.out.mono ?_
  rintro e w1 ⟨z, rfl, hb, h⟩
  have HB := Lib.hid (hb.mono (show B ≤ w.heap.size by omega))
  have HR1 := Lib.hid (HR.out.below hb hg)
  have hg1 := Nat.lt_of_lt_of_le hg hb.size
  rcases h with ⟨rfl, h⟩ | ⟨i0, rfl, ⟨x, h1, h2⟩, h3⟩
  · have HE : Hid (L.filter (fun x => !p x) = L) := Lib.hid (List.filter_eq_self.2 (fun y hy => by rw [h y hy]; rfl))
    clear h hb HX
    go_wp2
    go_ret
    exact ⟨by rw [HE.out]; rfl, by rw [HE.out]; exact HR1.out, hg1, HB.out⟩
  · have HD0 := Lib.hid (DelSt.start h1 h2 h3)
    have hi0 : i0 < L.length := (List.getElem?_eq_some_iff.1 h1).1
    have hne : ((i0 : Int) == -1) = false := by rw [beq_eq_false_iff_ne]; omega
    clear h1 h2 h3 hb HX
    go_wp2
    go_loopw [5, 6, 7] (fun ia ja _ wr => ∃ (i j : Nat) (X : List Value), ia = .int .i64 (i : Int) ∧ ja = .int .i64 (j : Int) ∧ DelSt L p j i X ∧ Row wr g X ∧ Below B w wr ∧ g < wr.heap.size) (fun _ ja _ _ => L.length - (RowKit.intOf ja).toNat)
    case atStart => exact ⟨i0, i0 + 1, nCells L, rfl, by go_num, HD0.out, HR1.out, HB.out, hg1⟩
    case round =>
      obtain ⟨i, j, X, rfl, rfl, hD, hX, hb, hgr⟩ := hrel
      have HD := Lib.hid hD
      have HXR := Lib.hid hX
      have HBR := Lib.hid hb
      have hij := hD.lt
      have hjl := hD.le
      have hXl := hD.len
      clear hD hX hb
      by_cases hlt : j < L.length
      · have hget : L[j]? = some L[j] := List.getElem?_eq_getElem hlt
        have y0 := HXR.out.cell j _ (HD.out.get hget)
        have HG := Lib.hid hget
        have HCK := Lib.hid (HC.out _ (List.getElem_mem hlt) wr HBR.out)
        have hji : (j : Int) < (L.length : Int) := by omega
        have hj0 : (0 : Int) ≤ (j : Int) := by omega
        generalize L[j] = a at *
        clear hget
        cases hp : p a with
        | true =>
          rw [hp] at HCK
          have HN := Lib.hid (HD.out.skip HG.out hp)
          clear hp
          go_wp2_with (fail)
          refine HCK.out.mono ?_
          rintro e w2 ⟨rfl, b2⟩
          have HB2 := Lib.hid (HBR.out.trans (b2.mono (show B ≤ wr.heap.size by omega)))
          have HR2 := Lib.hid (HXR.out.below b2 hgr)
          have hg2 := Nat.lt_of_lt_of_le hgr b2.size
          clear b2 y0
          go_wp2
          go_roundw
          case rel => exact ⟨i, j + 1, X, rfl, by go_num, HN.out, HR2.out, HB2.out, hg2⟩
          case measure => simp [RowKit.intOf]; omega
        | false =>
          rw [hp] at HCK
          have HN := Lib.hid (HD.out.keep HG.out hp)
          clear hp
          go_wp2_with (fail)
          refine HCK.out.mono ?_
          rintro e w2 ⟨rfl, b2⟩
          have HB2 := Lib.hid (HBR.out.trans (b2.mono (show B ≤ wr.heap.size by omega)))
          have HR2 := Lib.hid (HXR.out.below b2 hgr)
          have hg2 := Nat.lt_of_lt_of_le hgr b2.size
          have hiX : i < X.length := by omega
          have fi := HR2.out.free i hiX
          have ci := HR2.out.cell i _ (List.getElem?_eq_getElem hiX)
          have HSET := Lib.hid (HR2.out.set i (.int .i64 (a : Int)) hiX)
          generalize X[i] = old at *
          have hii : (i : Int) < (L.length : Int) := by omega
          have hi00 : (0 : Int) ≤ (i : Int) := by omega
          clear b2 y0
          go_wp2
          go_roundw
          case rel => exact ⟨i + 1, j + 1, _, by go_num, by go_num, HN.out, HSET.out, HB2.out.setCell hB _, by simpa using hg2⟩
          case measure => simp [RowKit.intOf]; omega
      · have hge : ¬ (j : Int) < (L.length : Int) := by omega
        have hjL : j = L.length := by omega
        have HK : Hid (L.filter (fun x => !p x) = (L.take j).filter (fun x => !p x)) := Lib.hid (by rw [List.take_of_length_le (by omega)])
        have hcl : ∀ ty, (Builtin.clear_ #[47] ty #[.slice (some ⟨g, i, none⟩) (L.length - i) (c - i)]).run Try.prog wr = .ok (.tuple #[]) (wr.setCells g i (List.replicate (L.length - i) (.int .i64 0))) :=
          fun ty => Lib.run_clear_slice wr _ 3 ty _ Try.underlying47 Try.zeroValue3 rfl rfl g i _ _ (by omega) (fun t ht => by rw [HXR.out.cell (i + t) _ (List.getElem?_eq_getElem (show i + t < X.length by omega))]; rfl) (fun t ht => HXR.out.free (i + t) (by omega))
        have HRF : Hid (Row (wr.setCells g i (List.replicate (L.length - i) (.int .i64 0))) g (nCells (L.filter (fun x => !p x)))) := Lib.hid (by
          have hm := HD.out.many
          rw [HK.out]
          refine ⟨fun k v hk => ?_, fun k hk => ?_⟩
          · have hki : k < i := by
              have := (List.getElem?_eq_some_iff.1 hk).1
              rw [nCells_len, hm] at this
              exact this
            rw [World.cell?_setCells_out g _ _ _ _ (fun _ _ => .inl hki)]
            refine HXR.out.cell k v ?_
            rw [← HD.out.low, List.getElem?_take, if_pos hki] at hk
            exact hk
          · rw [World.frozen?_setCells]
            rw [nCells_len, hm] at hk
            exact HXR.out.free k (by omega))
        have HBF : Hid (Below B w (wr.setCells g i (List.replicate (L.length - i) (.int .i64 0)))) := Lib.hid (below_cells g hB _ _ HBR.out)
        have hgF : g < (wr.setCells g i (List.replicate (L.length - i) (.int .i64 0))).heap.size := by rw [size_cells]; exact hgr
        have HKL : Hid ((L.filter (fun x => !p x)).length = i) := Lib.hid (by rw [HK.out]; exact HD.out.many)
        clear hjL
        generalize wr.setCells g i (List.replicate (L.length - i) (.int .i64 0)) = W9 at *
        have hii : (i : Int) ≤ (L.length : Int) := by omega
        have hic : (i : Int) ≤ (c : Int) := by omega
        have hlc : (L.length : Int) ≤ (c : Int) := by omega
        have hi00 : (0 : Int) ≤ (i : Int) := by omega
        go_wp2
        go_ret
        exact ⟨by rw [HKL.out]; rfl, HRF.out, hgF, HBF.out⟩
end Go.Proofs.Yteljpodjjeoddaa

namespace Go.Proofs.Yteljpodjjeoddaa
open Go.RowKit Go.Lib

def PrefPost (F : Fr) (w : World) (e : Ending) (w' : World) : Prop :=
  ∃ g c : Nat, e = .returned (.slice (some ⟨g, 0, none⟩) (prefs F).length c) ∧ Row w' g (nCells (prefs F)) ∧ (prefs F).length ≤ c ∧ c ≤ maxLen ∧ w.heap.size ≤ g ∧ g < w'.heap.size ∧ Below w.heap.size w w'
theorem goods_flt (F : Fr) : fltK (goodB F) (2 ^ F.n) = goods F := rfl
theorem goods_lt {F : Fr} (hF : F.Ok) : ∀ k ∈ goods F, k < 1024 := fun k hk => by
  have h1 := (goods_mem.1 hk).lt
  have h2 := Nat.pow_le_pow_right (n := 2) (by omega) hF.n10
  omega
theorem goods_len {F : Fr} (hF : F.Ok) : (goods F).length ≤ 1024 := by
  have h1 := fltK_len (goodB F) (2 ^ F.n)
  have h2 := Nat.pow_le_pow_right (n := 2) (by omega) hF.n10
  rw [goods_flt] at h1
  omega
theorem goods_ne (F : Fr) : goods F ≠ [] := fun h => by
  have := goods_mem.2 (zero_good F)
  rw [h] at this
  cases this
theorem NumN.rowN {w : World} {base g c : Nat} {L : List Nat} (h : NumN w base g c L) (h0 : L ≠ []) : Row w g (nCells L) ∧ base ≤ g ∧ g < w.heap.size ∧ L.length ≤ c ∧ c ≤ maxLen := by
  obtain ⟨A, c', e, h1, h2, h3⟩ := h.own
  rw [barL_len] at e h1
  injection e with e1 e2 e3
  subst e3
  obtain ⟨g', hA, hb, hg, hr⟩ := h3 (fun e => h0 (by
    have := congrArg List.length e
    rw [barL_len] at this
    exact List.eq_nil_of_length_eq_zero this))
  rw [hA] at e1
  injection e1 with e1
  injection e1 with e1 _ _
  subst e1
  rw [cells_bar] at hr
  exact ⟨hr, hb, hg, h1, h2⟩
set_option maxRecDepth 100000 in
set_option maxHeartbeats 8000000 in
theorem pref_any (F : Fr) (hF : F.Ok) (A : Option Addr) (c : Nat) (w : World) (h : FrR w w.heap.size F A c) :
    Calls Try.prog 21 #[frV F A c] w (PrefPost F w) := by
  obtain ⟨w1, hw1, hs1, b1, z0, z1, fr, bw⟩ := box_at F A c w h
  have HM := Lib.hid (fun y : Aft w1 => masks_any F hF A c (goodB F) (frV F A c) y.val (fr y) (fun k hk W hW => good_any F hF k hk A c W ((fr y).on hW hW.size)))
  have BW := Lib.hid bw
  have HF := Lib.hid hF
  have hn := hF.n10
  unfold PrefPost
  unfold MaskPost at HM
  rw [goods_flt] at HM
  clear hF h fr bw b1
  unfold frV at *
  go_enter Try.func21, Try.ntmps21
  go_upto_region 1 with (fail)
  rw [← hw1]
  obtain ⟨x0, hx0⟩ : ∃ y : Aft w1, y.val = w1 := ⟨⟨w1, Below.refl _ _⟩, rfl⟩
  rw [← hx0]
  clear hx0 hw1
  go_wp2_with (fail)
  refine (HM.out x0).mono ?_
  rintro e w3 ⟨g, cg, rfl, hnum, hb3⟩
  have b4 : Below w3.heap.size w3 (w3.alloc (.cells #[.slice (some ⟨g, 0, none⟩) (goods F).length cg] 47)) := (Below.refl _ _).alloc (Nat.le_refl _) _
  have u0 : (w3.alloc (.cells #[.slice (some ⟨g, 0, none⟩) (goods F).length cg] 47)).cell? ⟨w3.heap.size, 0, none⟩ = some (.slice (some ⟨g, 0, none⟩) (goods F).length cg) := new_at (j := 0) rfl
  obtain ⟨w4, hw4⟩ : ∃ X, X = w3.alloc (.cells #[.slice (some ⟨g, 0, none⟩) (goods F).length cg] 47) := ⟨_, rfl⟩
  rw [← hw4] at b4 u0
  have hI4 := (hnum.below b4).ints
  have HLT := Lib.hid (goods_lt HF.out)
  have HB3 := Lib.hid (below_then (BW.out x0) (BW.out x0).size hb3)
  have HB4 := Lib.hid (below_then HB3.out HB3.out.size b4)
  have HCL := Lib.hid (cloneN_any (goods F) (goods_ne F) ⟨g, 0, none⟩ cg w4 hI4 (by have := goods_len HF.out; omega))
  have HLIE := Lib.hid (fun (W : World) (hW : Below w4.heap.size w4 W) (k : Nat) (hk : k ∈ goods F) => lies_any (goods F) HLT.out k (HLT.out k hk) (some ⟨g, 0, none⟩) cg w3.heap.size W (SlR.on hI4 (Pl.stays _) hW hW.size) ((hW.cell (p := ⟨w3.heap.size, 0, none⟩) (World.block_lt_of_cell? w4 _ u0)).trans u0))
  have HNE := Lib.hid (goods_ne F)
  have hPR : Hid (prefs F = (goods F).filter (fun x => !(fun m => (goods F).any (inMk m)) x)) := Lib.hid rfl
  unfold CloneN at HCL
  have hu4 : w3.heap.size < w4.heap.size := World.block_lt_of_cell? w4 _ u0
  clear hnum hb3 b4 hI4 z0 z1 HM
  generalize goods F = L at *
  go_upto_region 2 with (fail)
  rw [← hw4]
  clear hw4
  go_wp2_with (fail)
  refine HCL.out.mono ?_
  rintro e w5 ⟨g5, c5, rfl, hn5, hb5⟩
  obtain ⟨hr5, hg51, hg52, hc51, hc52⟩ := hn5.rowN HNE.out
  have HDEL := Lib.hid (del_any L (fun m => L.any (inMk m)) (.pointer (some ⟨w3.heap.size, 0, none⟩)) w4.heap.size g5 c5 w5 hr5 hg52 hg51 hc51 hc52 (fun k hk W hW => HLIE.out W (hb5.trans hW) k hk))
  have HB5 := Lib.hid (below_then HB4.out HB4.out.size hb5)
  unfold StruckPost at HDEL
  rw [← hPR.out] at HDEL
  have hple : (prefs F).length ≤ L.length := by rw [hPR.out]; exact List.length_filter_le _ _
  clear hn5 hb5 hr5 hPR u0
  go_wp2_with (fail)
  refine HDEL.out.mono ?_
  rintro e w6 ⟨rfl, hr6, hg6, hb6⟩
  have HR6 := Lib.hid hr6
  have hbe := HB5.out.trans (hb6.mono HB4.out.size)
  clear hr6 hb6
  go_wp2
  go_ret
  exact ⟨g5, c5, rfl, HR6.out, by omega, hc52, Nat.le_trans HB4.out.size hg51, hg6, hbe⟩
end Go.Proofs.Yteljpodjjeoddaa

namespace Go.Proofs.Yteljpodjjeoddaa
open Go.RowKit Go.Lib

def pop1 (m : Nat) : Nat := (m / 2 &&& 6148914691236517205) + (m &&& 6148914691236517205)
def pop2 (x : Nat) : Nat := (x / 4 &&& 3689348814741910323) + (x &&& 3689348814741910323)
def pop3 (x : Nat) : Nat := (x / 16 + x) &&& 1085102592571150095
def pop4 (x : Nat) : Nat := x + x / 256
def pop5 (x : Nat) : Nat := x + x / 65536
def pop6 (x : Nat) : Nat := x + x / 4294967296
def popN (m : Nat) : Nat := pop6 (pop5 (pop4 (pop3 (pop2 (pop1 m))))) &&& 127
theorem pop_all : ∀ n : Fin 1024, popN n.val = (setL n.val).length := by decide +kernel
theorem pop_len {m : Nat} (hm : m < 1024) : popN m = (setL m).length := pop_all ⟨m, hm⟩
theorem and_le_l (a b : Nat) : a &&& b ≤ a := Nat.and_le_left
theorem wrap_u64_nat (x : Nat) (h : x < 18446744073709551616) : IntKind.u64.wrap (x : Int) = (x : Int) := by rw [IntKind.wrap_u64]; omega
set_option maxRecDepth 100000 in
set_option maxHeartbeats 4000000 in
theorem pop64_any (m : Nat) (hm : m < 1024) (w : World) : Calls Try.prog 43 #[.int .u64 (m : Int)] w (RetQ (.int .i64 ((setL m).length : Int)) w) := by
  rw [← pop_len hm]
  have h1 : pop1 m ≤ 1534 := by unfold pop1; have := and_le_l (m / 2) 6148914691236517205; have := and_le_l m 6148914691236517205; omega
  have e1 : IntKind.u64.wrap (bits .and .u64 ((m : Int) / 2) 6148914691236517205 + bits .and .u64 (m : Int) 6148914691236517205) = (pop1 m : Int) := by
    have a := u64_and_nat (m / 2) 6148914691236517205 (by omega) (by omega)
    have b := u64_and_nat m 6148914691236517205 (by omega) (by omega)
    rw [show ((m : Int) / 2) = ((m / 2 : Nat) : Int) by omega]
    rw [show ((6148914691236517205 : Nat) : Int) = 6148914691236517205 from rfl] at a b
    rw [a, b, ← Int.natCast_add]
    exact wrap_u64_nat _ (by have := h1; unfold pop1 at this; omega)
  have HP : Hid (popN m = pop6 (pop5 (pop4 (pop3 (pop2 (pop1 m))))) &&& 127) := Lib.hid rfl
  generalize pop1 m = x1 at *
  have h2 : pop2 x1 ≤ 1917 := by unfold pop2; have := and_le_l (x1 / 4) 3689348814741910323; have := and_le_l x1 3689348814741910323; omega
  have e2 : IntKind.u64.wrap (bits .and .u64 ((x1 : Int) / 4) 3689348814741910323 + bits .and .u64 (x1 : Int) 3689348814741910323) = (pop2 x1 : Int) := by
    have a := u64_and_nat (x1 / 4) 3689348814741910323 (by omega) (by omega)
    have b := u64_and_nat x1 3689348814741910323 (by omega) (by omega)
    rw [show ((x1 : Int) / 4) = ((x1 / 4 : Nat) : Int) by omega]
    rw [show ((3689348814741910323 : Nat) : Int) = 3689348814741910323 from rfl] at a b
    rw [a, b, ← Int.natCast_add]
    exact wrap_u64_nat _ (by have := h2; unfold pop2 at this; omega)
  generalize pop2 x1 = x2 at *
  have h3 : pop3 x2 ≤ 2040 := by unfold pop3; have := and_le_l (x2 / 16 + x2) 1085102592571150095; omega
  have e3 : bits .and .u64 (IntKind.u64.wrap ((x2 : Int) / 16 + (x2 : Int))) 1085102592571150095 = (pop3 x2 : Int) := by
    have a := u64_and_nat (x2 / 16 + x2) 1085102592571150095 (by omega) (by omega)
    rw [show ((x2 : Int) / 16 + (x2 : Int)) = ((x2 / 16 + x2 : Nat) : Int) by omega, wrap_u64_nat _ (by omega)]
    rw [show ((1085102592571150095 : Nat) : Int) = 1085102592571150095 from rfl] at a
    exact a
  generalize pop3 x2 = x3 at *
  have h4 : pop4 x3 ≤ 2050 := by unfold pop4; omega
  have e4 : IntKind.u64.wrap ((x3 : Int) + (x3 : Int) / 256) = (pop4 x3 : Int) := by rw [IntKind.wrap_u64]; unfold pop4; omega
  generalize pop4 x3 = x4 at *
  have h5 : pop5 x4 ≤ 2060 := by unfold pop5; omega
  have e5 : IntKind.u64.wrap ((x4 : Int) + (x4 : Int) / 65536) = (pop5 x4 : Int) := by rw [IntKind.wrap_u64]; unfold pop5; omega
  generalize pop5 x4 = x5 at *
  have h6 : pop6 x5 ≤ 2070 := by unfold pop6; omega
  have e6 : IntKind.u64.wrap ((x5 : Int) + (x5 : Int) / 4294967296) = (pop6 x5 : Int) := by rw [IntKind.wrap_u64]; unfold pop6; omega
  generalize pop6 x5 = x6 at *
  have e7 : bits .and .i64 (x6 : Int) 127 = (popN m : Int) := by
    rw [HP.out]
    exact bits_and x6 127 (by omega) (by omega)
  have hw6 : IntKind.i64.wrap (x6 : Int) = (x6 : Int) := by rw [IntKind.wrap_i64]; omega
  generalize popN m = r at *
  clear h1 h2 h3 h4 h5 HP
  go_enter Try.func43, Try.ntmps43
  go_wp2
  go_ret
  exact ⟨rfl, 0, rfl⟩
set_option maxHeartbeats 1000000 in
theorem pop_any (m : Nat) (hm : m < 1024) (w : World) : Calls Try.prog 24 #[.int .u64 (m : Int)] w (RetQ (.int .i64 ((setL m).length : Int)) w) := by
  have H := Lib.hid (pop64_any m hm)
  go_enter Try.func24, Try.ntmps24
  go_wp2_with (fail)
  refine (H.out w).mono ?_
  rintro e _ ⟨rfl, n, rfl⟩
  go_wp2
  go_ret
  exact ⟨rfl, n, rfl⟩
end Go.Proofs.Yteljpodjjeoddaa

namespace Go.Proofs.Yteljpodjjeoddaa
open Go.RowKit Go.Lib

def andS (c : Nat) (l : List Nat) : Nat := l.foldl (fun o m => o &&& m) c
theorem andS_bit : ∀ (l : List Nat) (c i : Nat), (andS c l).testBit i = true ↔ c.testBit i = true ∧ ∀ m ∈ l, m.testBit i = true
  | [], c, i => by simp [andS]
  | a :: l, c, i => by
    show (andS (c &&& a) l).testBit i = true ↔ _
    rw [andS_bit l, Nat.testBit_and, Bool.and_eq_true]
    simp [and_assoc]
theorem andS_snoc {c : Nat} {l : List Nat} {m : Nat} : andS c (l ++ [m]) = andS c l &&& m := by unfold andS; rw [List.foldl_append]; rfl
theorem andS_le (c : Nat) (l : List Nat) : andS c l ≤ c := Sub.le fun i hi => ((andS_bit l c i).1 hi).1
def bestS (C : Nat) (l : List Nat) : Nat := l.foldl (fun b m => if anN m C == 0 && decide ((setL b).length < (setL m).length) then m else b) 0
theorem bestS_snoc {C : Nat} {l : List Nat} {m : Nat} : bestS C (l ++ [m]) = if anN m C == 0 && decide ((setL (bestS C l)).length < (setL m).length) then m else bestS C l := by unfold bestS; rw [List.foldl_append]; rfl
theorem bestS_go {C : Nat} : ∀ (l : List Nat) (b : Nat), b < 1024 → (∀ m ∈ l, m < 1024) → l.foldl (fun b m => if anN m C == 0 && decide ((setL b).length < (setL m).length) then m else b) b < 1024
  | [], _, h, _ => h
  | a :: l, b, h, hl => by
    rw [List.foldl_cons]
    refine bestS_go l _ ?_ (fun m hm => hl m (by simp [hm]))
    split
    · exact hl a (by simp)
    · exact h
theorem bestS_lt {C : Nat} (l : List Nat) (h : ∀ m ∈ l, m < 1024) : bestS C l < 1024 := bestS_go l 0 (by omega) h
def comM (F : Fr) : Nat := andS (2 ^ F.n - 1) (prefs F)
def idealM (F : Fr) : Nat := bestS (comM F) (goods F)
def IdealPost (F : Fr) (w : World) (e : Ending) (w' : World) : Prop :=
  ∃ g c, e = .returned (.tuple #[.slice (some ⟨g, 0, none⟩) (setL (idealM F)).length c, .bool true]) ∧ NumO w' w.heap.size g c (barL (setL (idealM F))) ∧ Below w.heap.size w w'
set_option maxRecDepth 100000 in
set_option maxHeartbeats 8000000 in
theorem ideal_any (F : Fr) (hF : F.Ok) (A : Option Addr) (c : Nat) (w : World) (h : FrR w w.heap.size F A c) :
    Calls Try.prog 8 #[frV F A c] w (IdealPost F w) := by
  obtain ⟨w1, hw1, hs1, b1, z0, z1, fr, bw⟩ := box_at F A c w h
  have HV := Lib.hid (fun y => validF_any F hF A c y.val (fr y))
  have HPR := Lib.hid (fun y => pref_any F hF A c y.val (fr y))
  have HM := Lib.hid (fun y : Aft w1 => masks_any F hF A c (goodB F) (frV F A c) y.val (fr y) (fun k hk W hW => good_any F hF k hk A c W ((fr y).on hW hW.size)))
  have BW := Lib.hid bw
  have HF := Lib.hid hF
  have hn := hF.n10
  have hp2 := Nat.pow_le_pow_right (n := 2) (by omega) hn
  have hp1 : 0 < 2 ^ F.n := Nat.pow_pos (by omega)
  have hwt := wrap_two F.n (by omega)
  have HGL := Lib.hid (goods_lt hF)
  have hgl := goods_len hF
  have HPL := Lib.hid (fun k (hk : k ∈ prefs F) => goods_lt hF k (goods_mem.2 (prefs_mem.1 hk).1))
  have HGN := Lib.hid (goods_ne F)
  unfold IdealPost
  unfold MaskPost at HM
  unfold PrefPost at HPR
  rw [goods_flt] at HM
  have HID : Hid (idealM F = bestS (andS (2 ^ F.n - 1) (prefs F)) (goods F)) := Lib.hid rfl
  generalize idealM F = I9 at *
  obtain ⟨M, hM⟩ : ∃ M : Nat, M = 2 ^ F.n := ⟨_, rfl⟩
  rw [← hM] at hwt hp2 hp1 HID
  obtain ⟨c0, hc0⟩ : ∃ c0 : Nat, c0 = M - 1 := ⟨_, rfl⟩
  rw [← hc0] at HID
  have hM1 : (M : Int) - 1 = (c0 : Int) := by omega
  have hc4 : c0 < 1024 := by omega
  have hM4 : M ≤ 1024 := hp2
  clear hF h fr bw b1 hM hp1 hp2 hc0
  unfold frV at *
  generalize prefs F = P at *
  generalize goods F = G at *
  have z0w := z0
  have z1w := z1
  go_enter Try.func8, Try.ntmps8
  go_upto_region 1 with (fail)
  rw [← hw1]
  obtain ⟨x0, hx0⟩ : ∃ y : Aft w1, y.val = w1 := ⟨⟨w1, Below.refl _ _⟩, rfl⟩
  rw [← hx0]
  clear hx0 hw1
  go_wp2_with (fail)
  refine (aft_b (HV.out x0)).mono ?_
  rintro e _ ⟨rfl, x1, rfl⟩
  go_upto_region 4 with (fail)
  first | rw [hwt] | skip
  first | rw [hM1] | skip
  clear hwt hM1
  go_wp2_with (fail)
  refine (HPR.out x1).mono ?_
  rintro e w3 ⟨g3, c3, rfl, hr3, hc31, hc32, hg31, hg32, hb3⟩
  have HR3 := Lib.hid hr3
  obtain ⟨y3, rfl⟩ : ∃ y : Aft w1, y.val = w3 := ⟨⟨w3, x1.ok.trans (hb3.mono x1.ok.size)⟩, rfl⟩
  unfold maxLen at hc32
  clear hr3 hb3 HV HPR
  go_wp2
  go_loopw [4, 6, 20] (fun ca _ i wr => ∃ k : Nat, k ≤ P.length ∧ ca = .int .i64 (andS c0 (P.take k) : Nat) ∧ i = .int .i64 (k : Int) ∧ wr = y3.val) (fun _ _ i _ => P.length - (RowKit.intOf i).toNat)
  case atStart => exact ⟨0, Nat.zero_le _, rfl, rfl, rfl⟩
  case round =>
    obtain ⟨k, hk, rfl, rfl, rfl⟩ := hrel
    by_cases hlt : k < P.length
    · have hget : P[k]? = some P[k] := List.getElem?_eq_getElem hlt
      have u0 := HR3.out.cell k _ (nCells_get hget)
      have hpl := HPL.out _ (List.getElem_mem hlt)
      have hdl := andS_le c0 (P.take k)
      have hv := bits_and (andS c0 (P.take k)) P[k] (by omega) (by omega)
      have HN : Hid (andS c0 (P.take (k + 1)) = andS c0 (P.take k) &&& P[k]) := Lib.hid (by rw [List.take_succ_eq_append_getElem hlt, andS_snoc])
      generalize P[k] = a at *
      generalize andS c0 (P.take k) = D at *
      generalize D &&& a = D' at *
      have hki : (k : Int) < (P.length : Int) := by omega
      have hk0 : (0 : Int) ≤ (k : Int) := by omega
      clear hget
      go_wp2
      go_roundw
      case rel => exact ⟨k + 1, by omega, by rw [HN.out], by go_num, trivial⟩
      case measure => simp [RowKit.intOf]; omega
    · have hge : ¬ (k : Int) < (P.length : Int) := by omega
      have HE : Hid (P.take k = P) := Lib.hid (List.take_of_length_le (by omega))
      have hCl := andS_le c0 P
      rw [HE.out]
      obtain ⟨C, hC⟩ : ∃ C, C = andS c0 P := ⟨_, rfl⟩
      rw [← hC] at HID hCl ⊢
      clear hC hlt HE
      go_wp2_with (fail)
      refine (HM.out y3).mono ?_
      rintro e w5 ⟨g5, c5, rfl, hn5, hb5⟩
      obtain ⟨hr5, hg51, hg52, hc51, hc52⟩ := hn5.rowN HGN.out
      have HR5 := Lib.hid (fun y : Aft w5 => hr5.below y.ok hg52)
      have HB5 := Lib.hid (below_then (BW.out y3) (BW.out y3).size hb5)
      obtain ⟨x5, hx5⟩ : ∃ y : Aft w5, y.val = w5 := ⟨⟨w5, Below.refl _ _⟩, rfl⟩
      have HSO := Lib.hid (fun (y : Aft w5) (m : Nat) (hm : m < 1024) => setOf_any m hm y.val)
      unfold SetPost at HSO
      unfold maxLen at hc52
      clear hn5 hb5 hr5 HM z0 z1 z0w z1w
      rw [← hx5]
      clear hx5
      go_wp2
      go_loopw [7, 9, 33] (fun ba _ i wr => ∃ (k : Nat) (x : Aft w5), k ≤ G.length ∧ ba = .int .i64 (bestS C (G.take k) : Nat) ∧ i = .int .i64 (k : Int) ∧ wr = x.val) (fun _ _ i _ => G.length - (RowKit.intOf i).toNat)
      case atStart => exact ⟨0, x5, Nat.zero_le _, rfl, rfl, rfl⟩
      case round =>
        obtain ⟨k, x, hk, rfl, rfl, rfl⟩ := hrel
        by_cases hlt : k < G.length
        · have hget : G[k]? = some G[k] := List.getElem?_eq_getElem hlt
          have u0 := fun y : Aft w5 => (HR5.out y).cell k _ (nCells_get hget)
          have hpl := HGL.out _ (List.getElem_mem hlt)
          have hdl := bestS_lt (C := C) (G.take k) (fun m hm => HGL.out m (List.mem_of_mem_take hm))
          have hv := bits_not G[k] C (by omega) (by omega)
          have HN : Hid (bestS C (G.take (k + 1)) = if anN G[k] C == 0 && decide ((setL (bestS C (G.take k))).length < (setL G[k]).length) then G[k] else bestS C (G.take k)) := Lib.hid (by rw [List.take_succ_eq_append_getElem hlt, bestS_snoc])
          have HPM := Lib.hid (fun y : Aft w5 => pop_any G[k] hpl y.val)
          have HPB := Lib.hid (fun y : Aft w5 => pop_any (bestS C (G.take k)) hdl y.val)
          generalize G[k] = a at *
          generalize bestS C (G.take k) = D at *
          generalize (setL a).length = la at *
          generalize (setL D).length = lb at *
          obtain ⟨z, hz⟩ : ∃ z, z = anN a C := ⟨_, rfl⟩
          rw [← hz] at hv HN
          have hki : (k : Int) < (G.length : Int) := by omega
          have hk0 : (0 : Int) ≤ (k : Int) := by omega
          have hwa : IntKind.u64.wrap (a : Int) = (a : Int) := wrap_u64_nat _ (by omega)
          have hwd : IntKind.u64.wrap (D : Int) = (D : Int) := wrap_u64_nat _ (by omega)
          clear hget hz
          cases z with
          | zero =>
            have hv0 : bits .andNot .i64 (a : Int) (C : Int) = 0 := hv
            clear hv
            by_cases hll : lb < la
            · have HN2 : Hid (bestS C (G.take (k + 1)) = a) := Lib.hid (by rw [HN.out]; simp [hll])
              have hli : (lb : Int) < (la : Int) := by omega
              go_wp2_with (fail)
              refine (aft_q (HPM.out x)).mono ?_
              rintro e _ ⟨rfl, y1, rfl⟩
              go_wp2_with (fail)
              refine (aft_q (HPB.out y1)).mono ?_
              rintro e _ ⟨rfl, y2, rfl⟩
              go_wp2
              go_roundw
              case rel => exact ⟨k + 1, y2, by omega, by rw [HN2.out], by go_num, rfl⟩
              case measure => simp [RowKit.intOf]; omega
            · have HN2 : Hid (bestS C (G.take (k + 1)) = D) := Lib.hid (by rw [HN.out]; simp [hll])
              have hli : ¬ (lb : Int) < (la : Int) := by omega
              go_wp2_with (fail)
              refine (aft_q (HPM.out x)).mono ?_
              rintro e _ ⟨rfl, y1, rfl⟩
              go_wp2_with (fail)
              refine (aft_q (HPB.out y1)).mono ?_
              rintro e _ ⟨rfl, y2, rfl⟩
              go_wp2
              go_roundw
              case rel => exact ⟨k + 1, y2, by omega, by rw [HN2.out], by go_num, rfl⟩
              case measure => simp [RowKit.intOf]; omega
          | succ z =>
            have hz0 : (((z + 1 : Nat) : Int) == 0) = false := by simp; omega
            have HN2 : Hid (bestS C (G.take (k + 1)) = D) := Lib.hid (by rw [HN.out]; simp)
            go_wp2
            go_roundw
            case rel => exact ⟨k + 1, x, by omega, by rw [HN2.out], by go_num, rfl⟩
            case measure => simp [RowKit.intOf]; omega
        · have hge : ¬ (k : Int) < (G.length : Int) := by omega
          have HE : Hid (G.take k = G) := Lib.hid (List.take_of_length_le (by omega))
          rw [HE.out, ← HID.out]
          have hI4 : I9 < 1024 := by rw [HID.out]; exact bestS_lt G HGL.out
          clear hlt HE
          go_wp2_with (fail)
          refine (HSO.out x I9 hI4).mono ?_
          rintro e w6 ⟨g6, c6, rfl, hn6, hb6⟩
          have hbx := HB5.out.trans (x.ok.mono HB5.out.size)
          have hbe := below_then hbx hbx.size hb6
          have HNUM := Lib.hid (hn6.less hbx.size)
          go_wp2
          go_ret2
          exact ⟨g6, c6, rfl, HNUM.out, hbe⟩
end Go.Proofs.Yteljpodjjeoddaa

namespace Go.Proofs.Yteljpodjjeoddaa
open Go.RowKit Go.Lib

def cntS (x : Nat) (l : List Nat) : Nat := (l.filter (fun m => m.testBit x)).length
theorem cntS_snoc {x : Nat} {l : List Nat} {m : Nat} : cntS x (l ++ [m]) = if m.testBit x then cntS x l + 1 else cntS x l := by
  unfold cntS
  rw [List.filter_append, List.length_append]
  cases h : m.testBit x <;> simp [h]
theorem cntS_le (x : Nat) (l : List Nat) : cntS x l ≤ l.length := List.length_filter_le _ _
def standI (F : Fr) (m x : Nat) : Int := if m.testBit x then 3 else if cntS x (prefs F) = 0 then 0 else if cntS x (prefs F) = (prefs F).length then 2 else 1
theorem prefs_len {F : Fr} (hF : F.Ok) : (prefs F).length ≤ 1024 := Nat.le_trans (List.length_filter_le _ _) (goods_len hF)
set_option maxRecDepth 100000 in
set_option maxHeartbeats 8000000 in
theorem stand_any (F : Fr) (hF : F.Ok) (m j : Nat) (hg : Grd F m j) (hsh : Shut2 F m j) (x : Nat) (hx : x < F.n) (A : Option Addr) (c : Nat) (w : World) (h : FrR w w.heap.size F A c) :
    Calls Try.prog 12 #[frV F A c, .int .i64 (x : Int)] w (RetB (.tuple #[.int .i64 (standI F m x), .bool true]) w) := by
  obtain ⟨w1, hw1, hs1, b1, z0, z1, fr, bw⟩ := box_at F A c w h
  have HA := Lib.hid (fun y => isArg_any F hF x hx A c y.val (fr y))
  have HG := Lib.hid (fun y => grounded_any F hF A c y.val (fr y))
  have HPR := Lib.hid (fun y => pref_any F hF A c y.val (fr y))
  have BW := Lib.hid bw
  have hn := hF.n10
  have hm : m < 1024 := by
    have h1 := hg.lt.1
    have h2 := Nat.pow_le_pow_right (n := 2) (by omega) hn
    omega
  have HONE := Lib.hid (fun (m' j' : Nat) (h1 : Grd F m' j') (h2 : Shut2 F m' j') => h1.one h2 hg hsh)
  have HPL := Lib.hid (fun k (hk : k ∈ prefs F) => goods_lt hF k (goods_mem.2 (prefs_mem.1 hk).1))
  have hplen := prefs_len hF
  have HST : Hid (standI F m x = if m.testBit x then 3 else if cntS x (prefs F) = 0 then 0 else if cntS x (prefs F) = (prefs F).length then 2 else 1) := Lib.hid rfl
  unfold PrefPost at HPR
  unfold GrdPost at HG
  clear hF h fr bw b1 hg hsh
  unfold frV at *
  generalize standI F m x = s at *
  generalize prefs F = P at *
  have z0w := z0
  have z1w := z1
  go_enter Try.func12, Try.ntmps12
  go_upto_region 1 with (fail)
  rw [← hw1]
  obtain ⟨x0, hx0⟩ : ∃ y : Aft w1, y.val = w1 := ⟨⟨w1, Below.refl _ _⟩, rfl⟩
  rw [← hx0]
  clear hx0 hw1
  go_wp2_with (fail)
  refine (aft_b (HA.out x0)).mono ?_
  rintro e _ ⟨rfl, x1, rfl⟩
  go_wp2_with (fail)
  refine (HG.out x1).mono ?_
  rintro e w3 ⟨m', rfl, hb3, j', h1, h2⟩
  obtain rfl := HONE.out m' j' h1 h2
  obtain ⟨x3, rfl⟩ : ∃ y : Aft w1, y.val = w3 := ⟨⟨w3, x1.ok.trans (hb3.mono x1.ok.size)⟩, rfl⟩
  have htb := tb_one m' x (by omega)
  clear h1 h2 hb3 HG HA HONE
  cases hmb : m'.testBit x with
  | true =>
    rw [hmb] at htb
    have HS : Hid (s = 3) := Lib.hid (by rw [HST.out, hmb]; rfl)
    clear hmb
    go_wp2
    go_ret2
    exact ⟨by rw [HS.out]; rfl, BW.out x3⟩
  | false =>
    rw [hmb] at htb HST
    have HST2 : Hid (s = if cntS x P = 0 then 0 else if cntS x P = P.length then 2 else 1) := Lib.hid HST.out
    clear hmb HST
    go_wp2_with (fail)
    refine (HPR.out x3).mono ?_
    rintro e w5 ⟨g3, c3, rfl, hr3, hc31, hc32, hg31, hg32, hb5⟩
    have HR3 := Lib.hid hr3
    have HB5 := Lib.hid (below_then (BW.out x3) (BW.out x3).size hb5)
    unfold maxLen at hc32
    clear hr3 hb5 HPR z0 z1 z0w z1w htb
    go_wp2
    go_loopw [7, 9, 24] (fun ia _ i wr => ∃ k : Nat, k ≤ P.length ∧ ia = .int .i64 (cntS x (P.take k) : Nat) ∧ i = .int .i64 (k : Int) ∧ wr = w5) (fun _ _ i _ => P.length - (RowKit.intOf i).toNat)
    case atStart => exact ⟨0, Nat.zero_le _, rfl, rfl, rfl⟩
    case round =>
      obtain ⟨k, hk, rfl, rfl, rfl⟩ := hrel
      by_cases hlt : k < P.length
      · have hget : P[k]? = some P[k] := List.getElem?_eq_getElem hlt
        have u0 := HR3.out.cell k _ (nCells_get hget)
        have hpl := HPL.out _ (List.getElem_mem hlt)
        have hao := and_one P[k] x (by omega)
        have hcl := cntS_le x (P.take k)
        have hcl2 : (P.take k).length = k := by rw [List.length_take]; omega
        have HN : Hid (cntS x (P.take (k + 1)) = if P[k].testBit x then cntS x (P.take k) + 1 else cntS x (P.take k)) := Lib.hid (by rw [List.take_succ_eq_append_getElem hlt, cntS_snoc])
        generalize P[k] = a at *
        generalize cntS x (P.take k) = D at *
        have hki : (k : Int) < (P.length : Int) := by omega
        have hk0 : (0 : Int) ≤ (k : Int) := by omega
        clear hget
        cases hat : a.testBit x with
        | true =>
          rw [hat, if_pos rfl] at hao
          have HN2 : Hid (cntS x (P.take (k + 1)) = D + 1) := Lib.hid (by rw [HN.out, hat]; rfl)
          clear hat
          go_wp2
          go_roundw
          case rel => exact ⟨k + 1, by omega, by rw [HN2.out]; go_num, by go_num, trivial⟩
          case measure => simp [RowKit.intOf]; omega
        | false =>
          rw [hat, if_neg (by simp)] at hao
          have HN2 : Hid (cntS x (P.take (k + 1)) = D) := Lib.hid (by rw [HN.out, hat]; rfl)
          clear hat
          go_wp2
          go_roundw
          case rel => exact ⟨k + 1, by omega, by rw [HN2.out], by go_num, trivial⟩
          case measure => simp [RowKit.intOf]; omega
      · have hge : ¬ (k : Int) < (P.length : Int) := by omega
        have HE : Hid (P.take k = P) := Lib.hid (List.take_of_length_le (by omega))
        rw [HE.out]
        clear hlt HE
        generalize cntS x P = D at *
        by_cases h0 : D = 0
        · have HS : Hid (s = 0) := Lib.hid (by rw [HST2.out, if_pos h0])
          subst h0
          go_wp2
          go_ret2
          exact ⟨by rw [HS.out]; rfl, HB5.out⟩
        · have h0b : ((D : Int) == 0) = false := by simp; omega
          by_cases hl : D = P.length
          · have HS : Hid (s = 2) := Lib.hid (by rw [HST2.out, if_neg h0, if_pos hl])
            have hlb : ((D : Int) == (P.length : Int)) = true := by simp [hl]
            clear h0 hl
            go_wp2
            go_ret2
            exact ⟨by rw [HS.out]; rfl, HB5.out⟩
          · have HS : Hid (s = 1) := Lib.hid (by rw [HST2.out, if_neg h0, if_neg hl])
            have hlb : ((D : Int) == (P.length : Int)) = false := by simp; omega
            clear h0 hl
            go_wp2
            go_ret2
            exact ⟨by rw [HS.out]; rfl, HB5.out⟩
end Go.Proofs.Yteljpodjjeoddaa
