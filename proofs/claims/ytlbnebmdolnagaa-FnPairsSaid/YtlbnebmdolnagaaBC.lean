/- Square rows of rows of the call's own; the pairs of a profile, walked. Rows of numbers sorted by whatever function compares them so; all sets of numbers below n, walked. -/
import Derived.Test.YtlbnebmdolnagaaBA
import Derived.StillTailTactics
namespace Go.Proofs.Ytlbnebmdolnagaa
open Go.RowKit Go.Lib

def rowN (M : Nat → Nat → Nat) (i n : Nat) : List Nat := (List.range n).map (M i)
theorem rowN_len (M : Nat → Nat → Nat) (i n : Nat) : (rowN M i n).length = n := by unfold rowN; simp
theorem rowN_get {M : Nat → Nat → Nat} {i n k : Nat} (h : k < n) : (rowN M i n)[k]? = some (M i k) := by unfold rowN; rw [List.getElem?_map, List.getElem?_range h]; rfl
def updM (M : Nat → Nat → Nat) (a b v : Nat) : Nat → Nat → Nat := fun x y => if x = a ∧ y = b then v else M x y
theorem bmp_upd (M : Nat → Nat → Nat) (a b w : Nat) : bmpM M a b w = updM M a b (M a b + w) := by
  funext x y
  unfold bmpM updM
  by_cases h : x = a ∧ y = b
  · rw [if_pos h, if_pos h, h.1, h.2]
  · rw [if_neg h, if_neg h]
/-- n rows of n numbers, each row in a block of its own. -/
structure MatR (base : Nat) (w : World) (g n : Nat) (R C : Nat → Nat) (M : Nat → Nat → Nat) : Prop where
  top : ∀ i, i < n → w.cell? ⟨g, i, none⟩ = some (.slice (some ⟨R i, 0, none⟩) n (C i)) ∧ n ≤ C i ∧ C i ≤ maxLen
  row : ∀ i, i < n → Row w (R i) (nCells (rowN M i n))
  lt : ∀ i, i < n → base ≤ R i ∧ R i < w.heap.size ∧ R i ≠ g
  inj : ∀ i j, i < n → j < n → R i = R j → i = j
  lg : base ≤ g ∧ g < w.heap.size
section
variable {base g n : Nat} {w w' : World} {R C : Nat → Nat} {M : Nat → Nat → Nat}
theorem MatR.below (h : MatR base w g n R C M) (hb : Below w.heap.size w w') : MatR base w' g n R C M :=
  ⟨fun i hi => ⟨(hb.cell (p := ⟨g, i, none⟩) h.lg.2).trans (h.top i hi).1, (h.top i hi).2⟩, fun i hi => (h.row i hi).below hb (h.lt i hi).2.1, fun i hi => ⟨(h.lt i hi).1, Nat.lt_of_lt_of_le (h.lt i hi).2.1 hb.size, (h.lt i hi).2.2⟩, h.inj, ⟨h.lg.1, Nat.lt_of_lt_of_le h.lg.2 hb.size⟩⟩
theorem MatR.get (h : MatR base w g n R C M) {i k : Nat} (hi : i < n) (hk : k < n) : w.cell? ⟨R i, k, none⟩ = some (.int .i64 (M i k : Int)) := (h.row i hi).cell k _ (nCells_get (rowN_get hk))
theorem MatR.free (h : MatR base w g n R C M) {i k : Nat} (hi : i < n) (hk : k < n) : w.frozen? ⟨R i, k, none⟩ = false := (h.row i hi).free k (by rw [nCells_len, rowN_len]; exact hk)
theorem rowN_upd (M : Nat → Nat → Nat) {a b n : Nat} (v : Nat) (hb : b < n) : nCells (rowN (updM M a b v) a n) = (nCells (rowN M a n)).set b (.int .i64 (v : Int)) := by
  refine List.ext_getElem? fun k => ?_
  rw [List.getElem?_set, nCells_len, rowN_len]
  by_cases hk : k < n
  · rw [nCells_get (rowN_get hk), nCells_get (rowN_get hk)]
    by_cases e : b = k
    · rw [if_pos e, if_pos (by omega)]
      unfold updM
      rw [if_pos ⟨rfl, e.symm⟩]
    · rw [if_neg e]
      unfold updM
      rw [if_neg (fun h => e h.2.symm)]
  · rw [List.getElem?_eq_none (by rw [nCells_len, rowN_len]; omega), if_neg (by omega), List.getElem?_eq_none (by rw [nCells_len, rowN_len]; omega)]
theorem rowN_far (M : Nat → Nat → Nat) {a i : Nat} (b v n : Nat) (h : i ≠ a) : rowN (updM M a b v) i n = rowN M i n := by
  unfold rowN
  refine List.map_congr_left fun k _ => ?_
  unfold updM
  rw [if_neg (fun e => h e.1)]
theorem MatR.set (h : MatR base w g n R C M) {a b : Nat} (ha : a < n) (hb : b < n) (v : Nat) : MatR base (w.setCell ⟨R a, b, none⟩ (.int .i64 (v : Int))) g n R C (updM M a b v) := by
  have hs : (w.setCell ⟨R a, b, none⟩ (.int .i64 (v : Int))).heap.size = w.heap.size := by simp
  refine ⟨fun i hi => ⟨?_, (h.top i hi).2⟩, fun i hi => ?_, fun i hi => by rw [hs]; exact h.lt i hi, h.inj, by rw [hs]; exact h.lg⟩
  · rw [World.cell?_setCell_far _ _ _ _ (h.lt a ha).2.2]
    exact (h.top i hi).1
  · by_cases e : i = a
    · subst e
      rw [rowN_upd M v hb]
      exact (h.row i hi).set b _ (by rw [nCells_len, rowN_len]; exact hb)
    · rw [rowN_far M b v n e]
      exact (h.row i hi).far _ (fun e2 => e (h.inj a i ha hi e2).symm)
/-- Rows that were put one after the other. -/
theorem mat_tree {te : TypeId} {cap : Nat} {T : List VRow} (h : TreeW kRow te base w g cap T) (hm : T.map (·.a) = (List.range n).map (fun i => barL (rowN M i n))) (hn : 1 ≤ n) : ∃ R C, MatR base w g n R C M := by
  have hl : T.length = n := by
    have := congrArg List.length hm
    rwa [List.length_map, List.length_map, List.length_range] at this
  have hlt := h.lt
  obtain ⟨_, cc, he, hcl, hcm, hrw⟩ := OwnL.of_own (xs := T) rCells (size := 1) (fun _ => rfl) h.row
  obtain ⟨g', hg', _, _, hr⟩ := hrw (fun e => by rw [e] at hl; simp at hl; omega)
  injection he with he1 _ _
  rw [← he1] at hg'
  injection hg' with hg'
  injection hg' with hg' _ _
  subst hg'
  have hex : ∀ i : Nat, ∃ p : Nat × Nat, ∀ hi : i < T.length, (T[i]).v = .slice (some ⟨p.1, 0, none⟩) n p.2 ∧ n ≤ p.2 ∧ p.2 ≤ maxLen ∧ base ≤ p.1 ∧ p.1 < w.heap.size ∧ Row w p.1 (nCells (rowN M i n)) := fun i => by
    by_cases hi : i < T.length
    · have ha : (T[i]).a = barL (rowN M i n) := by
        have h1 : (T.map (·.a))[i]? = ((List.range n).map (fun i => barL (rowN M i n)))[i]? := by rw [hm]
        rw [List.getElem?_map, List.getElem?_map, List.getElem?_eq_getElem hi, List.getElem?_range (by omega)] at h1
        injection h1
      obtain ⟨A, c, e1, e2, e3, e4⟩ : OwnL intCells (T[i]).a base w (T[i]).v := h.inn _ (List.getElem_mem hi)
      rw [ha, barL_len, rowN_len] at e1 e2
      rw [ha] at e4
      obtain ⟨r, e5, e6, e7, e8⟩ := e4 (fun e => by
        have := congrArg List.length e
        rw [barL_len, rowN_len] at this
        simp at this
        omega)
      refine ⟨(r, c), fun _ => ⟨by rw [e1, e5], e2, e3, e6, e7, ?_⟩⟩
      rw [cells_bar] at e8
      exact e8
    · exact ⟨(0, 0), fun h => absurd h hi⟩
  obtain ⟨f, hf⟩ := Classical.axiomOfChoice hex
  refine ⟨fun i => (f i).1, fun i => (f i).2, fun i hi => ?_, fun i hi => ?_, fun i hi => ?_, fun i j hi hj e => ?_, hlt⟩
  · obtain ⟨h1, h2, h3, _⟩ := hf i (by omega)
    have hx : T[i]? = some T[i] := List.getElem?_eq_getElem (by omega)
    have hfl : (T.flatMap rCells)[i]? = some (T[i]).v := by
      have := flat_at rCells (size := 1) (fun _ => rfl) T i T[i] 0 (T[i]).v hx rfl (by omega)
      simpa using this
    refine ⟨?_, h2, h3⟩
    rw [hr.cell i _ hfl, h1]
  · exact (hf i (by omega)).2.2.2.2.2
  · obtain ⟨h1, _, _, h4, h5, _⟩ := hf i (by omega)
    refine ⟨h4, h5, fun e => ?_⟩
    refine h.out _ (List.getElem_mem (show i < T.length by omega)) (f i).1 ?_ e
    show sBlk (T[i]).a (T[i]).v (f i).1
    have ha : (T[i]).a = barL (rowN M i n) := by
      have h1 : (T.map (·.a))[i]? = ((List.range n).map (fun i => barL (rowN M i n)))[i]? := by rw [hm]
      rw [List.getElem?_map, List.getElem?_map, List.getElem?_eq_getElem (by omega), List.getElem?_range (by omega)] at h1
      injection h1
    rw [h1, ha]
    exact ⟨fun e => by
      have := congrArg List.length e
      rw [barL_len, rowN_len] at this
      simp at this
      omega, rfl⟩
  · have hb : ∀ k (hk : k < T.length), kRow.blk T[k] (f k).1 := fun k hk => by
      obtain ⟨h1, _⟩ := hf k hk
      show sBlk (T[k]).a (T[k]).v (f k).1
      have ha : (T[k]).a = barL (rowN M k n) := by
        have h1 : (T.map (·.a))[k]? = ((List.range n).map (fun i => barL (rowN M i n)))[k]? := by rw [hm]
        rw [List.getElem?_map, List.getElem?_map, List.getElem?_eq_getElem hk, List.getElem?_range (by omega)] at h1
        injection h1
      rw [h1, ha]
      exact ⟨fun e => by
        have := congrArg List.length e
        rw [barL_len, rowN_len] at this
        simp at this
        omega, rfl⟩
    have e : (f i).1 = (f j).1 := e
    rcases Nat.lt_trichotomy i j with hlt | heq | hgt
    · have := List.pairwise_iff_getElem.1 h.two i j (by omega) (by omega) hlt (f i).1 (hb i (by omega))
      rw [e] at this
      exact absurd (hb j (by omega)) this
    · exact heq
    · have := List.pairwise_iff_getElem.1 h.two j i (by omega) (by omega) hgt (f j).1 (hb j (by omega))
      rw [← e] at this
      exact absurd (hb i (by omega)) this
end
def MatPost (n : Nat) (M : Nat → Nat → Nat) (w : World) (e : Ending) (w' : World) : Prop :=
  ∃ g cap R C, e = .returned (.slice (some ⟨g, 0, none⟩) n cap) ∧ MatR w.heap.size w' g n R C M ∧ Below w.heap.size w w'
theorem addRow_ge (a w x y : Nat) (t : List Nat) (M : Nat → Nat → Nat) : M x y ≤ addRow a w t M x y := by rw [addRow_eq]; omega
theorem addRank_ge (w x y : Nat) (t : List Nat) (M : Nat → Nat → Nat) : M x y ≤ addRank w t M x y := by rw [addRank_eq]; omega
theorem addAll_ge (x y : Nat) (t : List (List Nat × Nat)) (M : Nat → Nat → Nat) : M x y ≤ addAll t M x y := by rw [addAll_eq]; omega
theorem prs_fun (F : Pf) : addAll F.z (fun _ _ => 0) = prs F := by
  funext x y
  exact prs_eq F x y
theorem z_drop {F : Pf} {k wk : Nat} {r : List Nat} (hl : F.L[k]? = some r) (hw : F.W[k]? = some wk) : F.z.drop k = (r, wk) :: F.z.drop (k + 1) := by
  have h : F.z[k]? = some (r, wk) := by
    unfold Pf.z
    rw [List.getElem?_zip_eq_some]
    exact ⟨hl, hw⟩
  obtain ⟨h1, h2⟩ := List.getElem?_eq_some_iff.1 h
  rw [List.drop_eq_getElem_cons h1, h2]
theorem z_end (F : Pf) (k : Nat) (h : F.L.length ≤ k) : F.z.drop k = [] := List.drop_eq_nil_of_le (by unfold Pf.z; rw [List.length_zip]; omega)
theorem rowN_zero (i n : Nat) : rowN (fun _ _ => 0) i n = List.replicate n 0 := by
  unfold rowN
  refine List.ext_getElem? fun k => ?_
  rw [List.getElem?_map, List.getElem?_replicate]
  by_cases hk : k < n
  · rw [List.getElem?_range hk, if_pos hk]; rfl
  · rw [List.getElem?_eq_none (by simpa using hk), if_neg hk]; rfl
theorem zeros_own {w : World} {g base n : Nat} (h : Row w g (List.replicate n (.int .i64 0))) (hg : base ≤ g) (hl : g < w.heap.size) (hn : n ≤ maxLen) : OwnL intCells (barL (List.replicate n 0)) base w (.slice (some ⟨g, 0, none⟩) n n) := by
  refine ⟨_, n, by rw [barL_len, List.length_replicate], by rw [barL_len, List.length_replicate]; exact Nat.le_refl _, hn, fun _ => ⟨g, rfl, hg, hl, ?_⟩⟩
  rw [cells_bar]
  unfold nCells
  rw [List.map_replicate]
  exact h
theorem MatR.less {base base' g n : Nat} {w : World} {R C : Nat → Nat} {M : Nat → Nat → Nat} (h : MatR base w g n R C M) (hb : base' ≤ base) : MatR base' w g n R C M :=
  ⟨h.top, h.row, fun i hi => ⟨Nat.le_trans hb (h.lt i hi).1, (h.lt i hi).2⟩, h.inj, ⟨Nat.le_trans hb h.lg.1, h.lg.2⟩⟩
set_option maxRecDepth 100000 in
set_option maxHeartbeats 8000000 in
theorem pairs_any (F : Pf) (hF : F.Ok) (A1 : Option Addr) (c1 : Nat) (A2 : Option Addr) (c2 : Nat) (w : World) (h : PfR w w.heap.size F A1 c1 A2 c2) :
    Calls Try.prog 68 #[pfV F A1 c1 A2 c2] w (MatPost F.n (prs F) w) := by
  obtain ⟨q1, q2, q3, q4, b1, o1, b2, o2, hc⟩ := h.cells hF
  obtain ⟨rfl, rfl, hrow, hwt⟩ := hc
  have hl1 := hF.l1
  have hl12 := hF.l12
  obtain ⟨w1, hw1, hs1, hbw1, z0, z1, fr, bw⟩ := pbox_at h
  have HOP := Lib.hid (fun y => options_any F hF _ _ _ _ _ (fr y))
  have BW := Lib.hid bw
  have HF := Lib.hid hF
  have HROW := Lib.hid hrow
  have HWT := Lib.hid hwt
  have hn1 := hF.n1
  have hn6 := hF.n6
  have HWL := Lib.hid hF.wl
  obtain ⟨r0, hri, hr0, hr1, hr2⟩ := info_parts Try.infoFr
  obtain ⟨i0, hi, hz0, hz1, hz2⟩ := info_parts Try.infoI
  unfold pfV
  unfold pfV at HOP
  clear hF h fr bw hrow hwt hbw1
  go_enter Try.func68, Try.ntmps68
  go_upto_region 1 with (fail)
  rw [← hw1]
  have HZ1 := Lib.hid hs1
  obtain ⟨x0, hx0⟩ : ∃ y : Aft w1, y.val = w1 := ⟨⟨w1, Below.refl _ _⟩, rfl⟩
  rw [← hx0]
  have hg1 : w1.heap.size ≤ x0.val.heap.size := by rw [hx0]; exact Nat.le_refl _
  clear hx0 hw1 hs1
  have hown0 : (x0.val.alloc (.cells #[] 25)).ownsRow w1.heap.size 25 1 (.slice (some ⟨x0.val.heap.size, 0, none⟩) 0 0) 0 [] := by simpa using World.ownsRow_made x0.val #[] 0 hg1 (Nat.zero_le _) rfl
  have HT0 := Lib.hid (TreeW.start (base := w1.heap.size) kRow 25 hown0)
  have hbx1 : Below x0.val.heap.size x0.val (x0.val.alloc (.cells #[] 25)) := (Below.refl _ _).alloc (Nat.le_refl _) _
  have HOP1 := Lib.hid (HOP.out ⟨_, below_then x0.ok x0.ok.size hbx1⟩)
  have HX1 := Lib.hid (below_then x0.ok x0.ok.size hbx1)
  have z0x := z0 ⟨_, HX1.out⟩
  have z1x := z1 ⟨_, HX1.out⟩
  clear hown0
  go_wp2_with (fail)
  refine HOP1.out.mono ?_
  rintro e w2 ⟨rfl, hb2⟩
  have HT2 := Lib.hid (HT0.out.below hb2)
  obtain ⟨x2, rfl⟩ : ∃ y : Aft w1, y.val = w2 := ⟨⟨w2, below_then HX1.out HX1.out.size hb2⟩, rfl⟩
  clear hb2 HOP1 HT0 HX1 z0x z1x hbx1
  generalize x0.val.heap.size = gz at *
  go_wp2
  go_loopw [3, 13] (fun o i wr => ∃ (k g cap : Nat) (T : List VRow) (y : Aft w1), k ≤ F.n ∧ T.length = k ∧ i = .int .i64 (k : Int) ∧ o = .slice (some ⟨g, 0, none⟩) k cap ∧ T.map (·.a) = (List.range k).map (fun i => barL (rowN (fun _ _ => 0) i F.n)) ∧ TreeW kRow 25 w1.heap.size y.val g cap T ∧ wr = y.val) (fun _ i _ => F.n - (RowKit.intOf i).toNat)
  case atStart => exact ⟨0, gz, 0, [], x2, Nat.zero_le _, rfl, rfl, rfl, rfl, HT2.out, rfl⟩
  case round =>
    obtain ⟨k, g, cap, T, y, hk, hTk, rfl, rfl, hmap, hT, rfl⟩ := hrel
    have HMAP := Lib.hid hmap
    have HT := Lib.hid hT
    have HTK := Lib.hid hTk
    have hgw := hT.lt
    clear hmap hT
    by_cases hlt : k < F.n
    · have hki : (k : Int) < (F.n : Int) := by omega
      clear hTk
      go_wp2_with (fail)
      refine (HOP.out y).mono ?_
      rintro e w3 ⟨rfl, hb3⟩
      have hT3 := HT.out.below hb3
      obtain ⟨y3, rfl⟩ : ∃ y : Aft w1, y.val = w3 := ⟨⟨w3, below_then y.ok y.ok.size hb3⟩, rfl⟩
      obtain ⟨w4, hmk, hrow4, hgs4, hb4⟩ := make_zeros (P := Try.prog) y3.val 25 2 i0 Try.underlying25 hi hz0 hz1 hz2 F.n (by omega)
      have hy34 := y3.ok.size
      have hgy3 : g < y3.val.heap.size := hT3.lt.2
      have hT4 := hT3.below hb4
      have ho4 := zeros_own hrow4 (Nat.le_refl _) hgs4 (by unfold maxLen; omega)
      have hbA : Below w4.heap.size w4 (w4.alloc (.cells #[.slice (some ⟨y3.val.heap.size, 0, none⟩) F.n F.n] 25)) := (Below.refl _ _).alloc (Nat.le_refl _) _
      have HTA := Lib.hid (hT4.below hbA)
      have HRL := Lib.hid HTA.out.row
      rw [HTK.out] at HRL
      have HOX : Hid (OwnL intCells (barL (List.replicate F.n 0)) y3.val.heap.size (w4.alloc (.cells #[.slice (some ⟨y3.val.heap.size, 0, none⟩) F.n F.n] 25)) (.slice (some ⟨y3.val.heap.size, 0, none⟩) F.n F.n)) := Lib.hid (ho4.on hbA)
      have HHLT := Lib.hid (fun z (hz : z ∈ T) c (hc : kRow.blk z c) => (kRow.lt (hT3.inn z hz) hc).2)
      have HB4 := Lib.hid (below_then (below_then y3.ok y3.ok.size hb4) (Nat.le_trans y3.ok.size hb4.size) hbA)
      have hwwA : w1.heap.size ≤ (w4.alloc (.cells #[.slice (some ⟨y3.val.heap.size, 0, none⟩) F.n F.n] 25)).heap.size := HB4.out.size
      have hgw4 : y3.val.heap.size < w4.heap.size := hgs4
      clear hT3 hT4 ho4 hbA hrow4 hb4 hb3 hgs4
      go_wp2_with (at_builtin; refine wpList_append_own_at _ rfl _ _ 24 rfl w1.heap.size 25 r0 (.slice none 0 0) 1 24 Try.underlying24 hri hr0 hr1 hr2 rfl (by decide) _ _ _ rfl HRL.out ⟨w4.heap.size, 0, none⟩ 1 1 (rCells ⟨barL (List.replicate F.n 0), .slice (some ⟨y3.val.heap.size, 0, none⟩) F.n F.n⟩) rfl rfl (fun j u hj => new_at hj) (fun u hu => by simp [rCells] at hu; subst hu; rfl) ?c3 ?c4 hwwA ?_)
      case c3 => unfold maxLen; omega
      case c4 => omega
      intro v' w9 hown' hgrow hiff hor
      obtain ⟨g', cap', rfl, hdc', hcm'⟩ := own_some hown' (by simpa using hiff)
      have HP9 := Lib.hid (TreeW.push (x := ⟨barL (List.replicate F.n 0), .slice (some ⟨y3.val.heap.size, 0, none⟩) F.n F.n⟩) HTA.out hgrow (by rcases hor with h | h <;> injection h with h; exact .inl h; exact .inr (by simpa using h)) (by rw [HTK.out]; exact hown') (kRow.less (x := ⟨barL (List.replicate F.n 0), .slice (some ⟨y3.val.heap.size, 0, none⟩) F.n F.n⟩) HOX.out hy34) (fun b hb => by
        have q1 : y3.val.heap.size ≤ b := (OwnL.sblk HOX.out hb).1
        have q3 := HTA.out.lt
        exact ⟨fun e => by
          have q4 := HT.out.lt
          have q5 : y3.val.heap.size ≤ g := by omega
          have := hgy3
          omega, fun z hz hzb => by have q2 := HHLT.out z hz b hzb; omega⟩))
      have HB9 := Lib.hid (HB4.out.grown hgrow HB4.out.size (fun j hj => (HRL.out.lt j hj).1))
      have HM9 : Hid ((T ++ [(⟨barL (List.replicate F.n 0), .slice (some ⟨y3.val.heap.size, 0, none⟩) F.n F.n⟩ : VRow)]).map (·.a) = (List.range (k + 1)).map (fun i => barL (rowN (fun _ _ => 0) i F.n))) := Lib.hid (by
        rw [List.map_append, HMAP.out, List.range_succ, List.map_append]
        show _ ++ [barL (List.replicate F.n 0)] = _ ++ [barL (rowN _ k F.n)]
        rw [rowN_zero])
      clear hown' hgrow hiff hor
      obtain ⟨y9, rfl⟩ : ∃ y : Aft w1, y.val = w9 := ⟨⟨w9, HB9.out⟩, rfl⟩
      go_wp2
      go_roundw
      case rel => exact ⟨k + 1, g', cap', _, y9, by omega, by rw [List.length_append, HTK.out]; rfl, by go_num, rfl, HM9.out, HP9.out, rfl⟩
      case measure => simp [RowKit.intOf]; omega
    · have hge : ¬ (k : Int) < (F.n : Int) := by omega
      obtain rfl : k = F.n := by omega
      obtain ⟨R, C, hmat⟩ := mat_tree HT.out HMAP.out hn1
      have HMAT := Lib.hid hmat
      clear hmat hTk HTK HMAP HT hlt
      go_wp2
      go_loopw [4, 5, 6, 7, 9, 25] (fun _ _ _ _ _ kk wr => ∃ (k : Nat) (M : Nat → Nat → Nat) (y : Aft w1), k ≤ F.L.length ∧ kk = .int .i64 (k : Int) ∧ MatR w1.heap.size y.val g F.n R C M ∧ addAll (F.z.drop k) M = prs F ∧ wr = y.val) (fun _ _ _ _ _ kk _ => F.L.length - (RowKit.intOf kk).toNat)
      case atStart => exact ⟨0, _, y, Nat.zero_le _, rfl, HMAT.out, prs_fun F, rfl⟩
      case round =>
        obtain ⟨k, M, y, hk, rfl, hM, heq, rfl⟩ := hrel
        clear HMAT
        by_cases hlt : k < F.L.length
        · have hget : F.L[k]? = some F.L[k] := List.getElem?_eq_getElem hlt
          have hkw : k < F.W.length := by rw [HWL.out]; exact hlt
          obtain ⟨b3, o3, c3, v0, hc3, hm3, _, hlc⟩ := HROW.out k _ hget
          have v0 := fun y : Aft w1 => v0 y.val (BW.out y)
          have hwkg : F.W[k]? = some F.W[k] := List.getElem?_eq_getElem hkw
          have HWK := Lib.hid (HWT.out k _ hwkg)
          rw [z_drop hget hwkg, addAll] at heq
          have hperm := HF.out.perm _ (List.getElem_mem hlt)
          have hln : F.L[k].length = F.n := by rw [hperm.length_eq, List.length_range]
          have HLN : Hid (∀ x ∈ F.L[k], x < F.n) := Lib.hid (fun x hx => List.mem_range.1 (hperm.mem_iff.1 hx))
          have HLC := Lib.hid hlc
          have hki : (k : Int) < (F.L.length : Int) := by omega
          have hk0 : (0 : Int) ≤ (k : Int) := by omega
          generalize F.L[k] = l at *
          generalize F.W[k] = wk at *
          have HM := Lib.hid hM
          have HEQ := Lib.hid heq
          clear hget hwkg hperm hlc hM heq hkw
          go_wp2
          go_loopw [6, 7, 9, 32] (fun _ _ _ ii wr => ∃ (i : Nat) (M : Nat → Nat → Nat) (y : Aft w1), i ≤ F.n ∧ ii = .int .i64 (i : Int) ∧ MatR w1.heap.size y.val g F.n R C M ∧ addAll (F.z.drop (k + 1)) (addRank wk (l.drop i) M) = prs F ∧ wr = y.val) (fun _ _ _ ii _ => F.n - (RowKit.intOf ii).toNat)
          case atStart => exact ⟨0, M, y, Nat.zero_le _, rfl, HM.out, HEQ.out, rfl⟩
          case round =>
            obtain ⟨i, M, y, hi9, rfl, hM, heq, rfl⟩ := hrel
            clear HM HEQ
            by_cases hlti : i < F.n
            · have hget : l[i]? = some (l[i]'(by omega)) := List.getElem?_eq_getElem (by omega)
              have ha : (l[i]'(by omega)) < F.n := HLN.out _ (List.getElem_mem _)
              have hdrop : l.drop i = (l[i]'(by omega)) :: l.drop (i + 1) := List.drop_eq_getElem_cons (by omega)
              have u0 := fun y : Aft w1 => HLC.out i _ hget y.val (BW.out y)
              generalize (l[i]'(by omega)) = a at *
              rw [hdrop, addRank] at heq
              obtain ⟨i1, hi1⟩ : ∃ i1, i1 = i + 1 := ⟨_, rfl⟩
              rw [← hi1] at heq
              have HI1 := Lib.hid hi1
              have hi1w : IntKind.i64.wrap ((i : Int) + 1) = (i1 : Int) := by rw [IntKind.wrap_i64]; omega
              have hi1e : (i : Int) + 1 = (i1 : Int) := by omega
              have hii : (i : Int) < (F.n : Int) := by omega
              have hi0 : (0 : Int) ≤ (i : Int) := by omega
              have hi1n : (i1 : Int) ≤ (F.n : Int) := by omega
              have hi1c : (i1 : Int) ≤ (c3 : Int) := by omega
              have hi10 : (0 : Int) ≤ (i1 : Int) := by omega
              have hnc : (F.n : Int) ≤ (c3 : Int) := by omega
              have HM := Lib.hid hM
              have HEQ : Hid (addAll (F.z.drop (k + 1)) (addRank wk (l.drop i1) (addRow a wk (l.drop (i1 + 0)) M)) = prs F) := Lib.hid heq
              have u0y := u0 y
              clear hget hdrop hM heq hi1 u0
              by_cases hlast : i1 < F.n
              · have hcc : i1 < c3 := by omega
                have hce : ¬ c3 = i1 := by omega
                go_wp2
                go_loopw [9, 42] (fun _ jj wr => ∃ (j : Nat) (M : Nat → Nat → Nat) (y : Aft w1), j ≤ F.n - i1 ∧ jj = .int .i64 (j : Int) ∧ MatR w1.heap.size y.val g F.n R C M ∧ addAll (F.z.drop (k + 1)) (addRank wk (l.drop i1) (addRow a wk (l.drop (i1 + j)) M)) = prs F ∧ wr = y.val) (fun _ jj _ => (F.n - i1) - (RowKit.intOf jj).toNat)
                case atStart => exact ⟨0, M, y, Nat.zero_le _, rfl, HM.out, HEQ.out, rfl⟩
                case round =>
                  obtain ⟨j, M, y, hj, rfl, hM, heq, rfl⟩ := hrel
                  by_cases hltj : j < F.n - i1
                  · have hget : l[i1 + j]? = some (l[i1 + j]'(by omega)) := List.getElem?_eq_getElem (by omega)
                    have hbn : (l[i1 + j]'(by omega)) < F.n := HLN.out _ (List.getElem_mem _)
                    have hdrop : l.drop (i1 + j) = (l[i1 + j]'(by omega)) :: l.drop (i1 + (j + 1)) := List.drop_eq_getElem_cons (by omega)
                    have u1 := fun y : Aft w1 => HLC.out (i1 + j) _ hget y.val (BW.out y)
                    generalize (l[i1 + j]'(by omega)) = b at *
                    rw [hdrop, addRow, bmp_upd] at heq
                    have hle : M a b + wk ≤ 12000 := by
                      have h1 := addRow_ge a wk a b (l.drop (i1 + (j + 1))) (updM M a b (M a b + wk))
                      have h2 := addRank_ge wk a b (l.drop i1) (addRow a wk (l.drop (i1 + (j + 1))) (updM M a b (M a b + wk)))
                      have h3 := addAll_ge a b (F.z.drop (k + 1)) (addRank wk (l.drop i1) (addRow a wk (l.drop (i1 + (j + 1))) (updM M a b (M a b + wk))))
                      rw [heq] at h3
                      have h4 := prs_le HF.out a b
                      have h5 : updM M a b (M a b + wk) a b = M a b + wk := by unfold updM; rw [if_pos ⟨rfl, rfl⟩]
                      omega
                    have bd : Below y.val.heap.size y.val y.val.drew := (Below.refl _ _).drew
                    have hMd := hM.below bd
                    have HS := Lib.hid (hMd.set ha hbn (M a b + wk))
                    have HEQ2 := Lib.hid heq
                    have x0c := (hM.top a ha).1
                    have x0d := (hMd.top a ha).1
                    have hC1 := (hM.top a ha).2.1
                    have x1c := hM.get ha hbn
                    have x1d := hMd.get ha hbn
                    have f1d := hMd.free ha hbn
                    have zy1 := z1 y
                    have zd1 : y.val.drew.cell? ⟨w.heap.size, 1, none⟩ = some (.slice (some ⟨b2, o2, none⟩) F.L.length c2) := z1 ⟨y.val.drew, below_then y.ok y.ok.size bd⟩
                    have uw := HWK.out y.val (BW.out y)
                    have uwd : y.val.drew.cell? ⟨b2, o2 + k, none⟩ = some (.int .i64 (wk : Int)) := HWK.out y.val.drew (BW.out ⟨y.val.drew, below_then y.ok y.ok.size bd⟩)
                    have u1y := u1 y
                    have hRa := (hMd.lt a ha).1
                    have HOK : Hid (∀ v, Below w1.heap.size w1 (y.val.drew.setCell ⟨R a, b, none⟩ v)) := Lib.hid (fun v => (below_then y.ok y.ok.size bd).setCell hRa v)
                    have hai : (a : Int) < (F.n : Int) := by omega
                    have ha0 : (0 : Int) ≤ (a : Int) := by omega
                    have hbi : (b : Int) < (F.n : Int) := by omega
                    have hb0 : (0 : Int) ≤ (b : Int) := by omega
                    have hji : (j : Int) < ((F.n - i1 : Nat) : Int) := by omega
                    have hj0 : (0 : Int) ≤ (j : Int) := by omega
                    have hwr : IntKind.i64.wrap ((M a b : Int) + (wk : Int)) = ((M a b + wk : Nat) : Int) := by rw [IntKind.wrap_i64]; omega
                    generalize hv : M a b + wk = v at *
                    generalize M a b = m at *
                    clear hM hMd heq hdrop hget u1 bd hRa hv
                    simp only [← Nat.add_assoc] at u1y
                    go_upto_region 15 with (fail)
                    go_still_tail 14, (by kernel_rfl)
                    repeat still_step
                    change wpList _ _ _ _ _ y.val.drew
                    clear x0c x1c zy1 uw u1y
                    generalize y.val.drew = W2 at *
                    go_wp2
                    go_roundw
                    case rel => exact ⟨j + 1, _, ⟨_, HOK.out _⟩, by omega, by go_num, HS.out, HEQ2.out, rfl⟩
                    case measure => simp [RowKit.intOf]; omega
                  · have hge : ¬ (j : Int) < ((F.n - i1 : Nat) : Int) := by omega
                    have HEND : Hid (addRow a wk (l.drop (i1 + j)) M = M) := Lib.hid (by rw [List.drop_eq_nil_of_le (by omega)]; rfl)
                    rw [HEND.out] at heq
                    have HM9 := Lib.hid hM
                    have HEQ9 := Lib.hid heq
                    clear hM heq HEND
                    go_wp2
                    go_roundw
                    case rel => exact ⟨i + 1, M, y, by omega, by go_num, HM9.out, by rw [← HI1.out]; exact HEQ9.out, rfl⟩
                    case measure => simp [RowKit.intOf]; omega
              · by_cases hcc : i1 = c3
                · subst hcc
                  go_wp2
                  go_loopw [9, 42] (fun _ jj wr => jj = .int .i64 0 ∧ wr = y.val) (fun _ _ _ => 0)
                  case atStart => exact ⟨rfl, rfl⟩
                  case round =>
                    obtain ⟨rfl, rfl⟩ := hrel
                    have HEND : Hid (addRow a wk (l.drop (i1 + 0)) M = M) := Lib.hid (by rw [List.drop_eq_nil_of_le (by omega)]; rfl)
                    have HM9 := HM
                    have HEQ9 : Hid (addAll (F.z.drop (k + 1)) (addRank wk (l.drop i1) M) = prs F) := Lib.hid (by have := HEQ.out; rwa [HEND.out] at this)
                    clear HEND HM HEQ
                    go_wp2
                    go_roundw
                    case rel => exact ⟨i + 1, M, y, by omega, by go_num, HM9.out, by rw [← HI1.out]; exact HEQ9.out, rfl⟩
                    case measure => simp [RowKit.intOf]; omega
                · have hcl : i1 < c3 := by omega
                  go_wp2
                  go_loopw [9, 42] (fun _ jj wr => jj = .int .i64 0 ∧ wr = y.val) (fun _ _ _ => 0)
                  case atStart => exact ⟨rfl, rfl⟩
                  case round =>
                    obtain ⟨rfl, rfl⟩ := hrel
                    have HEND : Hid (addRow a wk (l.drop (i1 + 0)) M = M) := Lib.hid (by rw [List.drop_eq_nil_of_le (by omega)]; rfl)
                    have HM9 := HM
                    have HEQ9 : Hid (addAll (F.z.drop (k + 1)) (addRank wk (l.drop i1) M) = prs F) := Lib.hid (by have := HEQ.out; rwa [HEND.out] at this)
                    clear HEND HM HEQ
                    go_wp2
                    go_roundw
                    case rel => exact ⟨i + 1, M, y, by omega, by go_num, HM9.out, by rw [← HI1.out]; exact HEQ9.out, rfl⟩
                    case measure => simp [RowKit.intOf]; omega
            · have hge : ¬ (i : Int) < (F.n : Int) := by omega
              have hee : l.drop i = [] := List.drop_eq_nil_of_le (by omega)
              rw [hee] at heq
              have HEQ9 := Lib.hid heq
              have HM9 := Lib.hid hM
              clear hM heq hee
              go_wp2
              go_roundw
              case rel => exact ⟨k + 1, M, y, by omega, by go_num, HM9.out, HEQ9.out, rfl⟩
              case measure => simp [RowKit.intOf]; omega
        · have hge : ¬ (k : Int) < (F.L.length : Int) := by omega
          rw [z_end F k (by omega)] at heq
          have heq : M = prs F := heq
          subst heq
          have HM9 := Lib.hid hM
          clear hM
          go_wp2
          go_ret
          exact ⟨g, cap, R, C, rfl, HM9.out.less (by have := HZ1.out; omega), BW.out y⟩
end Go.Proofs.Ytlbnebmdolnagaa

namespace Go.Proofs.Ytlbnebmdolnagaa
open Go.RowKit Go.Lib

def SortPostS (qs : List (List Nat)) (g n c : Nat) (w : World) (e : Ending) (w' : World) : Prop :=
  e = .returned (.tuple #[]) ∧ Touch (fun b => b = g) w w' ∧ ∃ qs' : List (List Nat), qs'.Perm qs ∧ qs'.Pairwise (fun a b => ¬ cmpN b a < 0) ∧ RowsR w' w'.heap.size (.slice (some ⟨g, 0, none⟩) n c) (qs'.map barL)
set_option maxHeartbeats 2000000 in
theorem sortF_any (fn : Nat) (hent : ∀ args w, (callFunc fn args).run Try.prog w = .ok (.enter fn args) w) (hcf : ∀ (p q : List Nat) (v1 v2 : Value) (w : World), Ints w w.heap.size v1 (barL p) → Ints w w.heap.size v2 (barL q) → Calls Try.prog fn #[v1, v2] w (RetQ (.int .i64 (cmpN p q)) w)) (T : List VRow) (qs : List (List Nat)) (hq : T.map (·.a) = qs.map barL) (base g c : Nat) (w : World) (hT : TreeW kRow 25 base w g c T) (hn : T.length < 4611686018427387904) :
    Calls Try.prog 118 #[.slice (some ⟨g, 0, none⟩) T.length c, .func (.func fn) #[] #[]] w (SortPostS qs g T.length c w) := by
  have hlen : T.length = qs.length := by
    have := congrArg List.length hq
    rwa [List.length_map, List.length_map] at this
  have hgw := hT.lt
  have hA : ∀ i : Nat, (rowT T i).a = barL (qs.getD i []) := fun i => by
    unfold rowT
    by_cases hi : i < T.length
    · have h1 : (T.map (·.a))[i]? = (qs.map barL)[i]? := by rw [hq]
      rw [List.getElem?_map, List.getElem?_map, List.getElem?_eq_getElem hi, List.getElem?_eq_getElem (by omega : i < qs.length)] at h1
      injection h1 with h1
      have h1 : (T[i]).a = barL qs[i] := h1
      have hg : T.getD i ⟨[], .slice none 0 0⟩ = T[i] := by simp [List.getD_eq_getElem?_getD, hi]
      rw [hg, h1]
      simp [List.getD_eq_getElem?_getD, (by omega : i < qs.length)]
    · have hg : T.getD i ⟨[], .slice none 0 0⟩ = ⟨[], .slice none 0 0⟩ := by simp [List.getD_eq_getElem?_getD, List.getElem?_eq_none (by omega : T.length ≤ i)]
      have hg2 : qs.getD i [] = [] := by simp [List.getD_eq_getElem?_getD, List.getElem?_eq_none (by omega : qs.length ≤ i)]
      rw [hg, hg2]
      rfl
  have hI : ∀ (i : Nat) (W : World), Touch (fun b => b = g) w W → Ints W W.heap.size (encT T i) (barL (qs.getD i [])) := fun i W hW => by
    rw [← hA i]
    unfold encT
    by_cases hi : i < T.length
    · have hg : rowT T i = T[i] := by unfold rowT; simp [List.getD_eq_getElem?_getD, hi]
      have hm := List.getElem_mem hi
      have hin := kRow.touch (hT.inn _ hm) hW (fun b hb e => hT.out _ hm b hb e)
      rw [hg]
      exact OwnL.slR (size := 1) (fun _ => rfl) (show OwnL intCells _ base W _ from hin)
    · have hg : rowT T i = ⟨[], .slice none 0 0⟩ := by unfold rowT; simp [List.getD_eq_getElem?_getD, List.getElem?_eq_none (by omega : T.length ≤ i)]
      rw [hg]
      exact ⟨none, 0, rfl, Nat.le_refl _, by unfold maxLen; decide, fun h => absurd h (by show ¬ 0 < 0; omega)⟩
  obtain ⟨_, cc, he, hcl, hcm, hrw⟩ := OwnL.of_own (xs := T) rCells (size := 1) (fun _ => rfl) hT.row
  injection he with he1 _ he3
  subst he3
  have hone : Go.Proofs.OneCell (encT T) := fun i => by
    obtain ⟨A, c', e, _⟩ := (hI i w (Touch.refl _ _)).sl
    rw [e]
    rfl
  obtain ⟨d, hd⟩ : ∃ d : Array Nat, d = Array.range T.length := ⟨_, rfl⟩
  have hds : d.size = T.length := by rw [hd, Array.size_range]
  have hdj : ∀ j, j < T.length → d[j]! = j := fun j hj => by
    rw [hd, getElem!_pos _ _ (by rw [Array.size_range]; exact hj), Array.getElem_range]
  have hH : Go.Sort.Holds (encT T) w g 0 d := fun j hj => by
    rw [hds] at hj
    obtain ⟨g', hg', _, _, hr⟩ := hrw (fun e => by rw [e] at hj; exact absurd hj (by show ¬ j < 0; omega))
    rw [← he1] at hg'
    injection hg' with hg'
    injection hg' with hg' _ _
    subst hg'
    have hx : T[j]? = some T[j] := List.getElem?_eq_getElem hj
    have hfl : (T.flatMap rCells)[j]? = some (T[j]).v := by
      have := flat_at rCells (size := 1) (fun _ => rfl) T j T[j] 0 (T[j]).v hx rfl (by omega)
      simpa using this
    refine ⟨?_, ?_⟩
    · rw [Nat.zero_add, hdj j hj]
      have hg : encT T j = (T[j]).v := by unfold encT rowT; simp [List.getD_eq_getElem?_getD, hj]
      rw [hg]
      exact hr.cell j _ hfl
    · rw [Nat.zero_add]
      exact hr.free j (List.getElem?_eq_some_iff.1 hfl).1
  have hcmp : CmpReads Try.prog fn #[] (encT T) (cfT qs) g 0 d.size w := fun m os dk hs x y => by
    have := hcf (qs.getD x []) (qs.getD y []) (encT T x) (encT T y) (sortWorld (encT T) w g 0 m dk os) (hI x _ (sort_touch _ _ _ _ _ _)) (hI y _ (sort_touch _ _ _ _ _ _))
    rw [show (#[encT T x, encT T y] ++ (#[] : Array Value)) = #[encT T x, encT T y] by simp]
    exact this
  have hcon := Any.slices_SortFunc Try.sortRows (encT T) hone (cfT qs) (cfT_swo qs) fn #[] g 0 c d w hent hcmp.lays hH hgw.2 (by rw [hds]; exact hn)
  rw [hds] at hcon
  refine Calls.mono hcon ?_
  rintro e w' ⟨rfl, d', n, os, hp, hsd, rfl⟩
  obtain ⟨hp1, _, hp3⟩ := hp
  have ht := sort_touch (encT T) w g n d' os
  have SWw : Go.Proofs.SW (encT T) w g 0 d' (sortWorld (encT T) w g 0 n d' os) := ⟨n, os, rfl⟩
  have R1 : Go.Proofs.Row1 (encT T) w g 0 d := ⟨hone, hH, hgw.2⟩
  refine ⟨rfl, ht, d'.toList.map (fun i => qs.getD i []), ?_, ?_, d'.toList.map (rowT T), ?_, ?_, ?_⟩
  · have hpr : d'.toList.Perm (List.range T.length) := by
      rw [← hds] at hp3
      have e1 : d'.extract 0 d.size = d' := by rw [← hp1]; exact Array.extract_size
      have e2 : d.extract 0 d.size = d := Array.extract_size
      rw [e1, e2] at hp3
      rw [hd] at hp3
      simpa using hp3
    have := hpr.map (fun i => qs.getD i [])
    rw [hlen, map_getD_range qs [] (fun q => q)] at this
    simpa using this
  · rw [List.pairwise_map, List.pairwise_iff_getElem]
    intro i j hi hj hij
    rw [Array.length_toList] at hi hj
    have h1 := hsd i j (Nat.zero_le _) hij (by rw [hp1, hds] at hj; rw [hds] at *; omega)
    rw [getElem!_pos d' i (by omega), getElem!_pos d' j (by omega)] at h1
    unfold ltOf cfT at h1
    rw [decide_eq_false_iff_not] at h1
    rw [Array.getElem_toList, Array.getElem_toList]
    exact h1
  · rw [List.map_map, List.map_map]
    exact List.map_congr_left (fun i _ => hA i)
  · have hl' : (d'.toList.map (rowT T)).length = T.length := by rw [List.length_map, Array.length_toList, hp1, hds]
    rw [← hl']
    refine SlR.of_row rCells (size := 1) (fun _ => rfl) ⟨fun j u hj => ?_, fun j hj => ?_⟩ (Nat.lt_of_lt_of_le hgw.2 ht.size) (by rw [hl']; exact hcl) hcm
    · have hjl : j < (d'.toList.map (rowT T)).length := by
        have := (List.getElem?_eq_some_iff.1 hj).1
        rw [flat_len rCells (k := 1) (fun _ => rfl)] at this
        omega
      have hjd : j < d'.size := by rw [List.length_map, Array.length_toList] at hjl; exact hjl
      have hx : (d'.toList.map (rowT T))[j]? = some (rowT T d'[j]!) := by
        rw [List.getElem?_map, Array.getElem?_toList, Array.getElem?_eq_getElem hjd, getElem!_pos d' j hjd]
        rfl
      have h1 := flat_at rCells (size := 1) (fun _ => rfl) _ j _ 0 (rowT T d'[j]!).v hx rfl (by omega)
      rw [Nat.mul_one, Nat.add_zero, hj] at h1
      injection h1 with h1
      subst h1
      have := SWw.c1 R1 hp1 j hjd
      rwa [Nat.zero_add] at this
    · rw [flat_len rCells (k := 1) (fun _ => rfl), Nat.mul_one] at hj
      have hjd : j < d'.size := by rw [List.length_map, Array.length_toList] at hj; exact hj
      have := SWw.f1 R1 hp1 j hjd
      rwa [Nat.zero_add] at this
  · intro x hx
    obtain ⟨i, _, rfl⟩ := List.mem_map.1 hx
    rw [hA i]
    exact hI i _ ht

set_option maxHeartbeats 1000000 in
theorem srtA_any (p q : List Nat) (v1 v2 : Value) (w : World) (h1 : Ints w w.heap.size v1 (barL p)) (h2 : Ints w w.heap.size v2 (barL q)) : Calls Try.prog 138 #[v1, v2] w (RetQ (.int .i64 (cmpN p q)) w) := by
  have H := Lib.hid (cmp64q_any p q v1 v2 w h1 h2)
  obtain ⟨A1, c1, rfl, _, m1⟩ := h1.sl
  obtain ⟨A2, c2, rfl, _, m2⟩ := h2.sl
  clear h1 h2
  generalize cmpN p q = r at *
  go_enter Try.func138, Try.ntmps138
  go_wp2_with (fail)
  refine H.out.mono ?_
  rintro e _ ⟨rfl, d, rfl⟩
  go_wp2
  go_ret
  exact ⟨rfl, d, rfl⟩
theorem enters_srtA : ∀ args w, (callFunc 138 args).run Try.prog w = .ok (.enter 138 args) w := enters_of Try.func138 (by kernel_rfl) rfl
def maskL (n : Nat) : List Nat := (List.range (2 ^ n - 1)).map (· + 1)
theorem maskL_len (n : Nat) : (maskL n).length = 2 ^ n - 1 := by unfold maskL; simp
theorem shl_one (n : Nat) (h : n ≤ 7) : wrap64 (1 * 2 ^ n) = ((2 ^ n : Nat) : Int) := by
  rw [Int.one_mul]
  exact wrap_two n (by omega)
def AllPost (n : Nat) (w : World) (e : Ending) (w' : World) : Prop :=
  ∃ (qs : List (List Nat)) (g c : Nat), e = .returned (.slice (some ⟨g, 0, none⟩) qs.length c) ∧ qs.Perm ((maskL n).map setL) ∧ qs.Pairwise (fun a b => ¬ cmpN b a < 0) ∧ RowsR w' w'.heap.size (.slice (some ⟨g, 0, none⟩) qs.length c) (qs.map barL) ∧ Below w.heap.size w w'
set_option maxRecDepth 100000 in
set_option maxHeartbeats 8000000 in
theorem allSets_any (n : Nat) (hn : n ≤ 7) (w : World) : Calls Try.prog 99 #[.int .i64 (n : Int)] w (AllPost n w) := by
  obtain ⟨r0, hri, hr0, hr1, hr2⟩ := info_parts Try.infoFr
  have hown0 : (w.alloc (.cells #[] 25)).ownsRow w.heap.size 25 1 (.slice (some ⟨w.heap.size, 0, none⟩) 0 0) 0 [] := by simpa using World.ownsRow_made w #[] 0 (Nat.le_refl _) (Nat.zero_le _) rfl
  have HT0 := Lib.hid (TreeW.start (base := w.heap.size) kRow 25 hown0)
  have HB0 : Hid (Below w.heap.size w (w.alloc (.cells #[] 25))) := Lib.hid ((Below.refl _ _).alloc (Nat.le_refl _) _)
  have HSO := Lib.hid (fun (m : Nat) (hm : m < 1024) (W : World) => setOf_any m hm W)
  have h128 : 2 ^ n ≤ 128 := Nat.pow_le_pow_right (n := 2) (by omega) hn
  have h1p : 1 ≤ 2 ^ n := Nat.one_le_two_pow
  have hsh := shl_one n hn
  have hsw := wrap_two n (by omega)
  have hn0 : (0 : Int) ≤ (n : Int) := by omega
  have HML : Hid (∀ k, k < 2 ^ n - 1 → (maskL n).take (k + 1) = (maskL n).take k ++ [k + 1]) := Lib.hid (fun k hk => by
    have hl : k < (maskL n).length := by rw [maskL_len]; exact hk
    rw [List.take_succ_eq_append_getElem hl]
    have e : (maskL n)[k]'hl = k + 1 := by simp [maskL]
    rw [e])
  have HLL := Lib.hid (maskL_len n)
  obtain ⟨P, hP⟩ : ∃ P, P = 2 ^ n := ⟨_, rfl⟩
  rw [← hP] at h128 h1p hsh hsw HML HLL
  unfold SetPost at HSO
  clear hown0 hP
  go_enter Try.func99, Try.ntmps99
  go_wp2
  go_loopw [3, 4] (fun o i wr => ∃ (k g cap : Nat) (T : List VRow), k ≤ P - 1 ∧ T.length = k ∧ i = .int .i64 ((k + 1 : Nat) : Int) ∧ o = .slice (some ⟨g, 0, none⟩) k cap ∧ T.map (·.a) = (((maskL n).take k).map setL).map barL ∧ TreeW kRow 25 w.heap.size wr g cap T ∧ Below w.heap.size w wr) (fun _ i _ => P - (RowKit.intOf i).toNat)
  case atStart => exact ⟨0, w.heap.size, 0, [], Nat.zero_le _, rfl, rfl, rfl, rfl, HT0.out, HB0.out⟩
  case round =>
    obtain ⟨k, g, cap, T, hk, hTk, rfl, rfl, hmap, hT, hb⟩ := hrel
    have HMAP := Lib.hid hmap
    have HT := Lib.hid hT
    have HB := Lib.hid hb
    have HTK := Lib.hid hTk
    obtain ⟨m, hm⟩ : ∃ m, m = k + 1 := ⟨_, rfl⟩
    rw [← hm]
    have HMK := Lib.hid hm
    clear hmap hT hm
    by_cases hlt : k < P - 1
    · have HMS := Lib.hid (HML.out k hlt)
      rw [← HMK.out] at HMS
      have hm8 : m < 1024 := by have := HMK.out; omega
      have hmi : (m : Int) < (P : Int) := by have := HMK.out; omega
      clear hTk
      go_wp2_with (fail)
      refine (HSO.out m hm8 wr).mono ?_
      rintro e w2 ⟨g2, c2, rfl, hn2, hb2⟩
      have hq := hn2.own
      rw [barL_len] at hq
      have HT2 := HT.out.below hb2
      have hwr := hb.size
      have hb2s := hb2.size
      have hbA : Below w2.heap.size w2 (w2.alloc (.cells #[.slice (some ⟨g2, 0, none⟩) (setL m).length c2] 25)) := (Below.refl _ _).alloc (Nat.le_refl _) _
      have HTA := Lib.hid (HT2.below hbA)
      have HRL := Lib.hid HTA.out.row
      rw [HTK.out] at HRL
      have HOX : Hid (OwnL intCells (barL (setL m)) wr.heap.size (w2.alloc (.cells #[.slice (some ⟨g2, 0, none⟩) (setL m).length c2] 25)) (.slice (some ⟨g2, 0, none⟩) (setL m).length c2)) := Lib.hid (hq.on hbA)
      have HHLT := Lib.hid (fun z (hz : z ∈ T) c (hc : kRow.blk z c) => (kRow.lt (HT.out.inn z hz) hc).2)
      have hgw := HT.out.lt
      have hb3 : Below w.heap.size w (w2.alloc (.cells #[.slice (some ⟨g2, 0, none⟩) (setL m).length c2] 25)) := (hb.trans (hb2.mono hwr)).trans (hbA.mono (Nat.le_trans hwr hb2s))
      have HB3 := Lib.hid hb3
      have hww2 := hb3.size
      have hwr2 : w.heap.size ≤ wr.heap.size := hwr
      clear hn2 hb2 hq HT2 hbA hb3 hb
      go_wp2_with (at_builtin; refine wpList_append_own_at _ rfl _ _ 24 rfl w.heap.size 25 r0 (.slice none 0 0) 1 24 Try.underlying24 hri hr0 hr1 hr2 rfl (by decide) _ _ _ rfl HRL.out ⟨w2.heap.size, 0, none⟩ 1 1 (rCells ⟨barL (setL m), .slice (some ⟨g2, 0, none⟩) (setL m).length c2⟩) rfl rfl (fun j u hj => new_at hj) (fun u hu => by simp [rCells] at hu; subst hu; rfl) ?c3 ?c4 hww2 ?_)
      case c3 => unfold maxLen; omega
      case c4 => omega
      intro v' w9 hown' hgrow hiff hor
      obtain ⟨g', cap', rfl, hdc', hcm'⟩ := own_some hown' (by simpa using hiff)
      have HP9 := Lib.hid (TreeW.push (x := ⟨barL (setL m), .slice (some ⟨g2, 0, none⟩) (setL m).length c2⟩) HTA.out hgrow (by rcases hor with h | h <;> injection h with h; exact .inl h; exact .inr (by simpa using h)) (by rw [HTK.out]; exact hown') (kRow.less (x := ⟨barL (setL m), .slice (some ⟨g2, 0, none⟩) (setL m).length c2⟩) HOX.out hwr2) (fun b hb => by
        have q1 : wr.heap.size ≤ b := (OwnL.sblk HOX.out hb).1
        exact ⟨by omega, fun z hz hzb => by have q2 := HHLT.out z hz b hzb; omega⟩))
      have HB9 := Lib.hid (HB3.out.grown hgrow HB3.out.size (fun j hj => (HRL.out.lt j hj).1))
      have HM9 : Hid ((T ++ [(⟨barL (setL m), .slice (some ⟨g2, 0, none⟩) (setL m).length c2⟩ : VRow)]).map (·.a) = (((maskL n).take (k + 1)).map setL).map barL) := Lib.hid (by
        rw [List.map_append, HMAP.out, ← HMK.out, HMS.out, List.map_append, List.map_append]
        rfl)
      clear hown' hgrow hiff hor
      go_wp2
      go_roundw
      case rel => exact ⟨k + 1, g', cap', _, by omega, by rw [List.length_append, HTK.out]; rfl, by rw [← HMK.out]; go_num, rfl, HM9.out, HP9.out, HB9.out⟩
      case measure => have := HMK.out; simp [RowKit.intOf]; omega
    · have hge : ¬ (m : Int) < (P : Int) := by have := HMK.out; omega
      have hcs := sortF_any 138 enters_srtA srtA_any T ((maskL n).map setL) (by rw [HMAP.out, List.take_of_length_le (by rw [HLL.out]; omega)]) w.heap.size g cap wr HT.out (by omega)
      rw [HTK.out] at hcs
      have HCS := Lib.hid hcs
      have HLQ : Hid (∀ qs : List (List Nat), qs.Perm ((maskL n).map setL) → qs.length = k) := Lib.hid (fun qs hq => by
        have := hq.length_eq
        rw [List.length_map, HLL.out] at this
        omega)
      have hgw := HT.out.lt
      unfold SortPostS at HCS
      clear hcs hTk hlt
      go_wp2_with (fail)
      refine HCS.out.mono ?_
      rintro e w2 ⟨rfl, ht, qs, hperm, hsrt, hrows⟩
      have hlq := HLQ.out qs hperm
      have HPM := Lib.hid hperm
      have HSR := Lib.hid hsrt
      rw [← hlq] at hrows
      have HRW := Lib.hid hrows
      have HBE := Lib.hid (hb.trans (ht.below hb.size (fun b h => by omega)))
      have HLQ2 := Lib.hid hlq
      clear hperm hsrt hrows ht hlq hb
      go_wp2
      go_ret
      exact ⟨qs, g, cap, by rw [HLQ2.out]; rfl, HPM.out, HSR.out.imp (fun h => by omega), HRW.out, HBE.out⟩
end Go.Proofs.Ytlbnebmdolnagaa
