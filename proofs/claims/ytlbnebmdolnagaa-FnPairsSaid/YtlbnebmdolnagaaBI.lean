/- A profile drawn, walked. A profile of a law's input, walked. What the laws on rankings ask of lists, and FnDropped, walked. -/
import Derived.Test.YtlbnebmdolnagaaBG
namespace Go.Proofs.Ytlbnebmdolnagaa
open Go.RowKit Go.Lib

theorem swap_perm {l : List Nat} {i j : Nat} (hi : i < l.length) (hj : j < l.length) : ((l.set i l[j]).set j l[i]).Perm l := by
  rw [List.perm_iff_count]
  intro a
  have hj' : j < (l.set i l[j]).length := by rw [List.length_set]; exact hj
  rw [List.count_set hj', List.count_set hi]
  have e : (l.set i l[j])[j] = l[j] := by
    rw [List.getElem_set]
    split <;> rfl
  rw [e]
  by_cases h1 : l[i] = a
  · have : 0 < l.count a := List.count_pos_iff.2 (h1 ▸ List.getElem_mem hi)
    by_cases h2 : l[j] = a
    · simp [h1, h2]; omega
    · simp [h1, h2]; omega
  · by_cases h2 : l[j] = a
    · simp [h1, h2]
    · simp [h1, h2]
theorem swap_perm' {l : List Nat} {i j x y : Nat} (hi : l[i]? = some x) (hj : l[j]? = some y) : ((l.set i y).set j x).Perm l := by
  obtain ⟨h1, rfl⟩ := List.getElem?_eq_some_iff.1 hi
  obtain ⟨h2, rfl⟩ := List.getElem?_eq_some_iff.1 hj
  exact swap_perm h1 h2
def FirstPost (n : Nat) (w : World) (e : Ending) (w' : World) : Prop :=
  ∃ g c, e = .returned (.slice (some ⟨g, 0, none⟩) n c) ∧ NumO w' w.heap.size g c (barL (List.range n)) ∧ Below w.heap.size w w'
set_option maxRecDepth 100000 in
set_option maxHeartbeats 4000000 in
theorem first_any (n : Nat) (hn : n ≤ 1000) (w : World) : Calls Try.prog 120 #[.int .i64 (n : Int)] w (FirstPost n w) := by
  obtain ⟨i0, hi, hz0, hz1, hz2⟩ := info_parts Try.infoC64
  have HO0 : Hid (NumO (w.alloc (.cells #[] 2)) w.heap.size w.heap.size 0 (barL (List.range 0))) := Lib.hid (NumO.start w)
  have HB0 : Hid (Below w.heap.size w (w.alloc (.cells #[] 2))) := Lib.hid ((Below.refl _ _).alloc (Nat.le_refl _) _)
  go_enter Try.func120, Try.ntmps120
  go_wp2
  go_loopw [3, 4] (fun o i wr => ∃ (k g cap : Nat), k ≤ n ∧ i = .int .i64 (k : Int) ∧ o = .slice (some ⟨g, 0, none⟩) k cap ∧ NumO wr w.heap.size g cap (barL (List.range k)) ∧ Below w.heap.size w wr) (fun _ i _ => n - (RowKit.intOf i).toNat)
  case atStart => exact ⟨0, w.heap.size, 0, Nat.zero_le _, rfl, rfl, HO0.out, HB0.out⟩
  case round =>
    obtain ⟨k, g, cap, hk, rfl, rfl, ho, hb⟩ := hrel
    have HO := Lib.hid ho
    have HB := Lib.hid hb
    have hbl : (barL (List.range k)).length = k := by rw [barL_len, List.length_range]
    clear ho hb HO0 HB0
    by_cases hlt : k < n
    · have hki : (k : Int) < (n : Int) := by omega
      have HROW := Lib.hid HO.out.row
      rw [hbl] at HROW
      go_wp2_with (at_builtin; refine wpList_append_own_at _ rfl _ _ 25 rfl w.heap.size 2 i0 (.int .i64 0) 1 8 Try.underlying25 hi hz0 hz1 hz2 rfl (by decide) _ _ _ rfl (HROW.out.alloc _) ⟨wr.heap.size, 0, none⟩ 1 1 (intCells (k : Int)) rfl rfl (fun j u hj => new_at hj) (fun u hu => int_one' _ hu) ?c3 ?c4 (base_le HB.out.size) ?_)
      case c3 => unfold maxLen; omega
      case c4 => omega
      intro v' w9 hown' hgrow hiff hat
      obtain ⟨g9, cap9, rfl, hdc9, hcm9⟩ := own_some hown' (by simpa using hiff)
      have HB9 := Lib.hid ((HB.out.alloc HB.out.size (.cells #[.int .i64 (k : Int)] 2)).grown hgrow (base_le HB.out.size) (fun j hj => (HROW.out.lt j hj).1))
      have HO9 : Hid (NumO w9 w.heap.size g9 cap9 (barL (List.range (k + 1)))) := Lib.hid (by
        unfold NumO
        rw [List.range_succ, barL_snoc', flat_snoc, List.length_append, hbl]
        exact hown')
      clear hown' hgrow hiff hat
      go_wp2
      go_roundw
      case rel => exact ⟨k + 1, g9, cap9, by omega, by go_num, rfl, HO9.out, HB9.out⟩
      case measure => simp [RowKit.intOf]; omega
    · have hge : ¬ (k : Int) < (n : Int) := by omega
      obtain rfl : k = n := by omega
      go_wp2
      go_ret
      exact ⟨g, cap, rfl, HO.out, HB.out⟩
def RankDraw (B b k n : Nat) (w : World) (e : Ending) (w' : World) : Prop :=
  ∃ l g c, e = .returned (.slice (some ⟨g, 0, none⟩) n c) ∧ l.Perm (List.range n) ∧ OwnL intCells (barL l) w.heap.size w' (.slice (some ⟨g, 0, none⟩) n c) ∧ Src B w' b k ∧ Only b w w'
theorem nCells_set (l : List Nat) (i x : Nat) : nCells (l.set i x) = (nCells l).set i (.int .i64 (x : Int)) := by unfold nCells; rw [List.map_set]
theorem touch_only {b g : Nat} {w w' : World} (ht : Touch (fun c => c = g) w w') (hg : w.heap.size ≤ g) : Only b w w' :=
  ⟨ht.os, ht.tape, ht.output, ht.size, fun i hi _ => ht.block i hi (by omega)⟩
set_option maxRecDepth 100000 in
set_option maxHeartbeats 4000000 in
theorem drawRank_any (B b k n : Nat) (w : World) (h : Src B w b k) (hk : k ≤ 50000) (h1 : 1 ≤ n) (h6 : n ≤ 6) :
    Calls Try.prog 105 #[.pointer (some ⟨b, 0, none⟩), .int .i64 (n : Int)] w (RankDraw B b (k + 12) n w) := by
  have HF := Lib.hid (first_any n (by omega) w)
  have HS := Lib.hid h
  have hbw := h.lt.1
  unfold FirstPost at HF
  clear h
  go_enter Try.func105, Try.ntmps105
  go_wp2_with (fail)
  refine HF.out.mono ?_
  rintro e w1 ⟨g, c, rfl, hn1, hb1⟩
  have HS1 := Lib.hid (HS.out.below hb1 hbw)
  have hg1 := hn1.row.lt g rfl
  have hwb1 := hb1.size
  obtain ⟨A, c', e1, e2, e3, e4⟩ := hn1.own
  obtain ⟨g', e5, _, _, e6⟩ := e4 (fun e => by
    have := congrArg List.length e
    rw [barL_len, List.length_range] at this
    simp at this
    omega)
  rw [barL_len, List.length_range] at e1 e2
  injection e1 with e7 _ e8
  subst e8
  rw [← e7] at e5
  injection e5 with e5
  injection e5 with e5 _ _
  subst e5
  rw [cells_bar] at e6
  have HR1 := Lib.hid e6
  have HO1 := Lib.hid (only_of_below hb1 : Only b w w1)
  obtain ⟨m, hm⟩ : ∃ m, n = m + 1 := ⟨n - 1, by omega⟩
  have hnm : IntKind.i64.wrap ((n : Int) - 1) = (m : Int) := by rw [IntKind.wrap_i64]; omega
  have hnm2 : (n : Int) - 1 = (m : Int) := by omega
  have HNM := Lib.hid hm
  clear hn1 hb1 e4 e6 e7 HF HS hm
  go_wp2
  go_loopw [6, 7, 8] (fun kv _ _ wr => ∃ (j : Nat) (l : List Nat), j ≤ m ∧ kv = .int .i64 (j : Int) ∧ l.Perm (List.range n) ∧ Row wr g (nCells l) ∧ Src B wr b (k + 2 * (m - j)) ∧ Only b w wr ∧ g < wr.heap.size) (fun kv _ _ _ => (RowKit.intOf kv).toNat)
  case atStart => exact ⟨m, List.range n, Nat.le_refl _, rfl, List.Perm.refl _, HR1.out, HS1.out.more (by omega), HO1.out, hg1.2⟩
  case round =>
    obtain ⟨j, l, hj, rfl, hp, hr, hs, ho, hgl⟩ := hrel
    have HP := Lib.hid hp
    have HR := Lib.hid hr
    have HSR := Lib.hid hs
    have HOR := Lib.hid ho
    have hll : l.length = n := by rw [hp.length_eq, List.length_range]
    have hws := ho.size
    clear hp hr hs ho HR1 HS1 HO1
    by_cases hlt : 0 < j
    · have hji : (0 : Int) < (j : Int) := by omega
      have hjn : j < n := by have := HNM.out; omega
      have hj6 : j ≤ 6 := by omega
      go_wp2_with (fail)
      refine (pick_pos B b _ ((j : Int) + 1) wr HSR.out (by omega) (by omega) (by omega)).mono ?_
      rintro e w2 ⟨a, ha, rfl, hs2, ho2⟩
      have haj : a ≤ j := by omega
      have hgb : g ≠ b := by omega
      have HR2 := Lib.hid (HR.out.only hgl hgb ho2)
      have HO2 := Lib.hid (only_trans HOR.out ho2)
      have hg2 := Nat.lt_of_lt_of_le hgl ho2.size
      obtain ⟨va, hva⟩ : ∃ v, l[a]? = some v := ⟨_, List.getElem?_eq_getElem (by omega)⟩
      obtain ⟨vj, hvj⟩ : ∃ v, l[j]? = some v := ⟨_, List.getElem?_eq_getElem (by omega)⟩
      have ca := HR2.out.cell a _ (nCells_get hva)
      have cj := HR2.out.cell j _ (nCells_get hvj)
      have fa := HR2.out.free a (by rw [nCells_len]; omega)
      have HRA := Lib.hid (HR2.out.set a (.int .i64 (vj : Int)) (by rw [nCells_len]; omega))
      have hla : ((nCells l).set a (.int .i64 (vj : Int))).length = n := by rw [List.length_set, nCells_len]; exact hll
      have cja := HRA.out.cell j _ (List.getElem?_eq_getElem (by omega))
      have fja := HRA.out.free j (by omega)
      have HRB := Lib.hid (HRA.out.set j (.int .i64 (va : Int)) (by omega))
      have HPB := Lib.hid ((swap_perm' hva hvj).trans HP.out)
      rw [← nCells_set, ← nCells_set] at HRB
      have ht : Touch (fun c => c = g) w2 ((w2.setCell ⟨g, a, none⟩ (.int .i64 (vj : Int))).setCell ⟨g, j, none⟩ (.int .i64 (va : Int))) := Touch.setCell (F := fun c => c = g) (Touch.setCell (F := fun c => c = g) (Touch.refl _ _) rfl _) rfl _
      have HSB := Lib.hid (hs2.keep (ht.block b hs2.lt.1 (fun e => hgb e.symm)) (fun i hi => ht.block i (by have := hs2.lt; omega) (by have := hs2.lt; omega)))
      have HOB := Lib.hid (only_transC HO2.out ht (by omega))
      obtain ⟨j', hj'⟩ : ∃ j', j = j' + 1 := ⟨j - 1, by omega⟩
      have hjw : IntKind.i64.wrap ((j : Int) - 1) = (j' : Int) := by rw [IntKind.wrap_i64]; omega
      have hje : (j : Int) - 1 = (j' : Int) := by omega
      have hjw2 : IntKind.i64.wrap ((j : Int) + -1) = (j' : Int) := by rw [IntKind.wrap_i64]; omega
      have hai : (a : Int) < (n : Int) := by omega
      have ha0 : (0 : Int) ≤ (a : Int) := by omega
      have hjni : (j : Int) < (n : Int) := by omega
      have hj0 : (0 : Int) ≤ (j : Int) := by omega
      have HJ := Lib.hid hj'
      generalize ((nCells l).set a (.int .i64 (vj : Int)))[j]'(by omega) = ov at *
      clear hs2 ho2 ht hj' hla hva hvj
      go_wp2
      go_roundw
      case rel => exact ⟨j', _, by have := HJ.out; omega, by first | rfl | go_num, HPB.out, HRB.out, HSB.out.more (by have := HJ.out; omega), HOB.out, by simpa using hg2⟩
      case measure => have := HJ.out; simp [RowKit.intOf]; omega
    · have hge : ¬ (0 : Int) < (j : Int) := by omega
      have HOW : Hid (OwnL intCells (barL l) w.heap.size wr (.slice (some ⟨g, 0, none⟩) n c)) := Lib.hid ⟨_, c, by rw [barL_len, hll], by rw [barL_len, hll]; exact e2, e3, fun _ => ⟨g, rfl, hg1.1, hgl, by rw [cells_bar]; exact HR.out⟩⟩
      have HSE := Lib.hid (HSR.out.more (k' := k + 12) (by have := HNM.out; omega))
      go_wp2
      go_ret
      exact ⟨l, g, c, rfl, HP.out, HOW.out, HSE.out, HOR.out⟩
end Go.Proofs.Ytlbnebmdolnagaa

namespace Go.Proofs.Ytlbnebmdolnagaa
open Go.RowKit Go.Lib

/-- A profile that is being drawn. -/
structure PdSt (B b k bx : Nat) (w wr : World) (n gr cr gw cw : Nat) (T : List VRow) (Ws : List Nat) (Ls : List (List Nat)) : Prop where
  box : Row wr bx [.slice (some ⟨gr, 0, none⟩) T.length cr, .slice (some ⟨gw, 0, none⟩) Ws.length cw]
  tree : TreeW kRow 25 (w.heap.size + 1) wr gr cr T
  map : T.map (·.a) = Ls.map barL
  perm : ∀ l ∈ Ls, l.Perm (List.range n)
  ws : NumO wr (w.heap.size + 1) gw cw (barL Ws)
  wt : ∀ x ∈ Ws, x ≤ 1000
  src : Src B wr b k
  only : Only b w wr
  res : Row wr w.heap.size [.slice none 0 0, .slice none 0 0]
  lx : w.heap.size + 1 ≤ bx ∧ bx < wr.heap.size
  ap : gr ≠ bx ∧ gw ≠ bx ∧ gr ≠ gw
  blk : ∀ x ∈ T, ∀ c, kRow.blk x c → c ≠ bx ∧ c ≠ gw
section
variable {B b k bx n gr cr gw cw : Nat} {w wr w' : World} {T : List VRow} {Ws : List Nat} {Ls : List (List Nat)}
theorem PdSt.lg (h : PdSt B b k bx w wr n gr cr gw cw T Ws Ls) : gr < wr.heap.size ∧ gw < wr.heap.size ∧ w.heap.size + 1 ≤ gr ∧ w.heap.size + 1 ≤ gw := by
  have h1 := h.tree.lt
  have h2 := h.ws.row.lt gw rfl
  omega
/-- Nothing that the profile holds is touched. -/
theorem PdSt.far {P : Nat → Prop} (h : PdSt B b k bx w wr n gr cr gw cw T Ws Ls) (hbw : b < w.heap.size) (ht : Touch P wr w') (hP : ∀ c, P c → c = b ∨ wr.heap.size ≤ c) {k' : Nat} (hs : Src B w' b k') : PdSt B b k' bx w w' n gr cr gw cw T Ws Ls := by
  have hl := h.lg
  have no : ∀ c, w.heap.size ≤ c → c < wr.heap.size → ¬ P c := fun c h1 h2 h3 => by rcases hP c h3 with e | e <;> omega
  have hx := h.lx
  refine ⟨h.box.touch hx.2 ht (no _ (by omega) hx.2), ⟨own_touchC h.tree.row ht (fun c hc e => by
    injection hc with hc
    have hc : gr = c := hc
    exact no c (by omega) (by omega) e), fun x hxm => kRow.touch (h.tree.inn x hxm) ht (fun c hc e => by
    have := kRow.lt (h.tree.inn x hxm) hc
    exact no c (by omega) this.2 e), h.tree.out, h.tree.two⟩, h.map, h.perm, own_touchC h.ws.row ht (fun c hc e => by
    injection hc with hc
    have hc : gw = c := hc
    exact no c (by omega) (by omega) e), h.wt, hs, ⟨ht.os.trans h.only.os, ht.tape.trans h.only.tape, ht.output.trans h.only.output, Nat.le_trans h.only.size ht.size, fun i hi hne => ?_⟩, h.res.touch (by omega) ht (no _ (Nat.le_refl _) (by omega)), ⟨hx.1, Nat.lt_of_lt_of_le hx.2 ht.size⟩, h.ap, h.blk⟩
  have hiw : i < wr.heap.size := by have := h.only.size; omega
  rw [ht.block i hiw (fun e => by rcases hP i e with e | e; exact hne (by rw [e]); omega)]
  exact h.only.block i hi hne
theorem PdSt.draw (h : PdSt B b k bx w wr n gr cr gw cw T Ws Ls) (hbw : b < w.heap.size) (ho : Only b wr w') {k' : Nat} (hs : Src B w' b k') : PdSt B b k' bx w w' n gr cr gw cw T Ws Ls :=
  h.far hbw (P := fun c => c = b) (only_touchC ho) (fun _c e => .inl e) hs
theorem PdSt.below (h : PdSt B b k bx w wr n gr cr gw cw T Ws Ls) (hbw : b < w.heap.size) (hb : Below wr.heap.size wr w') : PdSt B b k bx w w' n gr cr gw cw T Ws Ls :=
  h.far hbw (P := fun _ => False) (Touch.of_below hb) (fun _c e => e.elim) (h.src.below hb h.src.lt.1)
/-- A row is put behind the others. -/
theorem PdSt.pushRow {x : VRow} {l : List Nat} {N gr' cr' : Nat} (h : PdSt B b k bx w wr n gr cr gw cw T Ws Ls) (hbw : b < w.heap.size) (hg : wr.grownBy w' (some gr)) (hor : gr' = gr ∨ gr' = wr.heap.size)
    (hown : w'.ownsRow (w.heap.size + 1) 25 1 (.slice (some ⟨gr', 0, none⟩) (T.length + 1) cr') (T.length + 1) (T.flatMap rCells ++ rCells x)) (hx : kRow.inn (w.heap.size + 1) wr x) (hxa : x.a = barL l) (hl : l.Perm (List.range n)) (hN : ∀ c, kRow.blk x c → N ≤ c) (h0 : gr < N ∧ gw < N ∧ bx < N ∧ ∀ z ∈ T, ∀ c, kRow.blk z c → c < N) :
    PdSt B b k bx w (w'.setCell ⟨bx, 0, none⟩ (.slice (some ⟨gr', 0, none⟩) (T.length + 1) cr')) n gr' cr' gw cw (T ++ [x]) Ws (Ls ++ [l]) := by
  have hlg := h.lg
  have hlx := h.lx
  have hz := hg.size
  have ht : Touch (fun c => c = gr) wr w' := Touch.of_grown hg (fun c hc => by injection hc with hc; exact hc.symm)
  have ht2 : Touch (fun c => c = bx) w' (w'.setCell ⟨bx, 0, none⟩ (.slice (some ⟨gr', 0, none⟩) (T.length + 1) cr')) := Touch.setCell (F := fun c => c = bx) (Touch.refl _ _) rfl _
  have hT := TreeW.push h.tree hg hor hown hx (fun c hc => ⟨by have := hN c hc; omega, fun z hzm hzc => by have := h0.2.2.2 z hzm c hzc; have := hN c hc; omega⟩)
  have hgx : gr' ≠ bx := by have := h.ap.1; omega
  have hgw : gr' ≠ gw := by have := h.ap.2.2; omega
  have hbl : ∀ y ∈ T ++ [x], ∀ c, kRow.blk y c → c ≠ bx ∧ c ≠ gw := fun y hy c hc => by
    rcases List.mem_append.1 hy with hy | hy
    · exact h.blk y hy c hc
    · rw [List.mem_singleton.1 hy] at hc
      have := hN c hc
      omega
  have hrow := (h.box.touch hlx.2 ht (fun e => h.ap.1 e.symm)).set 0 (.slice (some ⟨gr', 0, none⟩) (T.length + 1) cr') (by simp)
  refine ⟨by rw [List.length_append]; exact hrow, ⟨own_touchC hT.row ht2 (fun c hc e => by
    injection hc with hc
    have hc : gr' = c := hc
    omega), fun y hy => kRow.touch (hT.inn y hy) ht2 (fun c hc e => (hbl y hy c hc).1 e), hT.out, hT.two⟩, by rw [List.map_append, List.map_append, h.map]; show _ ++ [x.a] = _ ++ [barL l]; rw [hxa], fun q hq => ?_, own_touchC (own_touchC h.ws.row ht (fun c hc e => by
    injection hc with hc
    have hc : gw = c := hc
    exact h.ap.2.2 (by omega))) ht2 (fun c hc e => by
    injection hc with hc
    have hc : gw = c := hc
    exact h.ap.2.1 (by omega)), h.wt, ?_, ?_, ?_, ⟨hlx.1, by simpa using (show bx < w'.heap.size by omega)⟩, ⟨hgx, h.ap.2.1, hgw⟩, hbl⟩
  · rcases List.mem_append.1 hq with hq | hq
    · exact h.perm q hq
    · rw [List.mem_singleton.1 hq]; exact hl
  · have s1 := h.src.grown hg (fun j hj => by injection hj with hj; omega)
    exact s1.keep (ht2.block b s1.lt.1 (by omega)) (fun i hi => ht2.block i (by have := s1.lt; omega) (by have := s1.lt; omega))
  · exact only_transC (only_grown h.only hg (fun j hj => by injection hj with hj; omega)) ht2 (by omega)
  · exact (h.res.touch (by omega) ht (by omega)).touch (by omega) ht2 (by omega)
/-- A weight is put behind the others. -/
theorem PdSt.pushW {z gw' cw' : Nat} (h : PdSt B b k bx w wr n gr cr gw cw T Ws Ls) (hbw : b < w.heap.size) (hg : wr.grownBy w' (some gw)) (hor : gw' = gw ∨ gw' = wr.heap.size)
    (hown : NumO w' (w.heap.size + 1) gw' cw' (barL (Ws ++ [z]))) (hz : z ≤ 1000) :
    PdSt B b k bx w (w'.setCell ⟨bx, 1, none⟩ (.slice (some ⟨gw', 0, none⟩) (Ws.length + 1) cw')) n gr cr gw' cw' T (Ws ++ [z]) Ls := by
  have hlg := h.lg
  have hlx := h.lx
  have hzz := hg.size
  have ht : Touch (fun c => c = gw) wr w' := Touch.of_grown hg (fun c hc => by injection hc with hc; exact hc.symm)
  have ht2 : Touch (fun c => c = bx) w' (w'.setCell ⟨bx, 1, none⟩ (.slice (some ⟨gw', 0, none⟩) (Ws.length + 1) cw')) := Touch.setCell (F := fun c => c = bx) (Touch.refl _ _) rfl _
  have hgx : gw' ≠ bx := by have := h.ap.2.1; omega
  have hgw : gr ≠ gw' := by have := h.ap.2.2; omega
  have hrow := (h.box.touch hlx.2 ht (fun e => h.ap.2.1 e.symm)).set 1 (.slice (some ⟨gw', 0, none⟩) (Ws.length + 1) cw') (by simp)
  refine ⟨by rw [List.length_append]; exact hrow, ⟨own_touchC (own_touchC h.tree.row ht (fun c hc e => by
    injection hc with hc
    have hc : gr = c := hc
    exact h.ap.2.2 (by omega))) ht2 (fun c hc e => by
    injection hc with hc
    have hc : gr = c := hc
    exact h.ap.1 (by omega)), fun y hy => kRow.touch (kRow.touch (h.tree.inn y hy) ht (fun c hc e => (h.blk y hy c hc).2 e)) ht2 (fun c hc e => (h.blk y hy c hc).1 e), h.tree.out, h.tree.two⟩, h.map, h.perm, own_touchC hown.row ht2 (fun c hc e => by
    injection hc with hc
    have hc : gw' = c := hc
    omega), fun x hx => ?_, ?_, ?_, ?_, ⟨hlx.1, by simpa using (show bx < w'.heap.size by omega)⟩, ⟨h.ap.1, hgx, hgw⟩, fun y hy c hc => ⟨(h.blk y hy c hc).1, fun e => by
    have := (kRow.lt (h.tree.inn y hy) hc).2
    have := (h.blk y hy c hc).2
    omega⟩⟩
  · rcases List.mem_append.1 hx with hx | hx
    · exact h.wt x hx
    · rw [List.mem_singleton.1 hx]; exact hz
  · have s1 := h.src.grown hg (fun j hj => by injection hj with hj; omega)
    exact s1.keep (ht2.block b s1.lt.1 (by omega)) (fun i hi => ht2.block i (by have := s1.lt; omega) (by have := s1.lt; omega))
  · exact only_transC (only_grown h.only hg (fun j hj => by injection hj with hj; omega)) ht2 (by omega)
  · exact (h.res.touch (by omega) ht (by omega)).touch (by omega) ht2 (by omega)
end
/-- A profile in memory of one's own. -/
structure PfO (base : Nat) (w : World) (F : Pf) (gr cr gw cw : Nat) (T : List VRow) : Prop where
  tree : TreeW kRow 25 base w gr cr T
  map : T.map (·.a) = F.L.map barL
  ws : NumO w base gw cw (barL F.W)
theorem PfO.far {base gr cr gw cw : Nat} {w w' : World} {F : Pf} {T : List VRow} {P : Nat → Prop} (h : PfO base w F gr cr gw cw T) (ht : Touch P w w') (hP : ∀ c, P c → c < base) : PfO base w' F gr cr gw cw T :=
  ⟨h.tree.far ht hP, h.map, own_touchC h.ws.row ht (fun c hc e => by
    injection hc with hc
    have hc : gw = c := hc
    have := hP c e
    have := h.ws.row.lt gw rfl
    omega)⟩
theorem PfO.pfr {base gr cr gw cw : Nat} {w : World} {F : Pf} {T : List VRow} (h : PfO base w F gr cr gw cw T) (hF : F.Ok) : PfR w w.heap.size F (some ⟨gr, 0, none⟩) cr (some ⟨gw, 0, none⟩) cw := by
  have hl : T.length = F.L.length := by
    have := congrArg List.length h.map
    rwa [List.length_map, List.length_map] at this
  have h1 := h.tree.tree.rows
  rw [h.map, hl] at h1
  have h2 := h.ws.ints
  rw [barL_len, hF.wl] at h2
  exact ⟨h1, h2⟩
def PfDraw (B b k : Nat) (w : World) (e : Ending) (w' : World) : Prop :=
  ∃ F gr cr gw cw T, e = .returned (pfV F (some ⟨gr, 0, none⟩) cr (some ⟨gw, 0, none⟩) cw) ∧ F.Ok ∧ PfO (w.heap.size + 1) w' F gr cr gw cw T ∧ Src B w' b k ∧ Only b w w'
set_option maxRecDepth 100000 in
set_option maxHeartbeats 8000000 in
theorem drawP_any (B b k : Nat) (w : World) (h : Src B w b k) (hk : k ≤ 20000) : Calls Try.prog 57 #[.pointer (some ⟨b, 0, none⟩)] w (PfDraw B b (k + 400) w) := by
  have hbw := h.lt.1
  have hBb := h.lt.2
  have HS := Lib.hid h
  obtain ⟨r0, hri, hr0, hr1, hr2⟩ := info_parts Try.infoFr
  obtain ⟨i0, hi, hz0, hz1, hz2⟩ := info_parts Try.infoC64
  have hw1z : (w.alloc (.cells #[.slice none 0 0, .slice none 0 0] 27)).heap.size = w.heap.size + 1 := by simp
  clear h
  go_enter Try.func57, Try.ntmps57
  go_wp2_with (fail)
  refine (pick_pos B b _ 5 _ (HS.out.alloc _) (by omega) (by omega) (by omega)).mono ?_
  rintro e w1 ⟨x1, hx1, rfl, hs1, ho1⟩
  have HS1 := Lib.hid hs1
  have HO1 := Lib.hid (only_trans (only_alloc (only_refl b w) _) ho1)
  have HR1 : Hid (Row w1 w.heap.size [.slice none 0 0, .slice none 0 0]) := Lib.hid ((Row.new w #[.slice none 0 0, .slice none 0 0] 27).only (by omega) (by omega) ho1)
  have hzw1 := ho1.size
  rw [hw1z] at hzw1
  clear hs1 ho1 HS
  go_wp2_with (fail)
  refine (one_any B b _ 6 w1 HS1.out (by omega) (by omega) (by omega)).mono ?_
  rintro e w2 ⟨y, rfl, hs2, ho2⟩
  have HS2 := Lib.hid hs2
  have HO2 := Lib.hid (only_trans HO1.out ho2)
  have HR2 := Lib.hid (HR1.out.only (by omega) (by omega) ho2)
  have hz2b := ho2.size
  clear hs2 ho2 HS1 HO1 HR1
  go_upto_if 12 with (fail)
  go_cut [3] (fun s3 wx => ∃ n : Nat, s3 = .int .i64 (n : Int) ∧ 1 ≤ n ∧ n ≤ 6 ∧ wx = w2)
  case first =>
    cases y with
    | true =>
      go_wp2
      go_meet
      case rel => exact ⟨6, rfl, by omega, by omega, rfl⟩
    | false =>
      go_wp2
      go_meet
      case rel => exact ⟨1 + x1, by go_num, by omega, by omega, rfl⟩
  case rest =>
    obtain ⟨n, rfl, hn1, hn6, rfl⟩ := hcut
    go_wp2_with (fail)
    obtain ⟨w3, hw3⟩ : ∃ X, X = ((wc.alloc (.cells #[] 25)).alloc (.cells #[] 2)).alloc (.cells #[.slice (some ⟨wc.heap.size, 0, none⟩) 0 0, .slice (some ⟨wc.heap.size + 1, 0, none⟩) 0 0] 27) := ⟨_, rfl⟩
    have hz3 : w3.heap.size = wc.heap.size + 3 := by rw [hw3]; simp
    have b3 : Below wc.heap.size wc w3 := by rw [hw3]; exact (((Below.refl _ _).alloc (Nat.le_refl _) _).alloc (by simp) _).alloc (by simp; omega) _
    have hrow3 : Row w3 (wc.heap.size + 2) [.slice (some ⟨wc.heap.size, 0, none⟩) 0 0, .slice (some ⟨wc.heap.size + 1, 0, none⟩) 0 0] := by
      rw [hw3]
      have := Row.new ((wc.alloc (.cells #[] 25)).alloc (.cells #[] 2)) #[.slice (some ⟨wc.heap.size, 0, none⟩) 0 0, .slice (some ⟨wc.heap.size + 1, 0, none⟩) 0 0] 27
      rw [show ((wc.alloc (.cells #[] 25)).alloc (.cells #[] 2)).heap.size = wc.heap.size + 2 by simp] at this
      exact this
    have hownr : w3.ownsRow (w.heap.size + 1) 25 1 (.slice (some ⟨wc.heap.size, 0, none⟩) 0 0) 0 [] := by
      rw [hw3]
      exact ((by simpa using World.ownsRow_made (base := w.heap.size + 1) wc #[] 0 (by omega) (Nat.zero_le _) rfl : (wc.alloc (.cells #[] 25)).ownsRow (w.heap.size + 1) 25 1 (.slice (some ⟨wc.heap.size, 0, none⟩) 0 0) 0 []).alloc _).alloc _
    have hownw : w3.ownsRow (w.heap.size + 1) 2 1 (.slice (some ⟨wc.heap.size + 1, 0, none⟩) 0 0) 0 [] := by
      rw [hw3]
      have h0 := World.ownsRow_made (base := w.heap.size + 1) (e := 2) (size := 1) (wc.alloc (.cells #[] 25)) #[] 0 (by simp; omega) (Nat.zero_le _) rfl
      rw [show (wc.alloc (.cells #[] 25)).heap.size = wc.heap.size + 1 by simp] at h0
      exact (by simpa using h0 : ((wc.alloc (.cells #[] 25)).alloc (.cells #[] 2)).ownsRow (w.heap.size + 1) 2 1 (.slice (some ⟨wc.heap.size + 1, 0, none⟩) 0 0) 0 []).alloc _
    have HD3 : Hid (PdSt B b (k + 4) (wc.heap.size + 2) w w3 n wc.heap.size 0 (wc.heap.size + 1) 0 [] [] []) := Lib.hid ⟨hrow3, TreeW.start (base := w.heap.size + 1) kRow 25 hownr, rfl, (fun l hl => by cases hl), hownw, (fun x hx => by cases hx), (HS2.out.more (by omega)).below b3 HS2.out.lt.1, only_below' HO2.out b3 (by omega), HR2.out.below b3 (by omega), ⟨by omega, by omega⟩, ⟨by omega, by omega, by omega⟩, (fun x hx => by cases hx)⟩
    rw [← hw3]
    obtain ⟨bx, hbx⟩ : ∃ bx, bx = wc.heap.size + 2 := ⟨_, rfl⟩
    rw [← hbx] at HD3 ⊢
    generalize wc.heap.size + 1 = gw0 at *
    generalize wc.heap.size = gr0 at *
    clear hw3 hrow3 hownr hownw b3 HS2 HO2 HR2 hbx
    refine (pick_pos B b _ 6 w3 HD3.out.src (by omega) (by omega) (by omega)).mono ?_
    rintro e w4 ⟨x4, hx4, rfl, hs4, ho4⟩
    have HD4 := Lib.hid (HD3.out.draw hbw ho4 hs4)
    clear hs4 ho4 HD3
    go_wp2_with (fail)
    refine (one_any B b _ 12 w4 HD4.out.src (by omega) (by omega) (by omega)).mono ?_
    rintro e w5 ⟨y5, rfl, hs5, ho5⟩
    have HD5 := Lib.hid (HD4.out.draw hbw ho5 hs5)
    clear hs5 ho5 HD4
    go_upto_if 20 with (fail)
    go_cut [5] (fun s5 wx => ∃ m : Nat, s5 = .int .i64 (m : Int) ∧ 1 ≤ m ∧ m ≤ 12 ∧ wx = w5)
    case first =>
      cases y5 with
      | true =>
        go_wp2
        go_meet
        case rel => exact ⟨12, rfl, by omega, by omega, rfl⟩
      | false =>
        go_wp2
        go_meet
        case rel => exact ⟨1 + x4, by go_num, by omega, by omega, rfl⟩
    case rest =>
      obtain ⟨m0, rfl, hm1, hm12, rfl⟩ := hcut
      generalize wc = wd at *
      go_wp2
      go_loopw [5, 6, 7] (fun mv _ _ wr => ∃ (m gr cr gw cw : Nat) (T : List VRow) (Ws : List Nat) (Ls : List (List Nat)), m ≤ m0 ∧ mv = .int .i64 (m : Int) ∧ PdSt B b (k + 20 + 20 * (m0 - m)) bx w wr n gr cr gw cw T Ws Ls ∧ Ls.length = m0 - m ∧ Ws.length = m0 - m) (fun mv _ _ _ => (RowKit.intOf mv).toNat)
      case atStart => exact ⟨m0, gr0, 0, gw0, 0, [], [], [], Nat.le_refl _, rfl, HD5.out.draw hbw (only_refl _ _) (HD5.out.src.more (by omega)), by simp, by simp⟩
      case round =>
        obtain ⟨m, gr, cr, gw, cw, T, Ws, Ls, hm, rfl, hd, hll, hwl⟩ := hrel
        have HD := Lib.hid hd
        have HLL := Lib.hid hll
        have HWL := Lib.hid hwl
        have HTL : Hid (T.length = Ls.length) := Lib.hid (by
          have := congrArg List.length hd.map
          rwa [List.length_map, List.length_map] at this)
        clear hd hll hwl HD5
        by_cases hlt : 0 < m
        · have hmi : (0 : Int) < (m : Int) := by omega
          go_wp2_with (fail)
          refine (drawRank_any B b _ n wr HD.out.src (by omega) hn1 hn6).mono ?_
          rintro e w6 ⟨l, g6, c6, rfl, hperm, hown6, hs6, ho6⟩
          have HD6 := Lib.hid (HD.out.draw hbw ho6 hs6)
          have hlg := HD.out.lg
          have hlx := HD.out.lx
          have hbwr : b < wr.heap.size := HD.out.src.lt.1
          have HBK : Hid (∀ z ∈ T, ∀ c, kRow.blk z c → c < wr.heap.size) := Lib.hid (fun z hz c hc => (kRow.lt (HD.out.tree.inn z hz) hc).2)
          have hw6z := ho6.size
          have hwwr : w.heap.size ≤ wr.heap.size := HD.out.only.size
          clear hs6 ho6
          go_wp2_with (fail)
          refine (pick_pos B b _ 7 w6 HD6.out.src (by omega) (by omega) (by omega)).mono ?_
          rintro e w7 ⟨x7, hx7, rfl, hs7, ho7⟩
          have HD7 := Lib.hid (HD6.out.draw hbw ho7 hs7)
          have ho67 := ho7
          clear hs7 ho7
          go_wp2_with (fail)
          refine (one_any B b _ 20 w7 HD7.out.src (by omega) (by omega) (by omega)).mono ?_
          rintro e w8 ⟨y8, rfl, hs8, ho8⟩
          have HD8 := Lib.hid (HD7.out.draw hbw ho8 hs8)
          have HOW8 : Hid (OwnL intCells (barL l) (w.heap.size + 1) w8 (.slice (some ⟨g6, 0, none⟩) n c6)) := Lib.hid ((hown6.touch (only_touchC (only_trans ho67 ho8)) (fun c hc e => by
            have := (OwnL.sblk hown6 hc).1
            omega)).less (by omega))
          have HG6 : Hid (∀ c, kRow.blk (⟨barL l, .slice (some ⟨g6, 0, none⟩) n c6⟩ : VRow) c → wr.heap.size ≤ c) := Lib.hid (fun c hc => (OwnL.sblk hown6 hc).1)
          have HPM := Lib.hid hperm
          clear hs8 ho8 ho67 hown6 hperm HD6 HD7 HD
          go_upto_if 31 with (fail)
          go_cut [7] (fun s7 wx => ∃ z : Nat, s7 = .int .i64 (z : Int) ∧ z ≤ 1000 ∧ wx = w8)
          case first =>
            cases y8 with
            | true =>
              go_wp2
              go_meet
              case rel => exact ⟨1000, rfl, by omega, rfl⟩
            | false =>
              go_wp2
              go_meet
              case rel => exact ⟨x7, rfl, by omega, rfl⟩
          case rest =>
            obtain ⟨z, rfl, hz, rfl⟩ := hcut
            have q0 := HD8.out.box.cell 0 _ rfl
            have hbA : Below wc.heap.size wc (wc.alloc (.cells #[.slice (some ⟨g6, 0, none⟩) n c6] 25)) := (Below.refl _ _).alloc (Nat.le_refl _) _
            have HDA := Lib.hid (HD8.out.below hbw hbA)
            have HRL := Lib.hid HDA.out.tree.row
            have HXA : Hid (kRow.inn (w.heap.size + 1) (wc.alloc (.cells #[.slice (some ⟨g6, 0, none⟩) n c6] 25)) (⟨barL l, .slice (some ⟨g6, 0, none⟩) n c6⟩ : VRow)) := Lib.hid (HOW8.out.on hbA)
            have hwA : w.heap.size + 1 ≤ (wc.alloc (.cells #[.slice (some ⟨g6, 0, none⟩) n c6] 25)).heap.size := by have := HDA.out.lx; omega
            have hT12 : T.length ≤ 12 := by have := HTL.out; have := HLL.out; omega
            have hW12 : Ws.length ≤ 12 := by have := HWL.out; omega
            clear hbA
            go_wp2_with (at_builtin; refine wpList_append_own_at _ rfl _ _ 24 rfl (w.heap.size + 1) 25 r0 (.slice none 0 0) 1 24 Try.underlying24 hri hr0 hr1 hr2 rfl (by decide) _ _ _ rfl HRL.out ⟨wc.heap.size, 0, none⟩ 1 1 (rCells ⟨barL l, .slice (some ⟨g6, 0, none⟩) n c6⟩) rfl rfl (fun j u hj => new_at hj) (fun u hu => by simp [rCells] at hu; subst hu; rfl) ?c3 ?c4 hwA ?_)
            case c3 => unfold maxLen; omega
            case c4 => omega
            intro v' w9 hown' hgrow hiff hor
            obtain ⟨gr', cr', rfl, hdc', hcm'⟩ := own_some hown' (by simpa using hiff)
            have HD10 := Lib.hid (HDA.out.pushRow (x := ⟨barL l, .slice (some ⟨g6, 0, none⟩) n c6⟩) (l := l) (N := wr.heap.size) hbw hgrow (by rcases hor with h | h <;> injection h with h; exact .inl h; exact .inr (by simpa using h)) (by exact hown') HXA.out rfl HPM.out HG6.out ⟨hlg.1, hlg.2.1, hlx.2, HBK.out⟩)
            have hrow9 : Row w9 bx [.slice (some ⟨gr, 0, none⟩) T.length cr, .slice (some ⟨gw, 0, none⟩) Ws.length cw] := HDA.out.box.sameC (hgrow.block bx HDA.out.lx.2 (fun e => by injection e with e; exact HDA.out.ap.1 e.symm))
            have s0 := hrow9.cell 0 _ rfl
            have t0 := hrow9.free 0 (by simp)
            have s1 := hrow9.cell 1 _ rfl
            obtain ⟨W10, hW10⟩ : ∃ X, X = w9.setCell ⟨bx, 0, none⟩ (.slice (some ⟨gr', 0, none⟩) (T.length + 1) cr') := ⟨_, rfl⟩
            have HW10 := Lib.hid hW10
            rw [← hW10] at HD10
            have u1 := HD10.out.box.cell 1 _ rfl
            have hbB : Below W10.heap.size W10 (W10.alloc (.cells #[.int .i64 (z : Int)] 2)) := (Below.refl _ _).alloc (Nat.le_refl _) _
            have HDB := Lib.hid (HD10.out.below hbw hbB)
            have HRW := Lib.hid HDB.out.ws.row
            rw [barL_len] at HRW
            have hwB : w.heap.size + 1 ≤ (W10.alloc (.cells #[.int .i64 (z : Int)] 2)).heap.size := by have := HDB.out.lx; omega
            clear hown' hgrow hiff hor hW10 hbB hrow9
            go_upto_region 15 with (fail)
            rw [← HW10.out]
            clear HW10 s0 t0 s1 q0
            go_wp2_with (at_builtin; refine wpList_append_own_at _ rfl _ _ 25 rfl (w.heap.size + 1) 2 i0 (.int .i64 0) 1 8 Try.underlying25 hi hz0 hz1 hz2 rfl (by decide) _ _ _ rfl HRW.out ⟨W10.heap.size, 0, none⟩ 1 1 (intCells (z : Int)) rfl rfl (fun j u hj => new_at hj) (fun u hu => int_one' _ hu) ?c5 ?c6 hwB ?_)
            case c5 => unfold maxLen; omega
            case c6 => omega
            intro v' w11 hown' hgrow hiff hor
            obtain ⟨gw', cw', rfl, hdc2, hcm2⟩ := own_some hown' (by simpa using hiff)
            have hnum : NumO w11 (w.heap.size + 1) gw' cw' (barL (Ws ++ [z])) := by
              unfold NumO
              rw [barL_snoc', flat_snoc, List.length_append, barL_len]
              exact hown'
            have hsrc : k + 20 + 20 * (m0 - m) + 12 + 2 + 2 ≤ k + 20 + 20 * (m0 - (m - 1)) := by omega
            have hD12 := HDB.out.pushW (z := z) hbw hgrow (by rcases hor with h | h <;> injection h with h; exact .inl h; exact .inr (by simpa using h)) hnum hz
            have hrow11 : Row w11 bx [.slice (some ⟨gr', 0, none⟩) (T ++ [(⟨barL l, .slice (some ⟨g6, 0, none⟩) n c6⟩ : VRow)]).length cr', .slice (some ⟨gw, 0, none⟩) Ws.length cw] := HDB.out.box.sameC (hgrow.block bx HDB.out.lx.2 (fun e => by injection e with e; exact HDB.out.ap.2.1 e.symm))
            have s0 := hrow11.cell 0 _ rfl
            have s1 := hrow11.cell 1 _ rfl
            have t1 := hrow11.free 1 (by simp)
            have HD12 := Lib.hid hD12
            have HD13 := Lib.hid (hD12.draw hbw (only_refl _ _) (hD12.src.more hsrc))
            obtain ⟨m', hm'⟩ : ∃ m', m = m' + 1 := ⟨m - 1, by omega⟩
            have hmw : IntKind.i64.wrap ((m : Int) - 1) = (m' : Int) := by rw [IntKind.wrap_i64]; omega
            have hme : (m : Int) - 1 = (m' : Int) := by omega
            have HMM := Lib.hid hm'
            rw [show m - 1 = m' by omega] at HD13
            clear hown' hgrow hiff hor hrow11 hnum hsrc hD12 HD12 hm' u1
            go_wp2
            go_roundw
            case rel => exact ⟨m', gr', cr', gw', cw', _, _, _, by have := HMM.out; omega, rfl, HD13.out, by rw [List.length_append, HLL.out]; have := HMM.out; simp; omega, by rw [List.length_append, HWL.out]; have := HMM.out; simp; omega⟩
            case measure => have := HMM.out; simp [RowKit.intOf]; omega
        · have hge : ¬ (0 : Int) < (m : Int) := by omega
          obtain rfl : m = 0 := by omega
          have hd := HD.out
          have c0 := hd.box.cell 0 _ rfl
          have c1 := hd.box.cell 1 _ rfl
          have e0 := hd.res.cell 0 _ rfl
          have e1 := hd.res.cell 1 _ rfl
          have f0 := hd.res.free 0 (by simp)
          have f1 := hd.res.free 1 (by simp)
          have ht : Touch (fun c => c = w.heap.size) wr ((wr.setCell ⟨w.heap.size, 0, none⟩ (.slice (some ⟨gr, 0, none⟩) T.length cr)).setCell ⟨w.heap.size, 1, none⟩ (.slice (some ⟨gw, 0, none⟩) Ws.length cw)) := Touch.setCell (F := fun c => c = w.heap.size) (Touch.setCell (F := fun c => c = w.heap.size) (Touch.refl _ _) rfl _) rfl _
          have hlg := hd.lg
          have hlx := hd.lx
          have hwwr : w.heap.size ≤ wr.heap.size := hd.only.size
          have hte := hd.tree.far ht (fun c hc => by omega)
          have hnu : NumO ((wr.setCell ⟨w.heap.size, 0, none⟩ (.slice (some ⟨gr, 0, none⟩) T.length cr)).setCell ⟨w.heap.size, 1, none⟩ (.slice (some ⟨gw, 0, none⟩) Ws.length cw)) (w.heap.size + 1) gw cw (barL Ws) := own_touchC hd.ws.row ht (fun c hc e => by
            injection hc with hc
            have hc : gw = c := hc
            have e : c = w.heap.size := e
            omega)
          have hTl : T.length = m0 := by have := HTL.out; have := HLL.out; omega
          have hWl : Ws.length = m0 := by have := HWL.out; omega
          have hLl : Ls.length = m0 := by have := HLL.out; omega
          have HPO : Hid (PfO (w.heap.size + 1) ((wr.setCell ⟨w.heap.size, 0, none⟩ (.slice (some ⟨gr, 0, none⟩) T.length cr)).setCell ⟨w.heap.size, 1, none⟩ (.slice (some ⟨gw, 0, none⟩) Ws.length cw)) ⟨n, Ls, Ws⟩ gr cr gw cw T) := Lib.hid ⟨hte, hd.map, hnu⟩
          have HSE := Lib.hid ((hd.src.keep (ht.block b hd.src.lt.1 (by omega)) (fun i hi => ht.block i (by have := hd.src.lt; omega) (by have := hd.src.lt; omega))).more (k' := k + 400) (by omega))
          have HOE := Lib.hid (only_transC hd.only ht (Nat.le_refl _))
          have HRF := Lib.hid ((hd.res.set 0 (.slice (some ⟨gr, 0, none⟩) T.length cr) (by simp)).set 1 (.slice (some ⟨gw, 0, none⟩) Ws.length cw) (by simp))
          have HOKF : Hid (Pf.Ok ⟨n, Ls, Ws⟩) := Lib.hid ⟨hn1, hn6, by show 1 ≤ Ls.length; omega, by show Ls.length ≤ 12; omega, by show Ws.length = Ls.length; omega, hd.perm, hd.wt⟩
          have HTL2 := Lib.hid hTl
          have HWL2 := Lib.hid hWl
          have HLL2 := Lib.hid hLl
          clear hd ht hte hnu HD hTl hWl hLl hlt
          go_wp2
          obtain ⟨W9, hW9⟩ : ∃ X, X = (wr.setCell ⟨w.heap.size, 0, none⟩ (.slice (some ⟨gr, 0, none⟩) T.length cr)).setCell ⟨w.heap.size, 1, none⟩ (.slice (some ⟨gw, 0, none⟩) Ws.length cw) := ⟨_, rfl⟩
          rw [← hW9] at HPO HSE HOE HRF ⊢
          have k0 := HRF.out.cell 0 _ rfl
          have k1 := HRF.out.cell 1 _ rfl
          clear hW9
          refine bodyPost_ret (v := .agg #[.slice (some ⟨gr, 0, none⟩) T.length cr, .slice (some ⟨gw, 0, none⟩) Ws.length cw]) (by simp [results, Try.results57, go_sem, k0, k1]) rfl ?_
          refine ⟨⟨n, Ls, Ws⟩, gr, cr, gw, cw, T, ?_, HOKF.out, HPO.out, HSE.out, HOE.out⟩
          show _ = Ending.returned (.agg #[.slice _ Ls.length cr, .slice _ Ls.length cw])
          rw [HTL2.out, HWL2.out, HLL2.out]
def Pf8Post (w : World) (e : Ending) (w' : World) : Prop :=
  ∃ F A1 c1 A2 c2, e = .returned (pfV F A1 c1 A2 c2) ∧ F.Ok ∧ PfR w' w'.heap.size F A1 c1 A2 c2 ∧ Below w.heap.size w w'
set_option maxRecDepth 100000 in
set_option maxHeartbeats 4000000 in
theorem prof8_any (A : Option Addr) (n c : Nat) (w : World) (h : BytesAt w w.heap.size A n) : Calls Try.prog 11 #[.slice A n c] w (Pf8Post w) := by
  have b0 : Below w.heap.size w (w.alloc (.cells #[.slice none 0 0, .slice none 0 0] 27)) := (Below.refl _ _).alloc (Nat.le_refl _) _
  have HF := Lib.hid (from_any A n c (w.alloc (.cells #[.slice none 0 0, .slice none 0 0] 27)) (bytesAt_up h b0 b0.size))
  clear h
  go_enter Try.func11, Try.ntmps11
  go_wp2_with (fail)
  refine HF.out.mono ?_
  rintro e w1 ⟨rfl, hs1, hb1⟩
  have hsz : (w.alloc (.cells #[.slice none 0 0, .slice none 0 0] 27)).heap.size = w.heap.size + 1 := by simp
  rw [hsz] at hs1 hb1 ⊢
  have HD := Lib.hid (drawP_any _ _ 0 w1 hs1 (by omega))
  have hl1 := hs1.lt.1
  have hbt : Row w1 w.heap.size [.slice none 0 0, .slice none 0 0] := (Row.new w #[.slice none 0 0, .slice none 0 0] 27).below hb1 (by omega)
  have HBT := Lib.hid hbt
  have HB1 := Lib.hid (b0.trans (hb1.mono (by omega)))
  unfold PfDraw at HD
  clear hs1 hb1 hbt b0 HF
  go_wp2_with (fail)
  refine HD.out.mono ?_
  rintro e w2 ⟨F, gr, cr, gw, cw, T, rfl, hok, hpo, hs2, ho2⟩
  have HOK := Lib.hid hok
  have hrow := HBT.out.only (by omega) (by omega) ho2
  have c0 := hrow.cell 0 _ rfl
  have c1 := hrow.cell 1 _ rfl
  have f0 := hrow.free 0 (by simp)
  have f1 := hrow.free 1 (by simp)
  have ht : Touch (fun c => c = w.heap.size) w2 ((w2.setCell ⟨w.heap.size, 0, none⟩ (.slice (some ⟨gr, 0, none⟩) F.L.length cr)).setCell ⟨w.heap.size, 1, none⟩ (.slice (some ⟨gw, 0, none⟩) F.L.length cw)) := Touch.setCell (F := fun c => c = w.heap.size) (Touch.setCell (F := fun c => c = w.heap.size) (Touch.refl _ _) rfl _) rfl _
  have HPE := Lib.hid ((hpo.far ht (fun c hc => by omega)).pfr hok)
  have HRF := Lib.hid ((hrow.set 0 (.slice (some ⟨gr, 0, none⟩) F.L.length cr) (by simp)).set 1 (.slice (some ⟨gw, 0, none⟩) F.L.length cw) (by simp))
  have hb2 : Below w.heap.size w w2 := ⟨ho2.os.trans HB1.out.os, ho2.tape.trans HB1.out.tape, ho2.output.trans HB1.out.output, Nat.le_trans HB1.out.size ho2.size, fun i hi => (ho2.block i (by omega) (fun e => by injection e; omega)).trans (HB1.out.block i hi)⟩
  have HB2 := Lib.hid ((hb2.setCell (p := ⟨w.heap.size, 0, none⟩) (Nat.le_refl _) (.slice (some ⟨gr, 0, none⟩) F.L.length cr)).setCell (p := ⟨w.heap.size, 1, none⟩) (Nat.le_refl _) (.slice (some ⟨gw, 0, none⟩) F.L.length cw))
  unfold pfV
  clear hok hpo hs2 ho2 hrow ht hb2 HD
  go_wp2
  obtain ⟨W9, hW9⟩ : ∃ X, X = (w2.setCell ⟨w.heap.size, 0, none⟩ (.slice (some ⟨gr, 0, none⟩) F.L.length cr)).setCell ⟨w.heap.size, 1, none⟩ (.slice (some ⟨gw, 0, none⟩) F.L.length cw) := ⟨_, rfl⟩
  rw [← hW9] at HPE HRF HB2 ⊢
  have k0 := HRF.out.cell 0 _ rfl
  have k1 := HRF.out.cell 1 _ rfl
  clear hW9
  refine bodyPost_ret (v := .agg #[.slice (some ⟨gr, 0, none⟩) F.L.length cr, .slice (some ⟨gw, 0, none⟩) F.L.length cw]) (by simp [results, Try.results11, go_sem, k0, k1]) rfl ?_
  exact ⟨F, some ⟨gr, 0, none⟩, cr, some ⟨gw, 0, none⟩, cw, rfl, HOK.out, HPE.out, HB2.out⟩
end Go.Proofs.Ytlbnebmdolnagaa

namespace Go.Proofs.Ytlbnebmdolnagaa
open Go.RowKit Go.Lib

set_option maxRecDepth 100000 in
set_option maxHeartbeats 4000000 in
theorem same8_any (p q : List Nat) (v1 v2 : Value) (w : World) (h1 : Ints w w.heap.size v1 (barL p)) (h2 : Ints w w.heap.size v2 (barL q)) : Calls Try.prog 16 #[v1, v2] w (RetB (.bool (decide (p = q))) w) := by
  obtain ⟨A, c, rfl, hc, hm⟩ := h1.sl
  obtain ⟨A2, c2, rfl, hc2, hm2⟩ := h2.sl
  unfold maxLen at hm hm2
  rw [barL_len] at h1 hc h2 hc2 ⊢
  rw [barL_len]
  have HI := Lib.hid h1
  have HI2 := Lib.hid h2
  refine calls_aft fun x0 => ?_
  obtain ⟨r, hr⟩ : ∃ r, r = decide (p = q) := ⟨_, rfl⟩
  rw [← hr]
  have HR := Lib.hid hr
  clear h1 h2 hr
  by_cases hl : p.length = q.length
  · have hlb : ((p.length : Int) != (q.length : Int)) = false := by simp [hl]
    have HLE := Lib.hid hl
    clear hl
    go_enter Try.func16, Try.ntmps16
    go_wp2
    go_loopw [5] (fun i wr => ∃ (k : Nat) (y : Aft w), k ≤ p.length ∧ i = .int .i64 (k : Int) ∧ p.take k = q.take k ∧ wr = y.val) (fun i _ => p.length - (RowKit.intOf i).toNat)
    case atStart => exact ⟨0, x0, Nat.zero_le _, rfl, rfl, rfl⟩
    case round =>
      obtain ⟨k, yy, hk, rfl, heq, rfl⟩ := hrel
      have HEQ := Lib.hid heq
      clear heq
      by_cases hlt : k < p.length
      · have hlt2 : k < q.length := by have := HLE.out; omega
        have hget : p[k]? = some p[k] := List.getElem?_eq_getElem hlt
        have hget2 : q[k]? = some q[k] := List.getElem?_eq_getElem hlt2
        obtain ⟨b, off, rfl, hb, u0⟩ := ints_get HI.out (barL_get hget)
        obtain ⟨b2, off2, rfl, hb2, u1⟩ := ints_get HI2.out (barL_get hget2)
        have u0 := fun y : Aft w => y.cell u0
        have u1 := fun y : Aft w => y.cell u1
        have HT1 := Lib.hid (List.take_succ_eq_append_getElem hlt)
        have HT2 := Lib.hid (List.take_succ_eq_append_getElem hlt2)
        have HG1 := Lib.hid hget
        have HG2 := Lib.hid hget2
        have hki : (k : Int) < (p.length : Int) := by omega
        have hki2 : (k : Int) < (q.length : Int) := by omega
        have hk0 : (0 : Int) ≤ (k : Int) := by omega
        generalize p[k] = x at *
        generalize q[k] = y at *
        clear hget hget2
        by_cases hxy : x = y
        · have hne : ((x : Int) != (y : Int)) = false := by simp [hxy]
          have HN : Hid (p.take (k + 1) = q.take (k + 1)) := Lib.hid (by rw [HT1.out, HT2.out, HEQ.out, hxy])
          clear hxy
          go_upto_region 6 with (fail)
          refine wp_region_at (by kernel_rfl) (by kernel_rfl) ?_
          repeat (go_big_quiet_step (fail))
          refine wpQuiet_nil ?_
          rintro _ ⟨y2, rfl⟩
          go_wp2
          go_roundw
          case rel => exact ⟨k + 1, y2, by omega, by go_num, HN.out, rfl⟩
          case measure => simp [RowKit.intOf]; omega
        · have hne : ((x : Int) != (y : Int)) = true := by simp; omega
          have HE : Hid (r = false) := Lib.hid (by
            rw [HR.out, decide_eq_false_iff_not]
            intro e
            have h1 := HG1.out
            rw [e, HG2.out] at h1
            injection h1 with h1
            exact hxy h1.symm)
          clear hxy
          go_upto_region 6 with (fail)
          refine wp_region_at (by kernel_rfl) (by kernel_rfl) ?_
          repeat (go_big_quiet_step (fail))
          refine wpQuiet_nil ?_
          rintro _ ⟨y2, rfl⟩
          go_wp2
          go_ret
          exact ⟨by rw [HE.out]; rfl, y2.ok⟩
      · have hge : ¬ (k : Int) < (p.length : Int) := by omega
        have HE : Hid (r = true) := Lib.hid (by
          have h1 := HEQ.out
          have := HLE.out
          rw [List.take_of_length_le (by omega), List.take_of_length_le (by omega)] at h1
          rw [HR.out, h1]
          simp)
        go_wp2
        go_ret
        exact ⟨by rw [HE.out]; rfl, yy.ok⟩
  · have hlb : ((p.length : Int) != (q.length : Int)) = true := by simp; omega
    have HE : Hid (r = false) := Lib.hid (by
      rw [HR.out, decide_eq_false_iff_not]
      intro e
      exact hl (by rw [e]))
    clear hl
    go_enter Try.func16, Try.ntmps16
    go_wp2
    go_ret
    exact ⟨by rw [HE.out]; rfl, x0.ok⟩
def WithoutPost (l : List Nat) (d : Nat) (w : World) (e : Ending) (w' : World) : Prop :=
  ∃ v, e = .returned v ∧ Ints w' w'.heap.size v (barL (l.map (dn d))) ∧ Below w.heap.size w w'
set_option maxRecDepth 100000 in
set_option maxHeartbeats 4000000 in
theorem without_any (l : List Nat) (d : Nat) (hd : d ≤ 1000) (hl : l.length ≤ 1000) (hx : ∀ x ∈ l, x ≤ 1000) (v : Value) (w : World) (h : Ints w w.heap.size v (barL l)) : Calls Try.prog 17 #[v, .int .i64 (d : Int)] w (WithoutPost l d w) := by
  obtain ⟨A, c, rfl, hc, hm⟩ := h.sl
  rw [barL_len] at h hc ⊢
  obtain ⟨i0, hi, hz0, hz1, hz2⟩ := info_parts Try.infoC64
  have HX := Lib.hid hx
  have HI := Lib.hid (fun y : Aft w => (SlR.on h (Pl.stays _) y.ok y.ok.size : Ints y.val y.val.heap.size _ _))
  have HO0 := Lib.hid (NumO.start w)
  have HB0 : Hid (Below w.heap.size w (w.alloc (.cells #[] 2))) := Lib.hid ((Below.refl _ _).alloc (Nat.le_refl _) _)
  clear h hx
  go_enter Try.func17, Try.ntmps17
  go_wp2
  go_loopw [5, 6, 7] (fun o i _ wr => ∃ (k g cap : Nat), k ≤ l.length ∧ i = .int .i64 (k : Int) ∧ o = .slice (some ⟨g, 0, none⟩) k cap ∧ NumO wr w.heap.size g cap (barL ((l.take k).map (dn d))) ∧ Below w.heap.size w wr) (fun _ i _ _ => l.length - (RowKit.intOf i).toNat)
  case atStart => exact ⟨0, w.heap.size, 0, Nat.zero_le _, rfl, rfl, HO0.out, HB0.out⟩
  case round =>
    obtain ⟨k, g, cap, hk, rfl, rfl, ho, hb⟩ := hrel
    have HO := Lib.hid ho
    have HB := Lib.hid hb
    have hbl : (barL ((l.take k).map (dn d))).length = k := by rw [barL_len, List.length_map, List.length_take]; omega
    clear ho hb HO0 HB0
    by_cases hlt : k < l.length
    · have hget : l[k]? = some l[k] := List.getElem?_eq_getElem hlt
      obtain ⟨b, off, rfl, hb, u0⟩ := ints_get (HI.out ⟨wr, HB.out⟩) (barL_get hget)
      have HT := Lib.hid (List.take_succ_eq_append_getElem hlt)
      have hx1 := HX.out _ (List.getElem_mem hlt)
      have hki : (k : Int) < (l.length : Int) := by omega
      have hk0 : (0 : Int) ≤ (k : Int) := by omega
      generalize l[k] = x at *
      have HROW := Lib.hid HO.out.row
      rw [hbl] at HROW
      have hwB := HB.out.size
      clear hget
      by_cases h1 : d < x
      · have hd1 : decide (d < x) = true := decide_eq_true h1
        have hd2 : (d : Int) < (x : Int) := by omega
        obtain ⟨z, hz⟩ : ∃ z, z = x - 1 := ⟨_, rfl⟩
        have HSS : Hid ((l.take (k + 1)).map (dn d) = (l.take k).map (dn d) ++ [z]) := Lib.hid (by rw [HT.out, List.map_append, hz]; show _ ++ [dn d x] = _; unfold dn; rw [if_pos h1])
        have hzw : IntKind.i64.wrap ((x : Int) - 1) = (z : Int) := by rw [IntKind.wrap_i64]; omega
        have hze : (x : Int) - 1 = (z : Int) := by omega
        clear hz
        go_wp2_with (at_builtin; refine wpList_append_own_at _ rfl _ _ 25 rfl w.heap.size 2 i0 (.int .i64 0) 1 8 Try.underlying25 hi hz0 hz1 hz2 rfl (by decide) _ _ _ rfl (HROW.out.alloc _) ⟨wr.heap.size, 0, none⟩ 1 1 (intCells (z : Int)) rfl rfl (fun j u hj => new_at hj) (fun u hu => int_one' _ hu) ?c3 ?c4 (base_le hwB) ?_)
        case c3 => unfold maxLen; omega
        case c4 => omega
        intro v' w9 hown' hgrow hiff hat
        obtain ⟨g9, cap9, rfl, hdc9, hcm9⟩ := own_some hown' (by simpa using hiff)
        have HB9 := Lib.hid ((HB.out.alloc hwB (.cells #[.int .i64 (z : Int)] 2)).grown hgrow (base_le hwB) (fun j hj => (HROW.out.lt j hj).1))
        have HO9 : Hid (NumO w9 w.heap.size g9 cap9 (barL ((l.take (k + 1)).map (dn d)))) := Lib.hid (by
          unfold NumO
          rw [HSS.out, barL_snoc', flat_snoc, List.length_append, hbl, List.map_take]
          exact hown')
        clear hown' hgrow hiff hat
        go_wp2
        go_roundw
        case rel => exact ⟨k + 1, g9, cap9, by omega, by go_num, rfl, HO9.out, HB9.out⟩
        case measure => simp [RowKit.intOf]; omega
      · have hd1 : decide (d < x) = false := decide_eq_false h1
        have hd2 : ¬ (d : Int) < (x : Int) := by omega
        obtain ⟨z, hz⟩ : ∃ z, z = x := ⟨_, rfl⟩
        have HSS : Hid ((l.take (k + 1)).map (dn d) = (l.take k).map (dn d) ++ [z]) := Lib.hid (by rw [HT.out, List.map_append, hz]; show _ ++ [dn d x] = _; unfold dn; rw [if_neg h1])
        subst hz
        go_wp2_with (at_builtin; refine wpList_append_own_at _ rfl _ _ 25 rfl w.heap.size 2 i0 (.int .i64 0) 1 8 Try.underlying25 hi hz0 hz1 hz2 rfl (by decide) _ _ _ rfl (HROW.out.alloc _) ⟨wr.heap.size, 0, none⟩ 1 1 (intCells (z : Int)) rfl rfl (fun j u hj => new_at hj) (fun u hu => int_one' _ hu) ?c3 ?c4 (base_le hwB) ?_)
        case c3 => unfold maxLen; omega
        case c4 => omega
        intro v' w9 hown' hgrow hiff hat
        obtain ⟨g9, cap9, rfl, hdc9, hcm9⟩ := own_some hown' (by simpa using hiff)
        have HB9 := Lib.hid ((HB.out.alloc hwB (.cells #[.int .i64 (z : Int)] 2)).grown hgrow (base_le hwB) (fun j hj => (HROW.out.lt j hj).1))
        have HO9 : Hid (NumO w9 w.heap.size g9 cap9 (barL ((l.take (k + 1)).map (dn d)))) := Lib.hid (by
          unfold NumO
          rw [HSS.out, barL_snoc', flat_snoc, List.length_append, hbl, List.map_take]
          exact hown')
        clear hown' hgrow hiff hat
        go_wp2
        go_roundw
        case rel => exact ⟨k + 1, g9, cap9, by omega, by go_num, rfl, HO9.out, HB9.out⟩
        case measure => simp [RowKit.intOf]; omega
    · have hge : ¬ (k : Int) < (l.length : Int) := by omega
      have HIE := Lib.hid HO.out.ints
      rw [hbl, List.take_of_length_le (by omega)] at HIE
      go_wp2
      go_ret
      exact ⟨_, rfl, HIE.out, HB.out⟩
end Go.Proofs.Ytlbnebmdolnagaa
