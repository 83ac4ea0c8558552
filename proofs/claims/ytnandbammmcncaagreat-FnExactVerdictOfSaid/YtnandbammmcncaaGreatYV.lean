/- An act entered among acts, plain; parts of acts in memory. An act entered among acts, walked: the reference's. slices.Insert at acts, walked: one element comes (as at articles). An act entered among acts, walked: the program's. The verdict on a motion, plain; walked: the reference's. The verdict on a motion, walked: the program's. -/
import Derived.Test.YtnandbammmcncaaGreatYG
import Derived.Test.YtnandbammmcncaaGreatQE
import Derived.Test.YtnandbammmcncaaGreatQC
namespace Go.Proofs.YtnandbammmcncaaGreat
open Go.RowKit Go.Lib

def enterAt : List Acta → Int → Nat
  | [], _ => 0
  | a :: l, d => if a.beg ≤ d then enterAt l d + 1 else 0
theorem enterAt_le : ∀ (l : List Acta) (d : Int), enterAt l d ≤ l.length
  | [], _ => Nat.le_refl _
  | a :: l, d => by
    unfold enterAt
    split
    · have := enterAt_le l d; simp; omega
    · simp
theorem enterAt_lt : ∀ (l : List Acta) (d : Int) (k : Nat) (a : Acta), l[k]? = some a → k < enterAt l d → a.beg ≤ d
  | [], _, _, _, h, _ => by simp at h
  | b :: l, d, k, a, h, hk => by
    unfold enterAt at hk
    split at hk
    · rename_i hb
      cases k with
      | zero => simp at h; rw [← h]; exact hb
      | succ k => exact enterAt_lt l d k a (by simpa using h) (by omega)
    · omega
theorem enterAt_at : ∀ (l : List Acta) (d : Int) (a : Acta), l[enterAt l d]? = some a → ¬ a.beg ≤ d
  | [], _, _, h => by simp [enterAt] at h
  | b :: l, d, a, h => by
    unfold enterAt at h
    split at h
    · exact enterAt_at l d a (by simpa using h)
    · rename_i hb
      simp at h
      rw [← h]
      exact hb
theorem enterAt_eq {l : List Acta} {d : Int} {k : Nat} (hk : k ≤ l.length) (h : ∀ (j : Nat) (a : Acta), l[j]? = some a → j < k → a.beg ≤ d) (hx : k = l.length ∨ ∃ a, l[k]? = some a ∧ ¬ a.beg ≤ d) : enterAt l d = k := by
  rcases Nat.lt_trichotomy (enterAt l d) k with e | e | e
  · have hl : enterAt l d < l.length := by omega
    exact absurd (h _ _ (List.getElem?_eq_getElem hl) e) (enterAt_at l d _ (List.getElem?_eq_getElem hl))
  · exact e
  · rcases hx with hx | ⟨a, ha, hn⟩
    · have := enterAt_le l d; omega
    · exact absurd (enterAt_lt l d k a ha e) hn
def enterL (l : List Acta) (x : Acta) : List Acta := l.take (enterAt l x.beg) ++ x :: l.drop (enterAt l x.beg)
theorem enterL_len (l : List Acta) (x : Acta) : (enterL l x).length = l.length + 1 := by
  have := enterAt_le l x.beg
  unfold enterL
  simp
  omega
theorem okActs_all {L : List Acta} (h1 : ∀ a ∈ L, okActa a = true) (h2 : ∀ (m : Nat) (d a : Acta), L[m]? = some d → L[m + 1]? = some a → d.beg ≤ a.beg) (h3 : L.length ≤ 8) : okActs L = true := by
  unfold okActs
  rw [Bool.and_eq_true, allLt_true, decide_eq_true_eq]
  refine ⟨fun k hk => ?_, h3⟩
  have hg : L[k]? = some L[k] := List.getElem?_eq_getElem hk
  cases k with
  | zero => exact actAt_zero rfl hg (h1 _ (List.getElem_mem hk))
  | succ k =>
    have hg2 : L[k]? = some L[k] := List.getElem?_eq_getElem (by omega)
    rw [actAt_succ hg2 hg (h1 _ (List.getElem_mem hk)), decide_eq_true_eq]
    exact h2 k _ _ hg2 hg
theorem enterL_ok {l : List Acta} {x : Acta} (h : okActs l = true) (hx : okActa x = true) (h8 : l.length < 8) : okActs (enterL l x) = true := by
  have hle := enterAt_le l x.beg
  refine okActs_all (fun a ha => ?_) (fun m d a hd ha => ?_) (by rw [enterL_len]; omega)
  · unfold enterL at ha
    have hin : ∀ b ∈ l, okActa b = true := fun b hb => by
      obtain ⟨k, hk⟩ := List.getElem?_of_mem hb
      exact okActs_at h hk
    rcases List.mem_append.1 ha with ha | ha
    · exact hin a (List.mem_of_mem_take ha)
    · rcases List.mem_cons.1 ha with rfl | ha
      · exact hx
      · exact hin a (List.mem_of_mem_drop ha)
  · have hget : ∀ j, (enterL l x)[j]? = if j < enterAt l x.beg then l[j]? else if j = enterAt l x.beg then some x else l[j - 1]? := fun j => by
      unfold enterL
      have hlt : (l.take (enterAt l x.beg)).length = enterAt l x.beg := by rw [List.length_take]; omega
      by_cases h1 : j < enterAt l x.beg
      · rw [if_pos h1, List.getElem?_append_left (by omega), List.getElem?_take, if_pos h1]
      · rw [if_neg h1, List.getElem?_append_right (by omega), hlt]
        by_cases h2 : j = enterAt l x.beg
        · rw [if_pos h2, h2, Nat.sub_self]
          rfl
        · rw [if_neg h2]
          obtain ⟨i, hi⟩ : ∃ i, j - enterAt l x.beg = i + 1 := ⟨j - enterAt l x.beg - 1, by omega⟩
          rw [hi, List.getElem?_cons_succ, List.getElem?_drop]
          congr 1
          omega
    rw [hget] at hd ha
    by_cases c1 : m + 1 < enterAt l x.beg
    · rw [if_pos c1] at ha
      rw [if_pos (by omega)] at hd
      exact okActs_step h hd ha
    · rw [if_neg c1] at ha
      by_cases c2 : m + 1 = enterAt l x.beg
      · rw [if_pos c2] at ha
        rw [if_pos (by omega)] at hd
        injection ha with ha
        rw [← ha]
        exact enterAt_lt l x.beg m d hd (by omega)
      · rw [if_neg c2] at ha
        by_cases c3 : m = enterAt l x.beg
        · rw [if_neg (by omega), if_pos c3] at hd
          injection hd with hd
          rw [Nat.add_sub_cancel, c3] at ha
          have := enterAt_at l x.beg a ha
          rw [← hd]
          omega
        · rw [if_neg (by omega), if_neg c3] at hd
          rw [Nat.add_sub_cancel] at ha
          have he : m - 1 + 1 = m := by omega
          exact okActs_step h hd (by rw [he]; exact ha)
def actOf (m : Mot) : Acta := ⟨m.beg, m.fin, m.pat⟩
theorem actOf_ok {m : Mot} {day n : Int} (h : okMot m day n = true) : okActa (actOf m) = true := by
  unfold okMot at h
  simp only [Bool.and_eq_true] at h
  have hp := h.1.1.1.1.1.2
  have hs := h.1.1.1.1.2
  unfold spanB at hs
  simp only [Bool.and_eq_true, inB_iff] at hs
  exact okActa_iff.2 ⟨by show 0 ≤ m.beg; omega, by show m.beg ≤ 1000; omega, by show 0 ≤ m.fin; omega, by show m.fin ≤ 1000; omega, by show m.beg < m.fin; omega, hp⟩
open Classical in
noncomputable def entOk (S : List Art) (l : List Acta) (x : Acta) : Bool := decide (l.length < 8) && decide (AllDays S (enterL l x))
theorem SlR.drop {α : Type} {R : World → Nat → List Value → α → Prop} {size : Nat} {w : World} {B b off n c : Nat} {xs : List α} (h : SlR R size w B (.slice (some ⟨b, off, none⟩) n c) xs) (k : Nat) (hk : k ≤ xs.length) : SlR R size w B (.slice (some ⟨b, off + k * size, none⟩) (n - k) (c - k)) (xs.drop k) := by
  obtain ⟨A', c', hv, h1, h2, h3⟩ := h
  injection hv with e1 e2 e3
  subst e1 e3
  refine ⟨_, _, by rw [List.length_drop, e2], by rw [List.length_drop]; omega, by omega, fun h0 => ?_⟩
  rw [List.length_drop] at h0
  obtain ⟨b', off', e, hb, hc⟩ := h3 (by omega)
  injection e with e
  injection e with e1 e2
  subst e1 e2
  refine ⟨_, _, rfl, hb, fun j x hj => ?_⟩
  rw [List.getElem?_drop] at hj
  obtain ⟨us, hl, hp, hcell⟩ := hc (k + j) x hj
  refine ⟨us, hl, hp, fun i u hu => ?_⟩
  have := hcell i u hu
  rw [show off + k * size + j * size + i = off + (k + j) * size + i by rw [Nat.add_mul]; omega]
  exact this
theorem Acts.take {w : World} {B n c : Nat} {A : Option Addr} {ls : List Acta} (h : Acts w B (.slice A n c) ls) (k : Nat) (hk : k ≤ ls.length) : Acts w B (.slice A k c) (ls.take k) := by
  obtain ⟨L, rfl, h2, h3⟩ := h
  rw [List.length_map] at hk
  exact ⟨L.take k, by rw [List.map_take], h2.take k hk, fun x hx => h3 x (List.mem_of_mem_take hx)⟩
theorem Acts.drop {w : World} {B b off n c : Nat} {ls : List Acta} (h : Acts w B (.slice (some ⟨b, off, none⟩) n c) ls) (k : Nat) (hk : k ≤ ls.length) : Acts w B (.slice (some ⟨b, off + k * 3, none⟩) (n - k) (c - k)) (ls.drop k) := by
  obtain ⟨L, rfl, h2, h3⟩ := h
  rw [List.length_map] at hk
  exact ⟨L.drop k, by rw [List.map_drop], h2.drop k hk, fun x hx => h3 x (List.mem_of_mem_drop hx)⟩
theorem Acts.nil {w : World} {B c : Nat} {A : Option Addr} (hc : c ≤ maxLen) : Acts w B (.slice A 0 c) [] := ⟨[], rfl, SlR.nil _ _ _ _ _ _ hc, fun x hx => by cases hx⟩
end Go.Proofs.YtnandbammmcncaaGreat

namespace Go.Proofs.YtnandbammmcncaaGreat
open Go.RowKit Go.Lib

theorem own_lessV {w : World} {b base size n : Nat} {e : TypeId} {v : Value} {xs : List Value} (h : w.ownsRow base e size v n xs) (hb : b ≤ base) : w.ownsRow b e size v n xs := by
  obtain ⟨h1, h2 | ⟨g', c, cur, e, h3, h4⟩⟩ := h
  · exact ⟨h1, .inl h2⟩
  · exact ⟨h1, .inr ⟨g', c, cur, e, Nat.le_trans hb h3, h4⟩⟩
theorem ActsSt.less {b base : Nat} {w : World} {g cap : Nat} {L : List VAct} (h : ActsSt base w g cap L) (hb : b ≤ base) : ActsSt b w g cap L :=
  ⟨own_none _ _, fun h => absurd rfl h, own_none _ _, fun h => absurd rfl h, own_lessV h.row hb, fun x hx => ⟨(h.pats x hx).1.less hb, (h.pats x hx).2⟩⟩
theorem ActsSt.below {base : Nat} {w w' : World} {g cap : Nat} {L : List VAct} (h : ActsSt base w g cap L) (hb : Below w.heap.size w w') : ActsSt base w' g cap L := DrawSt.below h hb
/-- Two lists of acts joined: the second was made behind the first. -/
theorem ActsSt.join {base base2 : Nat} {w w' : World} {g cap g2 cap2 g' cap' : Nat} {L M : List VAct} (h : ActsSt base w g cap L) (h2 : ActsSt base2 w g2 cap2 M) (hb : base ≤ base2) (hgb : g < base2) (hg : w.grownBy w' (some g)) (hor : g' = g ∨ g' = w.heap.size)
    (hrow : w'.ownsRow base 144 3 (.slice (some ⟨g', 0, none⟩) (L.length + M.length) cap') (L.length + M.length) (L.flatMap vCells ++ M.flatMap vCells)) : ActsSt base w' g' cap' (L ++ M) := by
  refine ⟨own_none _ _, fun h => absurd rfl h, own_none _ _, fun h => absurd rfl h, by rw [List.length_append, List.flatMap_append]; exact hrow, fun x hx => ?_⟩
  have key : ∀ (bb : Nat), OwnL editCells x.a.pat bb w x.v → base ≤ bb → (x.a.pat ≠ [] → x.v.ownBlock ≠ some g) → SizesOk x.a.pat → OwnL editCells x.a.pat base w' x.v ∧ (x.a.pat ≠ [] → x.v.ownBlock ≠ some g') ∧ SizesOk x.a.pat := fun bb ho hbb hn hs => by
    refine ⟨(ho.less hbb).touch (F := fun b => b = g) (Touch.of_grown hg (fun b hb => by injection hb with hb; exact hb.symm)) (fun b hb e => hn hb.1 (by rw [hb.2, e])), fun h0 e => ?_, hs⟩
    rcases hor with e' | e'
    · rw [e'] at e; exact hn h0 e
    · obtain ⟨j, hj, h1, h3⟩ := ho.blk h0
      rw [hj] at e
      injection e with e
      omega
  rcases List.mem_append.1 hx with hx | hx
  · obtain ⟨p1, p2, p3⟩ := h.pats x hx
    exact key base p1 (Nat.le_refl _) p2 p3
  · obtain ⟨p1, p2, p3⟩ := h2.pats x hx
    refine key base2 p1 hb (fun h0 e => ?_) p3
    obtain ⟨j, hj, h1, h3⟩ := p1.blk h0
    rw [hj] at e
    injection e with e
    omega
theorem ActsSt.one {base : Nat} {w : World} {g cap : Nat} {L : List VAct} (h : ActsSt base w g cap L) : ∀ u ∈ L.flatMap vCells, u.oneCell' = true := fun u hu => by
  obtain ⟨x, hx, hu⟩ := List.mem_flatMap.1 hu
  obtain ⟨A, c, hv, _⟩ := (h.pats x hx).1
  exact vact_one hv hu
theorem okActs_take {l : List Acta} (h : okActs l = true) (k : Nat) : okActs (l.take k) = true := by
  refine okActs_all (fun a ha => ?_) (fun m d a hd ha => ?_) (by have := okActs_len h; rw [List.length_take]; omega)
  · obtain ⟨j, hj⟩ := List.getElem?_of_mem (List.mem_of_mem_take ha)
    exact okActs_at h hj
  · rw [List.getElem?_take] at hd ha
    split at hd
    · split at ha
      · exact okActs_step h hd ha
      · cases ha
    · cases hd
theorem okActs_drop {l : List Acta} (h : okActs l = true) (k : Nat) : okActs (l.drop k) = true := by
  refine okActs_all (fun a ha => ?_) (fun m d a hd ha => ?_) (by have := okActs_len h; rw [List.length_drop]; omega)
  · obtain ⟨j, hj⟩ := List.getElem?_of_mem (List.mem_of_mem_drop ha)
    exact okActs_at h hj
  · rw [List.getElem?_drop] at hd ha
    exact okActs_step h hd ha
/-- What entering hands back. -/
def EnterPost (S : List Art) (ls : List Acta) (x : Acta) (w : World) (e : Ending) (w' : World) : Prop :=
  ∃ A n c, e = .returned (.tuple #[.slice A n c, .bool (entOk S ls x)]) ∧
    (entOk S ls x = true → ∃ g L, A = some ⟨g, 0, none⟩ ∧ n = L.length ∧ L.map (·.a) = enterL ls x ∧ ActsSt w.heap.size w' g c L) ∧ Below w.heap.size w w'
theorem entOk_yes {S : List Art} {ls : List Acta} {x : Acta} (h8 : ls.length < 8) (h : AllDays S (enterL ls x)) : entOk S ls x = true := by unfold entOk; simp [h8, h]
theorem entOk_no {S : List Art} {ls : List Acta} {x : Acta} (h : ¬ AllDays S (enterL ls x)) : entOk S ls x = false := by unfold entOk; simp [h]
theorem entOk_eight {S : List Art} {ls : List Acta} {x : Acta} (h : ¬ ls.length < 8) : entOk S ls x = false := by unfold entOk; rw [decide_eq_false h, Bool.false_and]

set_option maxRecDepth 100000 in
set_option maxHeartbeats 8000000 in
theorem enter1_any (S : List Art) (ls : List Acta) (a : Acta) (vs va : Value) (bm om : Nat) (pA : Option Addr) (pc : Nat) (w : World) (hS : Arts w w.heap.size vs S) (hA : Acts w w.heap.size va ls) (hst : okStat S = true) (hok : okActs ls = true) (ha : okActa a = true)
    (k2 : w.cell? ⟨bm, om + 2, none⟩ = some (.slice pA a.pat.length pc)) (k3 : w.cell? ⟨bm, om + 3, none⟩ = some (.int .i64 a.beg)) (k4 : w.cell? ⟨bm, om + 4, none⟩ = some (.int .i64 a.fin)) (hE0 : Edits w w.heap.size (.slice pA a.pat.length pc) a.pat) :
    Calls Tryz.prog 122 #[vs, va, .pointer (some ⟨bm, om, none⟩)] w (EnterPost S ls a w) := by
  obtain ⟨A, c, rfl, hc, hm, hel⟩ := acts_at hA
  have hl8 := okActs_len hok
  have HAC := Lib.hid (fun W (hb : Below w.heap.size w W) => hA.on hb hb.size)
  have HST := Lib.hid (fun W (hb : Below w.heap.size w W) => (SlR.on hS (Pl.stays _) hb hb.size : Arts W W.heap.size vs S))
  have HE : Hid (∀ W, Below w.heap.size w W → Edits W W.heap.size (.slice pA a.pat.length pc) a.pat) := Lib.hid (fun W h => SlR.on hE0 (Pl.stays _) h h.size)
  have hbm : bm < w.heap.size := World.block_lt_of_cell? w _ k2
  have z2 := fun y : Aft w => y.cell k2
  have z3 := fun y : Aft w => y.cell k3
  have z4 := fun y : Aft w => y.cell k4
  have HEL := Lib.hid hel
  have HOK := Lib.hid hok
  have HAA := Lib.hid ha
  have HPZ := Lib.hid (sizesOk_of (okActa_iff.1 ha).pat)
  have HPL := okPatch_len (okActa_iff.1 ha).pat
  have HSO := Lib.hid hst
  unfold maxLen at hm
  obtain ⟨A0, c0', rfl, _⟩ := hS
  unfold EnterPost
  refine calls_aft fun x0 => ?_
  clear hA hel hst hok ha hE0
  by_cases h8 : ls.length < 8
  case neg =>
    have hge : (8 : Int) ≤ (ls.length : Int) := by omega
    have HN := entOk_eight (S := S) (x := a) h8
    rw [HN]
    clear HN
    go_enter Tryz.func122, Tryz.ntmps122
    go_wp2
    go_ret2
    exact ⟨_, _, _, rfl, (fun h => by cases h), x0.ok⟩
  have hlt8 : ¬ (8 : Int) ≤ (ls.length : Int) := by omega
  have HC2 := Lib.hid k2
  have HC3 := Lib.hid k3
  have HC4 := Lib.hid k4
  clear k2 k3 k4
  go_enter Tryz.func122, Tryz.ntmps122
  go_wp2
  go_loopw [8] (fun i wr => ∃ (k : Nat) (y : Aft w), k ≤ ls.length ∧ i = .int .i64 (k : Int) ∧ wr = y.val ∧ (∀ j b, ls[j]? = some b → j < k → b.beg ≤ a.beg)) (fun i _ => ls.length - (RowKit.intOf i).toNat)
  case atStart => exact ⟨0, x0, Nat.zero_le _, rfl, rfl, fun j b _ hj => absurd hj (Nat.not_lt_zero _)⟩
  case round =>
    obtain ⟨k, y, hk, rfl, rfl, hbe⟩ := hrel
    have HBE := Lib.hid hbe
    clear hbe
    by_cases hlt : k < ls.length
    · obtain ⟨b, off, hA, hb, hcell⟩ := HEL.out (by omega)
      subst hA
      have hget : ls[k]? = some ls[k] := List.getElem?_eq_getElem hlt
      obtain ⟨pv, c0, _, _, _⟩ := hcell k _ hget
      have x1 := fun y : Aft w => y.cell c0
      have HG := Lib.hid hget
      have hki : (k : Int) < (ls.length : Int) := by omega
      clear hget c0 hcell
      generalize ls[k] = q at *
      by_cases hq : q.beg ≤ a.beg
      · have hd : decide (q.beg ≤ a.beg) = true := by simp [hq]
        have HN : Hid (∀ j b, ls[j]? = some b → j < k + 1 → b.beg ≤ a.beg) := Lib.hid (fun j b hj hjk => by
          by_cases e : j = k
          · subst e
            rw [HG.out] at hj
            injection hj with hj
            rw [← hj]
            exact hq
          · exact HBE.out j b hj (by omega))
        go_upto_region 4 with (fail)
        refine wp_region_at (by kernel_rfl) (by kernel_rfl) ?_
        repeat (go_big_quiet_step (fail))
        refine wpQuiet_nil ?_
        rintro _ ⟨u, rfl⟩
        go_wp2
        go_roundw
        case rel => exact ⟨k + 1, u, by omega, by go_num, rfl, HN.out⟩
        case measure => simp [RowKit.intOf]; omega
      · have hd : decide (q.beg ≤ a.beg) = false := by simp; omega
        go_upto_region 4 with (fail)
        refine wp_region_at (by kernel_rfl) (by kernel_rfl) ?_
        repeat (go_big_quiet_step (fail))
        refine wpQuiet_nil ?_
        rintro _ ⟨u, rfl⟩
        clear x1
        have HAT : Hid (enterAt ls a.beg = k) := Lib.hid (enterAt_eq hk HBE.out (Or.inr ⟨q, HG.out, hq⟩))
        have HO1 := Lib.hid (own1_any (ls.take k) u.val _ ((HAC.out _ u.ok).take k hk) (okActs_take HOK.out k))
        have hkc : (k : Int) ≤ (c : Int) := by omega
        have hk0 : (0 : Int) ≤ (k : Int) := by omega
        unfold CopyPost at HO1
        have HUB := Lib.hid u.ok
        go_wp2_with (fail)
        refine HO1.out.mono ?_
        rintro e w3 ⟨g, cap, L, rfl, hLm, hD, hb3⟩
        have hLk : L.length = k := by
          have := congrArg List.length hLm
          rw [List.length_map, List.length_take] at this
          omega
        have HD := Lib.hid (hD.less HUB.out.size)
        have HB := Lib.hid (HUB.out.trans (hb3.mono HUB.out.size))
        have HLM := Lib.hid hLm
        have hgbm := (hD.row.lt g rfl).1
        have hus := HUB.out.size
        have hbg : bm ≠ g := by omega
        have x0 := (HB.out.cell (p := ⟨bm, om + 3, none⟩) hbm).trans HC3.out
        have x1 := (HB.out.cell (p := ⟨bm, om + 4, none⟩) hbm).trans HC4.out
        have x2 := (HB.out.cell (p := ⟨bm, om + 2, none⟩) hbm).trans HC2.out
        have HDW := HD
        have HBW := HB
        obtain ⟨i0, hi, hz0, hz1', hz2⟩ := info_parts Tryz.infoAct
        obtain ⟨e0, hie, he0, he1, he2⟩ := info_parts Tryz.infoE
        clear hLm hD hb3 hus hgbm z2 z3 z4
        go_wp2_with (fail)
        have hWs : w3.heap.size = w3.heap.size := by simp
        have hgw : g < w3.heap.size := by have := (HDW.out.row.lt g rfl).2; rw [hWs] at this; exact this
        have hwB : w.heap.size ≤ w3.heap.size := by have := HBW.out.size; rw [hWs] at this; exact this
        have hb1 : Below w3.heap.size w3 (w3.alloc (.cells #[] 162)).drew := ((Below.refl _ _).alloc (by rw [hWs]; exact Nat.le_refl _) _).drew
        have hB1s : w3.heap.size ≤ (w3.alloc (.cells #[] 162)).drew.heap.size := by rw [← hWs]; exact hb1.size
        have HB1 := Lib.hid hb1
        have hown1 : (w3.alloc (.cells #[] 162)).ownsRow w3.heap.size 162 4 (.slice (some ⟨w3.heap.size, 0, none⟩) 0 0) 0 [] := by rw [← hWs]; simpa using World.ownsRow_made w3 #[] 0 (Nat.le_refl _) (Nat.zero_le _) rfl
        have HOWN1 := Lib.hid hown1.drew
        have HS1 := Lib.hid (HE.out _ (HBW.out.trans (hb1.mono hwB)))
        clear hown1 hb1
        have hgl := hLk
        try rw [hLk]
        go_region_held3 (fun w' => w'.cell? ⟨bm, om + 3, none⟩ = some (.int .i64 a.beg) ∧ w'.cell? ⟨bm, om + 4, none⟩ = some (.int .i64 a.fin) ∧ w'.cell? ⟨bm, om + 2, none⟩ = some (.slice pA a.pat.length pc))
          (first | exact ⟨x0, x1, x2⟩ | exact keepA ⟨x0, x1, x2⟩ ((Below.refl _ _).drew) | exact keepA ⟨x0, x1, x2⟩ ((Below.refl _ _).alloc (Nat.le_refl _) _) | exact keepA ⟨x0, x1, x2⟩ (((Below.refl _ _).alloc (Nat.le_refl _) _).drew) | exact keepA' ⟨x0, x1, x2⟩ HB2.out hWs | exact keepA (keepA' ⟨x0, x1, x2⟩ HB2.out hWs) ((Below.refl _ _).alloc (Nat.le_refl _) _) | exact keepG (keepA (keepA' ⟨x0, x1, x2⟩ HB2.out hWs) ((Below.refl _ _).alloc (Nat.le_refl _) _)) hgrow hbg hbg hbg | go_keep)
          (first
            | (refine step_append_slR editCells (by rfl) _ _ 53 (by rfl) w3.heap.size 162 e0 (.agg #[.int .i64 0, .int .i64 0, .string ⟨#[]⟩, .string ⟨#[]⟩]) 4 48 Tryz.underlying53 hie he0 he1 he2 rfl (by decide) _ _ _ (by rfl) HOWN1.out _ a.pat _ (by rfl) HS1.out (fun _ => rfl) (fun y u hu => edit_one hu) (by unfold maxLen; omega) (by omega) hB1s ?_
               intro v2 w2 hown2 hgrow2 hnn2
               have HO2 : Hid (OwnL editCells a.pat w3.heap.size w2 v2) := Lib.hid (OwnL.of_own editCells (size := 4) (fun _ => rfl) (by simpa using hown2))
               have HB2 : Hid (Below w3.heap.size w3 w2) := Lib.hid (HB1.out.grown hgrow2 hB1s (fun j hj => (HOWN1.out.lt j hj).1))
               have HD2 := Lib.hid (DrawSt.below HDW.out (by rw [hWs]; exact HB2.out))
               have HBW2 := Lib.hid (HBW.out.trans (HB2.out.mono hwB))
               have HPN : Hid (a.pat ≠ [] → v2.ownBlock ≠ some g) := Lib.hid (fun h0 e => by
                 obtain ⟨j, hj, h1, _⟩ := HO2.out.blk h0
                 rw [hj] at e
                 injection e with e
                 omega)
               obtain ⟨A2, c2, rfl, _⟩ := HO2.out
               have HP2 := Lib.hid (HO2.out.less hwB)
               have hba : Below w2.heap.size w2 (w2.alloc (.cells #[.int .i64 a.beg, .int .i64 a.fin, .slice A2 a.pat.length c2] 144)) := (Below.refl _ _).alloc (Nat.le_refl _) _
               have HDA := Lib.hid (DrawSt.below HD2.out hba)
               have HPA := Lib.hid (HP2.out.on hba)
               have HROW := Lib.hid (HD2.out.row.alloc (.cells #[.int .i64 a.beg, .int .i64 a.fin, .slice A2 a.pat.length c2] 144))
               rw [hgl] at HROW
               clear hown2 hgrow2 hnn2 hba)
            | (refine step_append_own_at (by rfl) _ _ 33 (by rfl) w.heap.size 144 i0 (.agg #[.int .i64 0, .int .i64 0, .slice none 0 0]) 3 40 Tryz.underlying33 hi hz0 hz1' hz2 rfl (by decide) _ _ _ (by rfl) HROW.out ⟨w2.heap.size, 0, none⟩ 1 1 (vCells ⟨⟨a.beg, a.fin, a.pat⟩, .slice A2 a.pat.length c2⟩) (by rfl) (by rfl) (fun j u hj => by have := (Row.new w2 (vCells ⟨⟨a.beg, a.fin, a.pat⟩, .slice A2 a.pat.length c2⟩).toArray 144).cell j u (by simpa using hj); rw [Addr.add_lit, Nat.zero_add]; exact this) (fun u hu => vact_one rfl hu) (by unfold maxLen; omega) (by omega) (base_le HBW2.out.size) ?_
               intro v' w9 hown' hgrow hiff hor
               obtain ⟨g', cap', rfl, hdc', hcm'⟩ := own_some hown' (by simpa using hiff)
               clear hiff))
        have HD9 := Lib.hid (HDA.out.push (x := ⟨⟨a.beg, a.fin, a.pat⟩, .slice A2 a.pat.length c2⟩) hgrow (by rcases hor with h | h <;> injection h with h; exact .inl h; exact .inr (by simpa using h)) (by rw [hgl]; exact hown') HPA.out HPN.out HPZ.out)
        have HB9 := Lib.hid ((HBW2.out.alloc HBW2.out.size (.cells #[.int .i64 a.beg, .int .i64 a.fin, .slice A2 a.pat.length c2] 144)).grown hgrow (base_le HBW2.out.size) (fun j hj => (HROW.out.lt j hj).1))
        clear hown' hgrow hor
        obtain ⟨X, hX⟩ : ∃ X, X = L ++ [(⟨⟨a.beg, a.fin, a.pat⟩, .slice A2 a.pat.length c2⟩ : VAct)] := ⟨_, rfl⟩
        rw [← hX] at HD9
        have HXM : Hid (X.map (·.a) = ls.take k ++ [a]) := Lib.hid (by rw [hX, List.map_append, HLM.out]; rfl)
        have HXL : Hid (X.length = k + 1) := Lib.hid (by rw [hX, List.length_append, hLk]; rfl)
        clear hX x0 x1 x2 HDW HDA HPA HPN HROW HD HD2 HO2 HB2 HP2 HBW2
        have hcn : ¬ c = k := by omega
        have HAC9 := Lib.hid (HAC.out w9 HB9.out)
        go_wp2_with (fail)
        refine (own1_any (ls.drop k) w9 _ (Acts.drop HAC9.out k hk) (okActs_drop HOK.out k)).mono ?_
        rintro e w10 ⟨g2, cap2, M, rfl, hM, hD5, hb10⟩
        have HD10 := Lib.hid (ActsSt.below HD9.out hb10)
        have HB10 := Lib.hid (HB9.out.trans (hb10.mono HB9.out.size))
        have HML := Lib.hid hM
        have hMl : M.length ≤ 8 := by
          have := congrArg List.length hM
          rw [List.length_map, List.length_drop] at this
          omega
        have HD5 := Lib.hid hD5
        have HR10 := Lib.hid HD10.out.row
        rw [HXL.out] at HR10
        have hg9 := (HD9.out.row.lt g' rfl).2
        have hs9 := HB9.out.size
        have hs10 := HB10.out.size
        clear hM hD5 hb10 HAC9
        go_wp2_with (at_builtin; refine wpList_append_own_at _ rfl _ _ 33 rfl w.heap.size 144 i0 (.agg #[.int .i64 0, .int .i64 0, .slice none 0 0]) 3 40 Tryz.underlying33 hi hz0 hz1' hz2 rfl (by decide) _ _ _ rfl HR10.out ⟨g2, 0, none⟩ M.length cap2 (M.flatMap vCells) rfl ?c1 ?c2 ?c5 ?c3 ?c4 hs10 ?_)
        case c1 => exact flat_len vCells (fun _ => rfl) M
        case c2 => exact HD5.out.row.cells (g := g2) rfl
        case c5 => exact ActsSt.one HD5.out
        case c3 => unfold maxLen; omega
        case c4 => omega
        intro v'' w11 hown' hgrow hiff hor
        obtain ⟨g11, cap11, rfl, hdc', hcm'⟩ := own_some hown' (by simpa using hiff)
        have HD11 := Lib.hid (ActsSt.join HD10.out HD5.out hs9 hg9 hgrow (by rcases hor with h | h <;> injection h with h; exact .inl h; exact .inr h) (by rw [HXL.out]; exact hown'))
        have HB11 := Lib.hid (HB10.out.grown hgrow hs10 (fun j hj => (HR10.out.lt j hj).1))
        have HEQ : Hid ((X ++ M).map (·.a) = enterL ls a) := Lib.hid (by
          rw [List.map_append, HXM.out, HML.out]
          unfold enterL
          rw [HAT.out]
          simp)
        have HNL : Hid ((X ++ M).length = k + 1 + M.length) := Lib.hid (by rw [List.length_append, HXL.out])
        have hac := DrawSt.acts HD11.out
        rw [HEQ.out, HNL.out] at hac
        have HBR := Lib.hid (broken1_any S (enterL ls a) w11 _ _ (HST.out w11 HB11.out) hac HSO.out (enterL_ok HOK.out HAA.out h8))
        unfold Broken1Post at HBR
        clear hown' hgrow hiff hor hac
        go_wp2_with (fail)
        refine HBR.out.mono ?_
        rintro e w12 ⟨g12, cap12, n12, rfl, hn1, hiff, hb12⟩
        have HB12 := Lib.hid (HB11.out.trans (hb12.mono HB11.out.size))
        by_cases h12 : n12 = 0
        · have HEN : Hid (entOk S ls a = true) := Lib.hid (entOk_yes h8 (hiff.1 h12))
          have HD12 := Lib.hid (ActsSt.below HD11.out hb12)
          subst h12
          clear hiff hb12
          go_wp2
          go_ret2
          exact ⟨_, _, _, by rw [HEN.out]; rfl, fun _ => ⟨g11, X ++ M, rfl, HNL.out.symm, HEQ.out, HD12.out⟩, HB12.out⟩
        · have HEN : Hid (entOk S ls a = false) := Lib.hid (entOk_no (fun h => h12 (hiff.2 h)))
          have hn0 : (0 : Int) < (n12 : Int) := by omega
          clear hiff hb12 h12
          go_wp2
          go_ret2
          exact ⟨_, _, _, by rw [HEN.out]; rfl, (fun h => by rw [HEN.out] at h; cases h), HB12.out⟩
    · have hge : ¬ (k : Int) < (ls.length : Int) := by omega
      go_upto_region 4 with (fail)
      refine wp_region_at (by kernel_rfl) (by kernel_rfl) ?_
      repeat (go_big_quiet_step (fail))
      refine wpQuiet_nil ?_
      rintro _ ⟨u, rfl⟩
      have HAT : Hid (enterAt ls a.beg = k) := Lib.hid (enterAt_eq hk HBE.out (Or.inl (by omega)))
      have HO1 := Lib.hid (own1_any (ls.take k) u.val _ ((HAC.out _ u.ok).take k hk) (okActs_take HOK.out k))
      have hkc : (k : Int) ≤ (c : Int) := by omega
      have hk0 : (0 : Int) ≤ (k : Int) := by omega
      unfold CopyPost at HO1
      have HUB := Lib.hid u.ok
      go_wp2_with (fail)
      refine HO1.out.mono ?_
      rintro e w3 ⟨g, cap, L, rfl, hLm, hD, hb3⟩
      have hLk : L.length = k := by
        have := congrArg List.length hLm
        rw [List.length_map, List.length_take] at this
        omega
      have HD := Lib.hid (hD.less HUB.out.size)
      have HB := Lib.hid (HUB.out.trans (hb3.mono HUB.out.size))
      have HLM := Lib.hid hLm
      have hgbm := (hD.row.lt g rfl).1
      have hus := HUB.out.size
      have hbg : bm ≠ g := by omega
      have x0 := (HB.out.cell (p := ⟨bm, om + 3, none⟩) hbm).trans HC3.out
      have x1 := (HB.out.cell (p := ⟨bm, om + 4, none⟩) hbm).trans HC4.out
      have x2 := (HB.out.cell (p := ⟨bm, om + 2, none⟩) hbm).trans HC2.out
      have HDW := HD
      have HBW := HB
      obtain ⟨i0, hi, hz0, hz1', hz2⟩ := info_parts Tryz.infoAct
      obtain ⟨e0, hie, he0, he1, he2⟩ := info_parts Tryz.infoE
      clear hLm hD hb3 hus hgbm z2 z3 z4
      go_wp2_with (fail)
      have hWs : w3.heap.size = w3.heap.size := by simp
      have hgw : g < w3.heap.size := by have := (HDW.out.row.lt g rfl).2; rw [hWs] at this; exact this
      have hwB : w.heap.size ≤ w3.heap.size := by have := HBW.out.size; rw [hWs] at this; exact this
      have hb1 : Below w3.heap.size w3 (w3.alloc (.cells #[] 162)).drew := ((Below.refl _ _).alloc (by rw [hWs]; exact Nat.le_refl _) _).drew
      have hB1s : w3.heap.size ≤ (w3.alloc (.cells #[] 162)).drew.heap.size := by rw [← hWs]; exact hb1.size
      have HB1 := Lib.hid hb1
      have hown1 : (w3.alloc (.cells #[] 162)).ownsRow w3.heap.size 162 4 (.slice (some ⟨w3.heap.size, 0, none⟩) 0 0) 0 [] := by rw [← hWs]; simpa using World.ownsRow_made w3 #[] 0 (Nat.le_refl _) (Nat.zero_le _) rfl
      have HOWN1 := Lib.hid hown1.drew
      have HS1 := Lib.hid (HE.out _ (HBW.out.trans (hb1.mono hwB)))
      clear hown1 hb1
      have hgl := hLk
      try rw [hLk]
      go_region_held3 (fun w' => w'.cell? ⟨bm, om + 3, none⟩ = some (.int .i64 a.beg) ∧ w'.cell? ⟨bm, om + 4, none⟩ = some (.int .i64 a.fin) ∧ w'.cell? ⟨bm, om + 2, none⟩ = some (.slice pA a.pat.length pc))
        (first | exact ⟨x0, x1, x2⟩ | exact keepA ⟨x0, x1, x2⟩ ((Below.refl _ _).drew) | exact keepA ⟨x0, x1, x2⟩ ((Below.refl _ _).alloc (Nat.le_refl _) _) | exact keepA ⟨x0, x1, x2⟩ (((Below.refl _ _).alloc (Nat.le_refl _) _).drew) | exact keepA' ⟨x0, x1, x2⟩ HB2.out hWs | exact keepA (keepA' ⟨x0, x1, x2⟩ HB2.out hWs) ((Below.refl _ _).alloc (Nat.le_refl _) _) | exact keepG (keepA (keepA' ⟨x0, x1, x2⟩ HB2.out hWs) ((Below.refl _ _).alloc (Nat.le_refl _) _)) hgrow hbg hbg hbg | go_keep)
        (first
          | (refine step_append_slR editCells (by rfl) _ _ 53 (by rfl) w3.heap.size 162 e0 (.agg #[.int .i64 0, .int .i64 0, .string ⟨#[]⟩, .string ⟨#[]⟩]) 4 48 Tryz.underlying53 hie he0 he1 he2 rfl (by decide) _ _ _ (by rfl) HOWN1.out _ a.pat _ (by rfl) HS1.out (fun _ => rfl) (fun y u hu => edit_one hu) (by unfold maxLen; omega) (by omega) hB1s ?_
             intro v2 w2 hown2 hgrow2 hnn2
             have HO2 : Hid (OwnL editCells a.pat w3.heap.size w2 v2) := Lib.hid (OwnL.of_own editCells (size := 4) (fun _ => rfl) (by simpa using hown2))
             have HB2 : Hid (Below w3.heap.size w3 w2) := Lib.hid (HB1.out.grown hgrow2 hB1s (fun j hj => (HOWN1.out.lt j hj).1))
             have HD2 := Lib.hid (DrawSt.below HDW.out (by rw [hWs]; exact HB2.out))
             have HBW2 := Lib.hid (HBW.out.trans (HB2.out.mono hwB))
             have HPN : Hid (a.pat ≠ [] → v2.ownBlock ≠ some g) := Lib.hid (fun h0 e => by
               obtain ⟨j, hj, h1, _⟩ := HO2.out.blk h0
               rw [hj] at e
               injection e with e
               omega)
             obtain ⟨A2, c2, rfl, _⟩ := HO2.out
             have HP2 := Lib.hid (HO2.out.less hwB)
             have hba : Below w2.heap.size w2 (w2.alloc (.cells #[.int .i64 a.beg, .int .i64 a.fin, .slice A2 a.pat.length c2] 144)) := (Below.refl _ _).alloc (Nat.le_refl _) _
             have HDA := Lib.hid (DrawSt.below HD2.out hba)
             have HPA := Lib.hid (HP2.out.on hba)
             have HROW := Lib.hid (HD2.out.row.alloc (.cells #[.int .i64 a.beg, .int .i64 a.fin, .slice A2 a.pat.length c2] 144))
             rw [hgl] at HROW
             clear hown2 hgrow2 hnn2 hba)
          | (refine step_append_own_at (by rfl) _ _ 33 (by rfl) w.heap.size 144 i0 (.agg #[.int .i64 0, .int .i64 0, .slice none 0 0]) 3 40 Tryz.underlying33 hi hz0 hz1' hz2 rfl (by decide) _ _ _ (by rfl) HROW.out ⟨w2.heap.size, 0, none⟩ 1 1 (vCells ⟨⟨a.beg, a.fin, a.pat⟩, .slice A2 a.pat.length c2⟩) (by rfl) (by rfl) (fun j u hj => by have := (Row.new w2 (vCells ⟨⟨a.beg, a.fin, a.pat⟩, .slice A2 a.pat.length c2⟩).toArray 144).cell j u (by simpa using hj); rw [Addr.add_lit, Nat.zero_add]; exact this) (fun u hu => vact_one rfl hu) (by unfold maxLen; omega) (by omega) (base_le HBW2.out.size) ?_
             intro v' w9 hown' hgrow hiff hor
             obtain ⟨g', cap', rfl, hdc', hcm'⟩ := own_some hown' (by simpa using hiff)
             clear hiff))
      have HD9 := Lib.hid (HDA.out.push (x := ⟨⟨a.beg, a.fin, a.pat⟩, .slice A2 a.pat.length c2⟩) hgrow (by rcases hor with h | h <;> injection h with h; exact .inl h; exact .inr (by simpa using h)) (by rw [hgl]; exact hown') HPA.out HPN.out HPZ.out)
      have HB9 := Lib.hid ((HBW2.out.alloc HBW2.out.size (.cells #[.int .i64 a.beg, .int .i64 a.fin, .slice A2 a.pat.length c2] 144)).grown hgrow (base_le HBW2.out.size) (fun j hj => (HROW.out.lt j hj).1))
      clear hown' hgrow hor
      obtain ⟨X, hX⟩ : ∃ X, X = L ++ [(⟨⟨a.beg, a.fin, a.pat⟩, .slice A2 a.pat.length c2⟩ : VAct)] := ⟨_, rfl⟩
      rw [← hX] at HD9
      have HXM : Hid (X.map (·.a) = ls.take k ++ [a]) := Lib.hid (by rw [hX, List.map_append, HLM.out]; rfl)
      have HXL : Hid (X.length = k + 1) := Lib.hid (by rw [hX, List.length_append, hLk]; rfl)
      clear hX x0 x1 x2 HDW HDA HPA HPN HROW HD HD2 HO2 HB2 HP2 HBW2
      have hkl : k = ls.length := by omega
      have HDR : Hid (ls.drop k = []) := Lib.hid (by rw [hkl, List.drop_length])
      have hkz : ls.length - k = 0 := by omega
      clear hkl
      by_cases hcn : c = k
      · have HNIL : Hid (∀ (A : Option Addr) (cc : Nat), cc ≤ maxLen → Acts w9 w9.heap.size (.slice A 0 cc) (ls.drop k)) := Lib.hid (fun A cc hcc => by rw [HDR.out]; exact Acts.nil hcc)
        have HAC9 := Lib.hid (HAC.out w9 HB9.out)
        go_wp2_with (fail)
        refine (own1_any (ls.drop k) w9 _ (HNIL.out _ _ (by first | exact Nat.zero_le _ | (unfold maxLen; omega))) (okActs_drop HOK.out k)).mono ?_
        rintro e w10 ⟨g2, cap2, M, rfl, hM, hD5, hb10⟩
        have HD10 := Lib.hid (ActsSt.below HD9.out hb10)
        have HB10 := Lib.hid (HB9.out.trans (hb10.mono HB9.out.size))
        have HML := Lib.hid hM
        have hMl : M.length ≤ 8 := by
          have := congrArg List.length hM
          rw [List.length_map, List.length_drop] at this
          omega
        have HD5 := Lib.hid hD5
        have HR10 := Lib.hid HD10.out.row
        rw [HXL.out] at HR10
        have hg9 := (HD9.out.row.lt g' rfl).2
        have hs9 := HB9.out.size
        have hs10 := HB10.out.size
        clear hM hD5 hb10 HAC9
        go_wp2_with (at_builtin; refine wpList_append_own_at _ rfl _ _ 33 rfl w.heap.size 144 i0 (.agg #[.int .i64 0, .int .i64 0, .slice none 0 0]) 3 40 Tryz.underlying33 hi hz0 hz1' hz2 rfl (by decide) _ _ _ rfl HR10.out ⟨g2, 0, none⟩ M.length cap2 (M.flatMap vCells) rfl ?c1 ?c2 ?c5 ?c3 ?c4 hs10 ?_)
        case c1 => exact flat_len vCells (fun _ => rfl) M
        case c2 => exact HD5.out.row.cells (g := g2) rfl
        case c5 => exact ActsSt.one HD5.out
        case c3 => unfold maxLen; omega
        case c4 => omega
        intro v'' w11 hown' hgrow hiff hor
        obtain ⟨g11, cap11, rfl, hdc', hcm'⟩ := own_some hown' (by simpa using hiff)
        have HD11 := Lib.hid (ActsSt.join HD10.out HD5.out hs9 hg9 hgrow (by rcases hor with h | h <;> injection h with h; exact .inl h; exact .inr h) (by rw [HXL.out]; exact hown'))
        have HB11 := Lib.hid (HB10.out.grown hgrow hs10 (fun j hj => (HR10.out.lt j hj).1))
        have HEQ : Hid ((X ++ M).map (·.a) = enterL ls a) := Lib.hid (by
          rw [List.map_append, HXM.out, HML.out]
          unfold enterL
          rw [HAT.out]
          simp)
        have HNL : Hid ((X ++ M).length = k + 1 + M.length) := Lib.hid (by rw [List.length_append, HXL.out])
        have hac := DrawSt.acts HD11.out
        rw [HEQ.out, HNL.out] at hac
        have HBR := Lib.hid (broken1_any S (enterL ls a) w11 _ _ (HST.out w11 HB11.out) hac HSO.out (enterL_ok HOK.out HAA.out h8))
        unfold Broken1Post at HBR
        clear hown' hgrow hiff hor hac
        go_wp2_with (fail)
        refine HBR.out.mono ?_
        rintro e w12 ⟨g12, cap12, n12, rfl, hn1, hiff, hb12⟩
        have HB12 := Lib.hid (HB11.out.trans (hb12.mono HB11.out.size))
        by_cases h12 : n12 = 0
        · have HEN : Hid (entOk S ls a = true) := Lib.hid (entOk_yes h8 (hiff.1 h12))
          have HD12 := Lib.hid (ActsSt.below HD11.out hb12)
          subst h12
          clear hiff hb12
          go_wp2
          go_ret2
          exact ⟨_, _, _, by rw [HEN.out]; rfl, fun _ => ⟨g11, X ++ M, rfl, HNL.out.symm, HEQ.out, HD12.out⟩, HB12.out⟩
        · have HEN : Hid (entOk S ls a = false) := Lib.hid (entOk_no (fun h => h12 (hiff.2 h)))
          have hn0 : (0 : Int) < (n12 : Int) := by omega
          clear hiff hb12 h12
          go_wp2
          go_ret2
          exact ⟨_, _, _, by rw [HEN.out]; rfl, (fun h => by rw [HEN.out] at h; cases h), HB12.out⟩
      · have HNIL : Hid (∀ (A : Option Addr) (cc : Nat), cc ≤ maxLen → Acts w9 w9.heap.size (.slice A 0 cc) (ls.drop k)) := Lib.hid (fun A cc hcc => by rw [HDR.out]; exact Acts.nil hcc)
        have HAC9 := Lib.hid (HAC.out w9 HB9.out)
        go_wp2_with (fail)
        refine (own1_any (ls.drop k) w9 _ (HNIL.out _ _ (by first | exact Nat.zero_le _ | (unfold maxLen; omega))) (okActs_drop HOK.out k)).mono ?_
        rintro e w10 ⟨g2, cap2, M, rfl, hM, hD5, hb10⟩
        have HD10 := Lib.hid (ActsSt.below HD9.out hb10)
        have HB10 := Lib.hid (HB9.out.trans (hb10.mono HB9.out.size))
        have HML := Lib.hid hM
        have hMl : M.length ≤ 8 := by
          have := congrArg List.length hM
          rw [List.length_map, List.length_drop] at this
          omega
        have HD5 := Lib.hid hD5
        have HR10 := Lib.hid HD10.out.row
        rw [HXL.out] at HR10
        have hg9 := (HD9.out.row.lt g' rfl).2
        have hs9 := HB9.out.size
        have hs10 := HB10.out.size
        clear hM hD5 hb10 HAC9
        go_wp2_with (at_builtin; refine wpList_append_own_at _ rfl _ _ 33 rfl w.heap.size 144 i0 (.agg #[.int .i64 0, .int .i64 0, .slice none 0 0]) 3 40 Tryz.underlying33 hi hz0 hz1' hz2 rfl (by decide) _ _ _ rfl HR10.out ⟨g2, 0, none⟩ M.length cap2 (M.flatMap vCells) rfl ?c1 ?c2 ?c5 ?c3 ?c4 hs10 ?_)
        case c1 => exact flat_len vCells (fun _ => rfl) M
        case c2 => exact HD5.out.row.cells (g := g2) rfl
        case c5 => exact ActsSt.one HD5.out
        case c3 => unfold maxLen; omega
        case c4 => omega
        intro v'' w11 hown' hgrow hiff hor
        obtain ⟨g11, cap11, rfl, hdc', hcm'⟩ := own_some hown' (by simpa using hiff)
        have HD11 := Lib.hid (ActsSt.join HD10.out HD5.out hs9 hg9 hgrow (by rcases hor with h | h <;> injection h with h; exact .inl h; exact .inr h) (by rw [HXL.out]; exact hown'))
        have HB11 := Lib.hid (HB10.out.grown hgrow hs10 (fun j hj => (HR10.out.lt j hj).1))
        have HEQ : Hid ((X ++ M).map (·.a) = enterL ls a) := Lib.hid (by
          rw [List.map_append, HXM.out, HML.out]
          unfold enterL
          rw [HAT.out]
          simp)
        have HNL : Hid ((X ++ M).length = k + 1 + M.length) := Lib.hid (by rw [List.length_append, HXL.out])
        have hac := DrawSt.acts HD11.out
        rw [HEQ.out, HNL.out] at hac
        have HBR := Lib.hid (broken1_any S (enterL ls a) w11 _ _ (HST.out w11 HB11.out) hac HSO.out (enterL_ok HOK.out HAA.out h8))
        unfold Broken1Post at HBR
        clear hown' hgrow hiff hor hac
        go_wp2_with (fail)
        refine HBR.out.mono ?_
        rintro e w12 ⟨g12, cap12, n12, rfl, hn1, hiff, hb12⟩
        have HB12 := Lib.hid (HB11.out.trans (hb12.mono HB11.out.size))
        by_cases h12 : n12 = 0
        · have HEN : Hid (entOk S ls a = true) := Lib.hid (entOk_yes h8 (hiff.1 h12))
          have HD12 := Lib.hid (ActsSt.below HD11.out hb12)
          subst h12
          clear hiff hb12
          go_wp2
          go_ret2
          exact ⟨_, _, _, by rw [HEN.out]; rfl, fun _ => ⟨g11, X ++ M, rfl, HNL.out.symm, HEQ.out, HD12.out⟩, HB12.out⟩
        · have HEN : Hid (entOk S ls a = false) := Lib.hid (entOk_no (fun h => h12 (hiff.2 h)))
          have hn0 : (0 : Int) < (n12 : Int) := by omega
          clear hiff hb12 h12
          go_wp2
          go_ret2
          exact ⟨_, _, _, by rw [HEN.out]; rfl, (fun h => by rw [HEN.out] at h; cases h), HB12.out⟩
end Go.Proofs.YtnandbammmcncaaGreat

namespace Go.Proofs.YtnandbammmcncaaGreat
open Go.RowKit Go.Lib

/-- An act's cells. -/
structure Sact where
  beg : Int
  fin : Int
  A : Option Addr
  n : Nat
  c : Nat
def sCells (x : Sact) : List Value := [.int .i64 x.beg, .int .i64 x.fin, .slice x.A x.n x.c]
theorem sact_one {x : Sact} {u : Value} (hu : u ∈ sCells x) : u.oneCell' = true := by
  unfold sCells at hu
  simp only [List.mem_cons, List.not_mem_nil, or_false] at hu
  rcases hu with rfl | rfl | rfl <;> rfl

set_option maxRecDepth 100000 in
set_option maxHeartbeats 4000000 in
/-- At the end. -/
theorem insC_end (L : List Sact) (a : Sact) (base g n cap vb vc : Nat) (w : World) (_hn : L.length = n) (hn63 : n ≤ 1000000) (hown : w.ownsRow base 144 3 (.slice (some ⟨g, 0, none⟩) n cap) n (L.flatMap sCells)) (hv : Blk w vb 144 (sCells a)) (hbw : base ≤ w.heap.size) :
    Calls Tryz.prog 165 #[.slice (some ⟨g, 0, none⟩) n cap, .int .i64 n, .slice (some ⟨vb, 0, none⟩) 1 vc] w (InsPost sCells 144 3 base g (n + 1) (L ++ [a]) w) := by
  obtain ⟨T, hB, hC, hnc, hcm, hbg, hxl⟩ := blk_of_own hown
  unfold maxLen at hcm
  have HV : Hid (∀ j u, (sCells a)[j]? = some u → w.cell? ((⟨vb, 0, none⟩ : Addr).add j) = some u) := Lib.hid (fun j u hj => by rw [Addr.add_lit, hv.cell, Nat.zero_add]; exact hj)
  have HOWN := Lib.hid hown
  obtain ⟨i0, hi, hz0, hz1, hz2⟩ := info_parts Tryz.infoAct
  clear hB hC hbg hxl hown hv _hn
  by_cases hcn : cap = n
  · subst hcn
    go_enter Tryz.func165, Tryz.ntmps165
    go_wp2_with (at_builtin; refine wpList_append_own _ rfl _ _ 33 rfl base 144 i0 (.agg #[.int .i64 0, .int .i64 0, .slice none 0 0])  3 40 Tryz.underlying33 hi hz0 hz1 hz2 rfl (by decide) _ _ _ rfl HOWN.out ⟨vb, 0, none⟩ 1 vc (sCells a) rfl rfl HV.out (fun u hu => sact_one hu) ?c3 ?c4 hbw ?_)
    case c3 => unfold maxLen; omega
    case c4 => omega
    · intro v' w5 hown' hgrow hiff
      have HO := Lib.hid hown'
      have HNN : Hid (v' ≠ .slice none 0 0) := Lib.hid (by simpa using hiff)
      have HG := Lib.hid hgrow
      clear hown' hgrow hiff
      go_wp2
      go_ret
      exact ⟨v', rfl, by rw [flat_snoc]; exact HO.out, HNN.out, HG.out⟩
  · go_enter Tryz.func165, Tryz.ntmps165
    go_wp2_with (at_builtin; refine wpList_append_own _ rfl _ _ 33 rfl base 144 i0 (.agg #[.int .i64 0, .int .i64 0, .slice none 0 0])  3 40 Tryz.underlying33 hi hz0 hz1 hz2 rfl (by decide) _ _ _ rfl HOWN.out ⟨vb, 0, none⟩ 1 vc (sCells a) rfl rfl HV.out (fun u hu => sact_one hu) ?c3 ?c4 hbw ?_)
    case c3 => unfold maxLen; omega
    case c4 => omega
    · intro v' w5 hown' hgrow hiff
      have HO := Lib.hid hown'
      have HNN : Hid (v' ≠ .slice none 0 0) := Lib.hid (by simpa using hiff)
      have HG := Lib.hid hgrow
      clear hown' hgrow hiff
      go_wp2
      go_ret
      exact ⟨v', rfl, by rw [flat_snoc]; exact HO.out, HNN.out, HG.out⟩

set_option maxRecDepth 100000 in
set_option maxHeartbeats 4000000 in
/-- In the midst, where there is no room. -/
theorem insC_new (L : List Sact) (a : Sact) (i base g n cap vb vc : Nat) (w : World) (hn : L.length = n) (hi : i < n) (hroom : cap < n + 1) (hn63 : n ≤ 1000000) (hown : w.ownsRow base 144 3 (.slice (some ⟨g, 0, none⟩) n cap) n (L.flatMap sCells)) (hv : Blk w vb 144 (sCells a)) (hbw : base ≤ w.heap.size) :
    Calls Tryz.prog 165 #[.slice (some ⟨g, 0, none⟩) n cap, .int .i64 i, .slice (some ⟨vb, 0, none⟩) 1 vc] w (InsPost sCells 144 3 base g (n + 1) (L.take i ++ a :: L.drop i) w) := by
  obtain ⟨T, hB, hC, hnc, hcm, hbg, hxl⟩ := blk_of_own hown
  unfold maxLen at hcm
  have hlf : ∀ x : Sact, (sCells x).length = 3 := fun _ => rfl
  have h1c : ∀ x : Sact, ∀ v ∈ sCells x, v.oneCell' = true := fun x v hv => sact_one hv
  obtain ⟨i0, hi0, hz0, hzs, hzb⟩ := info_parts Tryz.infoAct
  have hsz : (Tryz.prog.info? 144).map (·.size) = some 3 := by rw [hi0]; simp [hzs]
  have hold : (Builtin.firstCells i0.size i (.slice (some ⟨g, 0, none⟩) i cap)).run Tryz.prog w.drew = .ok ((L.take i).flatMap sCells).toArray w.drew := by
    rw [hzs]
    exact run_firstCells_some w.drew 3 i ⟨g, 0, none⟩ i cap ((L.take i).flatMap sCells) (by rw [flat_len (k := 3) sCells hlf, List.length_take, Nat.min_eq_left (by omega)]) (fun j v hj => by
      rw [Addr.add_lit, hB.drew.cell, Nat.zero_add, flat_split sCells L i, List.append_assoc, List.getElem?_append_left (List.getElem?_eq_some_iff.1 hj).1]
      exact hj)
  obtain ⟨G, hG⟩ : ∃ G, G = grownCap w (n + 1) cap 144 := ⟨_, rfl⟩
  have hGn : n + 1 ≤ G := by rw [hG]; exact grownCap_ge w _ _ _
  have hG63 : G ≤ maxLen := by rw [hG]; exact grownCap_le_maxLen w (n + 1) cap _ (by unfold maxLen; omega)
  obtain ⟨Z, hZ⟩ : ∃ Z : List Value, Z = (Builtin.zeroCells (Value.agg #[.int .i64 0, .int .i64 0, .slice none 0 0]).cells (n + 1 - i) ++ Builtin.zeroCells (Value.agg #[.int .i64 0, .int .i64 0, .slice none 0 0]).cells (G - (n + 1))).toList := ⟨_, rfl⟩
  have hZl : Z.length = (G - i) * 3 := by
    rw [hZ]
    simp [Builtin.zeroCells, Value.cells]
    omega
  obtain ⟨W1, hW1⟩ : ∃ W1, W1 = w.drew.alloc (.cells ((L.take i).flatMap sCells ++ Z).toArray 144) := ⟨_, rfl⟩
  have hkk : (n : Int) + 1 - (i : Int) = ((n + 1 - i : Nat) : Int) := by omega
  have hik : i + (n + 1 - i) = n + 1 := by omega
  have hrz : ∀ ty, (Builtin.append_ #[33, 3] ty #[.slice (some ⟨g, 0, none⟩) i cap, .int .i64 ((n : Int) + 1 - (i : Int))]).run Tryz.prog w = .ok (.slice (some ⟨w.heap.size, 0, none⟩) (n + 1) G) W1 := fun ty => by
    have h := Lib.run_append_grow_zeros (P := Tryz.prog) w 33 3 ty 144 i0 _ .i64 .i64 Tryz.underlying33 Tryz.underlying3 hi0 hz0 (some ⟨g, 0, none⟩) i cap ((L.take i).flatMap sCells) hold (n + 1 - i) (by omega) (by omega) (by omega) (by omega) (by rw [hzb]; omega) (by rw [hzb, hik]; exact growslice_fits hroom (by omega))
    rw [hik, ← hG] at h
    rw [hkk, h, hW1, hZ]
    congr 3
    apply Array.ext'
    simp
  have hbl1 : Blk W1 w.heap.size 144 ((L.take i).flatMap sCells ++ Z) := by
    rw [hW1]
    exact alloc_at w.drew _
  have hl1 : ((L.take i).flatMap sCells ++ Z).length = G * 3 := by
    rw [List.length_append, flat_len (k := 3) sCells hlf, List.length_take, Nat.min_eq_left (by omega), hZl]
    omega
  have hg1 : w.grownBy W1 none := by
    rw [hW1]
    exact ⟨rfl, rfl, rfl, by simp, fun k hk _ => heap_alloc_old w.drew _ hk⟩
  have hbN : g ≠ w.heap.size := by have := hB.lt; omega
  have hvN : vb ≠ w.heap.size := by have := hv.lt; omega
  have hv1 : Blk W1 vb 144 (sCells a) := hv.grown hg1 (by simp)
  obtain ⟨W2, hW2⟩ : ∃ W2, W2 = W1.setCells w.heap.size (i * 3) (sCells a) := ⟨_, rfl⟩
  have hcpA : ∀ ty dc, (Builtin.copy_ #[33, 33] ty #[.slice (some ⟨w.heap.size, i * 3, none⟩) (n + 1 - i) dc, .slice (some ⟨vb, 0, none⟩) 1 vc]).run Tryz.prog W1 = .ok (goInt 1) W2 := fun ty dc => by
    have h := run_copy_k (P := Tryz.prog) W1 33 33 ty 144 3 w.heap.size (i * 3) (n + 1 - i) dc ⟨vb, 0, none⟩ 1 vc (sCells a) Tryz.underlying33 hsz (by rw [hlf]; simp only [Nat.min_def]; split <;> omega)
      (fun j v hj => by rw [Addr.add_lit, hv1.cell, Nat.zero_add]; exact hj)
      (fun j hj => hbl1.isSome (by rw [hlf] at hj; rw [hl1]; omega)) (fun j hj => hbl1.free (by rw [hlf] at hj; rw [hl1]; omega)) (h1c a)
    rw [h, hW2, show Nat.min 1 (n + 1 - i) = 1 by simp only [Nat.min_def]; split <;> omega]
    rfl
  have hbl2 := hbl1.set Tryz.prog (i * 3) (sCells a) (by rw [hl1, hlf]; omega) (h1c a)
  have hl2 : (splice ((L.take i).flatMap sCells ++ Z) (i * 3) (sCells a)).length = G * 3 := by rw [length_splice _ _ _ (by rw [hl1, hlf]; omega), hl1]
  have hg2 := grown_set Tryz.prog hbl1 (i * 3) (sCells a) (by rw [hl1, hlf]; omega) (h1c a)
  rw [← hW2] at hbl2 hg2
  have hB2 : Blk W2.drew g 144 (L.flatMap sCells ++ T) := ((hB.grown hg1 (by simp)).grown hg2 (by simpa using fun e => hbN e.symm)).drew
  obtain ⟨W3, hW3⟩ : ∃ W3, W3 = W2.drew.setCells w.heap.size ((i + 1) * 3) ((L.drop i).flatMap sCells) := ⟨_, rfl⟩
  have hdl : ((L.drop i).flatMap sCells).length = (n - i) * 3 := by rw [flat_len (k := 3) sCells hlf, List.length_drop, hn]
  have hcpB : ∀ ty dc sc, (Builtin.copy_ #[33, 33] ty #[.slice (some ⟨w.heap.size, (i + 1) * 3, none⟩) (n + 1 - (i + 1)) dc, .slice (some ⟨g, i * 3, none⟩) (n - i) sc]).run Tryz.prog W2.drew = .ok (goInt ((n - i : Nat) : Int)) W3 := fun ty dc sc => by
    have h := run_copy_k (P := Tryz.prog) W2.drew 33 33 ty 144 3 w.heap.size ((i + 1) * 3) (n + 1 - (i + 1)) dc ⟨g, i * 3, none⟩ (n - i) sc ((L.drop i).flatMap sCells) Tryz.underlying33 hsz (by rw [hdl]; simp only [Nat.min_def]; split <;> omega)
      (fun j v hj => by
        rw [Addr.add_lit, hB2.cell, flat_split sCells L i, List.append_assoc, List.getElem?_append_right (by rw [flat_len (k := 3) sCells hlf, List.length_take, Nat.min_eq_left (by omega)]; omega), flat_len (k := 3) sCells hlf, List.length_take, Nat.min_eq_left (by omega), Nat.add_sub_cancel_left, List.getElem?_append_left (List.getElem?_eq_some_iff.1 hj).1]
        exact hj)
      (fun j hj => hbl2.drew.isSome (by rw [hdl] at hj; rw [hl2]; omega)) (fun j hj => hbl2.drew.free (by rw [hdl] at hj; rw [hl2]; omega)) (flat_one sCells (fun x v hv => h1c x v hv) _)
    rw [h, hW3, show Nat.min (n - i) (n + 1 - (i + 1)) = n - i by simp only [Nat.min_def]; split <;> omega]
  have hfin : InsPost sCells 144 3 base g (n + 1) (L.take i ++ a :: L.drop i) w (.returned (.slice (some ⟨w.heap.size, 0, none⟩) (n + 1) G)) W3 := by
    have hbl3 := hbl2.drew.set Tryz.prog ((i + 1) * 3) ((L.drop i).flatMap sCells) (by rw [hl2, hdl]; omega) (flat_one sCells (fun x v hv => h1c x v hv) _)
    have hg3 := grown_set Tryz.prog hbl2.drew ((i + 1) * 3) ((L.drop i).flatMap sCells) (by rw [hl2, hdl]; omega) (flat_one sCells (fun x v hv => h1c x v hv) _)
    rw [← hW3] at hbl3 hg3
    refine ⟨_, rfl, own_of_blk hbl3 (by rw [length_splice _ _ _ (by rw [hl2, hdl]; omega), hl2]) ?_ ?_ hGn hG63 hbw, by simp, ?_⟩
    · rw [← hn]
      exact cells_ins_new sCells hlf L a Z i (by omega)
    · rw [flat_len (k := 3) sCells hlf, List.length_append, List.length_cons, List.length_take, List.length_drop]
      congr 1
      omega
    · refine ⟨hg3.os.trans (hg2.os.trans hg1.os), hg3.tape.trans (hg2.tape.trans hg1.tape), hg3.output.trans (hg2.output.trans hg1.output), Nat.le_trans hg1.size (Nat.le_trans hg2.size hg3.size), fun k hk hne => ?_⟩
      have hkN : some k ≠ some w.heap.size := fun e => by injection e; omega
      have hz1' := hg1.size
      have hz2' := hg2.size
      have a1 := hg1.block k hk (by simp)
      have a2 := hg2.block k (by omega) hkN
      have a3 := hg3.block k (by show k < W2.heap.size; omega) hkN
      exact a3.trans (a2.trans a1)
  have HFIN := Lib.hid hfin
  unfold maxLen at hG63
  have hw1 : IntKind.i64.wrap ((i : Int) + 1) = (i : Int) + 1 := by rw [IntKind.wrap_i64]; omega
  have hz2' : ¬ ((i : Int) = (n : Int)) := by omega
  have hz3 : (cap : Int) < (n : Int) + 1 := by omega
  have hGi : ¬ (G = i) := by omega
  have hGim : ¬ (G = i + 1) := by omega
  have hci : ¬ (cap = i) := by omega
  have hb1 : (0 : Int) ≤ (i : Int) + 1 := by omega
  have hin : i ≤ n := by omega
  have htn : ((i : Int) + 1).toNat = i + 1 := by omega
  have hb3 : (i : Int) ≤ (n : Int) := by omega
  have hb4 : (i : Int) + 1 ≤ (n : Int) + 1 := by omega
  clear hkk hik hold hG hZ hZl hW1 hbl1 hl1 hg1 hv1 hW2 hbl2 hl2 hg2 hB2 hW3 hdl hfin hB hC hown hv hbg hxl hn hlf h1c hsz hi0 hz0 hzs hzb
  go_enter Tryz.func165, Tryz.ntmps165
  go_wp2_with (first
    | (at_builtin; refine Lib.wpList_append_run _ rfl _ _ _ _ rfl _ _ rfl rfl _ _ (hrz _) ?_)
    | (at_builtin; refine wpList_copy_run2 _ rfl _ _ 33 33 rfl _ _ rfl rfl (hcpA _ _) ?_))
  go_region_law (refine step_copy_run2 rfl _ _ 33 33 rfl (.slice (some ⟨w.heap.size, (i + 1) * 3, none⟩) (n + 1 - (i + 1)) (G - (i + 1))) (.slice (some ⟨g, i * 3, none⟩) (n - i) (cap - i)) (by simp [Act.eval, Act.put]) (by simp [Act.eval, Act.put]) (hcpB _ _ _) ?_)
  go_wp2
  go_ret
  exact HFIN.out

set_option maxRecDepth 100000 in
set_option maxHeartbeats 4000000 in
/-- In the midst, where there is room. -/
theorem insC_room (L : List Sact) (a : Sact) (i base g n cap vb vc : Nat) (w : World) (hn : L.length = n) (hi : i < n) (hroom : n + 1 ≤ cap) (hn63 : n ≤ 1000000) (hown : w.ownsRow base 144 3 (.slice (some ⟨g, 0, none⟩) n cap) n (L.flatMap sCells)) (hv : Blk w vb 144 (sCells a)) (hvb : vb ≠ g) :
    Calls Tryz.prog 165 #[.slice (some ⟨g, 0, none⟩) n cap, .int .i64 i, .slice (some ⟨vb, 0, none⟩) 1 vc] w (InsPost sCells 144 3 base g (n + 1) (L.take i ++ a :: L.drop i) w) := by
  obtain ⟨T, hB, hC, hnc, hcm, hbg, hxl⟩ := blk_of_own hown
  have hcm' := hcm
  unfold maxLen at hcm
  have hlf : ∀ x : Sact, (sCells x).length = 3 := fun _ => rfl
  have h1c : ∀ x : Sact, ∀ v ∈ sCells x, v.oneCell' = true := fun x v hv => sact_one hv
  obtain ⟨i0, hi0, hz0, hzs, hzb⟩ := info_parts Tryz.infoAct
  have hsz : (Tryz.prog.info? 144).map (·.size) = some 3 := by rw [hi0]; simp [hzs]
  have hTl : T.length = (cap - n) * 3 := by rw [List.length_append, hxl] at hC; omega
  have hov : ∀ lb cb, (callFunc 180 #[.slice (some ⟨vb, 0, none⟩) 1 vc, .slice (some ⟨g, (i + 1) * 3, none⟩) lb cb]).run Tryz.prog w = .ok (.value (.bool false)) w := fun lb cb => by
    rw [run_callFunc_extern Tryz.func180 (by kernel_rfl) (by kernel_rfl) (by kernel_rfl) (e := Extern.SlicesOverlaps.overlaps #[33, 33] #[4]) (by kernel_rfl),
      Lib.run_overlaps_apart w 33 4 144 Tryz.underlying33 3 Tryz.sizeOf144 ⟨vb, 0, none⟩ ⟨g, (i + 1) * 3, none⟩ 1 vc lb cb hvb 144 144 3 (cap * 3) (by unfold Blk at hv; simp [World.shape?, hv, sCells]) (by unfold Blk at hB; simp [World.shape?, hB]; simpa using hC) (by omega) (hv.free (by rw [hlf]; omega)) (by unfold Blk at hv; simp [World.frozen?, hv])]
    rfl
  have hdl : ((L.drop i).flatMap sCells).length = (n - i) * 3 := by rw [flat_len (k := 3) sCells hlf, List.length_drop, hn]
  obtain ⟨W1, hW1⟩ : ∃ W1, W1 = w.drew.setCells g ((i + 1) * 3) ((L.drop i).flatMap sCells) := ⟨_, rfl⟩
  have h1d := flat_one sCells (P := fun v => v.oneCell' = true) (fun x v hv => h1c x v hv) (L.drop i)
  have hcp1 : ∀ ty dc sc, (Builtin.copy_ #[33, 33] ty #[.slice (some ⟨g, (i + 1) * 3, none⟩) (n + 1 - (i + 1)) dc, .slice (some ⟨g, i * 3, none⟩) (n + 1 - i) sc]).run Tryz.prog w.drew = .ok (goInt ((n - i : Nat) : Int)) W1 := fun ty dc sc => by
    have h := run_copy_k (P := Tryz.prog) w.drew 33 33 ty 144 3 g ((i + 1) * 3) (n + 1 - (i + 1)) dc ⟨g, i * 3, none⟩ (n + 1 - i) sc ((L.drop i).flatMap sCells) Tryz.underlying33 hsz (by rw [hdl]; simp only [Nat.min_def]; split <;> omega)
      (fun j v hj => by
        rw [Addr.add_lit, hB.drew.cell, flat_split sCells L i, List.append_assoc, List.getElem?_append_right (by rw [flat_len (k := 3) sCells hlf, List.length_take, Nat.min_eq_left (by omega)]; omega), flat_len (k := 3) sCells hlf, List.length_take, Nat.min_eq_left (by omega), Nat.add_sub_cancel_left, List.getElem?_append_left (List.getElem?_eq_some_iff.1 hj).1]
        exact hj)
      (fun j hj => hB.drew.isSome (by rw [hdl] at hj; rw [hC]; omega)) (fun j hj => hB.drew.free (by rw [hdl] at hj; rw [hC]; omega)) h1d
    rw [h, hW1, show Nat.min (n + 1 - i) (n + 1 - (i + 1)) = n - i by simp only [Nat.min_def]; split <;> omega]
  have hbl1 := hB.drew.set Tryz.prog ((i + 1) * 3) ((L.drop i).flatMap sCells) (by rw [hC, hdl]; omega) h1d
  have hl1 : (splice (L.flatMap sCells ++ T) ((i + 1) * 3) ((L.drop i).flatMap sCells)).length = cap * 3 := by rw [length_splice _ _ _ (by rw [hC, hdl]; omega), hC]
  have hg1 := grown_set Tryz.prog hB.drew ((i + 1) * 3) ((L.drop i).flatMap sCells) (by rw [hC, hdl]; omega) h1d
  rw [← hW1] at hbl1 hg1
  have hv1 : Blk W1 vb 144 (sCells a) := Blk.grown hv.drew hg1 (by simpa using fun e => hvb e.symm)
  obtain ⟨W2, hW2⟩ : ∃ W2, W2 = W1.setCells g (i * 3) (sCells a) := ⟨_, rfl⟩
  have hcp2 : ∀ ty dc, (Builtin.copy_ #[33, 33] ty #[.slice (some ⟨g, i * 3, none⟩) (n + 1 - i) dc, .slice (some ⟨vb, 0, none⟩) 1 vc]).run Tryz.prog W1 = .ok (goInt 1) W2 := fun ty dc => by
    have h := run_copy_k (P := Tryz.prog) W1 33 33 ty 144 3 g (i * 3) (n + 1 - i) dc ⟨vb, 0, none⟩ 1 vc (sCells a) Tryz.underlying33 hsz (by rw [hlf]; simp only [Nat.min_def]; split <;> omega)
      (fun j v hj => by rw [Addr.add_lit, hv1.cell, Nat.zero_add]; exact hj)
      (fun j hj => hbl1.isSome (by rw [hlf] at hj; rw [hl1]; omega)) (fun j hj => hbl1.free (by rw [hlf] at hj; rw [hl1]; omega)) (h1c a)
    rw [h, hW2, show Nat.min 1 (n + 1 - i) = 1 by simp only [Nat.min_def]; split <;> omega]
    rfl
  have hfin : InsPost sCells 144 3 base g (n + 1) (L.take i ++ a :: L.drop i) w (.returned (.slice (some ⟨g, 0, none⟩) (n + 1) cap)) W2 := by
    have hbl2 := hbl1.set Tryz.prog (i * 3) (sCells a) (by rw [hl1, hlf]; omega) (h1c a)
    have hg2 := grown_set Tryz.prog hbl1 (i * 3) (sCells a) (by rw [hl1, hlf]; omega) (h1c a)
    rw [← hW2] at hbl2 hg2
    refine ⟨_, rfl, own_of_blk hbl2 (by rw [length_splice _ _ _ (by rw [hl1, hlf]; omega), hl1]) ?_ ?_ hroom hcm' hbg, by simp, ?_⟩
    · rw [← hn]
      exact cells_ins_room sCells hlf L a T i (by omega) (by omega)
    · rw [flat_len (k := 3) sCells hlf, List.length_append, List.length_cons, List.length_take, List.length_drop]
      congr 1
      omega
    · exact only_trans ⟨hg1.os, hg1.tape, hg1.output, hg1.size, hg1.block⟩ hg2
  have HFIN := Lib.hid hfin
  have hw1 : IntKind.i64.wrap ((i : Int) + 1) = (i : Int) + 1 := by rw [IntKind.wrap_i64]; omega
  have hz2' : ¬ ((i : Int) = (n : Int)) := by omega
  have hz3 : ¬ ((cap : Int) < (n : Int) + 1) := by omega
  have hb1 : (0 : Int) ≤ (i : Int) + 1 := by omega
  have hin : i ≤ n := by omega
  have hin1 : i ≤ n + 1 := by omega
  have htn : ((i : Int) + 1).toNat = i + 1 := by omega
  have hb2 : ¬ (cap = i + 1) := by omega
  have hb3 : (i : Int) + 1 ≤ (n : Int) + 1 := by omega
  have hb4 : ¬ (cap = i) := by omega
  have hb5 : (i : Int) ≤ (n : Int) + 1 := by omega
  clear hdl hW1 h1d hbl1 hl1 hg1 hv1 hW2 hfin hB hC hown hv hbg hxl hn hlf h1c hsz hi0 hz0 hzs hzb hTl hcm'
  go_enter Tryz.func165, Tryz.ntmps165
  go_wp2_with (simp only [hov])
  go_region_law (refine step_copy_run2 rfl _ _ 33 33 rfl (.slice (some ⟨g, (i + 1) * 3, none⟩) (n + 1 - (i + 1)) (cap - (i + 1))) (.slice (some ⟨g, i * 3, none⟩) (n + 1 - i) (cap - i)) (by simp [Act.eval, Act.put]) (by simp [Act.eval, Act.put]) (hcp1 _ _ _) ?_)
  go_wp2_with (at_builtin; refine wpList_copy_run2 _ rfl _ _ 33 33 rfl _ _ rfl rfl (hcp2 _ _) ?_)
  go_ret
  exact HFIN.out

theorem insC_any (L : List Sact) (a : Sact) (i base g n cap vb vc : Nat) (w : World) (hn : L.length = n) (hi : i ≤ n) (hn63 : n ≤ 1000000) (hown : w.ownsRow base 144 3 (.slice (some ⟨g, 0, none⟩) n cap) n (L.flatMap sCells)) (hv : Blk w vb 144 (sCells a)) (hvb : vb ≠ g) (hbw : base ≤ w.heap.size) :
    Calls Tryz.prog 165 #[.slice (some ⟨g, 0, none⟩) n cap, .int .i64 i, .slice (some ⟨vb, 0, none⟩) 1 vc] w (InsPost sCells 144 3 base g (n + 1) (L.take i ++ a :: L.drop i) w) := by
  rcases Nat.lt_or_ge i n with hlt | hge
  · by_cases hroom : n + 1 ≤ cap
    · exact insC_room L a i base g n cap vb vc w hn hlt hroom hn63 hown hv hvb
    · exact insC_new L a i base g n cap vb vc w hn hlt (by omega) hn63 hown hv hbw
  · obtain rfl : i = n := by omega
    have e : L.take i ++ a :: L.drop i = L ++ [a] := by rw [List.take_of_length_le (by omega), List.drop_eq_nil_of_le (by omega)]
    rw [e]
    exact insC_end L a base g i cap vb vc w hn hn63 hown hv hbw
end Go.Proofs.YtnandbammmcncaaGreat


namespace Go.Proofs.YtnandbammmcncaaGreat
open Go.RowKit Go.Lib

def toS (x : VAct) : Sact := match x.v with | .slice A n c => ⟨x.a.beg, x.a.fin, A, n, c⟩ | _ => ⟨x.a.beg, x.a.fin, none, 0, 0⟩
theorem toS_cells {x : VAct} {A : Option Addr} {n c : Nat} (h : x.v = .slice A n c) : sCells (toS x) = vCells x := by
  unfold toS sCells vCells
  rw [h]
theorem toS_flat {base : Nat} {w : World} {g cap : Nat} {L : List VAct} (h : ActsSt base w g cap L) : (L.map toS).flatMap sCells = L.flatMap vCells := by
  have key : ∀ M : List VAct, (∀ x ∈ M, x ∈ L) → (M.map toS).flatMap sCells = M.flatMap vCells := by
    intro M
    induction M with
    | nil => intro _; rfl
    | cons x M ih =>
      intro hm
      obtain ⟨A, c, hv, _⟩ := (h.pats x (hm x (List.mem_cons_self ..))).1
      rw [List.map_cons, List.flatMap_cons, List.flatMap_cons, toS_cells hv, ih (fun y hy => hm y (List.mem_cons_of_mem _ hy))]
  exact key L (fun x hx => hx)
theorem own_apart {w : World} {b1 b2 s1 s2 n1 n2 : Nat} {e1 e2 : TypeId} {v1 v2 : Value} {x1 x2 : List Value} (h1 : w.ownsRow b1 e1 s1 v1 n1 x1) (h2 : w.ownsRow b2 e2 s2 v2 n2 x2) (he : e1 ≠ e2) {g : Nat} (hv : v1.ownBlock = some g) : v2.ownBlock ≠ some g := by
  intro hv2
  rcases h1.2 with ⟨rfl, _⟩ | ⟨g1, c1, cur1, rfl, _, k1, _⟩
  · cases hv
  · rcases h2.2 with ⟨rfl, _⟩ | ⟨g2, c2, cur2, rfl, _, k2, _⟩
    · cases hv2
    · injection hv with hv
      injection hv2 with hv2
      have hv : g1 = g := hv
      have hv2 : g2 = g := hv2
      rw [hv] at k1
      rw [hv2, k1] at k2
      injection k2 with k2
      injection k2 with _ k2
      exact he k2
/-- The acts behind Insert, read. -/
theorem ins_acts {base base6 g n cap k : Nat} {w6 w7 : World} {L : List VAct} {X : VAct} {v7 : Value} {A : Option Addr} {nn cc : Nat} (hX : X.v = .slice A nn cc) (h : ActsSt base w6 g cap L) (hon : Only g w6 w7) (hown : w7.ownsRow base6 144 3 v7 n (((L.map toS).take k ++ toS X :: (L.map toS).drop k).flatMap sCells)) (hn : n = (L.take k ++ X :: L.drop k).length)
    (hxp : Edits w7 w7.heap.size X.v X.a.pat) : Acts w7 w7.heap.size v7 ((L.take k ++ X :: L.drop k).map (·.a)) := by
  have hmem : ∀ y ∈ L.take k ++ X :: L.drop k, y = X ∨ y ∈ L := fun y hy => by
    rcases List.mem_append.1 hy with hy | hy
    · exact .inr (List.mem_of_mem_take hy)
    · rcases List.mem_cons.1 hy with hy | hy
      · exact .inl hy
      · exact .inr (List.mem_of_mem_drop hy)
  have hflat : ((L.map toS).take k ++ toS X :: (L.map toS).drop k).flatMap sCells = (L.take k ++ X :: L.drop k).flatMap vCells := by
    have e : (L.map toS).take k ++ toS X :: (L.map toS).drop k = (L.take k ++ X :: L.drop k).map toS := by simp
    rw [e]
    have key : ∀ M : List VAct, (∀ y ∈ M, y = X ∨ y ∈ L) → (M.map toS).flatMap sCells = M.flatMap vCells := by
      intro M
      induction M with
      | nil => intro _; rfl
      | cons y M ih =>
        intro hm
        rw [List.map_cons, List.flatMap_cons, List.flatMap_cons, ih (fun z hz => hm z (List.mem_cons_of_mem _ hz))]
        congr 1
        rcases hm y (List.mem_cons_self ..) with rfl | hy
        · exact toS_cells hX
        · obtain ⟨A', c', hv, _⟩ := (h.pats y hy).1
          exact toS_cells hv
    exact key _ hmem
  rw [hflat, hn] at hown
  refine ⟨L.take k ++ X :: L.drop k, rfl, (OwnL.of_own vCells (size := 3) (fun _ => rfl) hown).slR (size := 3) (fun _ => rfl), fun y hy => ?_⟩
  rcases hmem y hy with rfl | hy
  · exact hxp
  · obtain ⟨p1, p2, _⟩ := h.pats y hy
    exact (p1.touch (F := fun b => b = g) (Touch.of_grown hon (fun b hb => by injection hb with hb; exact hb.symm)) (fun b hb e => p2 hb.1 (by rw [hb.2, e]))).slR (size := 4) (fun _ => rfl)
def EnterFlag (S : List Art) (ls : List Acta) (x : Acta) (w : World) (e : Ending) (w' : World) : Prop :=
  ∃ A n c, e = .returned (.tuple #[.slice A n c, .bool (entOk S ls x)]) ∧ Below w.heap.size w w'

/-- append onto a row of the call's own as one step of a region that draws its order, whatever list of values the guard looks at. -/
theorem step_append_slT {P : Program} {α : Type} {w : World} (f : α → List Value) {T : Bool} {o : Oper} {a : Act} {K : Act → World → Prop} {Q : Exit → Act → World → Prop} {E : Prop} (hgd : T = true) (s x : Operand) (t : TypeId)
    (ho : o.op = .call { callee := .builtin .append, args := #[s, x], argTypes := #[t, t] })
    (base : Nat) (e : TypeId) (i : TypeInfo) (z : Value) (size bytes : Nat) (ht : P.underlying t = some (.slice e)) (hi : P.info? e = some i) (hz : i.zero = some z)
    (hsize : i.size = size) (hby : i.bytes = bytes) (hzs : z.cells.size = size) (hsz : 0 < size)
    (v : Value) (n : Nat) (ys : List Value) (hs : a.eval s = v) (hown : w.ownsRow base e size v n ys)
    (vs : Value) (xs : List α) (B : Nat) (hx : a.eval x = vs) (hSl : SlR (Pl f) size w B vs xs) (hf : ∀ y, (f y).length = size) (h1 : ∀ y, ∀ u ∈ f y, u.oneCell' = true)
    (h63 : n + xs.length ≤ maxLen) (hbytes : (n + xs.length) * bytes ≤ 140737488355328) (hbase : base ≤ w.heap.size)
    (h : ∀ v' w', w'.ownsRow base e size v' (n + xs.length) (ys ++ xs.flatMap f) → w.grownBy w' v.ownBlock → (v ≠ .slice none 0 0 → v' ≠ .slice none 0 0) → K (a.put o.dst v') w') :
    if T = true then Oper.wp P o a w K Q else E := by
  rw [if_pos hgd]
  exact wp_append_slR f s x t ho base e i z size bytes ht hi hz hsize hby hzs hsz v n ys hs hown vs xs B hx hSl hf h1 h63 hbytes hbase h

set_option maxRecDepth 100000 in
set_option maxHeartbeats 8000000 in
theorem enter2_any (a : Asm) (At : Option Addr) (ct : Nat) (Ab : Option Addr) (cb : Nat) (Ac : Option Addr) (cc : Nat) (Am : Option Addr) (cm : Nat) (m : Mot) (pA : Option Addr) (pc : Nat) (vA : Option Addr) (vc : Nat) (w : World)
    (hS : Arts w w.heap.size (.slice Ab a.base.length cb) a.base) (hA : Acts w w.heap.size (.slice Ac a.acts.length cc) a.acts) (hst : okStat a.base = true) (hok : okActs a.acts = true) (ha : okActa (actOf m) = true) (hE0 : Edits w w.heap.size (.slice pA m.pat.length pc) m.pat) :
    Calls Tryz.prog 123 #[.agg #[.int .i64 a.day, .int .i64 a.rule, .slice At a.trust.length ct, .slice Ab a.base.length cb, .slice Ac a.acts.length cc, .slice Am a.mots.length cm], .agg #[.string m.title, .int .i64 m.author, .slice pA m.pat.length pc, .int .i64 m.beg, .int .i64 m.fin, .int .i64 m.closes, .slice vA m.votes.length vc, .int .i64 m.result]] w (EnterFlag a.base a.acts (actOf m) w) := by
  obtain ⟨A', c', hv, hc, hm, hel⟩ := acts_at hA
  injection hv with e1 _ e3
  subst e1 e3
  have hl8 := okActs_len hok
  obtain ⟨W1, hW1⟩ : ∃ W1 : World, W1 = w.alloc (.cells #[.int .i64 a.day, .int .i64 a.rule, .slice At a.trust.length ct, .slice Ab a.base.length cb, .slice Ac a.acts.length cc, .slice Am a.mots.length cm] 36) := ⟨_, rfl⟩
  obtain ⟨W, hW⟩ : ∃ W : World, W = W1.alloc (.cells #[.string m.title, .int .i64 m.author, .slice pA m.pat.length pc, .int .i64 m.beg, .int .i64 m.fin, .int .i64 m.closes, .slice vA m.votes.length vc, .int .i64 m.result] 78) := ⟨_, rfl⟩
  have b1 : Below w.heap.size w W1 := by rw [hW1]; exact (Below.refl _ _).alloc (Nat.le_refl _) _
  have s1 : W1.heap.size = w.heap.size + 1 := by rw [hW1]; simp
  have b2 : Below W1.heap.size W1 W := by rw [hW]; exact (Below.refl _ _).alloc (Nat.le_refl _) _
  have s2 : W.heap.size = w.heap.size + 2 := by rw [hW]; simp [s1]
  have bW : Below w.heap.size w W := b1.trans (b2.mono b1.size)
  have r1 : Row W1 w.heap.size [.int .i64 a.day, .int .i64 a.rule, .slice At a.trust.length ct, .slice Ab a.base.length cb, .slice Ac a.acts.length cc, .slice Am a.mots.length cm] := by rw [hW1]; exact Row.new w _ _
  have HR1 := Lib.hid (r1.below b2 (by omega))
  have r2 : Row W (w.heap.size + 1) [.string m.title, .int .i64 m.author, .slice pA m.pat.length pc, .int .i64 m.beg, .int .i64 m.fin, .int .i64 m.closes, .slice vA m.votes.length vc, .int .i64 m.result] := by rw [hW, ← s1]; exact Row.new W1 _ _
  have HR2 := Lib.hid r2
  have sW1 : w.heap.size < W.heap.size := by omega
  have sW2 : w.heap.size + 1 < W.heap.size := by omega
  have HBW := Lib.hid bW
  have HAC := Lib.hid (fun W' (hb : Below W.heap.size W W') => hA.on (bW.trans (hb.mono bW.size)) (bW.trans (hb.mono bW.size)).size)
  have HST := Lib.hid (fun W' (hb : Below W.heap.size W W') => (SlR.on hS (Pl.stays _) (bW.trans (hb.mono bW.size)) (bW.trans (hb.mono bW.size)).size : Arts W' W'.heap.size (.slice Ab a.base.length cb) a.base))
  have HE : Hid (∀ W', Below W.heap.size W W' → Edits W' W'.heap.size (.slice pA m.pat.length pc) m.pat) := Lib.hid (fun W' h => SlR.on hE0 (Pl.stays _) (bW.trans (h.mono bW.size)) (bW.trans (h.mono bW.size)).size)
  have z4 := fun y : Aft W => y.cell (HR1.out.cell 4 _ rfl)
  have z3 := fun y : Aft W => y.cell (HR2.out.cell 3 _ rfl)
  have HEL := Lib.hid hel
  have HOK := Lib.hid hok
  have HAA := Lib.hid ha
  have hpo : okPatch m.pat = true := (okActa_iff.1 ha).pat
  have HPZ := Lib.hid (sizesOk_of hpo)
  have HPL := okPatch_len hpo
  have HSO := Lib.hid hst
  unfold maxLen at hm
  have HWE := Lib.hid (show (w.alloc (.cells #[.int .i64 a.day, .int .i64 a.rule, .slice At a.trust.length ct, .slice Ab a.base.length cb, .slice Ac a.acts.length cc, .slice Am a.mots.length cm] 36)).alloc (.cells #[.string m.title, .int .i64 m.author, .slice pA m.pat.length pc, .int .i64 m.beg, .int .i64 m.fin, .int .i64 m.closes, .slice vA m.votes.length vc, .int .i64 m.result] 78) = W by rw [hW, hW1])
  have hR14 := HR1.out.cell 4 _ rfl
  unfold EnterFlag
  obtain ⟨x0, hx0⟩ : ∃ y : Aft W, y.val = W := ⟨⟨W, Below.refl _ _⟩, rfl⟩
  have HX0 := Lib.hid hx0
  clear hA hel hst hok ha hE0 hS hx0 hW hW1 b1 b2 r1 r2 bW hpo hR14 s1
  by_cases h8 : a.acts.length < 8
  case neg =>
    have hge : ((a.acts.length : Int) == 8) = true := by
      have : a.acts.length = 8 := by omega
      rw [this]
      rfl
    have HN := entOk_eight (S := a.base) (x := actOf m) h8
    rw [HN]
    clear HN h8 hl8
    go_enter Tryz.func123, Tryz.ntmps123
    go_wp2
    rw [HWE.out]
    go_ret2
    exact ⟨⟨_, _, _, rfl⟩, HBW.out⟩
  have hne8 : ((a.acts.length : Int) == 8) = false := by simp; omega
  go_enter Tryz.func123, Tryz.ntmps123
  go_wp2
  rw [HWE.out, ← HX0.out]
  go_loopw [6] (fun i wr => ∃ (k : Nat) (y : Aft W), k ≤ a.acts.length ∧ i = .int .i64 (k : Int) ∧ wr = y.val ∧ (∀ j b, a.acts[j]? = some b → j < k → b.beg ≤ m.beg)) (fun i _ => a.acts.length - (RowKit.intOf i).toNat)
  case atStart => exact ⟨0, x0, Nat.zero_le _, rfl, rfl, fun j b _ hj => absurd hj (Nat.not_lt_zero _)⟩
  case round =>
    obtain ⟨k, y, hk, rfl, rfl, hbe⟩ := hrel
    have HBE := Lib.hid hbe
    clear hbe
    by_cases hlt : k < a.acts.length
    · obtain ⟨b, off, hA, hb, hcell⟩ := HEL.out (by omega)
      subst hA
      have hget : a.acts[k]? = some a.acts[k] := List.getElem?_eq_getElem hlt
      obtain ⟨pv, c0, _, _, _⟩ := hcell k _ hget
      have x1 := fun y : Aft W => y.cell ((HBW.out.cell (p := ⟨b, off + k * 3, none⟩) hb).trans c0)
      have HG := Lib.hid hget
      have hki : (k : Int) < (a.acts.length : Int) := by omega
      clear hget c0 hcell
      generalize a.acts[k] = q at *
      by_cases hq : q.beg ≤ m.beg
      · have hd : decide (q.beg ≤ m.beg) = true := by simp [hq]
        have HN : Hid (∀ j b, a.acts[j]? = some b → j < k + 1 → b.beg ≤ m.beg) := Lib.hid (fun j b hj hjk => by
          by_cases e : j = k
          · subst e
            rw [HG.out] at hj
            injection hj with hj
            rw [← hj]
            exact hq
          · exact HBE.out j b hj (by omega))
        go_upto_region 4 with (fail)
        refine wp_region_at (by kernel_rfl) (by kernel_rfl) ?_
        repeat (go_big_quiet_step (fail))
        refine wpQuiet_nil ?_
        rintro _ ⟨u, rfl⟩
        go_wp2
        go_roundw
        case rel => exact ⟨k + 1, u, by omega, by go_num, rfl, HN.out⟩
        case measure => simp [RowKit.intOf]; omega
      · have hd : decide (q.beg ≤ m.beg) = false := by simp; omega
        go_upto_region 4 with (fail)
        refine wp_region_at (by kernel_rfl) (by kernel_rfl) ?_
        repeat (go_big_quiet_step (fail))
        refine wpQuiet_nil ?_
        rintro _ ⟨u, rfl⟩
        clear x1
        have HAT : Hid (enterAt a.acts m.beg = k) := Lib.hid (enterAt_eq hk HBE.out (Or.inr ⟨q, HG.out, hq⟩))
        have HCL := Lib.hid (fun (W' : World) (hb : Below W.heap.size W W') => clone2_any a.acts W' _ (HAC.out W' hb) HOK.out)
        have hk0 : (0 : Int) ≤ (k : Int) := by omega
        unfold CopyPost at HCL
        have HUB := Lib.hid u.ok
        obtain ⟨i0, hi, hz0, hz1', hz2⟩ := info_parts Tryz.infoAct
        obtain ⟨e0, hie, he0, he1, he2⟩ := info_parts Tryz.infoE
        go_upto_region 6 with (fail)
        obtain ⟨U, hU⟩ : ∃ U, U = u.val := ⟨_, rfl⟩
        have hS0 : Below W.heap.size W U := by rw [hU]; exact u.ok
        rw [← hU]
        clear hU
        have HKEEP : Hid (∀ w', Below W.heap.size W w' → w'.cell? ⟨w.heap.size, 4, none⟩ = some (.slice (some ⟨b, off, none⟩) a.acts.length cc) ∧ w'.cell? ⟨w.heap.size + 1, 3, none⟩ = some (.int .i64 m.beg) ∧ w'.cell? ⟨w.heap.size + 1, 4, none⟩ = some (.int .i64 m.fin) ∧ w'.cell? ⟨w.heap.size + 1, 2, none⟩ = some (.slice pA m.pat.length pc)) := Lib.hid (fun X hX => ⟨(HR1.out.below hX sW1).cell 4 _ rfl, (HR2.out.below hX sW2).cell 3 _ rfl, (HR2.out.below hX sW2).cell 4 _ rfl, (HR2.out.below hX sW2).cell 2 _ rfl⟩)
        clear z3 z4
        refine wp_region_held_drew (S := fun w' => w'.cell? ⟨w.heap.size, 4, none⟩ = some (.slice (some ⟨b, off, none⟩) a.acts.length cc) ∧ w'.cell? ⟨w.heap.size + 1, 3, none⟩ = some (.int .i64 m.beg) ∧ w'.cell? ⟨w.heap.size + 1, 4, none⟩ = some (.int .i64 m.fin) ∧ w'.cell? ⟨w.heap.size + 1, 2, none⟩ = some (.slice pA m.pat.length pc)) (by kernel_rfl) (HKEEP.out _ hS0.drew) (fun hHeld => ?_)
        refine wpAnyH_take (i := 0) (v := ?_) rfl (by kernel_rfl) (by kernel_rfl) (by kernel_rfl) (fun _ _ _ h => h) (Or.inl ⟨by rfl, ?_⟩) (by assumption) ?_
        rotate_left
        · intro w hSw
          try dsimp only at hSw
          simp only [List.getElem_toArray, List.getElem_cons_zero]
          first | (go_simp; done) | (go_simp; with_reducible rfl)
        try simp only [Act.put, List.getElem_toArray, List.getElem_cons_zero, List.setIfInBounds_toArray, List.set_cons_zero, List.set_cons_succ]
        refine wpAnyH_take (i := 1) (v := ?_) rfl (by kernel_rfl) (by kernel_rfl) (by kernel_rfl) (fun _ _ _ h => h) (Or.inl ⟨by rfl, ?_⟩) (by assumption) ?_
        rotate_left
        · intro w hSw
          try dsimp only at hSw
          simp only [List.getElem_toArray, List.getElem_cons_zero, List.getElem_cons_succ]
          first | (go_simp; done) | (go_simp; with_reducible rfl)
        try simp only [Act.put, List.getElem_toArray, List.getElem_cons_zero, List.getElem_cons_succ, List.setIfInBounds_toArray, List.set_cons_zero, List.set_cons_succ]
        refine wpAnyH_take (i := 3) (v := ?_) rfl (by kernel_rfl) (by kernel_rfl) (by kernel_rfl) (fun _ _ _ h => h) (Or.inl ⟨by rfl, ?_⟩) (by assumption) ?_
        rotate_left
        · intro w hSw
          try dsimp only at hSw
          simp only [List.getElem_toArray, List.getElem_cons_zero, List.getElem_cons_succ]
          first | (go_simp; done) | (go_simp; with_reducible rfl)
        try simp only [Act.put, List.getElem_toArray, List.getElem_cons_zero, List.getElem_cons_succ, List.setIfInBounds_toArray, List.set_cons_zero, List.set_cons_succ]
        refine wpAnyH_take (i := 4) (v := ?_) rfl (by kernel_rfl) (by kernel_rfl) (by kernel_rfl) (fun _ _ _ h => h) (Or.inl ⟨by rfl, ?_⟩) (by assumption) ?_
        rotate_left
        · intro w hSw
          try dsimp only at hSw
          simp only [List.getElem_toArray, List.getElem_cons_zero, List.getElem_cons_succ]
          first | (go_simp; done) | (go_simp; with_reducible rfl)
        try simp only [Act.put, List.getElem_toArray, List.getElem_cons_zero, List.getElem_cons_succ, List.setIfInBounds_toArray, List.set_cons_zero, List.set_cons_succ]
        refine wpAnyH_take (i := 5) (v := ?_) rfl (by kernel_rfl) (by kernel_rfl) (by kernel_rfl) (fun _ _ _ h => h) (Or.inl ⟨by rfl, ?_⟩) (by assumption) ?_
        rotate_left
        · intro w hSw
          try dsimp only at hSw
          simp only [List.getElem_toArray, List.getElem_cons_zero, List.getElem_cons_succ]
          first | (go_simp; done) | (go_simp; with_reducible rfl)
        try simp only [Act.put, List.getElem_toArray, List.getElem_cons_zero, List.getElem_cons_succ, List.setIfInBounds_toArray, List.set_cons_zero, List.set_cons_succ]
        refine wpAnyH_take (i := 6) (v := ?_) rfl (by kernel_rfl) (by kernel_rfl) (by kernel_rfl) (fun _ _ _ h => h) (Or.inl ⟨by rfl, ?_⟩) (by assumption) ?_
        rotate_left
        · intro w hSw
          try dsimp only at hSw
          simp only [List.getElem_toArray, List.getElem_cons_zero, List.getElem_cons_succ]
          first | (go_simp; done) | (go_simp; with_reducible rfl)
        try simp only [Act.put, List.getElem_toArray, List.getElem_cons_zero, List.getElem_cons_succ, List.setIfInBounds_toArray, List.set_cons_zero, List.set_cons_succ]
        refine wpAnyH_take (i := 7) (v := ?_) rfl (by kernel_rfl) (by kernel_rfl) (by kernel_rfl) (fun _ _ _ h => h) (Or.inl ⟨by rfl, ?_⟩) (by assumption) ?_
        rotate_left
        · intro w hSw
          try dsimp only at hSw
          simp only [List.getElem_toArray, List.getElem_cons_zero, List.getElem_cons_succ]
          first | (go_simp; done) | (go_simp; with_reducible rfl)
        try simp only [Act.put, List.getElem_toArray, List.getElem_cons_zero, List.getElem_cons_succ, List.setIfInBounds_toArray, List.set_cons_zero, List.set_cons_succ]
        refine wpAnyH_take (i := 9) (v := ?_) rfl (by kernel_rfl) (by kernel_rfl) (by kernel_rfl) (fun _ _ _ h => h) (Or.inl ⟨by rfl, ?_⟩) (by assumption) ?_
        rotate_left
        · intro w hSw
          try dsimp only at hSw
          simp only [List.getElem_toArray, List.getElem_cons_zero, List.getElem_cons_succ]
          first | (go_simp; done) | (go_simp; with_reducible rfl)
        try simp only [Act.put, List.getElem_toArray, List.getElem_cons_zero, List.getElem_cons_succ, List.setIfInBounds_toArray, List.set_cons_zero, List.set_cons_succ]
        refine wpAnyH_take (i := 10) (v := ?_) rfl (by kernel_rfl) (by kernel_rfl) (by kernel_rfl) (fun _ _ _ h => h) (Or.inl ⟨by rfl, ?_⟩) (by assumption) ?_
        rotate_left
        · intro w hSw
          try dsimp only at hSw
          simp only [List.getElem_toArray, List.getElem_cons_zero, List.getElem_cons_succ]
          first | (go_simp; done) | (go_simp; with_reducible rfl)
        try simp only [Act.put, List.getElem_toArray, List.getElem_cons_zero, List.getElem_cons_succ, List.setIfInBounds_toArray, List.set_cons_zero, List.set_cons_succ]
        have hSD : Below W.heap.size W U.drew := hS0.drew
        obtain ⟨V, hV⟩ : ∃ V, V = U.drew := ⟨_, rfl⟩
        rw [← hV] at hSD ⊢
        clear hV hS0
        refine wpAnyH_ready (rs := [2, 8]) (by kernel_rfl) (by simp) ?_
        refine AllReadyH.cons rfl (fun K hK => ?_) (AllReadyH.cons rfl (fun K hK => ?_) AllReadyH.nil)
        · try simp only [List.getElem_toArray, List.getElem_cons_zero, List.getElem_cons_succ]
          go_simp
          go_at_call 145
          refine Calls.mono (HCL.out _ hSD) ?_
          rintro e w3 ⟨g, cap, L, rfl, hLm, hD, hb3⟩
          have hS3 := hSD.trans (hb3.mono hSD.size)
          refine hK.out _ _ (HKEEP.out _ hS3) (fun hHeld2 => ?_)
          clear hK K hHeld
          have hHeld := hHeld2
          clear hHeld2
          try simp only [Act.put, List.setIfInBounds_toArray, List.set_cons_zero, List.set_cons_succ]
          refine wpAnyH_ready (rs := [8]) (by kernel_rfl) (by simp) ?_
          refine AllReadyH.cons rfl (fun K hK => ?_) AllReadyH.nil
          try simp only [List.getElem_toArray, List.getElem_cons_zero, List.getElem_cons_succ]
          go_simp
          have hS4 := hS3.alloc hS3.size (.cells #[] 162)
          refine hK.out _ _ (HKEEP.out _ hS4) (fun hHeld2 => ?_)
          clear hK K hHeld
          have hHeld := hHeld2
          clear hHeld2
          try simp only [Act.put, List.setIfInBounds_toArray, List.set_cons_zero, List.set_cons_succ]
          have hown0 : (w3.alloc (.cells #[] 162)).ownsRow w3.heap.size 162 4 (.slice (some ⟨w3.heap.size, 0, none⟩) 0 0) 0 [] := by simpa using World.ownsRow_made w3 #[] 0 (Nat.le_refl _) (Nat.zero_le _) rfl
          have HOWN0 := Lib.hid hown0
          have hbb : Below w3.heap.size w3 (w3.alloc (.cells #[] 162)) := (Below.refl _ _).alloc (Nat.le_refl _) _
          have hDr := ActsSt.below hD hbb
          have hB4 : w3.heap.size ≤ (w3.alloc (.cells #[] 162)).heap.size := hbb.size
          have hWB : W.heap.size ≤ w3.heap.size := hS3.size
          obtain ⟨SB, hSBe⟩ : ∃ SB, SB = V.heap.size := ⟨_, rfl⟩
          have hSB : W.heap.size ≤ SB := by rw [hSBe]; exact hSD.size
          rw [← hSBe] at hDr hD
          clear hSBe
          refine wpAnyH_ready (rs := [11]) (by kernel_rfl) (by simp) ?_
          refine AllReadyH.cons rfl (fun K hK => ?_) AllReadyH.nil
          try simp only [List.getElem_toArray, List.getElem_cons_zero, List.getElem_cons_succ]
          refine step_append_slT editCells (by rfl) _ _ 53 (by rfl) w3.heap.size 162 e0 (.agg #[.int .i64 0, .int .i64 0, .string ⟨#[]⟩, .string ⟨#[]⟩]) 4 48 Tryz.underlying53 hie he0 he1 he2 rfl (by decide) _ _ _ (by rfl) HOWN0.out _ m.pat _ (by rfl) (HE.out _ hS4) (fun _ => rfl) (fun y u hu => edit_one hu) (by unfold maxLen; omega) (by omega) hB4 ?_
          intro v2 w5 hown2 hgrow2 hnn2
          have HO2 : Hid (OwnL editCells m.pat w3.heap.size w5 v2) := Lib.hid (OwnL.of_own editCells (size := 4) (fun _ => rfl) (by simpa using hown2))
          have hS5 : Below W.heap.size W w5 := hS4.grown hgrow2 hS4.size (fun j hj => Nat.le_trans hWB (HOWN0.out.lt j hj).1)
          have hD5 : ActsSt SB w5 g cap L := ActsSt.below hD (hbb.grown hgrow2 hbb.size (fun j hj => (HOWN0.out.lt j hj).1))
          have HNE : Hid (v2.ownBlock ≠ some g) := Lib.hid (own_apart hD5.row hown2 (by decide) rfl)
          obtain ⟨A2, c2, rfl, _⟩ := HO2.out
          clear hown2 hgrow2 hnn2
          obtain ⟨X, hX⟩ : ∃ X : VAct, X = ⟨⟨m.beg, m.fin, m.pat⟩, .slice A2 m.pat.length c2⟩ := ⟨_, rfl⟩
          have hXv : X.v = .slice A2 m.pat.length c2 := by rw [hX]
          have hXa : X.a = actOf m := by rw [hX]; rfl
          obtain ⟨w6, hw6⟩ : ∃ w6, w6 = w5.alloc (.cells #[.int .i64 m.beg, .int .i64 m.fin, .slice A2 m.pat.length c2] 144) := ⟨_, rfl⟩
          have hb6 : Below w5.heap.size w5 w6 := by rw [hw6]; exact (Below.refl _ _).alloc (Nat.le_refl _) _
          have hS6 : Below W.heap.size W w6 := hS5.trans (hb6.mono hS5.size)
          have HD6 : Hid (ActsSt SB w6 g cap L) := Lib.hid (ActsSt.below hD5 hb6)
          have HO6 : Hid (OwnL editCells m.pat w3.heap.size w6 (.slice A2 m.pat.length c2)) := Lib.hid (HO2.out.on hb6)
          have hg6 := HD6.out.row.lt g rfl
          have hg5 := (hD5.row.lt g rfl).2
          have hgS : W.heap.size ≤ g := Nat.le_trans hSB hg6.1
          have hLl : L.length = a.acts.length := by rw [← List.length_map, hLm]
          have hLn : (L.map toS).length = a.acts.length := by rw [List.length_map, hLl]
          have hown6 : w6.ownsRow SB 144 3 (.slice (some ⟨g, 0, none⟩) a.acts.length cap) a.acts.length ((L.map toS).flatMap sCells) := by rw [toS_flat HD6.out, ← hLl]; exact HD6.out.row
          have hblk : Blk w6 w5.heap.size 144 (sCells (toS X)) := by rw [toS_cells hXv, hX, hw6]; exact alloc_at _ _
          have hbase6 : SB ≤ w6.heap.size := by omega
          have HINS := Lib.hid (insC_any (L.map toS) (toS X) k SB g a.acts.length cap w5.heap.size 1 w6 hLn hk (by omega) hown6 hblk (by omega) hbase6)
          unfold InsPost at HINS
          have HXX := Lib.hid (show X.v = .slice A2 m.pat.length c2 ∧ X.a = actOf m from ⟨hXv, hXa⟩)
          have HLM := Lib.hid (show L.map (·.a) = a.acts from hLm)
          have HW6 := Lib.hid hw6
          have HLL := Lib.hid hLl
          clear hw6 hX hXv hXa hLl hLn hown6 hblk hLm
          refine hK.out _ _ (HKEEP.out _ hS5) (fun hHeld2 => ?_)
          clear hK K hHeld
          have hHeld := hHeld2
          clear hHeld2
          try simp only [Act.put, List.setIfInBounds_toArray, List.set_cons_zero, List.set_cons_succ]
          refine wpAnyH_take (i := 12) (v := ?_) rfl (by kernel_rfl) (by kernel_rfl) (by kernel_rfl) (fun _ _ _ h => h) (Or.inl ⟨by rfl, ?_⟩) (by assumption) ?_
          rotate_left
          · intro w hSw
            try dsimp only at hSw
            simp only [List.getElem_toArray, List.getElem_cons_zero, List.getElem_cons_succ]
            first | (go_simp; done) | (go_simp; with_reducible rfl)
          try simp only [Act.put, List.getElem_toArray, List.getElem_cons_zero, List.getElem_cons_succ, List.setIfInBounds_toArray, List.set_cons_zero, List.set_cons_succ]
          refine wpAnyH_ready (rs := [13]) (by kernel_rfl) (by simp) ?_
          refine AllReadyH.cons rfl (fun K hK => ?_) AllReadyH.nil
          try simp only [List.getElem_toArray, List.getElem_cons_zero, List.getElem_cons_succ]
          go_simp
          rw [← HW6.out]
          refine hK.out _ _ (HKEEP.out _ hS6) (fun hHeld2 => ?_)
          clear hK K hHeld
          have hHeld := hHeld2
          clear hHeld2
          try simp only [Act.put, List.setIfInBounds_toArray, List.set_cons_zero, List.set_cons_succ]
          refine wpAnyH_ready (rs := [14]) (by kernel_rfl) (by simp) ?_
          refine AllReadyH.cons rfl (fun K hK => ?_) AllReadyH.nil
          try simp only [List.getElem_toArray, List.getElem_cons_zero, List.getElem_cons_succ]
          go_simp
          rw [HLL.out]
          go_at_call 165
          refine Calls.mono (HINS.out) ?_
          rintro e w7 ⟨v7, rfl, hown7, hnn7, hon7⟩
          have hS7 : Below W.heap.size W w7 := hS6.trans (only_below hon7 hgS hS6.size)
          have HAC7 : Hid (Acts w7 w7.heap.size v7 (enterL a.acts (actOf m))) := Lib.hid (by
            have hx : Edits w7 w7.heap.size X.v X.a.pat := by
              rw [HXX.out.1, HXX.out.2]
              exact (HO6.out.touch (F := fun b => b = g) (Touch.of_grown hon7 (fun b hb => by injection hb with hb; exact hb.symm)) (fun b hb e => HNE.out (by rw [hb.2, e]))).slR (size := 4) (fun _ => rfl)
            have := ins_acts HXX.out.1 HD6.out hon7 hown7 (by rw [← HLL.out]; simp; omega) hx
            rw [List.map_append, List.map_cons, List.map_take, List.map_drop, HLM.out, HXX.out.2] at this
            unfold enterL
            rw [show enterAt a.acts (actOf m).beg = k from HAT.out]
            exact this)
          obtain ⟨A7, n7, c7, rfl⟩ : ∃ A n c, v7 = .slice A n c := by
            obtain ⟨A7, c7, hv7, _⟩ := acts_at HAC7.out
            exact ⟨A7, _, c7, hv7⟩
          refine hK.out _ _ (HKEEP.out _ hS7) (fun hHeld2 => ?_)
          clear hK K hHeld
          have hHeld := hHeld2
          clear hHeld2
          try simp only [Act.put, List.setIfInBounds_toArray, List.set_cons_zero, List.set_cons_succ]
          refine wpAnyH_take (i := 15) (v := ?_) rfl (by kernel_rfl) (by kernel_rfl) (by kernel_rfl) (fun _ _ _ h => h) (Or.inl ⟨by rfl, ?_⟩) (by assumption) ?_
          rotate_left
          · intro w hSw
            try dsimp only at hSw
            simp only [List.getElem_toArray, List.getElem_cons_zero, List.getElem_cons_succ]
            first | (go_simp; done) | (go_simp; with_reducible rfl)
          try simp only [Act.put, List.getElem_toArray, List.getElem_cons_zero, List.getElem_cons_succ, List.setIfInBounds_toArray, List.set_cons_zero, List.set_cons_succ]
          refine wpAnyH_done (by kernel_rfl) ?_ _
          clear hHeld hSD
          have HBR := Lib.hid (broken2n_any a.base (enterL a.acts (actOf m)) w7 _ _ (HST.out w7 hS7) HAC7.out HSO.out (enterL_ok HOK.out HAA.out h8))
          unfold Broken1Post at HBR
          have z9 := (HR1.out.below hS7 sW1).cell 3 _ rfl
          go_wp2_with (fail)
          refine HBR.out.mono ?_
          rintro e w8 ⟨g8, cap8, n8, rfl, hn8, hiff, hb8⟩
          have HB8 := Lib.hid (hS7.trans (hb8.mono hS7.size))
          by_cases h12 : n8 = 0
          · have HEN : Hid (entOk a.base a.acts (actOf m) = true) := Lib.hid (entOk_yes h8 (hiff.1 h12))
            subst h12
            clear hiff hb8
            go_wp2
            go_ret2
            exact ⟨_, _, _, by rw [HEN.out]; rfl, (HBW.out.trans (HB8.out.mono HBW.out.size))⟩
          · have HEN : Hid (entOk a.base a.acts (actOf m) = false) := Lib.hid (entOk_no (fun h => h12 (hiff.2 h)))
            have hn0 : ((n8 : Int) == 0) = false := by simp; omega
            clear hiff hb8 h12
            go_wp2
            go_ret2
            exact ⟨_, _, _, by rw [HEN.out]; rfl, (HBW.out.trans (HB8.out.mono HBW.out.size))⟩
        · try simp only [List.getElem_toArray, List.getElem_cons_zero, List.getElem_cons_succ]
          go_simp
          have hS1 := hSD.alloc hSD.size (.cells #[] 162)
          refine hK.out _ _ (HKEEP.out _ hS1) (fun hHeld2 => ?_)
          clear hK K hHeld
          have hHeld := hHeld2
          clear hHeld2
          try simp only [Act.put, List.setIfInBounds_toArray, List.set_cons_zero, List.set_cons_succ]
          have HOWN1 := Lib.hid (show (V.alloc (.cells #[] 162)).ownsRow V.heap.size 162 4 (.slice (some ⟨V.heap.size, 0, none⟩) 0 0) 0 [] by simpa using World.ownsRow_made V #[] 0 (Nat.le_refl _) (Nat.zero_le _) rfl)
          have hlt : V.heap.size < (V.alloc (.cells #[] 162)).heap.size := by rw [World.size_alloc]; omega
          refine wpAnyH_ready (rs := [2]) (by kernel_rfl) (by simp) ?_
          refine AllReadyH.cons rfl (fun K hK => ?_) AllReadyH.nil
          try simp only [List.getElem_toArray, List.getElem_cons_zero, List.getElem_cons_succ]
          go_simp
          go_at_call 145
          refine Calls.mono (HCL.out _ hS1) ?_
          rintro e w3 ⟨g, cap, L, rfl, hLm, hD, hb3⟩
          have hS4 := hS1.trans (hb3.mono hS1.size)
          refine hK.out _ _ (HKEEP.out _ hS4) (fun hHeld2 => ?_)
          clear hK K hHeld
          have hHeld := hHeld2
          clear hHeld2
          try simp only [Act.put, List.setIfInBounds_toArray, List.set_cons_zero, List.set_cons_succ]
          have HOWN0 := Lib.hid (own_below HOWN1.out hb3)
          have hB4 : V.heap.size ≤ w3.heap.size := Nat.le_trans (Nat.le_of_lt hlt) hb3.size
          have hWB : W.heap.size ≤ V.heap.size := hSD.size
          have hSB : W.heap.size ≤ (V.alloc (.cells #[] 162)).heap.size := hS1.size
          obtain ⟨SB, hSBe⟩ : ∃ SB, SB = (V.alloc (.cells #[] 162)).heap.size := ⟨_, rfl⟩
          rw [← hSBe] at hD hSB hlt
          clear hSBe
          refine wpAnyH_ready (rs := [11]) (by kernel_rfl) (by simp) ?_
          refine AllReadyH.cons rfl (fun K hK => ?_) AllReadyH.nil
          try simp only [List.getElem_toArray, List.getElem_cons_zero, List.getElem_cons_succ]
          refine step_append_slT editCells (by rfl) _ _ 53 (by rfl) V.heap.size 162 e0 (.agg #[.int .i64 0, .int .i64 0, .string ⟨#[]⟩, .string ⟨#[]⟩]) 4 48 Tryz.underlying53 hie he0 he1 he2 rfl (by decide) _ _ _ (by rfl) HOWN0.out _ m.pat _ (by rfl) (HE.out _ hS4) (fun _ => rfl) (fun y u hu => edit_one hu) (by unfold maxLen; omega) (by omega) hB4 ?_
          intro v2 w5 hown2 hgrow2 hnn2
          have HO2 : Hid (OwnL editCells m.pat V.heap.size w5 v2) := Lib.hid (OwnL.of_own editCells (size := 4) (fun _ => rfl) (by simpa using hown2))
          have hS5 : Below W.heap.size W w5 := hS4.grown hgrow2 hS4.size (fun j hj => Nat.le_trans hWB (HOWN0.out.lt j hj).1)
          have hD5 : ActsSt SB w5 g cap L := DrawSt.only hD hlt hgrow2
          have HNE : Hid (v2.ownBlock ≠ some g) := Lib.hid (own_apart hD5.row hown2 (by decide) rfl)
          obtain ⟨A2, c2, rfl, _⟩ := HO2.out
          clear hown2 hgrow2 hnn2
          obtain ⟨X, hX⟩ : ∃ X : VAct, X = ⟨⟨m.beg, m.fin, m.pat⟩, .slice A2 m.pat.length c2⟩ := ⟨_, rfl⟩
          have hXv : X.v = .slice A2 m.pat.length c2 := by rw [hX]
          have hXa : X.a = actOf m := by rw [hX]; rfl
          obtain ⟨w6, hw6⟩ : ∃ w6, w6 = w5.alloc (.cells #[.int .i64 m.beg, .int .i64 m.fin, .slice A2 m.pat.length c2] 144) := ⟨_, rfl⟩
          have hb6 : Below w5.heap.size w5 w6 := by rw [hw6]; exact (Below.refl _ _).alloc (Nat.le_refl _) _
          have hS6 : Below W.heap.size W w6 := hS5.trans (hb6.mono hS5.size)
          have HD6 : Hid (ActsSt SB w6 g cap L) := Lib.hid (ActsSt.below hD5 hb6)
          have HO6 : Hid (OwnL editCells m.pat V.heap.size w6 (.slice A2 m.pat.length c2)) := Lib.hid (HO2.out.on hb6)
          have hg6 := HD6.out.row.lt g rfl
          have hg5 := (hD5.row.lt g rfl).2
          have hgS : W.heap.size ≤ g := Nat.le_trans hSB hg6.1
          have hLl : L.length = a.acts.length := by rw [← List.length_map, hLm]
          have hLn : (L.map toS).length = a.acts.length := by rw [List.length_map, hLl]
          have hown6 : w6.ownsRow SB 144 3 (.slice (some ⟨g, 0, none⟩) a.acts.length cap) a.acts.length ((L.map toS).flatMap sCells) := by rw [toS_flat HD6.out, ← hLl]; exact HD6.out.row
          have hblk : Blk w6 w5.heap.size 144 (sCells (toS X)) := by rw [toS_cells hXv, hX, hw6]; exact alloc_at _ _
          have hbase6 : SB ≤ w6.heap.size := by omega
          have HINS := Lib.hid (insC_any (L.map toS) (toS X) k SB g a.acts.length cap w5.heap.size 1 w6 hLn hk (by omega) hown6 hblk (by omega) hbase6)
          unfold InsPost at HINS
          have HXX := Lib.hid (show X.v = .slice A2 m.pat.length c2 ∧ X.a = actOf m from ⟨hXv, hXa⟩)
          have HLM := Lib.hid (show L.map (·.a) = a.acts from hLm)
          have HW6 := Lib.hid hw6
          have HLL := Lib.hid hLl
          clear hw6 hX hXv hXa hLl hLn hown6 hblk hLm
          refine hK.out _ _ (HKEEP.out _ hS5) (fun hHeld2 => ?_)
          clear hK K hHeld
          have hHeld := hHeld2
          clear hHeld2
          try simp only [Act.put, List.setIfInBounds_toArray, List.set_cons_zero, List.set_cons_succ]
          refine wpAnyH_take (i := 12) (v := ?_) rfl (by kernel_rfl) (by kernel_rfl) (by kernel_rfl) (fun _ _ _ h => h) (Or.inl ⟨by rfl, ?_⟩) (by assumption) ?_
          rotate_left
          · intro w hSw
            try dsimp only at hSw
            simp only [List.getElem_toArray, List.getElem_cons_zero, List.getElem_cons_succ]
            first | (go_simp; done) | (go_simp; with_reducible rfl)
          try simp only [Act.put, List.getElem_toArray, List.getElem_cons_zero, List.getElem_cons_succ, List.setIfInBounds_toArray, List.set_cons_zero, List.set_cons_succ]
          refine wpAnyH_ready (rs := [13]) (by kernel_rfl) (by simp) ?_
          refine AllReadyH.cons rfl (fun K hK => ?_) AllReadyH.nil
          try simp only [List.getElem_toArray, List.getElem_cons_zero, List.getElem_cons_succ]
          go_simp
          rw [← HW6.out]
          refine hK.out _ _ (HKEEP.out _ hS6) (fun hHeld2 => ?_)
          clear hK K hHeld
          have hHeld := hHeld2
          clear hHeld2
          try simp only [Act.put, List.setIfInBounds_toArray, List.set_cons_zero, List.set_cons_succ]
          refine wpAnyH_ready (rs := [14]) (by kernel_rfl) (by simp) ?_
          refine AllReadyH.cons rfl (fun K hK => ?_) AllReadyH.nil
          try simp only [List.getElem_toArray, List.getElem_cons_zero, List.getElem_cons_succ]
          go_simp
          rw [HLL.out]
          go_at_call 165
          refine Calls.mono (HINS.out) ?_
          rintro e w7 ⟨v7, rfl, hown7, hnn7, hon7⟩
          have hS7 : Below W.heap.size W w7 := hS6.trans (only_below hon7 hgS hS6.size)
          have HAC7 : Hid (Acts w7 w7.heap.size v7 (enterL a.acts (actOf m))) := Lib.hid (by
            have hx : Edits w7 w7.heap.size X.v X.a.pat := by
              rw [HXX.out.1, HXX.out.2]
              exact (HO6.out.touch (F := fun b => b = g) (Touch.of_grown hon7 (fun b hb => by injection hb with hb; exact hb.symm)) (fun b hb e => HNE.out (by rw [hb.2, e]))).slR (size := 4) (fun _ => rfl)
            have := ins_acts HXX.out.1 HD6.out hon7 hown7 (by rw [← HLL.out]; simp; omega) hx
            rw [List.map_append, List.map_cons, List.map_take, List.map_drop, HLM.out, HXX.out.2] at this
            unfold enterL
            rw [show enterAt a.acts (actOf m).beg = k from HAT.out]
            exact this)
          obtain ⟨A7, n7, c7, rfl⟩ : ∃ A n c, v7 = .slice A n c := by
            obtain ⟨A7, c7, hv7, _⟩ := acts_at HAC7.out
            exact ⟨A7, _, c7, hv7⟩
          refine hK.out _ _ (HKEEP.out _ hS7) (fun hHeld2 => ?_)
          clear hK K hHeld
          have hHeld := hHeld2
          clear hHeld2
          try simp only [Act.put, List.setIfInBounds_toArray, List.set_cons_zero, List.set_cons_succ]
          refine wpAnyH_take (i := 15) (v := ?_) rfl (by kernel_rfl) (by kernel_rfl) (by kernel_rfl) (fun _ _ _ h => h) (Or.inl ⟨by rfl, ?_⟩) (by assumption) ?_
          rotate_left
          · intro w hSw
            try dsimp only at hSw
            simp only [List.getElem_toArray, List.getElem_cons_zero, List.getElem_cons_succ]
            first | (go_simp; done) | (go_simp; with_reducible rfl)
          try simp only [Act.put, List.getElem_toArray, List.getElem_cons_zero, List.getElem_cons_succ, List.setIfInBounds_toArray, List.set_cons_zero, List.set_cons_succ]
          refine wpAnyH_done (by kernel_rfl) ?_ _
          clear hHeld hSD
          have HBR := Lib.hid (broken2n_any a.base (enterL a.acts (actOf m)) w7 _ _ (HST.out w7 hS7) HAC7.out HSO.out (enterL_ok HOK.out HAA.out h8))
          unfold Broken1Post at HBR
          have z9 := (HR1.out.below hS7 sW1).cell 3 _ rfl
          go_wp2_with (fail)
          refine HBR.out.mono ?_
          rintro e w8 ⟨g8, cap8, n8, rfl, hn8, hiff, hb8⟩
          have HB8 := Lib.hid (hS7.trans (hb8.mono hS7.size))
          by_cases h12 : n8 = 0
          · have HEN : Hid (entOk a.base a.acts (actOf m) = true) := Lib.hid (entOk_yes h8 (hiff.1 h12))
            subst h12
            clear hiff hb8
            go_wp2
            go_ret2
            exact ⟨_, _, _, by rw [HEN.out]; rfl, (HBW.out.trans (HB8.out.mono HBW.out.size))⟩
          · have HEN : Hid (entOk a.base a.acts (actOf m) = false) := Lib.hid (entOk_no (fun h => h12 (hiff.2 h)))
            have hn0 : ((n8 : Int) == 0) = false := by simp; omega
            clear hiff hb8 h12
            go_wp2
            go_ret2
            exact ⟨_, _, _, by rw [HEN.out]; rfl, (HBW.out.trans (HB8.out.mono HBW.out.size))⟩
    · have hge : ¬ (k : Int) < (a.acts.length : Int) := by omega
      go_upto_region 4 with (fail)
      refine wp_region_at (by kernel_rfl) (by kernel_rfl) ?_
      repeat (go_big_quiet_step (fail))
      refine wpQuiet_nil ?_
      rintro _ ⟨u, rfl⟩
      have HAT : Hid (enterAt a.acts m.beg = k) := Lib.hid (enterAt_eq hk HBE.out (Or.inl (by omega)))
      have HCL := Lib.hid (fun (W' : World) (hb : Below W.heap.size W W') => clone2_any a.acts W' _ (HAC.out W' hb) HOK.out)
      have hk0 : (0 : Int) ≤ (k : Int) := by omega
      unfold CopyPost at HCL
      have HUB := Lib.hid u.ok
      obtain ⟨i0, hi, hz0, hz1', hz2⟩ := info_parts Tryz.infoAct
      obtain ⟨e0, hie, he0, he1, he2⟩ := info_parts Tryz.infoE
      go_upto_region 6 with (fail)
      obtain ⟨U, hU⟩ : ∃ U, U = u.val := ⟨_, rfl⟩
      have hS0 : Below W.heap.size W U := by rw [hU]; exact u.ok
      rw [← hU]
      clear hU
      have HKEEP : Hid (∀ w', Below W.heap.size W w' → w'.cell? ⟨w.heap.size, 4, none⟩ = some (.slice Ac a.acts.length cc) ∧ w'.cell? ⟨w.heap.size + 1, 3, none⟩ = some (.int .i64 m.beg) ∧ w'.cell? ⟨w.heap.size + 1, 4, none⟩ = some (.int .i64 m.fin) ∧ w'.cell? ⟨w.heap.size + 1, 2, none⟩ = some (.slice pA m.pat.length pc)) := Lib.hid (fun X hX => ⟨(HR1.out.below hX sW1).cell 4 _ rfl, (HR2.out.below hX sW2).cell 3 _ rfl, (HR2.out.below hX sW2).cell 4 _ rfl, (HR2.out.below hX sW2).cell 2 _ rfl⟩)
      clear z3 z4
      refine wp_region_held_drew (S := fun w' => w'.cell? ⟨w.heap.size, 4, none⟩ = some (.slice Ac a.acts.length cc) ∧ w'.cell? ⟨w.heap.size + 1, 3, none⟩ = some (.int .i64 m.beg) ∧ w'.cell? ⟨w.heap.size + 1, 4, none⟩ = some (.int .i64 m.fin) ∧ w'.cell? ⟨w.heap.size + 1, 2, none⟩ = some (.slice pA m.pat.length pc)) (by kernel_rfl) (HKEEP.out _ hS0.drew) (fun hHeld => ?_)
      refine wpAnyH_take (i := 0) (v := ?_) rfl (by kernel_rfl) (by kernel_rfl) (by kernel_rfl) (fun _ _ _ h => h) (Or.inl ⟨by rfl, ?_⟩) (by assumption) ?_
      rotate_left
      · intro w hSw
        try dsimp only at hSw
        simp only [List.getElem_toArray, List.getElem_cons_zero]
        first | (go_simp; done) | (go_simp; with_reducible rfl)
      try simp only [Act.put, List.getElem_toArray, List.getElem_cons_zero, List.setIfInBounds_toArray, List.set_cons_zero, List.set_cons_succ]
      refine wpAnyH_take (i := 1) (v := ?_) rfl (by kernel_rfl) (by kernel_rfl) (by kernel_rfl) (fun _ _ _ h => h) (Or.inl ⟨by rfl, ?_⟩) (by assumption) ?_
      rotate_left
      · intro w hSw
        try dsimp only at hSw
        simp only [List.getElem_toArray, List.getElem_cons_zero, List.getElem_cons_succ]
        first | (go_simp; done) | (go_simp; with_reducible rfl)
      try simp only [Act.put, List.getElem_toArray, List.getElem_cons_zero, List.getElem_cons_succ, List.setIfInBounds_toArray, List.set_cons_zero, List.set_cons_succ]
      refine wpAnyH_take (i := 3) (v := ?_) rfl (by kernel_rfl) (by kernel_rfl) (by kernel_rfl) (fun _ _ _ h => h) (Or.inl ⟨by rfl, ?_⟩) (by assumption) ?_
      rotate_left
      · intro w hSw
        try dsimp only at hSw
        simp only [List.getElem_toArray, List.getElem_cons_zero, List.getElem_cons_succ]
        first | (go_simp; done) | (go_simp; with_reducible rfl)
      try simp only [Act.put, List.getElem_toArray, List.getElem_cons_zero, List.getElem_cons_succ, List.setIfInBounds_toArray, List.set_cons_zero, List.set_cons_succ]
      refine wpAnyH_take (i := 4) (v := ?_) rfl (by kernel_rfl) (by kernel_rfl) (by kernel_rfl) (fun _ _ _ h => h) (Or.inl ⟨by rfl, ?_⟩) (by assumption) ?_
      rotate_left
      · intro w hSw
        try dsimp only at hSw
        simp only [List.getElem_toArray, List.getElem_cons_zero, List.getElem_cons_succ]
        first | (go_simp; done) | (go_simp; with_reducible rfl)
      try simp only [Act.put, List.getElem_toArray, List.getElem_cons_zero, List.getElem_cons_succ, List.setIfInBounds_toArray, List.set_cons_zero, List.set_cons_succ]
      refine wpAnyH_take (i := 5) (v := ?_) rfl (by kernel_rfl) (by kernel_rfl) (by kernel_rfl) (fun _ _ _ h => h) (Or.inl ⟨by rfl, ?_⟩) (by assumption) ?_
      rotate_left
      · intro w hSw
        try dsimp only at hSw
        simp only [List.getElem_toArray, List.getElem_cons_zero, List.getElem_cons_succ]
        first | (go_simp; done) | (go_simp; with_reducible rfl)
      try simp only [Act.put, List.getElem_toArray, List.getElem_cons_zero, List.getElem_cons_succ, List.setIfInBounds_toArray, List.set_cons_zero, List.set_cons_succ]
      refine wpAnyH_take (i := 6) (v := ?_) rfl (by kernel_rfl) (by kernel_rfl) (by kernel_rfl) (fun _ _ _ h => h) (Or.inl ⟨by rfl, ?_⟩) (by assumption) ?_
      rotate_left
      · intro w hSw
        try dsimp only at hSw
        simp only [List.getElem_toArray, List.getElem_cons_zero, List.getElem_cons_succ]
        first | (go_simp; done) | (go_simp; with_reducible rfl)
      try simp only [Act.put, List.getElem_toArray, List.getElem_cons_zero, List.getElem_cons_succ, List.setIfInBounds_toArray, List.set_cons_zero, List.set_cons_succ]
      refine wpAnyH_take (i := 7) (v := ?_) rfl (by kernel_rfl) (by kernel_rfl) (by kernel_rfl) (fun _ _ _ h => h) (Or.inl ⟨by rfl, ?_⟩) (by assumption) ?_
      rotate_left
      · intro w hSw
        try dsimp only at hSw
        simp only [List.getElem_toArray, List.getElem_cons_zero, List.getElem_cons_succ]
        first | (go_simp; done) | (go_simp; with_reducible rfl)
      try simp only [Act.put, List.getElem_toArray, List.getElem_cons_zero, List.getElem_cons_succ, List.setIfInBounds_toArray, List.set_cons_zero, List.set_cons_succ]
      refine wpAnyH_take (i := 9) (v := ?_) rfl (by kernel_rfl) (by kernel_rfl) (by kernel_rfl) (fun _ _ _ h => h) (Or.inl ⟨by rfl, ?_⟩) (by assumption) ?_
      rotate_left
      · intro w hSw
        try dsimp only at hSw
        simp only [List.getElem_toArray, List.getElem_cons_zero, List.getElem_cons_succ]
        first | (go_simp; done) | (go_simp; with_reducible rfl)
      try simp only [Act.put, List.getElem_toArray, List.getElem_cons_zero, List.getElem_cons_succ, List.setIfInBounds_toArray, List.set_cons_zero, List.set_cons_succ]
      refine wpAnyH_take (i := 10) (v := ?_) rfl (by kernel_rfl) (by kernel_rfl) (by kernel_rfl) (fun _ _ _ h => h) (Or.inl ⟨by rfl, ?_⟩) (by assumption) ?_
      rotate_left
      · intro w hSw
        try dsimp only at hSw
        simp only [List.getElem_toArray, List.getElem_cons_zero, List.getElem_cons_succ]
        first | (go_simp; done) | (go_simp; with_reducible rfl)
      try simp only [Act.put, List.getElem_toArray, List.getElem_cons_zero, List.getElem_cons_succ, List.setIfInBounds_toArray, List.set_cons_zero, List.set_cons_succ]
      have hSD : Below W.heap.size W U.drew := hS0.drew
      obtain ⟨V, hV⟩ : ∃ V, V = U.drew := ⟨_, rfl⟩
      rw [← hV] at hSD ⊢
      clear hV hS0
      refine wpAnyH_ready (rs := [2, 8]) (by kernel_rfl) (by simp) ?_
      refine AllReadyH.cons rfl (fun K hK => ?_) (AllReadyH.cons rfl (fun K hK => ?_) AllReadyH.nil)
      · try simp only [List.getElem_toArray, List.getElem_cons_zero, List.getElem_cons_succ]
        go_simp
        go_at_call 145
        refine Calls.mono (HCL.out _ hSD) ?_
        rintro e w3 ⟨g, cap, L, rfl, hLm, hD, hb3⟩
        have hS3 := hSD.trans (hb3.mono hSD.size)
        refine hK.out _ _ (HKEEP.out _ hS3) (fun hHeld2 => ?_)
        clear hK K hHeld
        have hHeld := hHeld2
        clear hHeld2
        try simp only [Act.put, List.setIfInBounds_toArray, List.set_cons_zero, List.set_cons_succ]
        refine wpAnyH_ready (rs := [8]) (by kernel_rfl) (by simp) ?_
        refine AllReadyH.cons rfl (fun K hK => ?_) AllReadyH.nil
        try simp only [List.getElem_toArray, List.getElem_cons_zero, List.getElem_cons_succ]
        go_simp
        have hS4 := hS3.alloc hS3.size (.cells #[] 162)
        refine hK.out _ _ (HKEEP.out _ hS4) (fun hHeld2 => ?_)
        clear hK K hHeld
        have hHeld := hHeld2
        clear hHeld2
        try simp only [Act.put, List.setIfInBounds_toArray, List.set_cons_zero, List.set_cons_succ]
        have hown0 : (w3.alloc (.cells #[] 162)).ownsRow w3.heap.size 162 4 (.slice (some ⟨w3.heap.size, 0, none⟩) 0 0) 0 [] := by simpa using World.ownsRow_made w3 #[] 0 (Nat.le_refl _) (Nat.zero_le _) rfl
        have HOWN0 := Lib.hid hown0
        have hbb : Below w3.heap.size w3 (w3.alloc (.cells #[] 162)) := (Below.refl _ _).alloc (Nat.le_refl _) _
        have hDr := ActsSt.below hD hbb
        have hB4 : w3.heap.size ≤ (w3.alloc (.cells #[] 162)).heap.size := hbb.size
        have hWB : W.heap.size ≤ w3.heap.size := hS3.size
        obtain ⟨SB, hSBe⟩ : ∃ SB, SB = V.heap.size := ⟨_, rfl⟩
        have hSB : W.heap.size ≤ SB := by rw [hSBe]; exact hSD.size
        rw [← hSBe] at hDr hD
        clear hSBe
        refine wpAnyH_ready (rs := [11]) (by kernel_rfl) (by simp) ?_
        refine AllReadyH.cons rfl (fun K hK => ?_) AllReadyH.nil
        try simp only [List.getElem_toArray, List.getElem_cons_zero, List.getElem_cons_succ]
        refine step_append_slT editCells (by rfl) _ _ 53 (by rfl) w3.heap.size 162 e0 (.agg #[.int .i64 0, .int .i64 0, .string ⟨#[]⟩, .string ⟨#[]⟩]) 4 48 Tryz.underlying53 hie he0 he1 he2 rfl (by decide) _ _ _ (by rfl) HOWN0.out _ m.pat _ (by rfl) (HE.out _ hS4) (fun _ => rfl) (fun y u hu => edit_one hu) (by unfold maxLen; omega) (by omega) hB4 ?_
        intro v2 w5 hown2 hgrow2 hnn2
        have HO2 : Hid (OwnL editCells m.pat w3.heap.size w5 v2) := Lib.hid (OwnL.of_own editCells (size := 4) (fun _ => rfl) (by simpa using hown2))
        have hS5 : Below W.heap.size W w5 := hS4.grown hgrow2 hS4.size (fun j hj => Nat.le_trans hWB (HOWN0.out.lt j hj).1)
        have hD5 : ActsSt SB w5 g cap L := ActsSt.below hD (hbb.grown hgrow2 hbb.size (fun j hj => (HOWN0.out.lt j hj).1))
        have HNE : Hid (v2.ownBlock ≠ some g) := Lib.hid (own_apart hD5.row hown2 (by decide) rfl)
        obtain ⟨A2, c2, rfl, _⟩ := HO2.out
        clear hown2 hgrow2 hnn2
        obtain ⟨X, hX⟩ : ∃ X : VAct, X = ⟨⟨m.beg, m.fin, m.pat⟩, .slice A2 m.pat.length c2⟩ := ⟨_, rfl⟩
        have hXv : X.v = .slice A2 m.pat.length c2 := by rw [hX]
        have hXa : X.a = actOf m := by rw [hX]; rfl
        obtain ⟨w6, hw6⟩ : ∃ w6, w6 = w5.alloc (.cells #[.int .i64 m.beg, .int .i64 m.fin, .slice A2 m.pat.length c2] 144) := ⟨_, rfl⟩
        have hb6 : Below w5.heap.size w5 w6 := by rw [hw6]; exact (Below.refl _ _).alloc (Nat.le_refl _) _
        have hS6 : Below W.heap.size W w6 := hS5.trans (hb6.mono hS5.size)
        have HD6 : Hid (ActsSt SB w6 g cap L) := Lib.hid (ActsSt.below hD5 hb6)
        have HO6 : Hid (OwnL editCells m.pat w3.heap.size w6 (.slice A2 m.pat.length c2)) := Lib.hid (HO2.out.on hb6)
        have hg6 := HD6.out.row.lt g rfl
        have hg5 := (hD5.row.lt g rfl).2
        have hgS : W.heap.size ≤ g := Nat.le_trans hSB hg6.1
        have hLl : L.length = a.acts.length := by rw [← List.length_map, hLm]
        have hLn : (L.map toS).length = a.acts.length := by rw [List.length_map, hLl]
        have hown6 : w6.ownsRow SB 144 3 (.slice (some ⟨g, 0, none⟩) a.acts.length cap) a.acts.length ((L.map toS).flatMap sCells) := by rw [toS_flat HD6.out, ← hLl]; exact HD6.out.row
        have hblk : Blk w6 w5.heap.size 144 (sCells (toS X)) := by rw [toS_cells hXv, hX, hw6]; exact alloc_at _ _
        have hbase6 : SB ≤ w6.heap.size := by omega
        have HINS := Lib.hid (insC_any (L.map toS) (toS X) k SB g a.acts.length cap w5.heap.size 1 w6 hLn hk (by omega) hown6 hblk (by omega) hbase6)
        unfold InsPost at HINS
        have HXX := Lib.hid (show X.v = .slice A2 m.pat.length c2 ∧ X.a = actOf m from ⟨hXv, hXa⟩)
        have HLM := Lib.hid (show L.map (·.a) = a.acts from hLm)
        have HW6 := Lib.hid hw6
        have HLL := Lib.hid hLl
        clear hw6 hX hXv hXa hLl hLn hown6 hblk hLm
        refine hK.out _ _ (HKEEP.out _ hS5) (fun hHeld2 => ?_)
        clear hK K hHeld
        have hHeld := hHeld2
        clear hHeld2
        try simp only [Act.put, List.setIfInBounds_toArray, List.set_cons_zero, List.set_cons_succ]
        refine wpAnyH_take (i := 12) (v := ?_) rfl (by kernel_rfl) (by kernel_rfl) (by kernel_rfl) (fun _ _ _ h => h) (Or.inl ⟨by rfl, ?_⟩) (by assumption) ?_
        rotate_left
        · intro w hSw
          try dsimp only at hSw
          simp only [List.getElem_toArray, List.getElem_cons_zero, List.getElem_cons_succ]
          first | (go_simp; done) | (go_simp; with_reducible rfl)
        try simp only [Act.put, List.getElem_toArray, List.getElem_cons_zero, List.getElem_cons_succ, List.setIfInBounds_toArray, List.set_cons_zero, List.set_cons_succ]
        refine wpAnyH_ready (rs := [13]) (by kernel_rfl) (by simp) ?_
        refine AllReadyH.cons rfl (fun K hK => ?_) AllReadyH.nil
        try simp only [List.getElem_toArray, List.getElem_cons_zero, List.getElem_cons_succ]
        go_simp
        rw [← HW6.out]
        refine hK.out _ _ (HKEEP.out _ hS6) (fun hHeld2 => ?_)
        clear hK K hHeld
        have hHeld := hHeld2
        clear hHeld2
        try simp only [Act.put, List.setIfInBounds_toArray, List.set_cons_zero, List.set_cons_succ]
        refine wpAnyH_ready (rs := [14]) (by kernel_rfl) (by simp) ?_
        refine AllReadyH.cons rfl (fun K hK => ?_) AllReadyH.nil
        try simp only [List.getElem_toArray, List.getElem_cons_zero, List.getElem_cons_succ]
        go_simp
        rw [HLL.out]
        go_at_call 165
        refine Calls.mono (HINS.out) ?_
        rintro e w7 ⟨v7, rfl, hown7, hnn7, hon7⟩
        have hS7 : Below W.heap.size W w7 := hS6.trans (only_below hon7 hgS hS6.size)
        have HAC7 : Hid (Acts w7 w7.heap.size v7 (enterL a.acts (actOf m))) := Lib.hid (by
          have hx : Edits w7 w7.heap.size X.v X.a.pat := by
            rw [HXX.out.1, HXX.out.2]
            exact (HO6.out.touch (F := fun b => b = g) (Touch.of_grown hon7 (fun b hb => by injection hb with hb; exact hb.symm)) (fun b hb e => HNE.out (by rw [hb.2, e]))).slR (size := 4) (fun _ => rfl)
          have := ins_acts HXX.out.1 HD6.out hon7 hown7 (by rw [← HLL.out]; simp; omega) hx
          rw [List.map_append, List.map_cons, List.map_take, List.map_drop, HLM.out, HXX.out.2] at this
          unfold enterL
          rw [show enterAt a.acts (actOf m).beg = k from HAT.out]
          exact this)
        obtain ⟨A7, n7, c7, rfl⟩ : ∃ A n c, v7 = .slice A n c := by
          obtain ⟨A7, c7, hv7, _⟩ := acts_at HAC7.out
          exact ⟨A7, _, c7, hv7⟩
        refine hK.out _ _ (HKEEP.out _ hS7) (fun hHeld2 => ?_)
        clear hK K hHeld
        have hHeld := hHeld2
        clear hHeld2
        try simp only [Act.put, List.setIfInBounds_toArray, List.set_cons_zero, List.set_cons_succ]
        refine wpAnyH_take (i := 15) (v := ?_) rfl (by kernel_rfl) (by kernel_rfl) (by kernel_rfl) (fun _ _ _ h => h) (Or.inl ⟨by rfl, ?_⟩) (by assumption) ?_
        rotate_left
        · intro w hSw
          try dsimp only at hSw
          simp only [List.getElem_toArray, List.getElem_cons_zero, List.getElem_cons_succ]
          first | (go_simp; done) | (go_simp; with_reducible rfl)
        try simp only [Act.put, List.getElem_toArray, List.getElem_cons_zero, List.getElem_cons_succ, List.setIfInBounds_toArray, List.set_cons_zero, List.set_cons_succ]
        refine wpAnyH_done (by kernel_rfl) ?_ _
        clear hHeld hSD
        have HBR := Lib.hid (broken2n_any a.base (enterL a.acts (actOf m)) w7 _ _ (HST.out w7 hS7) HAC7.out HSO.out (enterL_ok HOK.out HAA.out h8))
        unfold Broken1Post at HBR
        have z9 := (HR1.out.below hS7 sW1).cell 3 _ rfl
        go_wp2_with (fail)
        refine HBR.out.mono ?_
        rintro e w8 ⟨g8, cap8, n8, rfl, hn8, hiff, hb8⟩
        have HB8 := Lib.hid (hS7.trans (hb8.mono hS7.size))
        by_cases h12 : n8 = 0
        · have HEN : Hid (entOk a.base a.acts (actOf m) = true) := Lib.hid (entOk_yes h8 (hiff.1 h12))
          subst h12
          clear hiff hb8
          go_wp2
          go_ret2
          exact ⟨_, _, _, by rw [HEN.out]; rfl, (HBW.out.trans (HB8.out.mono HBW.out.size))⟩
        · have HEN : Hid (entOk a.base a.acts (actOf m) = false) := Lib.hid (entOk_no (fun h => h12 (hiff.2 h)))
          have hn0 : ((n8 : Int) == 0) = false := by simp; omega
          clear hiff hb8 h12
          go_wp2
          go_ret2
          exact ⟨_, _, _, by rw [HEN.out]; rfl, (HBW.out.trans (HB8.out.mono HBW.out.size))⟩
      · try simp only [List.getElem_toArray, List.getElem_cons_zero, List.getElem_cons_succ]
        go_simp
        have hS1 := hSD.alloc hSD.size (.cells #[] 162)
        refine hK.out _ _ (HKEEP.out _ hS1) (fun hHeld2 => ?_)
        clear hK K hHeld
        have hHeld := hHeld2
        clear hHeld2
        try simp only [Act.put, List.setIfInBounds_toArray, List.set_cons_zero, List.set_cons_succ]
        have HOWN1 := Lib.hid (show (V.alloc (.cells #[] 162)).ownsRow V.heap.size 162 4 (.slice (some ⟨V.heap.size, 0, none⟩) 0 0) 0 [] by simpa using World.ownsRow_made V #[] 0 (Nat.le_refl _) (Nat.zero_le _) rfl)
        have hlt : V.heap.size < (V.alloc (.cells #[] 162)).heap.size := by rw [World.size_alloc]; omega
        refine wpAnyH_ready (rs := [2]) (by kernel_rfl) (by simp) ?_
        refine AllReadyH.cons rfl (fun K hK => ?_) AllReadyH.nil
        try simp only [List.getElem_toArray, List.getElem_cons_zero, List.getElem_cons_succ]
        go_simp
        go_at_call 145
        refine Calls.mono (HCL.out _ hS1) ?_
        rintro e w3 ⟨g, cap, L, rfl, hLm, hD, hb3⟩
        have hS4 := hS1.trans (hb3.mono hS1.size)
        refine hK.out _ _ (HKEEP.out _ hS4) (fun hHeld2 => ?_)
        clear hK K hHeld
        have hHeld := hHeld2
        clear hHeld2
        try simp only [Act.put, List.setIfInBounds_toArray, List.set_cons_zero, List.set_cons_succ]
        have HOWN0 := Lib.hid (own_below HOWN1.out hb3)
        have hB4 : V.heap.size ≤ w3.heap.size := Nat.le_trans (Nat.le_of_lt hlt) hb3.size
        have hWB : W.heap.size ≤ V.heap.size := hSD.size
        have hSB : W.heap.size ≤ (V.alloc (.cells #[] 162)).heap.size := hS1.size
        obtain ⟨SB, hSBe⟩ : ∃ SB, SB = (V.alloc (.cells #[] 162)).heap.size := ⟨_, rfl⟩
        rw [← hSBe] at hD hSB hlt
        clear hSBe
        refine wpAnyH_ready (rs := [11]) (by kernel_rfl) (by simp) ?_
        refine AllReadyH.cons rfl (fun K hK => ?_) AllReadyH.nil
        try simp only [List.getElem_toArray, List.getElem_cons_zero, List.getElem_cons_succ]
        refine step_append_slT editCells (by rfl) _ _ 53 (by rfl) V.heap.size 162 e0 (.agg #[.int .i64 0, .int .i64 0, .string ⟨#[]⟩, .string ⟨#[]⟩]) 4 48 Tryz.underlying53 hie he0 he1 he2 rfl (by decide) _ _ _ (by rfl) HOWN0.out _ m.pat _ (by rfl) (HE.out _ hS4) (fun _ => rfl) (fun y u hu => edit_one hu) (by unfold maxLen; omega) (by omega) hB4 ?_
        intro v2 w5 hown2 hgrow2 hnn2
        have HO2 : Hid (OwnL editCells m.pat V.heap.size w5 v2) := Lib.hid (OwnL.of_own editCells (size := 4) (fun _ => rfl) (by simpa using hown2))
        have hS5 : Below W.heap.size W w5 := hS4.grown hgrow2 hS4.size (fun j hj => Nat.le_trans hWB (HOWN0.out.lt j hj).1)
        have hD5 : ActsSt SB w5 g cap L := DrawSt.only hD hlt hgrow2
        have HNE : Hid (v2.ownBlock ≠ some g) := Lib.hid (own_apart hD5.row hown2 (by decide) rfl)
        obtain ⟨A2, c2, rfl, _⟩ := HO2.out
        clear hown2 hgrow2 hnn2
        obtain ⟨X, hX⟩ : ∃ X : VAct, X = ⟨⟨m.beg, m.fin, m.pat⟩, .slice A2 m.pat.length c2⟩ := ⟨_, rfl⟩
        have hXv : X.v = .slice A2 m.pat.length c2 := by rw [hX]
        have hXa : X.a = actOf m := by rw [hX]; rfl
        obtain ⟨w6, hw6⟩ : ∃ w6, w6 = w5.alloc (.cells #[.int .i64 m.beg, .int .i64 m.fin, .slice A2 m.pat.length c2] 144) := ⟨_, rfl⟩
        have hb6 : Below w5.heap.size w5 w6 := by rw [hw6]; exact (Below.refl _ _).alloc (Nat.le_refl _) _
        have hS6 : Below W.heap.size W w6 := hS5.trans (hb6.mono hS5.size)
        have HD6 : Hid (ActsSt SB w6 g cap L) := Lib.hid (ActsSt.below hD5 hb6)
        have HO6 : Hid (OwnL editCells m.pat V.heap.size w6 (.slice A2 m.pat.length c2)) := Lib.hid (HO2.out.on hb6)
        have hg6 := HD6.out.row.lt g rfl
        have hg5 := (hD5.row.lt g rfl).2
        have hgS : W.heap.size ≤ g := Nat.le_trans hSB hg6.1
        have hLl : L.length = a.acts.length := by rw [← List.length_map, hLm]
        have hLn : (L.map toS).length = a.acts.length := by rw [List.length_map, hLl]
        have hown6 : w6.ownsRow SB 144 3 (.slice (some ⟨g, 0, none⟩) a.acts.length cap) a.acts.length ((L.map toS).flatMap sCells) := by rw [toS_flat HD6.out, ← hLl]; exact HD6.out.row
        have hblk : Blk w6 w5.heap.size 144 (sCells (toS X)) := by rw [toS_cells hXv, hX, hw6]; exact alloc_at _ _
        have hbase6 : SB ≤ w6.heap.size := by omega
        have HINS := Lib.hid (insC_any (L.map toS) (toS X) k SB g a.acts.length cap w5.heap.size 1 w6 hLn hk (by omega) hown6 hblk (by omega) hbase6)
        unfold InsPost at HINS
        have HXX := Lib.hid (show X.v = .slice A2 m.pat.length c2 ∧ X.a = actOf m from ⟨hXv, hXa⟩)
        have HLM := Lib.hid (show L.map (·.a) = a.acts from hLm)
        have HW6 := Lib.hid hw6
        have HLL := Lib.hid hLl
        clear hw6 hX hXv hXa hLl hLn hown6 hblk hLm
        refine hK.out _ _ (HKEEP.out _ hS5) (fun hHeld2 => ?_)
        clear hK K hHeld
        have hHeld := hHeld2
        clear hHeld2
        try simp only [Act.put, List.setIfInBounds_toArray, List.set_cons_zero, List.set_cons_succ]
        refine wpAnyH_take (i := 12) (v := ?_) rfl (by kernel_rfl) (by kernel_rfl) (by kernel_rfl) (fun _ _ _ h => h) (Or.inl ⟨by rfl, ?_⟩) (by assumption) ?_
        rotate_left
        · intro w hSw
          try dsimp only at hSw
          simp only [List.getElem_toArray, List.getElem_cons_zero, List.getElem_cons_succ]
          first | (go_simp; done) | (go_simp; with_reducible rfl)
        try simp only [Act.put, List.getElem_toArray, List.getElem_cons_zero, List.getElem_cons_succ, List.setIfInBounds_toArray, List.set_cons_zero, List.set_cons_succ]
        refine wpAnyH_ready (rs := [13]) (by kernel_rfl) (by simp) ?_
        refine AllReadyH.cons rfl (fun K hK => ?_) AllReadyH.nil
        try simp only [List.getElem_toArray, List.getElem_cons_zero, List.getElem_cons_succ]
        go_simp
        rw [← HW6.out]
        refine hK.out _ _ (HKEEP.out _ hS6) (fun hHeld2 => ?_)
        clear hK K hHeld
        have hHeld := hHeld2
        clear hHeld2
        try simp only [Act.put, List.setIfInBounds_toArray, List.set_cons_zero, List.set_cons_succ]
        refine wpAnyH_ready (rs := [14]) (by kernel_rfl) (by simp) ?_
        refine AllReadyH.cons rfl (fun K hK => ?_) AllReadyH.nil
        try simp only [List.getElem_toArray, List.getElem_cons_zero, List.getElem_cons_succ]
        go_simp
        rw [HLL.out]
        go_at_call 165
        refine Calls.mono (HINS.out) ?_
        rintro e w7 ⟨v7, rfl, hown7, hnn7, hon7⟩
        have hS7 : Below W.heap.size W w7 := hS6.trans (only_below hon7 hgS hS6.size)
        have HAC7 : Hid (Acts w7 w7.heap.size v7 (enterL a.acts (actOf m))) := Lib.hid (by
          have hx : Edits w7 w7.heap.size X.v X.a.pat := by
            rw [HXX.out.1, HXX.out.2]
            exact (HO6.out.touch (F := fun b => b = g) (Touch.of_grown hon7 (fun b hb => by injection hb with hb; exact hb.symm)) (fun b hb e => HNE.out (by rw [hb.2, e]))).slR (size := 4) (fun _ => rfl)
          have := ins_acts HXX.out.1 HD6.out hon7 hown7 (by rw [← HLL.out]; simp; omega) hx
          rw [List.map_append, List.map_cons, List.map_take, List.map_drop, HLM.out, HXX.out.2] at this
          unfold enterL
          rw [show enterAt a.acts (actOf m).beg = k from HAT.out]
          exact this)
        obtain ⟨A7, n7, c7, rfl⟩ : ∃ A n c, v7 = .slice A n c := by
          obtain ⟨A7, c7, hv7, _⟩ := acts_at HAC7.out
          exact ⟨A7, _, c7, hv7⟩
        refine hK.out _ _ (HKEEP.out _ hS7) (fun hHeld2 => ?_)
        clear hK K hHeld
        have hHeld := hHeld2
        clear hHeld2
        try simp only [Act.put, List.setIfInBounds_toArray, List.set_cons_zero, List.set_cons_succ]
        refine wpAnyH_take (i := 15) (v := ?_) rfl (by kernel_rfl) (by kernel_rfl) (by kernel_rfl) (fun _ _ _ h => h) (Or.inl ⟨by rfl, ?_⟩) (by assumption) ?_
        rotate_left
        · intro w hSw
          try dsimp only at hSw
          simp only [List.getElem_toArray, List.getElem_cons_zero, List.getElem_cons_succ]
          first | (go_simp; done) | (go_simp; with_reducible rfl)
        try simp only [Act.put, List.getElem_toArray, List.getElem_cons_zero, List.getElem_cons_succ, List.setIfInBounds_toArray, List.set_cons_zero, List.set_cons_succ]
        refine wpAnyH_done (by kernel_rfl) ?_ _
        clear hHeld hSD
        have HBR := Lib.hid (broken2n_any a.base (enterL a.acts (actOf m)) w7 _ _ (HST.out w7 hS7) HAC7.out HSO.out (enterL_ok HOK.out HAA.out h8))
        unfold Broken1Post at HBR
        have z9 := (HR1.out.below hS7 sW1).cell 3 _ rfl
        go_wp2_with (fail)
        refine HBR.out.mono ?_
        rintro e w8 ⟨g8, cap8, n8, rfl, hn8, hiff, hb8⟩
        have HB8 := Lib.hid (hS7.trans (hb8.mono hS7.size))
        by_cases h12 : n8 = 0
        · have HEN : Hid (entOk a.base a.acts (actOf m) = true) := Lib.hid (entOk_yes h8 (hiff.1 h12))
          subst h12
          clear hiff hb8
          go_wp2
          go_ret2
          exact ⟨_, _, _, by rw [HEN.out]; rfl, (HBW.out.trans (HB8.out.mono HBW.out.size))⟩
        · have HEN : Hid (entOk a.base a.acts (actOf m) = false) := Lib.hid (entOk_no (fun h => h12 (hiff.2 h)))
          have hn0 : ((n8 : Int) == 0) = false := by simp; omega
          clear hiff hb8 h12
          go_wp2
          go_ret2
          exact ⟨_, _, _, by rw [HEN.out]; rfl, (HBW.out.trans (HB8.out.mono HBW.out.size))⟩
end Go.Proofs.YtnandbammmcncaaGreat

namespace Go.Proofs.YtnandbammmcncaaGreat
open Go.RowKit Go.Lib

theorem endsL_le (V : List Voi) (rule : Int) : (endsL V rule).length ≤ V.length := by
  unfold endsL
  split
  · next h => exact Nat.le_of_eq h.choose_spec.1
  · exact Nat.zero_le _
theorem countM_bound {a : Asm} {vs : List Int} (hl : vs.length = a.trust.length) (hn : a.trust.length ≤ 12) (j : Nat) : 0 ≤ (countM a vs).getD j 0 ∧ (countM a vs).getD j 0 ≤ 12 := by
  have h1 := countL_bound vs (endsL (voices vs a.trust) a.rule) j
  have h2 := endsL_le (voices vs a.trust) a.rule
  rw [voices_len hl] at h2
  unfold countM
  omega
open Classical in
noncomputable def verM (a : Asm) (m : Mot) (vs : List Int) : Int :=
  if 2 * ((countM a vs).getD 0 0 + (countM a vs).getD 1 0 + (countM a vs).getD 2 0) < (a.trust.length : Int) then 3
  else if (countM a vs).getD 1 0 ≤ (countM a vs).getD 0 0 then 2
  else if entOk a.base a.acts (actOf m) = true then 1 else 4
theorem verM_void {a : Asm} {m : Mot} {vs : List Int} (h : 2 * ((countM a vs).getD 0 0 + (countM a vs).getD 1 0 + (countM a vs).getD 2 0) < (a.trust.length : Int)) : verM a m vs = 3 := by unfold verM; rw [if_pos h]
theorem verM_rej {a : Asm} {m : Mot} {vs : List Int} (h : ¬ 2 * ((countM a vs).getD 0 0 + (countM a vs).getD 1 0 + (countM a vs).getD 2 0) < (a.trust.length : Int)) (h2 : (countM a vs).getD 1 0 ≤ (countM a vs).getD 0 0) : verM a m vs = 2 := by unfold verM; rw [if_neg h, if_pos h2]
theorem verM_ent {a : Asm} {m : Mot} {vs : List Int} (h : ¬ 2 * ((countM a vs).getD 0 0 + (countM a vs).getD 1 0 + (countM a vs).getD 2 0) < (a.trust.length : Int)) (h2 : ¬ (countM a vs).getD 1 0 ≤ (countM a vs).getD 0 0) : verM a m vs = if entOk a.base a.acts (actOf m) = true then 1 else 4 := by unfold verM; rw [if_neg h, if_neg h2]
theorem count_cell {a : Asm} {vs : List Int} {base g : Nat} {w : World} (h : OwnL intCells (countM a vs) base w (.slice (some ⟨g, 0, none⟩) 4 4)) {j : Nat} (hj : j < 4) : w.cell? ⟨g, j, none⟩ = some (.int .i64 ((countM a vs).getD j 0)) := by
  have hlen := countM_len a vs
  obtain ⟨A, c, e, h1, h2, h3⟩ := h
  injection e with e1 e2 e3
  obtain ⟨g', hg', _, _, hr⟩ := h3 (fun e => by rw [e] at hlen; cases hlen)
  rw [← e1] at hg'
  injection hg' with hg'
  injection hg' with hg'
  subst hg'
  rw [flat_ints] at hr
  exact hr.cell j _ (map_getD (by omega))
/-- What the verdicts want of the assembly and the motion in memory. -/
structure VerIn (a : Asm) (m : Mot) (vs : List Int) (w : World) (At : Option Addr) (ct : Nat) (Ab : Option Addr) (cb : Nat) (Ac : Option Addr) (cc : Nat) (pA : Option Addr) (pc : Nat) (Av : Option Addr) (cv : Nat) : Prop where
  rt : RowsR w w.heap.size (.slice At a.trust.length ct) a.trust
  rs : Arts w w.heap.size (.slice Ab a.base.length cb) a.base
  ra : Acts w w.heap.size (.slice Ac a.acts.length cc) a.acts
  re : Edits w w.heap.size (.slice pA m.pat.length pc) m.pat
  rv : Ints w w.heap.size (.slice Av vs.length cv) vs
  len : vs.length = a.trust.length
  ok : AsmOk a
  stat : okStat a.base = true
  acts : okActs a.acts = true
  act : okActa (actOf m) = true
theorem VerIn.on {a : Asm} {m : Mot} {vs : List Int} {w w' : World} {At : Option Addr} {ct : Nat} {Ab : Option Addr} {cb : Nat} {Ac : Option Addr} {cc : Nat} {pA : Option Addr} {pc : Nat} {Av : Option Addr} {cv : Nat} (h : VerIn a m vs w At ct Ab cb Ac cc pA pc Av cv) (hb : Below w.heap.size w w') : VerIn a m vs w' At ct Ab cb Ac cc pA pc Av cv :=
  ⟨h.rt.on hb hb.size, SlR.on h.rs (Pl.stays _) hb hb.size, h.ra.on hb hb.size, SlR.on h.re (Pl.stays _) hb hb.size, SlR.on h.rv (Pl.stays _) hb hb.size, h.len, h.ok, h.stat, h.acts, h.act⟩

set_option maxRecDepth 100000 in
set_option maxHeartbeats 8000000 in
theorem decide1_any (a : Asm) (m : Mot) (vs : List Int) (At : Option Addr) (ct : Nat) (Ab : Option Addr) (cb : Nat) (Ac : Option Addr) (cc : Nat) (pA : Option Addr) (pc : Nat) (Av : Option Addr) (cv : Nat) (b o bm om : Nat) (w : World) (hI : VerIn a m vs w At ct Ab cb Ac cc pA pc Av cv)
    (k1 : w.cell? ⟨b, o + 1, none⟩ = some (.int .i64 a.rule)) (k2 : w.cell? ⟨b, o + 2, none⟩ = some (.slice At a.trust.length ct)) (k3 : w.cell? ⟨b, o + 3, none⟩ = some (.slice Ab a.base.length cb)) (k4 : w.cell? ⟨b, o + 4, none⟩ = some (.slice Ac a.acts.length cc))
    (p2 : w.cell? ⟨bm, om + 2, none⟩ = some (.slice pA m.pat.length pc)) (p3 : w.cell? ⟨bm, om + 3, none⟩ = some (.int .i64 m.beg)) (p4 : w.cell? ⟨bm, om + 4, none⟩ = some (.int .i64 m.fin)) :
    Calls Tryz.prog 68 #[.pointer (some ⟨b, o, none⟩), .pointer (some ⟨bm, om, none⟩), .slice Av vs.length cv] w (RetB (.int .i64 (verM a m vs)) w) := by
  have hlen := hI.len
  have hn12 := hI.ok.n12
  have hb0 := countM_bound hlen hn12 0
  have hb1 := countM_bound hlen hn12 1
  have hb2 := countM_bound hlen hn12 2
  have HCO := Lib.hid (fun y : Aft w => count1_any a At ct vs b o Av cv y.val (y.cell k1) (y.cell k2) (hI.on y.ok).rt (hI.on y.ok).rv hI.len hI.ok)
  have HEN := Lib.hid (fun y : Aft w => enter1_any a.base a.acts (actOf m) (.slice Ab a.base.length cb) (.slice Ac a.acts.length cc) bm om pA pc y.val (hI.on y.ok).rs (hI.on y.ok).ra hI.stat hI.acts hI.act (y.cell p2) (y.cell p3) (y.cell p4) (hI.on y.ok).re)
  unfold CountPost at HCO
  unfold EnterPost at HEN
  have HK3 := Lib.hid (fun y : Aft w => y.cell k3)
  have HK4 := Lib.hid (fun y : Aft w => y.cell k4)
  have HVO := Lib.hid (verM_void (a := a) (m := m) (vs := vs))
  have HVR := Lib.hid (verM_rej (a := a) (m := m) (vs := vs))
  have HVE := Lib.hid (verM_ent (a := a) (m := m) (vs := vs))
  have HLN := Lib.hid hlen
  have hv12 : vs.length ≤ 12 := by omega
  clear k1 k2 k3 k4 p2 p3 p4 hI hlen
  refine calls_aft fun x0 => ?_
  go_enter Tryz.func68, Tryz.ntmps68
  go_wp2_with (fail)
  refine (HCO.out x0).mono ?_
  rintro e w3 ⟨g, rfl, hT3, hb3⟩
  have hb3 := x0.ok.trans (hb3.mono x0.ok.size)
  have HB3 := Lib.hid hb3
  have c0 := count_cell hT3 (j := 0) (by decide)
  have c1 := count_cell hT3 (j := 1) (by decide)
  have c2 := count_cell hT3 (j := 2) (by decide)
  clear hT3
  generalize (countM a vs).getD 0 0 = n0 at *
  generalize (countM a vs).getD 1 0 = n1 at *
  generalize (countM a vs).getD 2 0 = n2 at *
  have z0 := fun y : Aft w3 => y.cell c0
  have z1 := fun y : Aft w3 => y.cell c1
  have z2 := fun y : Aft w3 => y.cell c2
  clear c0 c1 c2 hb3
  go_upto_region 2 with (fail)
  refine wp_aft fun x1 => ?_
  by_cases h3 : 2 * (n0 + n1 + n2) < (vs.length : Int)
  · have HV := Lib.hid (HVO.out (HLN.out ▸ h3))
    refine wp_region_at (by kernel_rfl) (by kernel_rfl) ?_
    repeat (go_big_quiet_step (fail))
    refine wpQuiet_nil ?_
    rintro _ ⟨u, rfl⟩
    go_wp2
    go_ret
    exact ⟨by rw [HV.out]; rfl, aft_done HB3.out u⟩
  have HV3 := Lib.hid (show ¬ 2 * (n0 + n1 + n2) < (a.trust.length : Int) from HLN.out ▸ h3)
  have hd3 : decide (2 * (n0 + n1 + n2) < (vs.length : Int)) = false := by simp; omega
  refine wp_region_at (by kernel_rfl) (by kernel_rfl) ?_
  repeat (go_big_quiet_step (fail))
  refine wpQuiet_nil ?_
  rintro _ ⟨u, rfl⟩
  go_wp2
  clear hd3 h3
  by_cases h2 : n1 ≤ n0
  · have HV := Lib.hid (HVR.out HV3.out h2)
    rw [HV.out]
    go_upto_region 4 with (fail)
    refine wp_region_at (by kernel_rfl) (by kernel_rfl) ?_
    repeat (go_big_quiet_step (fail))
    refine wpQuiet_nil ?_
    rintro _ ⟨u2, rfl⟩
    go_wp2
    go_ret
    exact ⟨by rw [HV.out]; rfl, aft_done HB3.out u2⟩
  have HV := Lib.hid (HVE.out HV3.out (by omega))
  have hd2 : decide (n1 ≤ n0) = false := by simp; omega
  go_upto_region 4 with (fail)
  refine wp_region_at (by kernel_rfl) (by kernel_rfl) ?_
  repeat (go_big_quiet_step (fail))
  refine wpQuiet_nil ?_
  rintro _ ⟨u2, rfl⟩
  clear hd2 h2 z0 z1 z2
  go_upto_region 6 with (fail)
  obtain ⟨U, hU⟩ : ∃ U, U = u2.val := ⟨_, rfl⟩
  have hS0 : Below w3.heap.size w3 U := by rw [hU]; exact u2.ok
  rw [← hU]
  clear hU
  have HKEEP : Hid (∀ w', Below w3.heap.size w3 w' → w'.cell? ⟨b, o + 3, none⟩ = some (.slice Ab a.base.length cb) ∧ w'.cell? ⟨b, o + 4, none⟩ = some (.slice Ac a.acts.length cc) ∧ Below w3.heap.size w3 w') := Lib.hid (fun X hX => ⟨HK3.out ⟨X, HB3.out.trans (hX.mono HB3.out.size)⟩, HK4.out ⟨X, HB3.out.trans (hX.mono HB3.out.size)⟩, hX⟩)
  have HEE := Lib.hid (fun (W' : World) (h : Below w3.heap.size w3 W') => HEN.out ⟨W', HB3.out.trans (h.mono HB3.out.size)⟩)
  obtain ⟨q3, q4, -⟩ := HKEEP.out U hS0
  go_region_held3 (fun w' => w'.cell? ⟨b, o + 3, none⟩ = some (.slice Ab a.base.length cb) ∧ w'.cell? ⟨b, o + 4, none⟩ = some (.slice Ac a.acts.length cc) ∧ Below w3.heap.size w3 w')
    (first | exact HKEEP.out _ hS0 | exact HKEEP.out _ hS0.drew | exact HKEEP.out _ (by assumption))
    (first | (go_at_call 122; refine (HEE.out _ (by first | exact hS0 | exact hS0.drew | assumption)).mono ?_; rintro e w4 ⟨A4, n4, c4, rfl, _, hb4⟩; have hS4 : Below w3.heap.size w3 w4 := Below.trans (by first | exact hS0 | exact hS0.drew | assumption) (hb4.mono (by first | exact hS0.size | exact hS0.drew.size))))
  all_goals
    have hF : Below w.heap.size w w4 := HB3.out.trans (hS4.mono HB3.out.size)
    clear hS4 hb4
    cases hen : entOk a.base a.acts (actOf m) with
    | false =>
      rw [hen] at HV
      go_wp2
      go_ret
      exact ⟨by rw [HV.out]; rfl, hF⟩
    | true =>
      rw [hen] at HV
      go_wp2
      go_ret
      exact ⟨by rw [HV.out]; rfl, hF⟩
end Go.Proofs.YtnandbammmcncaaGreat

namespace Go.Proofs.YtnandbammmcncaaGreat
open Go.RowKit Go.Lib

set_option maxRecDepth 100000 in
set_option maxHeartbeats 8000000 in
theorem verdict2_any (a : Asm) (m : Mot) (vs : List Int) (At : Option Addr) (ct : Nat) (Ab : Option Addr) (cb : Nat) (Ac : Option Addr) (cc : Nat) (Am : Option Addr) (cm : Nat) (pA : Option Addr) (pc : Nat) (vA : Option Addr) (vc : Nat) (Av : Option Addr) (cv : Nat) (w : World) (hI : VerIn a m vs w At ct Ab cb Ac cc pA pc Av cv) :
    Calls Tryz.prog 69 #[.agg #[.int .i64 a.day, .int .i64 a.rule, .slice At a.trust.length ct, .slice Ab a.base.length cb, .slice Ac a.acts.length cc, .slice Am a.mots.length cm], .agg #[.string m.title, .int .i64 m.author, .slice pA m.pat.length pc, .int .i64 m.beg, .int .i64 m.fin, .int .i64 m.closes, .slice vA m.votes.length vc, .int .i64 m.result], .slice Av vs.length cv] w (RetB (.int .i64 (verM a m vs)) w) := by
  have hlen := hI.len
  have hn12 := hI.ok.n12
  have hb0 := countM_bound hlen hn12 0
  have hb1 := countM_bound hlen hn12 1
  have hb2 := countM_bound hlen hn12 2
  obtain ⟨W1, hW1⟩ : ∃ W1 : World, W1 = w.alloc (.cells #[.int .i64 a.day, .int .i64 a.rule, .slice At a.trust.length ct, .slice Ab a.base.length cb, .slice Ac a.acts.length cc, .slice Am a.mots.length cm] 36) := ⟨_, rfl⟩
  obtain ⟨W, hW⟩ : ∃ W : World, W = W1.alloc (.cells #[.string m.title, .int .i64 m.author, .slice pA m.pat.length pc, .int .i64 m.beg, .int .i64 m.fin, .int .i64 m.closes, .slice vA m.votes.length vc, .int .i64 m.result] 78) := ⟨_, rfl⟩
  have b1 : Below w.heap.size w W1 := by rw [hW1]; exact (Below.refl _ _).alloc (Nat.le_refl _) _
  have s1 : W1.heap.size = w.heap.size + 1 := by rw [hW1]; simp
  have b2 : Below W1.heap.size W1 W := by rw [hW]; exact (Below.refl _ _).alloc (Nat.le_refl _) _
  have s2 : W.heap.size = w.heap.size + 2 := by rw [hW]; simp [s1]
  have bW : Below w.heap.size w W := b1.trans (b2.mono b1.size)
  have r1 : Row W1 w.heap.size [.int .i64 a.day, .int .i64 a.rule, .slice At a.trust.length ct, .slice Ab a.base.length cb, .slice Ac a.acts.length cc, .slice Am a.mots.length cm] := by rw [hW1]; exact Row.new w _ _
  have HR1 := Lib.hid (r1.below b2 (by omega))
  have r2 : Row W (w.heap.size + 1) [.string m.title, .int .i64 m.author, .slice pA m.pat.length pc, .int .i64 m.beg, .int .i64 m.fin, .int .i64 m.closes, .slice vA m.votes.length vc, .int .i64 m.result] := by rw [hW, ← s1]; exact Row.new W1 _ _
  have HR2 := Lib.hid r2
  have HBW := Lib.hid bW
  have HWE := Lib.hid (show (w.alloc (.cells #[.int .i64 a.day, .int .i64 a.rule, .slice At a.trust.length ct, .slice Ab a.base.length cb, .slice Ac a.acts.length cc, .slice Am a.mots.length cm] 36)).alloc (.cells #[.string m.title, .int .i64 m.author, .slice pA m.pat.length pc, .int .i64 m.beg, .int .i64 m.fin, .int .i64 m.closes, .slice vA m.votes.length vc, .int .i64 m.result] 78) = W by rw [hW, hW1])
  have hIW := hI.on bW
  have HCO := Lib.hid (fun y : Aft W => count2_any a At ct Ab cb Ac cc Am cm vs Av cv y.val (hIW.on y.ok).rt (hIW.on y.ok).rv hIW.len hIW.ok)
  have HEN := Lib.hid (fun y : Aft W => enter2_any a At ct Ab cb Ac cc Am cm m pA pc vA vc y.val (hIW.on y.ok).rs (hIW.on y.ok).ra hI.stat hI.acts hI.act (hIW.on y.ok).re)
  unfold CountPost at HCO
  unfold EnterFlag at HEN
  have HA0 := Lib.hid (fun y : Aft W => y.cell (HR1.out.cell 0 _ rfl))
  have HA1 := Lib.hid (fun y : Aft W => y.cell (HR1.out.cell 1 _ rfl))
  have HA2 := Lib.hid (fun y : Aft W => y.cell (HR1.out.cell 2 _ rfl))
  have HA3 := Lib.hid (fun y : Aft W => y.cell (HR1.out.cell 3 _ rfl))
  have HA4 := Lib.hid (fun y : Aft W => y.cell (HR1.out.cell 4 _ rfl))
  have HA5 := Lib.hid (fun y : Aft W => y.cell (HR1.out.cell 5 _ rfl))
  have HM0 := Lib.hid (fun y : Aft W => y.cell (HR2.out.cell 0 _ rfl))
  have HM1 := Lib.hid (fun y : Aft W => y.cell (HR2.out.cell 1 _ rfl))
  have HM2 := Lib.hid (fun y : Aft W => y.cell (HR2.out.cell 2 _ rfl))
  have HM3 := Lib.hid (fun y : Aft W => y.cell (HR2.out.cell 3 _ rfl))
  have HM4 := Lib.hid (fun y : Aft W => y.cell (HR2.out.cell 4 _ rfl))
  have HM5 := Lib.hid (fun y : Aft W => y.cell (HR2.out.cell 5 _ rfl))
  have HM6 := Lib.hid (fun y : Aft W => y.cell (HR2.out.cell 6 _ rfl))
  have HM7 := Lib.hid (fun y : Aft W => y.cell (HR2.out.cell 7 _ rfl))
  have g0 := HA0.out
  have g1 := HA1.out
  have g2 := HA2.out
  have g3 := HA3.out
  have g4 := HA4.out
  have g5 := HA5.out
  have HVO := Lib.hid (verM_void (a := a) (m := m) (vs := vs))
  have HVR := Lib.hid (verM_rej (a := a) (m := m) (vs := vs))
  have HVE := Lib.hid (verM_ent (a := a) (m := m) (vs := vs))
  obtain ⟨x0, hx0⟩ : ∃ y : Aft W, y.val = W := ⟨⟨W, Below.refl _ _⟩, rfl⟩
  have HX0 := Lib.hid hx0
  have hv12 : vs.length ≤ 12 := by omega
  clear hI hIW hlen hW hW1 b1 b2 r1 r2 bW hx0 s1 s2
  go_enter Tryz.func69, Tryz.ntmps69
  go_wp2_with (fail)
  rw [HWE.out, ← HX0.out]
  refine (HCO.out x0).mono ?_
  rintro e w3 ⟨g, rfl, hT3, hb3⟩
  have hb30 := x0.ok.trans (hb3.mono x0.ok.size)
  have HB3 := Lib.hid (HBW.out.trans (hb30.mono HBW.out.size))
  have HB30 := Lib.hid hb30
  have HEE := Lib.hid (fun (W' : World) (h : Below w3.heap.size w3 W') => HEN.out ⟨W', HB30.out.trans (h.mono HB30.out.size)⟩)
  have c0 := count_cell hT3 (j := 0) (by decide)
  have c1 := count_cell hT3 (j := 1) (by decide)
  have c2 := count_cell hT3 (j := 2) (by decide)
  clear hT3
  generalize (countM a vs).getD 0 0 = n0 at *
  generalize (countM a vs).getD 1 0 = n1 at *
  generalize (countM a vs).getD 2 0 = n2 at *
  have z0 := fun y : Aft w3 => y.cell c0
  have z1 := fun y : Aft w3 => y.cell c1
  have z2 := fun y : Aft w3 => y.cell c2
  have a0 := fun y : Aft w3 => HA0.out ⟨y.val, HB30.out.trans (y.ok.mono HB30.out.size)⟩
  have a1 := fun y : Aft w3 => HA1.out ⟨y.val, HB30.out.trans (y.ok.mono HB30.out.size)⟩
  have a2 := fun y : Aft w3 => HA2.out ⟨y.val, HB30.out.trans (y.ok.mono HB30.out.size)⟩
  have a3 := fun y : Aft w3 => HA3.out ⟨y.val, HB30.out.trans (y.ok.mono HB30.out.size)⟩
  have a4 := fun y : Aft w3 => HA4.out ⟨y.val, HB30.out.trans (y.ok.mono HB30.out.size)⟩
  have a5 := fun y : Aft w3 => HA5.out ⟨y.val, HB30.out.trans (y.ok.mono HB30.out.size)⟩
  have p0 := fun y : Aft w3 => HM0.out ⟨y.val, HB30.out.trans (y.ok.mono HB30.out.size)⟩
  have p1 := fun y : Aft w3 => HM1.out ⟨y.val, HB30.out.trans (y.ok.mono HB30.out.size)⟩
  have p2 := fun y : Aft w3 => HM2.out ⟨y.val, HB30.out.trans (y.ok.mono HB30.out.size)⟩
  have p3 := fun y : Aft w3 => HM3.out ⟨y.val, HB30.out.trans (y.ok.mono HB30.out.size)⟩
  have p4 := fun y : Aft w3 => HM4.out ⟨y.val, HB30.out.trans (y.ok.mono HB30.out.size)⟩
  have p5 := fun y : Aft w3 => HM5.out ⟨y.val, HB30.out.trans (y.ok.mono HB30.out.size)⟩
  have p6 := fun y : Aft w3 => HM6.out ⟨y.val, HB30.out.trans (y.ok.mono HB30.out.size)⟩
  have p7 := fun y : Aft w3 => HM7.out ⟨y.val, HB30.out.trans (y.ok.mono HB30.out.size)⟩
  clear c0 c1 c2 hb3 hb30 HEN HCO
  go_upto_region 2 with (fail)
  refine wp_aft fun x1 => ?_
  by_cases h3 : 2 * (n0 + n1 + n2) < (a.trust.length : Int)
  · have HV := Lib.hid (HVO.out h3)
    refine wp_region_at (by kernel_rfl) (by kernel_rfl) ?_
    repeat (go_big_quiet_step (fail))
    refine wpQuiet_nil ?_
    rintro _ ⟨u, rfl⟩
    go_wp2
    go_ret
    exact ⟨by rw [HV.out]; rfl, aft_done HB3.out u⟩
  have HV3 := Lib.hid (show ¬ 2 * (n0 + n1 + n2) < (a.trust.length : Int) from h3)
  have hd3 : decide (2 * (n0 + n1 + n2) < (a.trust.length : Int)) = false := by simp; omega
  refine wp_region_at (by kernel_rfl) (by kernel_rfl) ?_
  repeat (go_big_quiet_step (fail))
  refine wpQuiet_nil ?_
  rintro _ ⟨u, rfl⟩
  clear hd3 h3
  go_wp2
  by_cases h2 : n1 ≤ n0
  · have HV := Lib.hid (HVR.out HV3.out h2)
    go_upto_region 4 with (fail)
    refine wp_region_at (by kernel_rfl) (by kernel_rfl) ?_
    repeat (go_big_quiet_step (fail))
    refine wpQuiet_nil ?_
    rintro _ ⟨u2, rfl⟩
    go_wp2
    go_ret
    exact ⟨by rw [HV.out]; rfl, aft_done HB3.out u2⟩
  have HV := Lib.hid (HVE.out HV3.out (by omega))
  have hd2 : decide (n1 ≤ n0) = false := by simp; omega
  go_upto_region 4 with (fail)
  refine wp_region_at (by kernel_rfl) (by kernel_rfl) ?_
  repeat (go_big_quiet_step (fail))
  refine wpQuiet_nil ?_
  rintro _ ⟨u2, rfl⟩
  clear hd2 h2 z0 z1 z2
  go_wp2_with (fail)
  refine (HEE.out _ u2.ok).mono ?_
  rintro e w4 ⟨A4, n4, c4, rfl, hb4⟩
  have hF : Below w.heap.size w w4 := HB3.out.trans (u2.ok.trans (hb4.mono u2.ok.size) |>.mono HB3.out.size)
  clear hb4
  cases hen : entOk a.base a.acts (actOf m) with
  | false =>
    rw [hen] at HV
    go_wp2
    go_ret
    exact ⟨by rw [HV.out]; rfl, hF⟩
  | true =>
    rw [hen] at HV
    go_wp2
    go_ret
    exact ⟨by rw [HV.out]; rfl, hF⟩
end Go.Proofs.YtnandbammmcncaaGreat
