/- An act entered among acts, plain; parts of acts in memory. An act entered among acts, walked: the reference's. slices.Insert at acts, walked: one element comes (as at articles). An act entered among acts, walked: the program's. The verdict on a motion, plain; walked: the reference's. The verdict on a motion, walked: the program's. -/
import Derived.Test.YtihhbkijcebapaaYG
import Derived.Test.YtihhbkijcebapaaQE
import Derived.Test.YtihhbkijcebapaaZb
import Derived.Test.YtihhbkijcebapaaQC
import Derived.Test.YtihhbkijcebapaaZn
namespace Go.Proofs.Ytihhbkijcebapaa
open Go.RowKit Go.Lib

def enterAt : List Acta → Int → Nat
  | [], _ => 0
  | a :: l, d => if a.beg ≤ d then enterAt l d + 1 else 0
theorem enterAt_le : ∀ (l : List Acta) (d : Int), enterAt l d ≤ l.length
  | [], _ => Nat.le_refl _
  | a :: l, d => by
    unfold enterAt
    split
    · have := enterAt_le l d; simp; omega
    · simp
theorem enterAt_lt : ∀ (l : List Acta) (d : Int) (k : Nat) (a : Acta), l[k]? = some a → k < enterAt l d → a.beg ≤ d
  | [], _, _, _, h, _ => by simp at h
  | b :: l, d, k, a, h, hk => by
    unfold enterAt at hk
    split at hk
    · rename_i hb
      cases k with
      | zero => simp at h; rw [← h]; exact hb
      | succ k => exact enterAt_lt l d k a (by simpa using h) (by omega)
    · omega
theorem enterAt_at : ∀ (l : List Acta) (d : Int) (a : Acta), l[enterAt l d]? = some a → ¬ a.beg ≤ d
  | [], _, _, h => by simp [enterAt] at h
  | b :: l, d, a, h => by
    unfold enterAt at h
    split at h
    · exact enterAt_at l d a (by simpa using h)
    · rename_i hb
      simp at h
      rw [← h]
      exact hb
theorem enterAt_eq {l : List Acta} {d : Int} {k : Nat} (hk : k ≤ l.length) (h : ∀ (j : Nat) (a : Acta), l[j]? = some a → j < k → a.beg ≤ d) (hx : k = l.length ∨ ∃ a, l[k]? = some a ∧ ¬ a.beg ≤ d) : enterAt l d = k := by
  rcases Nat.lt_trichotomy (enterAt l d) k with e | e | e
  · have hl : enterAt l d < l.length := by omega
    exact absurd (h _ _ (List.getElem?_eq_getElem hl) e) (enterAt_at l d _ (List.getElem?_eq_getElem hl))
  · exact e
  · rcases hx with hx | ⟨a, ha, hn⟩
    · have := enterAt_le l d; omega
    · exact absurd (enterAt_lt l d k a ha e) hn
def enterL (l : List Acta) (x : Acta) : List Acta := l.take (enterAt l x.beg) ++ x :: l.drop (enterAt l x.beg)
theorem enterL_len (l : List Acta) (x : Acta) : (enterL l x).length = l.length + 1 := by
  have := enterAt_le l x.beg
  unfold enterL
  simp
  omega
theorem okActs_all {L : List Acta} (h1 : ∀ a ∈ L, okActa a = true) (h2 : ∀ (m : Nat) (d a : Acta), L[m]? = some d → L[m + 1]? = some a → d.beg ≤ a.beg) (h3 : L.length ≤ 8) : okActs L = true := by
  unfold okActs
  rw [Bool.and_eq_true, allLt_true, decide_eq_true_eq]
  refine ⟨fun k hk => ?_, h3⟩
  have hg : L[k]? = some L[k] := List.getElem?_eq_getElem hk
  cases k with
  | zero => exact actAt_zero rfl hg (h1 _ (List.getElem_mem hk))
  | succ k =>
    have hg2 : L[k]? = some L[k] := List.getElem?_eq_getElem (by omega)
    rw [actAt_succ hg2 hg (h1 _ (List.getElem_mem hk)), decide_eq_true_eq]
    exact h2 k _ _ hg2 hg
theorem enterL_ok {l : List Acta} {x : Acta} (h : okActs l = true) (hx : okActa x = true) (h8 : l.length < 8) : okActs (enterL l x) = true := by
  have hle := enterAt_le l x.beg
  refine okActs_all (fun a ha => ?_) (fun m d a hd ha => ?_) (by rw [enterL_len]; omega)
  · unfold enterL at ha
    have hin : ∀ b ∈ l, okActa b = true := fun b hb => by
      obtain ⟨k, hk⟩ := List.getElem?_of_mem hb
      exact okActs_at h hk
    rcases List.mem_append.1 ha with ha | ha
    · exact hin a (List.mem_of_mem_take ha)
    · rcases List.mem_cons.1 ha with rfl | ha
      · exact hx
      · exact hin a (List.mem_of_mem_drop ha)
  · have hget : ∀ j, (enterL l x)[j]? = if j < enterAt l x.beg then l[j]? else if j = enterAt l x.beg then some x else l[j - 1]? := fun j => by
      unfold enterL
      have hlt : (l.take (enterAt l x.beg)).length = enterAt l x.beg := by rw [List.length_take]; omega
      by_cases h1 : j < enterAt l x.beg
      · rw [if_pos h1, List.getElem?_append_left (by omega), List.getElem?_take, if_pos h1]
      · rw [if_neg h1, List.getElem?_append_right (by omega), hlt]
        by_cases h2 : j = enterAt l x.beg
        · rw [if_pos h2, h2, Nat.sub_self]
          rfl
        · rw [if_neg h2]
          obtain ⟨i, hi⟩ : ∃ i, j - enterAt l x.beg = i + 1 := ⟨j - enterAt l x.beg - 1, by omega⟩
          rw [hi, List.getElem?_cons_succ, List.getElem?_drop]
          congr 1
          omega
    rw [hget] at hd ha
    by_cases c1 : m + 1 < enterAt l x.beg
    · rw [if_pos c1] at ha
      rw [if_pos (by omega)] at hd
      exact okActs_step h hd ha
    · rw [if_neg c1] at ha
      by_cases c2 : m + 1 = enterAt l x.beg
      · rw [if_pos c2] at ha
        rw [if_pos (by omega)] at hd
        injection ha with ha
        rw [← ha]
        exact enterAt_lt l x.beg m d hd (by omega)
      · rw [if_neg c2] at ha
        by_cases c3 : m = enterAt l x.beg
        · rw [if_neg (by omega), if_pos c3] at hd
          injection hd with hd
          rw [Nat.add_sub_cancel, c3] at ha
          have := enterAt_at l x.beg a ha
          rw [← hd]
          omega
        · rw [if_neg (by omega), if_neg c3] at hd
          rw [Nat.add_sub_cancel] at ha
          have he : m - 1 + 1 = m := by omega
          exact okActs_step h hd (by rw [he]; exact ha)
def actOf (m : Mot) : Acta := ⟨m.beg, m.fin, m.pat⟩
theorem actOf_ok {m : Mot} {day n : Int} (h : okMot m day n = true) : okActa (actOf m) = true := by
  unfold okMot at h
  simp only [Bool.and_eq_true] at h
  have hp := h.1.1.1.1.1.2
  have hs := h.1.1.1.1.2
  unfold spanB at hs
  simp only [Bool.and_eq_true, inB_iff] at hs
  exact okActa_iff.2 ⟨by show 0 ≤ m.beg; omega, by show m.beg ≤ 1000; omega, by show 0 ≤ m.fin; omega, by show m.fin ≤ 1000; omega, by show m.beg < m.fin; omega, hp⟩
open Classical in
noncomputable def entOk (S : List Art) (l : List Acta) (x : Acta) : Bool := decide (l.length < 8) && decide (AllDays S (enterL l x))
theorem SlR.drop {α : Type} {R : World → Nat → List Value → α → Prop} {size : Nat} {w : World} {B b off n c : Nat} {xs : List α} (h : SlR R size w B (.slice (some ⟨b, off, none⟩) n c) xs) (k : Nat) (hk : k ≤ xs.length) : SlR R size w B (.slice (some ⟨b, off + k * size, none⟩) (n - k) (c - k)) (xs.drop k) := by
  obtain ⟨A', c', hv, h1, h2, h3⟩ := h
  injection hv with e1 e2 e3
  subst e1 e3
  refine ⟨_, _, by rw [List.length_drop, e2], by rw [List.length_drop]; omega, by omega, fun h0 => ?_⟩
  rw [List.length_drop] at h0
  obtain ⟨b', off', e, hb, hc⟩ := h3 (by omega)
  injection e with e
  injection e with e1 e2
  subst e1 e2
  refine ⟨_, _, rfl, hb, fun j x hj => ?_⟩
  rw [List.getElem?_drop] at hj
  obtain ⟨us, hl, hp, hcell⟩ := hc (k + j) x hj
  refine ⟨us, hl, hp, fun i u hu => ?_⟩
  have := hcell i u hu
  rw [show off + k * size + j * size + i = off + (k + j) * size + i by rw [Nat.add_mul]; omega]
  exact this
theorem Acts.take {w : World} {B n c : Nat} {A : Option Addr} {ls : List Acta} (h : Acts w B (.slice A n c) ls) (k : Nat) (hk : k ≤ ls.length) : Acts w B (.slice A k c) (ls.take k) := by
  obtain ⟨L, rfl, h2, h3⟩ := h
  rw [List.length_map] at hk
  exact ⟨L.take k, by rw [List.map_take], h2.take k hk, fun x hx => h3 x (List.mem_of_mem_take hx)⟩
theorem Acts.drop {w : World} {B b off n c : Nat} {ls : List Acta} (h : Acts w B (.slice (some ⟨b, off, none⟩) n c) ls) (k : Nat) (hk : k ≤ ls.length) : Acts w B (.slice (some ⟨b, off + k * 3, none⟩) (n - k) (c - k)) (ls.drop k) := by
  obtain ⟨L, rfl, h2, h3⟩ := h
  rw [List.length_map] at hk
  exact ⟨L.drop k, by rw [List.map_drop], h2.drop k hk, fun x hx => h3 x (List.mem_of_mem_drop hx)⟩
theorem Acts.nil {w : World} {B c : Nat} {A : Option Addr} (hc : c ≤ maxLen) : Acts w B (.slice A 0 c) [] := ⟨[], rfl, SlR.nil _ _ _ _ _ _ hc, fun x hx => by cases hx⟩
end Go.Proofs.Ytihhbkijcebapaa

namespace Go.Proofs.Ytihhbkijcebapaa
open Go.RowKit Go.Lib

theorem own_lessV {w : World} {b base size n : Nat} {e : TypeId} {v : Value} {xs : List Value} (h : w.ownsRow base e size v n xs) (hb : b ≤ base) : w.ownsRow b e size v n xs := by
  obtain ⟨h1, h2 | ⟨g', c, cur, e, h3, h4⟩⟩ := h
  · exact ⟨h1, .inl h2⟩
  · exact ⟨h1, .inr ⟨g', c, cur, e, Nat.le_trans hb h3, h4⟩⟩
theorem okActs_take {l : List Acta} (h : okActs l = true) (k : Nat) : okActs (l.take k) = true := by
  refine okActs_all (fun a ha => ?_) (fun m d a hd ha => ?_) (by have := okActs_len h; rw [List.length_take]; omega)
  · obtain ⟨j, hj⟩ := List.getElem?_of_mem (List.mem_of_mem_take ha)
    exact okActs_at h hj
  · rw [List.getElem?_take] at hd ha
    split at hd
    · split at ha
      · exact okActs_step h hd ha
      · cases ha
    · cases hd
theorem okActs_drop {l : List Acta} (h : okActs l = true) (k : Nat) : okActs (l.drop k) = true := by
  refine okActs_all (fun a ha => ?_) (fun m d a hd ha => ?_) (by have := okActs_len h; rw [List.length_drop]; omega)
  · obtain ⟨j, hj⟩ := List.getElem?_of_mem (List.mem_of_mem_drop ha)
    exact okActs_at h hj
  · rw [List.getElem?_drop] at hd ha
    exact okActs_step h hd ha
theorem okActs_add {l : List Acta} (h : okActs l = true) (k : Nat) (hk : k ≤ l.length) : l.length - k ≤ 8 := by have := okActs_len h; omega
/-- What entering hands back. -/
def EnterPost (S : List Art) (ls : List Acta) (x : Acta) (w : World) (e : Ending) (w' : World) : Prop :=
  ∃ A n c, e = .returned (.tuple #[.slice A n c, .bool (entOk S ls x)]) ∧
    (entOk S ls x = true → ∃ L, n = L.length ∧ L.map (·.a) = enterL ls x ∧ TreeO kAct w.heap.size w' (.slice A n c) L) ∧ Below w.heap.size w w'
theorem entOk_yes {S : List Art} {ls : List Acta} {x : Acta} (h8 : ls.length < 8) (h : AllDays S (enterL ls x)) : entOk S ls x = true := by unfold entOk; simp [h8, h]
theorem entOk_no {S : List Art} {ls : List Acta} {x : Acta} (h : ¬ AllDays S (enterL ls x)) : entOk S ls x = false := by unfold entOk; simp [h]
theorem entOk_eight {S : List Art} {ls : List Acta} {x : Acta} (h : ¬ ls.length < 8) : entOk S ls x = false := by unfold entOk; rw [decide_eq_false h, Bool.false_and]

end Go.Proofs.Ytihhbkijcebapaa

namespace Go.Proofs.Ytihhbkijcebapaa
open Go.RowKit Go.Lib

/-- An act's cells. -/
structure Sact where
  beg : Int
  fin : Int
  A : Option Addr
  n : Nat
  c : Nat
def sCells (x : Sact) : List Value := [.int .i64 x.beg, .int .i64 x.fin, .slice x.A x.n x.c]
theorem sact_one {x : Sact} {u : Value} (hu : u ∈ sCells x) : u.oneCell' = true := by
  unfold sCells at hu
  simp only [List.mem_cons, List.not_mem_nil, or_false] at hu
  rcases hu with rfl | rfl | rfl <;> rfl

/-- What Insert hands back: the row lies where it was, or in a new block. -/
def InsPostC {α : Type} (f : α → List Value) (e : TypeId) (size base g n : Nat) (R : List α) (w : World) (en : Ending) (w' : World) : Prop :=
  ∃ v, en = .returned v ∧ w'.ownsRow base e size v n (R.flatMap f) ∧ v ≠ .slice none 0 0 ∧ (v.ownBlock = some g ∨ v.ownBlock = some w.heap.size) ∧ Only g w w'
end Go.Proofs.Ytihhbkijcebapaa


namespace Go.Proofs.Ytihhbkijcebapaa
open Go.RowKit Go.Lib

def toS (x : VAct) : Sact := match x.v with | .slice A n c => ⟨x.a.beg, x.a.fin, A, n, c⟩ | _ => ⟨x.a.beg, x.a.fin, none, 0, 0⟩
theorem toS_cells {x : VAct} {A : Option Addr} {n c : Nat} (h : x.v = .slice A n c) : sCells (toS x) = vCells x := by
  unfold toS sCells vCells
  rw [h]
theorem own_apart {w : World} {b1 b2 s1 s2 n1 n2 : Nat} {e1 e2 : TypeId} {v1 v2 : Value} {x1 x2 : List Value} (h1 : w.ownsRow b1 e1 s1 v1 n1 x1) (h2 : w.ownsRow b2 e2 s2 v2 n2 x2) (he : e1 ≠ e2) {g : Nat} (hv : v1.ownBlock = some g) : v2.ownBlock ≠ some g := by
  intro hv2
  rcases h1.2 with ⟨rfl, _⟩ | ⟨g1, c1, cur1, rfl, _, k1, _⟩
  · cases hv
  · rcases h2.2 with ⟨rfl, _⟩ | ⟨g2, c2, cur2, rfl, _, k2, _⟩
    · cases hv2
    · injection hv with hv
      injection hv2 with hv2
      have hv : g1 = g := hv
      have hv2 : g2 = g := hv2
      rw [hv] at k1
      rw [hv2, k1] at k2
      injection k2 with k2
      injection k2 with _ k2
      exact he k2
end Go.Proofs.Ytihhbkijcebapaa

namespace Go.Proofs.Ytihhbkijcebapaa
open Go.RowKit Go.Lib

theorem endsL_le (V : List Voi) (rule : Int) : (endsL V rule).length ≤ V.length := by
  unfold endsL
  split
  · next h => exact Nat.le_of_eq h.choose_spec.1
  · exact Nat.zero_le _
theorem countM_bound {a : Asm} {vs : List Int} (hl : vs.length = a.trust.length) (hn : a.trust.length ≤ 12) (j : Nat) : 0 ≤ (countM a vs).getD j 0 ∧ (countM a vs).getD j 0 ≤ 12 := by
  have h1 := countL_bound vs (endsL (voices vs a.trust) a.rule) j
  have h2 := endsL_le (voices vs a.trust) a.rule
  rw [voices_len hl] at h2
  unfold countM
  omega
open Classical in
noncomputable def verM (a : Asm) (m : Mot) (vs : List Int) : Int :=
  if 2 * ((countM a vs).getD 0 0 + (countM a vs).getD 1 0 + (countM a vs).getD 2 0) < (a.trust.length : Int) then 3
  else if (countM a vs).getD 1 0 ≤ (countM a vs).getD 0 0 then 2
  else if entOk a.base a.acts (actOf m) = true then 1 else 4
theorem verM_void {a : Asm} {m : Mot} {vs : List Int} (h : 2 * ((countM a vs).getD 0 0 + (countM a vs).getD 1 0 + (countM a vs).getD 2 0) < (a.trust.length : Int)) : verM a m vs = 3 := by unfold verM; rw [if_pos h]
theorem verM_rej {a : Asm} {m : Mot} {vs : List Int} (h : ¬ 2 * ((countM a vs).getD 0 0 + (countM a vs).getD 1 0 + (countM a vs).getD 2 0) < (a.trust.length : Int)) (h2 : (countM a vs).getD 1 0 ≤ (countM a vs).getD 0 0) : verM a m vs = 2 := by unfold verM; rw [if_neg h, if_pos h2]
theorem verM_ent {a : Asm} {m : Mot} {vs : List Int} (h : ¬ 2 * ((countM a vs).getD 0 0 + (countM a vs).getD 1 0 + (countM a vs).getD 2 0) < (a.trust.length : Int)) (h2 : ¬ (countM a vs).getD 1 0 ≤ (countM a vs).getD 0 0) : verM a m vs = if entOk a.base a.acts (actOf m) = true then 1 else 4 := by unfold verM; rw [if_neg h, if_neg h2]
theorem count_cell {a : Asm} {vs : List Int} {base g : Nat} {w : World} (h : OwnL intCells (countM a vs) base w (.slice (some ⟨g, 0, none⟩) 4 4)) {j : Nat} (hj : j < 4) : w.cell? ⟨g, j, none⟩ = some (.int .i64 ((countM a vs).getD j 0)) := by
  have hlen := countM_len a vs
  obtain ⟨A, c, e, h1, h2, h3⟩ := h
  injection e with e1 e2 e3
  obtain ⟨g', hg', _, _, hr⟩ := h3 (fun e => by rw [e] at hlen; cases hlen)
  rw [← e1] at hg'
  injection hg' with hg'
  injection hg' with hg'
  subst hg'
  rw [flat_ints] at hr
  exact hr.cell j _ (map_getD (by omega))
/-- What the verdicts want of the assembly and the motion in memory. -/
structure VerIn (a : Asm) (m : Mot) (vs : List Int) (w : World) (At : Option Addr) (ct : Nat) (Ab : Option Addr) (cb : Nat) (Ac : Option Addr) (cc : Nat) (pA : Option Addr) (pc : Nat) (Av : Option Addr) (cv : Nat) : Prop where
  rt : RowsR w w.heap.size (.slice At a.trust.length ct) a.trust
  rs : Arts w w.heap.size (.slice Ab a.base.length cb) a.base
  ra : Acts w w.heap.size (.slice Ac a.acts.length cc) a.acts
  re : Edits w w.heap.size (.slice pA m.pat.length pc) m.pat
  rv : Ints w w.heap.size (.slice Av vs.length cv) vs
  len : vs.length = a.trust.length
  ok : AsmOk a
  stat : okStat a.base = true
  acts : okActs a.acts = true
  act : okActa (actOf m) = true
theorem VerIn.on {a : Asm} {m : Mot} {vs : List Int} {w w' : World} {At : Option Addr} {ct : Nat} {Ab : Option Addr} {cb : Nat} {Ac : Option Addr} {cc : Nat} {pA : Option Addr} {pc : Nat} {Av : Option Addr} {cv : Nat} (h : VerIn a m vs w At ct Ab cb Ac cc pA pc Av cv) (hb : Below w.heap.size w w') : VerIn a m vs w' At ct Ab cb Ac cc pA pc Av cv :=
  ⟨h.rt.on hb hb.size, SlR.on h.rs (Pl.stays _) hb hb.size, h.ra.on hb hb.size, SlR.on h.re (Pl.stays _) hb hb.size, SlR.on h.rv (Pl.stays _) hb hb.size, h.len, h.ok, h.stat, h.acts, h.act⟩

end Go.Proofs.Ytihhbkijcebapaa

namespace Go.Proofs.Ytihhbkijcebapaa
open Go.RowKit Go.Lib

end Go.Proofs.Ytihhbkijcebapaa
