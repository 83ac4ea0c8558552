/- The intervals of broken days, walked: the reference's; known is only when there are none. Acts of which one is ended, acts without one: plain. append as a step of a region that draws its order. Acts copied with patches of their own, walked: the reference's and the program's. An act ended, walked: the reference's and the program's. An assembly: plain, and in memory. Sizes of assemblies, walked: the statements' own functions. Copies of acts and motions, walked: the statements' own functions. (Printed by tools/gen/g_vd.py) Copies of slices of acts, motions, articles, rows, walked: the statements' own functions. Copies of assemblies, walked; equality of assemblies, walked: the statements' own functions. (Printed by tools/gen/g_vf.py) Arguments opened: a struct of nine fields, a slice of numbers, a slice of edits. The law on slices of structs is turned from the kit's page on structs. -/
import Derived.Test.YtlbnebmdolnagaaQD
import Derived.Maps.AppendAt
import Derived.Deep.RegionHeld3
import Derived.Test.YtlbnebmdolnagaaQA
import Derived.Test.YtlbnebmdolnagaaQB
import Derived.Test.YtlbnebmdolnagaaQN
import Derived.Deep.Slices
import Derived.Deep.Fields
import Derived.ChangeSame
import Derived.ChangeSlices
import Derived.ProofKit
import Derived.OpenShut
import Derived.Lib.SmallJoins
namespace Go.Proofs.Ytlbnebmdolnagaa
open Go.RowKit Go.Lib

def GoodTo (S : List Art) (ls : List Acta) (M : List Int) (k : Nat) : Prop := ∀ x ∈ M.take k, (onO S ls x).isSome = true
theorem GoodTo.yes {S : List Art} {ls : List Acta} {M : List Int} {k : Nat} (hk : k < M.length) (h : (onO S ls M[k]).isSome = true) : GoodTo S ls M (k + 1) ↔ GoodTo S ls M k := by
  constructor
  · exact fun H x hx => H x ((take_mem hk x).2 (.inl hx))
  · intro H x hx
    rcases (take_mem hk x).1 hx with hx | hx
    · exact H x hx
    · rw [hx]; exact h
theorem GoodTo.no {S : List Art} {ls : List Acta} {M : List Int} {k : Nat} (hk : k < M.length) (h : (onO S ls M[k]).isSome = false) : ¬ GoodTo S ls M (k + 1) := fun H => by
  have := H M[k] ((take_mem hk _).2 (.inr rfl))
  rw [h] at this
  cases this
theorem Cover.all_good {S : List Art} {ls : List Acta} (hok : okActs ls = true) (h : ∀ x, Turn ls x → (onO S ls x).isSome = true) : ∀ i, i ≤ (turnsL ls).length → Cover S ls i []
  | 0, _ => Cover.start S ls
  | i + 1, hi => (Cover.all_good hok h i (by omega)).skip hok (by omega) (h _ (((turnsL_facts ls).2 _).1 (List.getElem_mem (by omega : i < (turnsL ls).length))))
theorem all_iff {S : List Art} {ls : List Acta} (hok : okActs ls = true) : (∀ x, Turn ls x → (onO S ls x).isSome = true) ↔ AllDays S ls := by
  constructor
  · exact fun h => (Cover.all_good hok h _ (Nat.le_refl _)).none.1 rfl
  · intro h x hx
    obtain ⟨h0, h1⟩ := turn_bound hx
    exact some_all h h0 h1
def Broken1Post (S : List Art) (ls : List Acta) (w : World) (e : Ending) (w' : World) : Prop :=
  ∃ g cap n, e = .returned (.slice (some ⟨g, 0, none⟩) n cap) ∧ n ≤ 1000 ∧ (n = 0 ↔ AllDays S ls) ∧ Below w.heap.size w w'

end Go.Proofs.Ytlbnebmdolnagaa

namespace Go.Proofs.Ytlbnebmdolnagaa
open Go.RowKit Go.Lib

theorem okActs_of {L : List Acta} (h1 : ∀ (k : Nat) (a : Acta), L[k]? = some a → okActa a = true) (h2 : ∀ (m : Nat) (d a : Acta), L[m]? = some d → L[m + 1]? = some a → d.beg ≤ a.beg) (h3 : L.length ≤ 8) : okActs L = true := by
  unfold okActs
  rw [Bool.and_eq_true, allLt_true]
  refine ⟨fun k hk => ?_, decide_eq_true h3⟩
  cases k with
  | zero => exact actAt_zero rfl (List.getElem?_eq_getElem hk) (h1 _ _ (List.getElem?_eq_getElem hk))
  | succ m =>
    have e1 : L[m]? = some (L[m]'(by omega)) := List.getElem?_eq_getElem (by omega)
    have e2 : L[m + 1]? = some L[m + 1] := List.getElem?_eq_getElem hk
    rw [actAt_succ e1 e2 (h1 _ _ e2)]
    exact decide_eq_true (h2 m _ _ e1 e2)
/-- The act k ends on a day. -/
def endA (a : Acta) (day : Int) : Acta := ⟨a.beg, day, a.pat⟩
def endL (ls : List Acta) (k : Nat) (a : Acta) (day : Int) : List Acta := ls.set k (endA a day)
theorem okActs_end {ls : List Acta} {k : Nat} {a : Acta} {day : Int} (hok : okActs ls = true) (hk : ls[k]? = some a) (h1 : a.beg < day) (h2 : day < a.fin) : okActs (endL ls k a day) = true := by
  have ha := okActa_iff.1 (okActs_at hok hk)
  have hlt := (List.getElem?_eq_some_iff.1 hk).1
  have hb : ∀ (j : Nat) (x : Acta), (endL ls k a day)[j]? = some x → ∃ y, ls[j]? = some y ∧ x.beg = y.beg := fun j x hx => by
    unfold endL at hx
    by_cases e : k = j
    · subst e
      rw [List.getElem?_set_self hlt] at hx
      injection hx with hx
      exact ⟨a, hk, by rw [← hx]; rfl⟩
    · rw [List.getElem?_set_ne e] at hx
      exact ⟨x, hx, rfl⟩
  refine okActs_of (fun j x hx => ?_) (fun m x y hx hy => ?_) (by unfold endL; rw [List.length_set]; exact okActs_len hok)
  · unfold endL at hx
    by_cases e : k = j
    · subst e
      rw [List.getElem?_set_self hlt] at hx
      injection hx with hx
      rw [← hx, okActa_iff]
      exact ⟨ha.b0, ha.b1, by show 0 ≤ day; have := ha.b0; omega, by show day ≤ 1000; have := ha.f1; omega, h1, ha.pat⟩
    · rw [List.getElem?_set_ne e] at hx
      exact okActs_at hok hx
  · obtain ⟨u, hu, e1⟩ := hb m x hx
    obtain ⟨v, hv, e2⟩ := hb (m + 1) y hy
    rw [e1, e2]
    exact okActs_step hok hu hv
def restL' (ls : List Acta) (k : Nat) : List Acta := ls.take k ++ ls.drop (k + 1)
theorem rest_at {ls : List Acta} {k j : Nat} : (restL' ls k)[j]? = if j < k then ls[j]? else ls[j + 1]? := by
  unfold restL'
  rw [← List.eraseIdx_eq_take_drop_succ, List.getElem?_eraseIdx]
theorem okActs_rest {ls : List Acta} (k : Nat) (hok : okActs ls = true) : okActs (restL' ls k) = true := by
  refine okActs_of (fun j x hx => ?_) (fun m x y hx hy => ?_) ?_
  · rw [rest_at] at hx
    split at hx
    · exact okActs_at hok hx
    · exact okActs_at hok hx
  · rw [rest_at] at hx hy
    by_cases h1 : m + 1 < k
    · rw [if_pos h1] at hy
      rw [if_pos (by omega)] at hx
      exact okActs_step hok hx hy
    · rw [if_neg h1] at hy
      by_cases h2 : m < k
      · rw [if_pos h2] at hx
        have hl := (List.getElem?_eq_some_iff.1 hy).1
        have hz : ls[m + 1]? = some (ls[m + 1]'(by omega)) := List.getElem?_eq_getElem (by omega)
        have q1 := okActs_step hok hx hz
        have q2 := okActs_step hok hz hy
        omega
      · rw [if_neg h2] at hx
        exact okActs_step hok hx hy
  · have := okActs_len hok
    unfold restL'
    rw [List.length_append, List.length_take, List.length_drop]
    omega
/-- One act's step. -/
def stepA (o : Option (List Art)) (a : Acta) : Option (List Art) := o.bind (fun S => applyO S a.pat)
theorem onK_filter (ls : List Acta) (day : Int) (o : Option (List Art)) : ∀ k, k ≤ ls.length → (forceK ls day k).foldl (stepO ls) o = ((ls.take k).filter (inF day)).foldl stepA o
  | 0, _ => by simp [forceK]
  | k + 1, hk => by
    have hget : ls[k]? = some ls[k] := List.getElem?_eq_getElem (by omega)
    have ih := onK_filter ls day o k (by omega)
    rw [List.take_succ_eq_append_getElem (by omega), List.filter_append]
    cases h : inF day ls[k] with
    | true =>
      rw [forceK_yes hget h, List.foldl_append, List.foldl_append, ih]
      simp [h, stepO, stepA, hget]
    | false =>
      rw [forceK_no hget h, ih]
      simp [h]
theorem on_filter (S : List Art) (ls : List Acta) (day : Int) : onO S ls day = (ls.filter (inF day)).foldl stepA (some S) := by
  have h := onK_filter ls day (some S) ls.length (Nat.le_refl _)
  rw [List.take_length] at h
  exact h
theorem acts_split {ls : List Acta} {k : Nat} {a : Acta} (hk : ls[k]? = some a) : ls = ls.take k ++ a :: ls.drop (k + 1) := by
  obtain ⟨h1, h2⟩ := List.getElem?_eq_some_iff.1 hk
  rw [← h2, ← List.drop_eq_getElem_cons h1, List.take_append_drop]
theorem end_split {ls : List Acta} {k : Nat} {a : Acta} (day : Int) (hk : ls[k]? = some a) : endL ls k a day = ls.take k ++ endA a day :: ls.drop (k + 1) := by
  obtain ⟨h1, h2⟩ := List.getElem?_eq_some_iff.1 hk
  unfold endL
  rw [List.set_eq_take_append_cons_drop, if_pos h1]
/-- The days before the end stay. -/
theorem on_before {S : List Art} {ls : List Acta} {k : Nat} {a : Acta} {day d : Int} (hk : ls[k]? = some a) (hd : d < day) (hf : day < a.fin) : onO S (endL ls k a day) d = onO S ls d := by
  rw [on_filter, on_filter, end_split day hk]
  conv => rhs; rw [acts_split hk]
  have hin : inF d (endA a day) = inF d a := by
    unfold inF endA
    have e1 : decide (d < day) = true := decide_eq_true hd
    have e2 : decide (d < a.fin) = true := decide_eq_true (by omega)
    simp only [e1, e2]
  rw [List.filter_append, List.filter_append, List.foldl_append, List.foldl_append, List.filter_cons, List.filter_cons, hin]
  cases inF d a with
  | true => rfl
  | false => rfl
/-- From the end on: the acts without this one. -/
theorem on_behind {S : List Art} {ls : List Acta} {k : Nat} {a : Acta} {day d : Int} (hk : ls[k]? = some a) (hd : day ≤ d) : onO S (endL ls k a day) d = onO S (restL' ls k) d := by
  rw [on_filter, on_filter, end_split day hk]
  unfold restL'
  have hin : inF d (endA a day) = false := by
    unfold inF endA
    have e1 : decide (d < day) = false := decide_eq_false (by omega)
    simp only [e1, Bool.and_false]
  rw [List.filter_append, List.filter_append, List.filter_cons, hin]
  rfl
theorem on_nil (S : List Art) (d : Int) : onO S [] d = some S := by
  rw [on_filter]
  rfl
/-- When an act can be ended on a day. -/
def EndOk (S : List Art) (ls : List Acta) (k : Nat) (a : Acta) (day : Int) : Prop := inD day = true ∧ a.beg < day ∧ day < a.fin ∧ AllDays S (endL ls k a day)
end Go.Proofs.Ytlbnebmdolnagaa

namespace Go.Proofs.Ytlbnebmdolnagaa
open Go.RowKit Go.Lib

section
variable {P : Program} {w : World}
/-- append of whatever slice is read as a list, to a row of the call's own. -/
theorem wp_append_slR {α : Type} (f : α → List Value) {o : Oper} {a : Act} {K : Act → World → Prop} {Q : Exit → Act → World → Prop} (s x : Operand) (t : TypeId)
    (ho : o.op = .call { callee := .builtin .append, args := #[s, x], argTypes := #[t, t] })
    (base : Nat) (e : TypeId) (i : TypeInfo) (z : Value) (size bytes : Nat) (ht : P.underlying t = some (.slice e)) (hi : P.info? e = some i) (hz : i.zero = some z)
    (hsize : i.size = size) (hby : i.bytes = bytes) (hzs : z.cells.size = size) (hsz : 0 < size)
    (v : Value) (n : Nat) (ys : List Value) (hs : a.eval s = v) (hown : w.ownsRow base e size v n ys)
    (vs : Value) (xs : List α) (B : Nat) (hx : a.eval x = vs) (hSl : SlR (Pl f) size w B vs xs) (hf : ∀ y, (f y).length = size) (h1 : ∀ y, ∀ u ∈ f y, u.oneCell' = true)
    (h63 : n + xs.length ≤ maxLen) (hbytes : (n + xs.length) * bytes ≤ 140737488355328) (hbase : base ≤ w.heap.size)
    (h : ∀ v' w', w'.ownsRow base e size v' (n + xs.length) (ys ++ xs.flatMap f) → w.grownBy w' v.ownBlock → (v ≠ .slice none 0 0 → v' ≠ .slice none 0 0) → K (a.put o.dst v') w') : o.wp P a w K Q := by
  obtain ⟨A, c, rfl, hc, hm, hel⟩ := hSl
  have hsome : ∀ ad : Addr, A = some ad → (∀ j u, (xs.flatMap f)[j]? = some u → w.cell? (ad.add j) = some u) → o.wp P a w K Q := fun ad hA hcells => by
    subst hA
    obtain ⟨v', w', hr, g1, g2, g3, _⟩ := run_append_own_at (P := P) w base t o.type e i z size bytes ht hi hz hsize hby hzs hsz v n ys hown ad xs.length c (xs.flatMap f) (flat_len f hf xs) hcells (flat_one f (fun y u hu => h1 y u hu) xs) h63 hbytes hbase
    unfold Oper.wp execOp
    simp only [ho, resolve, invoke, builtin, Sem.run_bind, Sem.run_pure, Result.andThen_ok, List.map_toArray, List.map_cons, List.map_nil, hs, hx, hr]
    exact h v' w' g1 g2 (fun hv hv' => hv (g3.1 hv').1)
  by_cases h0 : xs = []
  · subst h0
    cases A with
    | some ad => exact hsome ad rfl (fun j u hj => by simp at hj)
    | none =>
      have hrun : (Builtin.append_ #[t, t] o.type #[v, .slice none 0 c]).run P w = .ok v w := by
        rcases hown.2 with ⟨rfl, rfl⟩ | ⟨g, cap, cur, rfl, _, _, hnc, _⟩
        · simp [Builtin.append_, run_underlying ht, sizeOf, typeInfo, hi, Builtin.lenOf, Builtin.firstCells]
        · simp [Builtin.append_, run_underlying ht, sizeOf, typeInfo, hi, Builtin.lenOf, Builtin.firstCells, hnc, storeCells]
      unfold Oper.wp
      have hx' : a.eval x = .slice none 0 c := hx
      simp [execOp, ho, resolve, invoke, builtin, hs, hx', hrun, Result.andThen]
      exact (h v w (by simpa using hown) ⟨rfl, rfl, rfl, Nat.le_refl _, fun _ _ _ => rfl⟩ (fun hv => hv))
  · obtain ⟨b, off, hA, hb, hcell⟩ := hel (List.length_pos_iff.2 h0)
    refine hsome ⟨b, off, none⟩ hA (fun j u hj => ?_)
    have hjl : j < xs.length * size := by rw [← flat_len f hf xs]; exact (List.getElem?_eq_some_iff.1 hj).1
    have hq : j / size < xs.length := Nat.div_lt_of_lt_mul (by rw [Nat.mul_comm]; exact hjl)
    obtain ⟨us, hl, hp, hcl⟩ := hcell (j / size) xs[j / size] (List.getElem?_eq_getElem hq)
    have hp : us = f xs[j / size] := hp
    subst hp
    have hmod : j % size < size := Nat.mod_lt _ hsz
    have hu : (f xs[j / size])[j % size]? = some u := by
      have hjj : j = (j / size) * size + j % size := by rw [Nat.mul_comm]; exact (Nat.div_add_mod j size).symm
      have hfa : ∀ (L : List α) (q r : Nat) (hq : q < L.length), r < size → (L.flatMap f)[q * size + r]? = (f L[q])[r]? := by
        intro L
        induction L with
        | nil => intro q r hq; cases hq
        | cons y L ih =>
          intro q r hq hr
          rw [List.flatMap_cons]
          cases q with
          | zero => rw [Nat.zero_mul, Nat.zero_add, List.getElem?_append_left (by rw [hf]; exact hr)]; rfl
          | succ q =>
            rw [List.getElem?_append_right (by rw [hf, Nat.succ_mul]; omega), hf, Nat.succ_mul, show q * size + size + r - size = q * size + r by omega]
            exact ih q r (by simpa using hq) hr
      rw [← hfa xs (j / size) (j % size) hq hmod, ← hjj]
      exact hj
    have := hcl (j % size) u hu
    have hjj : (j / size) * size + j % size = j := by rw [Nat.mul_comm]; exact Nat.div_add_mod j size
    rw [Nat.add_assoc, hjj] at this
    rw [Addr.add_lit]
    exact this
/-- The same as one step of a region that draws its order. -/
theorem step_append_slR {α : Type} (f : α → List Value) {ops : Array Oper} {o : Oper} {a : Act} {K : Act → World → Prop} {Q : Exit → Act → World → Prop} {E : Prop} (hgd : o.guard = none) (s x : Operand) (t : TypeId)
    (ho : o.op = .call { callee := .builtin .append, args := #[s, x], argTypes := #[t, t] })
    (base : Nat) (e : TypeId) (i : TypeInfo) (z : Value) (size bytes : Nat) (ht : P.underlying t = some (.slice e)) (hi : P.info? e = some i) (hz : i.zero = some z)
    (hsize : i.size = size) (hby : i.bytes = bytes) (hzs : z.cells.size = size) (hsz : 0 < size)
    (v : Value) (n : Nat) (ys : List Value) (hs : a.eval s = v) (hown : w.ownsRow base e size v n ys)
    (vs : Value) (xs : List α) (B : Nat) (hx : a.eval x = vs) (hSl : SlR (Pl f) size w B vs xs) (hf : ∀ y, (f y).length = size) (h1 : ∀ y, ∀ u ∈ f y, u.oneCell' = true)
    (h63 : n + xs.length ≤ maxLen) (hbytes : (n + xs.length) * bytes ≤ 140737488355328) (hbase : base ≤ w.heap.size)
    (h : ∀ v' w', w'.ownsRow base e size v' (n + xs.length) (ys ++ xs.flatMap f) → w.grownBy w' v.ownBlock → (v ≠ .slice none 0 0 → v' ≠ .slice none 0 0) → K (a.put o.dst v') w') :
    if Region.wanted o (yielded ops a.tmps) = true then Oper.wp P o a w K Q else E := by
  have hw : Region.wanted o (yielded ops a.tmps) = true := by simp [Region.wanted, hgd]
  rw [if_pos hw]
  exact wp_append_slR f s x t ho base e i z size bytes ht hi hz hsize hby hzs hsz v n ys hs hown vs xs B hx hSl hf h1 h63 hbytes hbase h
/-- append onto a row of the call's own, and where the new slice lies: as one step of a region that draws its order. -/
theorem step_append_own_at {ops : Array Oper} {o : Oper} {a : Act} {K : Act → World → Prop} {Q : Exit → Act → World → Prop} {E : Prop} (hgd : o.guard = none) (s x : Operand) (t : TypeId)
    (ho : o.op = .call { callee := .builtin .append, args := #[s, x], argTypes := #[t, t] })
    (base : Nat) (e : TypeId) (i : TypeInfo) (z : Value) (size bytes : Nat) (ht : P.underlying t = some (.slice e)) (hi : P.info? e = some i) (hz : i.zero = some z)
    (hsize : i.size = size) (hby : i.bytes = bytes) (hzs : z.cells.size = size) (hsz : 0 < size)
    (v : Value) (n : Nat) (xs : List Value) (hs : a.eval s = v) (hown : w.ownsRow base e size v n xs)
    (ad : Addr) (m c : Nat) (news : List Value) (hx : a.eval x = .slice (some ad) m c) (hl : news.length = m * size) (hnews : ∀ j u, news[j]? = some u → w.cell? (ad.add j) = some u) (h1 : ∀ u ∈ news, u.oneCell' = true)
    (h63 : n + m ≤ maxLen) (hbytes : (n + m) * bytes ≤ 140737488355328) (hbase : base ≤ w.heap.size)
    (h : ∀ v' w', w'.ownsRow base e size v' (n + m) (xs ++ news) → w.grownBy w' v.ownBlock → (v' = .slice none 0 0 ↔ v = .slice none 0 0 ∧ m = 0) → (v'.ownBlock = v.ownBlock ∨ v'.ownBlock = some w.heap.size) → K (a.put o.dst v') w') :
    if Region.wanted o (yielded ops a.tmps) = true then Oper.wp P o a w K Q else E := by
  have hw : Region.wanted o (yielded ops a.tmps) = true := by simp [Region.wanted, hgd]
  rw [if_pos hw]
  obtain ⟨v', w', hr, h2, h3, h4, h5⟩ := run_append_own_at (P := P) w base t o.type e i z size bytes ht hi hz hsize hby hzs hsz v n xs hown ad m c news hl hnews h1 h63 hbytes hbase
  unfold Oper.wp execOp
  simp only [ho, resolve, invoke, builtin, Sem.run_bind, Sem.run_pure, Result.andThen_ok, List.map_toArray, List.map_cons, List.map_nil, hs, hx, hr]
  exact h v' w' h2 h3 h4 h5
end
end Go.Proofs.Ytlbnebmdolnagaa

namespace Go.Proofs.Ytlbnebmdolnagaa
open Go.RowKit Go.Lib

theorem own_none (base : Nat) (w : World) : OwnL artCells [] base w (.slice none 0 0) := ⟨none, 0, rfl, Nat.le_refl _, Nat.zero_le _, fun h => absurd rfl h⟩
theorem keepA {w w' : World} {p0 p1 p2 : Addr} {v0 v1 v2 : Value} (h : w.cell? p0 = some v0 ∧ w.cell? p1 = some v1 ∧ w.cell? p2 = some v2) (hb : Below w.heap.size w w') : w'.cell? p0 = some v0 ∧ w'.cell? p1 = some v1 ∧ w'.cell? p2 = some v2 :=
  ⟨(hb.cell (World.block_lt_of_cell? w _ h.1)).trans h.1, (hb.cell (World.block_lt_of_cell? w _ h.2.1)).trans h.2.1, (hb.cell (World.block_lt_of_cell? w _ h.2.2)).trans h.2.2⟩
theorem keepA' {B : Nat} {w w' : World} {p0 p1 p2 : Addr} {v0 v1 v2 : Value} (h : w.cell? p0 = some v0 ∧ w.cell? p1 = some v1 ∧ w.cell? p2 = some v2) (hb : Below B w w') (hB : w.heap.size = B) : w'.cell? p0 = some v0 ∧ w'.cell? p1 = some v1 ∧ w'.cell? p2 = some v2 :=
  keepA h (hB ▸ hb)
theorem keepG {w w' : World} {p0 p1 p2 : Addr} {g : Nat} {v0 v1 v2 : Value} (h : w.cell? p0 = some v0 ∧ w.cell? p1 = some v1 ∧ w.cell? p2 = some v2) (hg : w.grownBy w' (some g)) (h0 : p0.block ≠ g) (h1 : p1.block ≠ g) (h2 : p2.block ≠ g) : w'.cell? p0 = some v0 ∧ w'.cell? p1 = some v1 ∧ w'.cell? p2 = some v2 :=
  ⟨hg.cell h.1 (fun e => h0 (by injection e)), hg.cell h.2.1 (fun e => h1 (by injection e)), hg.cell h.2.2 (fun e => h2 (by injection e))⟩

end Go.Proofs.Ytlbnebmdolnagaa

namespace Go.Proofs.Ytlbnebmdolnagaa
open Go.RowKit Go.Lib

def EndPost (S : List Art) (ls : List Acta) (k : Nat) (a : Acta) (day : Int) (w : World) (e : Ending) (w' : World) : Prop :=
  ∃ v r, e = .returned (.tuple #[v, .bool r]) ∧ (r = true ↔ EndOk S ls k a day) ∧ (r = true → Acts w' w'.heap.size v (endL ls k a day)) ∧ (∃ A n c, v = .slice A n c) ∧ Below w.heap.size w w'
theorem in2_val' (n a b : Int) (w : World) (r : Bool) (h : inB n a b = r) : Calls Try.prog 66 #[.int .i64 n, .int .i64 a, .int .i64 b] w (RetQ (.bool r) w) := h ▸ in2_any n a b w
theorem map_set_end {L : List VAct} {ls : List Acta} {k : Nat} {a : Acta} {x : VAct} (day : Int) (hL : L.map (·.a) = ls) (hx : L[k]? = some x) (hk : ls[k]? = some a) : x.a = a ∧ (L.set k ⟨⟨x.a.beg, day, x.a.pat⟩, x.v⟩).map (·.a) = endL ls k a day := by
  subst hL
  rw [List.getElem?_map, hx] at hk
  injection hk with hk
  refine ⟨hk, ?_⟩
  rw [List.map_set]
  unfold endL endA
  rw [← hk]

end Go.Proofs.Ytlbnebmdolnagaa

namespace Go.Proofs.Ytlbnebmdolnagaa
open Go.RowKit Go.Lib

structure Mot where
  title : ByteArray
  author : Int
  pat : List Edit
  beg : Int
  fin : Int
  closes : Int
  votes : List Int
  result : Int
structure Asm where
  day : Int
  rule : Int
  trust : List (List Int)
  base : List Art
  acts : List Acta
  mots : List Mot

/-- A list of numbers with its value; a motion with the values of its patch and votes. -/
structure VRow where
  a : List Int
  v : Value
def rCells (x : VRow) : List Value := [x.v]
structure VMot where
  a : Mot
  p : Value
  t : Value
def mCells (x : VMot) : List Value := [.string x.a.title, .int .i64 x.a.author, x.p, .int .i64 x.a.beg, .int .i64 x.a.fin, .int .i64 x.a.closes, x.t, .int .i64 x.a.result]
def RowsR (w : World) (B : Nat) (v : Value) (ls : List (List Int)) : Prop :=
  ∃ L : List VRow, L.map (·.a) = ls ∧ SlR (Pl rCells) 1 w B v L ∧ ∀ x ∈ L, Ints w B x.v x.a
def Mots (w : World) (B : Nat) (v : Value) (ls : List Mot) : Prop :=
  ∃ L : List VMot, L.map (·.a) = ls ∧ SlR (Pl mCells) 8 w B v L ∧ ∀ x ∈ L, Edits w B x.p x.a.pat ∧ Ints w B x.t x.a.votes
theorem RowsR.on {w w' : World} {B B' : Nat} {v : Value} {ls : List (List Int)} (h : RowsR w B v ls) (hb : Below B w w') (hB : B ≤ B') : RowsR w' B' v ls := by
  obtain ⟨L, h1, h2, h3⟩ := h
  exact ⟨L, h1, SlR.on h2 (Pl.stays _) hb hB, fun x hx => SlR.on (h3 x hx) (Pl.stays _) hb hB⟩
theorem Mots.on {w w' : World} {B B' : Nat} {v : Value} {ls : List Mot} (h : Mots w B v ls) (hb : Below B w w') (hB : B ≤ B') : Mots w' B' v ls := by
  obtain ⟨L, h1, h2, h3⟩ := h
  exact ⟨L, h1, SlR.on h2 (Pl.stays _) hb hB, fun x hx => ⟨SlR.on (h3 x hx).1 (Pl.stays _) hb hB, SlR.on (h3 x hx).2 (Pl.stays _) hb hB⟩⟩
theorem Ints.sl {w : World} {B : Nat} {v : Value} {zs : List Int} (h : Ints w B v zs) : ∃ A c, v = .slice A zs.length c ∧ zs.length ≤ c ∧ c ≤ maxLen := by
  obtain ⟨A, c, h1, h2, h3, _⟩ := h
  exact ⟨A, c, h1, h2, h3⟩
theorem Edits.sl {w : World} {B : Nat} {v : Value} {zs : List Edit} (h : Edits w B v zs) : ∃ A c, v = .slice A zs.length c ∧ zs.length ≤ c ∧ c ≤ maxLen := by
  obtain ⟨A, c, h1, h2, h3, _⟩ := h
  exact ⟨A, c, h1, h2, h3⟩
/-- Cells of a list of numbers. -/
theorem rows_at {w : World} {B : Nat} {v : Value} {ls : List (List Int)} (h : RowsR w B v ls) : ∃ (A : Option Addr) (c : Nat), v = .slice A ls.length c ∧ ls.length ≤ c ∧ c ≤ maxLen ∧ (0 < ls.length → ∃ b off, A = some ⟨b, off, none⟩ ∧ b < B ∧
    ∀ (k : Nat) (a : List Int), ls[k]? = some a → ∃ A1 c1, w.cell? ⟨b, off + k, none⟩ = some (.slice A1 a.length c1) ∧ c1 ≤ maxLen ∧ Ints w B (.slice A1 a.length c1) a) := by
  obtain ⟨L, rfl, ⟨A, c, rfl, h1, h2, h3⟩, h4⟩ := h
  rw [List.length_map]
  refine ⟨A, c, rfl, h1, h2, fun h0 => ?_⟩
  obtain ⟨b, off, rfl, hb, hk⟩ := h3 h0
  refine ⟨b, off, rfl, hb, fun k a ha => ?_⟩
  rw [List.getElem?_map] at ha
  cases hx : L[k]? with
  | none => rw [hx] at ha; cases ha
  | some x =>
    rw [hx] at ha
    injection ha with ha
    subst ha
    obtain ⟨us, hl, hp, hc⟩ := hk k x hx
    have hp : us = rCells x := hp
    subst hp
    have hi := h4 x (List.mem_of_getElem? hx)
    obtain ⟨A1, c1, e1, _, hm⟩ := hi.sl
    have c0 := hc 0 _ rfl
    rw [e1] at c0 hi
    rw [Nat.mul_one, Nat.add_zero] at c0
    exact ⟨A1, c1, c0, hm, hi⟩
/-- Cells of a motion. -/
structure MotP (w : World) (B : Nat) (b o : Nat) (m : Mot) (A1 : Option Addr) (c1 : Nat) (A2 : Option Addr) (c2 : Nat) : Prop where
  k0 : w.cell? ⟨b, o, none⟩ = some (.string m.title)
  k1 : w.cell? ⟨b, o + 1, none⟩ = some (.int .i64 m.author)
  k2 : w.cell? ⟨b, o + 2, none⟩ = some (.slice A1 m.pat.length c1)
  k3 : w.cell? ⟨b, o + 3, none⟩ = some (.int .i64 m.beg)
  k4 : w.cell? ⟨b, o + 4, none⟩ = some (.int .i64 m.fin)
  k5 : w.cell? ⟨b, o + 5, none⟩ = some (.int .i64 m.closes)
  k6 : w.cell? ⟨b, o + 6, none⟩ = some (.slice A2 m.votes.length c2)
  k7 : w.cell? ⟨b, o + 7, none⟩ = some (.int .i64 m.result)
  m1 : c1 ≤ maxLen
  m2 : c2 ≤ maxLen
  edits : Edits w B (.slice A1 m.pat.length c1) m.pat
  ints : Ints w B (.slice A2 m.votes.length c2) m.votes
theorem mots_at {w : World} {B : Nat} {v : Value} {ls : List Mot} (h : Mots w B v ls) : ∃ (A : Option Addr) (c : Nat), v = .slice A ls.length c ∧ ls.length ≤ c ∧ c ≤ maxLen ∧ (0 < ls.length → ∃ b off, A = some ⟨b, off, none⟩ ∧ b < B ∧
    ∀ (k : Nat) (a : Mot), ls[k]? = some a → ∃ A1 c1 A2 c2, MotP w B b (off + k * 8) a A1 c1 A2 c2) := by
  obtain ⟨L, rfl, ⟨A, c, rfl, h1, h2, h3⟩, h4⟩ := h
  rw [List.length_map]
  refine ⟨A, c, rfl, h1, h2, fun h0 => ?_⟩
  obtain ⟨b, off, rfl, hb, hk⟩ := h3 h0
  refine ⟨b, off, rfl, hb, fun k a ha => ?_⟩
  rw [List.getElem?_map] at ha
  cases hx : L[k]? with
  | none => rw [hx] at ha; cases ha
  | some x =>
    rw [hx] at ha
    injection ha with ha
    subst ha
    obtain ⟨us, hl, hp, hc⟩ := hk k x hx
    have hp : us = mCells x := hp
    subst hp
    obtain ⟨hi, hj⟩ := h4 x (List.mem_of_getElem? hx)
    obtain ⟨A1, c1, e1, _, hm1⟩ := hi.sl
    obtain ⟨A2, c2, e2, _, hm2⟩ := hj.sl
    obtain ⟨m, p, t⟩ := x
    have f1 : p = .slice A1 m.pat.length c1 := e1
    have f2 : t = .slice A2 m.votes.length c2 := e2
    clear e1 e2
    subst f1 f2
    exact ⟨A1, c1, A2, c2, hc 0 _ rfl, hc 1 _ rfl, hc 2 _ rfl, hc 3 _ rfl, hc 4 _ rfl, hc 5 _ rfl, hc 6 _ rfl, hc 7 _ rfl, hm1, hm2, hi, hj⟩
theorem MotP.on {w w' : World} {B B' b o : Nat} {m : Mot} {A1 : Option Addr} {c1 : Nat} {A2 : Option Addr} {c2 : Nat} (h : MotP w B b o m A1 c1 A2 c2) (hb : Below B w w') (hB : B ≤ B') (hlt : b < B) : MotP w' B' b o m A1 c1 A2 c2 where
  k0 := (hb.cell (p := ⟨b, o, none⟩) hlt).trans h.k0
  k1 := (hb.cell (p := ⟨b, o + 1, none⟩) hlt).trans h.k1
  k2 := (hb.cell (p := ⟨b, o + 2, none⟩) hlt).trans h.k2
  k3 := (hb.cell (p := ⟨b, o + 3, none⟩) hlt).trans h.k3
  k4 := (hb.cell (p := ⟨b, o + 4, none⟩) hlt).trans h.k4
  k5 := (hb.cell (p := ⟨b, o + 5, none⟩) hlt).trans h.k5
  k6 := (hb.cell (p := ⟨b, o + 6, none⟩) hlt).trans h.k6
  k7 := (hb.cell (p := ⟨b, o + 7, none⟩) hlt).trans h.k7
  m1 := h.m1
  m2 := h.m2
  edits := SlR.on h.edits (Pl.stays _) hb hB
  ints := SlR.on h.ints (Pl.stays _) hb hB

/-- The value of an assembly, and what its slices hold. -/
structure VAsm where
  t : Value
  b : Value
  c : Value
  m : Value
def asmV (a : Asm) (x : VAsm) : Value := .agg #[.int .i64 a.day, .int .i64 a.rule, x.t, x.b, x.c, x.m]
structure AsmR (w : World) (B : Nat) (x : VAsm) (a : Asm) : Prop where
  t : RowsR w B x.t a.trust
  b : Arts w B x.b a.base
  c : Acts w B x.c a.acts
  m : Mots w B x.m a.mots
theorem AsmR.on {w w' : World} {B B' : Nat} {x : VAsm} {a : Asm} (h : AsmR w B x a) (hb : Below B w w') (hB : B ≤ B') : AsmR w' B' x a :=
  ⟨h.t.on hb hB, SlR.on h.b (Pl.stays _) hb hB, h.c.on hb hB, h.m.on hb hB⟩
theorem AsmR.aft {w : World} {B : Nat} {x : VAsm} {a : Asm} (h : AsmR w B x a) (hB : B ≤ w.heap.size) : ∀ y : Aft w, AsmR y.val y.val.heap.size x a := fun y => h.on (y.ok.mono hB) (Nat.le_trans hB y.ok.size)
/-- The texts of an assembly are no longer than texts are. -/
structure AsmSz (a : Asm) : Prop where
  b : ∀ x ∈ a.base, x.text.size ≤ maxLen
  c : ActsSz a.acts
  m : ∀ x ∈ a.mots, x.title.size ≤ maxLen ∧ SizesOk x.pat

/-- What is valid. -/
def votesOk (vs : List Int) : Bool := allLt vs.length (fun k => inB (vs.getD k 0) 0 3)
def okMot (m : Mot) (day n : Int) : Bool :=
  okName m.title.toList && inB m.author 0 (n - 1) && !((m.pat.length : Int) == 0) && okPatch m.pat && spanB m.beg m.fin m.closes && ((m.votes.length : Int) == n) && votesOk m.votes && inB m.result 0 4 && ((m.result == 0) == decide (day < m.closes))
def motAt (L : List Mot) (day n : Int) (k : Nat) : Bool := ((L[k]?).map (fun m => okMot m day n && !((L.take k).any (fun o => o.title.toList == m.title.toList)))).getD true
def okMots (L : List Mot) (day n : Int) : Bool := allLt L.length (motAt L day n)
def memAt (L : List (List Int)) (n : Int) (k : Nat) : Bool := ((L[k]?).map (fun l => okTrust l (k : Int) n)).getD true
def okTrusts (L : List (List Int)) : Bool := allLt L.length (memAt L L.length)
def okHead (a : Asm) : Bool := inB a.day 0 999 && inB a.rule 0 2 && inB (a.trust.length : Int) 1 12 && decide (a.mots.length ≤ 6)
open Classical in
noncomputable def okAsm (a : Asm) : Bool := okHead a && okTrusts a.trust && okMots a.mots a.day a.trust.length && okStat a.base && okActs a.acts && decide (AllDays a.base a.acts)
end Go.Proofs.Ytlbnebmdolnagaa

namespace Go.Proofs.Ytlbnebmdolnagaa
open Go.RowKit Go.Lib

def ActFits (a : Acta) : Prop := a.pat.length ≤ 1048576 ∧ ∀ e ∈ a.pat, FitsE e
def MotFits (m : Mot) : Prop := m.title.size ≤ 1048576 ∧ m.pat.length ≤ 1048576 ∧ (∀ e ∈ m.pat, FitsE e) ∧ m.votes.length ≤ 1048576
structure AsmFits (a : Asm) : Prop where
  t0 : a.trust.length ≤ 1048576
  t : ∀ x ∈ a.trust, x.length ≤ 1048576
  b0 : a.base.length ≤ 1048576
  b : ∀ x ∈ a.base, x.text.size ≤ 1048576
  c0 : a.acts.length ≤ 1048576
  c : ∀ x ∈ a.acts, ActFits x
  m0 : a.mots.length ≤ 1048576
  m : ∀ x ∈ a.mots, MotFits x
theorem arts_get {w : World} {B n c k : Nat} {A : Option Addr} {es : List Art} {e : Art} (h : Arts w B (.slice A n c) es) (hk : es[k]? = some e) :
    ∃ b off, A = some ⟨b, off, none⟩ ∧ b < B ∧ w.cell? ⟨b, off + k * 2, none⟩ = some (.int .i64 e.id) ∧ w.cell? ⟨b, off + k * 2 + 1, none⟩ = some (.string e.text) := by
  obtain ⟨A', c', hv, h1, h2, h3⟩ := h
  injection hv with e1 e2 e3
  subst e1
  have hlt : k < es.length := (List.getElem?_eq_some_iff.1 hk).1
  obtain ⟨b, off, hA, hb, hc⟩ := h3 (by omega)
  exact ⟨b, off, hA, hb, arts_at hc hk⟩

end Go.Proofs.Ytlbnebmdolnagaa

namespace Go.Proofs.Ytlbnebmdolnagaa
open Go.RowKit Go.Lib

theorem retL_own {P : Program} {f : FuncId} {args : Array Value} {W : World} {α : Type} {c : α → List Value} {size : Nat} {xs : List α} (h : Calls P f args W (RetL c size xs W)) :
    Calls P f args W fun e w' => ∃ A d, e = .returned (.slice A xs.length d) ∧ OwnL c xs W.heap.size w' (.slice A xs.length d) ∧ Below W.heap.size W w' :=
  h.mono fun _ _ ⟨g, d, he, h1, h2, h3, h4, h5, h6⟩ => ⟨_, d, he, ⟨_, d, rfl, h1, h2, fun _ => ⟨g, rfl, h3, h4, h5⟩⟩, h6⟩
def kRow : Kind VRow where
  cells := rCells
  size := 1
  inn base w x := OwnL intCells x.a base w x.v
  blk x b := sBlk x.a x.v b
  len _ := rfl
  touch h ht hF := OwnL.touch h ht hF
  lt h hb := OwnL.sblk h hb
  less h hb := OwnL.less h hb
def kAct : Kind VAct where
  cells := vCells
  size := 3
  inn base w x := OwnL editCells x.a.pat base w x.v
  blk x b := sBlk x.a.pat x.v b
  len _ := rfl
  touch h ht hF := OwnL.touch h ht hF
  lt h hb := OwnL.sblk h hb
  less h hb := OwnL.less h hb
def kMot : Kind VMot where
  cells := mCells
  size := 8
  inn base w x := OwnL editCells x.a.pat base w x.p ∧ OwnL intCells x.a.votes base w x.t ∧ ∀ b, sBlk x.a.pat x.p b → ¬ sBlk x.a.votes x.t b
  blk x b := sBlk x.a.pat x.p b ∨ sBlk x.a.votes x.t b
  len _ := rfl
  touch h ht hF := ⟨OwnL.touch h.1 ht (fun b hb => hF b (.inl hb)), OwnL.touch h.2.1 ht (fun b hb => hF b (.inr hb)), h.2.2⟩
  lt h hb := by
    rcases hb with hb | hb
    · exact OwnL.sblk h.1 hb
    · exact OwnL.sblk h.2.1 hb
  less h hb := ⟨OwnL.less h.1 hb, OwnL.less h.2.1 hb, h.2.2⟩
def kArt : Kind Art where
  cells := artCells
  size := 2
  inn _ _ _ := True
  blk _ _ := False
  len _ := rfl
  touch _ _ _ := trivial
  lt _ hb := hb.elim
  less _ _ := trivial
theorem artTree {base : Nat} {w : World} {v : Value} {L : List Art} (h : OwnL artCells L base w v) : TreeO kArt base w v L :=
  ⟨h, fun _ _ => trivial, fun _ _ _ h => h.elim, List.pairwise_of_forall (fun _ _ _ h => h.elim)⟩
theorem TreeO.rows {base : Nat} {w : World} {v : Value} {L : List VRow} (h : TreeO kRow base w v L) : RowsR w w.heap.size v (L.map (·.a)) := ⟨L, rfl, h.slR, fun x hx => (show OwnL _ _ _ _ _ from h.inn x hx).slR (size := 1) (fun _ => rfl)⟩
theorem TreeO.acts {base : Nat} {w : World} {v : Value} {L : List VAct} (h : TreeO kAct base w v L) : Acts w w.heap.size v (L.map (·.a)) := ⟨L, rfl, h.slR, fun x hx => (show OwnL _ _ _ _ _ from h.inn x hx).slR (size := 4) (fun _ => rfl)⟩
theorem TreeO.mots {base : Nat} {w : World} {v : Value} {L : List VMot} (h : TreeO kMot base w v L) : Mots w w.heap.size v (L.map (·.a)) :=
  ⟨L, rfl, h.slR, fun x hx => ⟨(show OwnL editCells _ base w _ from (h.inn x hx).1).slR (size := 4) (fun _ => rfl), (show OwnL intCells _ base w _ from (h.inn x hx).2.1).slR (size := 1) (fun _ => rfl)⟩⟩
def RetAct (a : Acta) (w : World) (e : Ending) (w' : World) : Prop := ∃ x : VAct, x.a = a ∧ e = .returned (.agg #[.int .i64 a.beg, .int .i64 a.fin, x.v]) ∧ kAct.inn w.heap.size w' x ∧ Below w.heap.size w w'
def RetMot (m : Mot) (w : World) (e : Ending) (w' : World) : Prop := ∃ x : VMot, x.a = m ∧ e = .returned (.agg #[.string m.title, .int .i64 m.author, x.p, .int .i64 m.beg, .int .i64 m.fin, .int .i64 m.closes, x.t, .int .i64 m.result]) ∧ kMot.inn w.heap.size w' x ∧ Below w.heap.size w w'
/-- A copied slice: a tree of the call's own. -/
def RetT {β α : Type} (K : Kind β) (p : β → α) (ls : List α) (w : World) (e : Ending) (w' : World) : Prop := ∃ A L, e = .returned (.slice A ls.length ls.length) ∧ L.map p = ls ∧ TreeO K w.heap.size w' (.slice A ls.length ls.length) L ∧ Below w.heap.size w w'

end Go.Proofs.Ytlbnebmdolnagaa

namespace Go.Proofs.Ytlbnebmdolnagaa
open Go.RowKit Go.Lib

theorem map_snoc_take {α β : Type} {p : β → α} {L : List β} {ls : List α} {k : Nat} (h : L.map p = ls.take k) (hk : k < ls.length) {x : β} (hx : p x = ls[k]) : (L ++ [x]).map p = ls.take (k + 1) := by
  rw [List.map_append, h, List.map_cons, List.map_nil, hx, List.take_succ_eq_append_getElem hk]
theorem map_len_take {α β : Type} {p : β → α} {L : List β} {ls : List α} {k : Nat} (h : L.map p = ls.take k) (hk : k ≤ ls.length) : L.length = k := by
  have := congrArg List.length h
  rw [List.length_map, List.length_take] at this
  omega

end Go.Proofs.Ytlbnebmdolnagaa

namespace Go.Proofs.Ytlbnebmdolnagaa
open Go.RowKit Go.Lib

def Apart (p q : Nat → Prop) : Prop := ∀ b, p b → ¬ q b
/-- An assembly of the call's own: four trees that share no block. -/
structure AsmO (base : Nat) (w : World) (x : VAsm) (a : Asm) (T : List VRow) (C : List VAct) (M : List VMot) : Prop where
  tm : T.map VRow.a = a.trust
  cm : C.map VAct.a = a.acts
  mm : M.map VMot.a = a.mots
  t : TreeO kRow base w x.t T
  b : TreeO kArt base w x.b a.base
  c : TreeO kAct base w x.c C
  m : TreeO kMot base w x.m M
  tb : Apart (Foot kRow x.t T) (Foot kArt x.b a.base)
  tc : Apart (Foot kRow x.t T) (Foot kAct x.c C)
  tmo : Apart (Foot kRow x.t T) (Foot kMot x.m M)
  bc : Apart (Foot kArt x.b a.base) (Foot kAct x.c C)
  bm : Apart (Foot kArt x.b a.base) (Foot kMot x.m M)
  cmo : Apart (Foot kAct x.c C) (Foot kMot x.m M)
theorem AsmO.r {base : Nat} {w : World} {x : VAsm} {a : Asm} {T : List VRow} {C : List VAct} {M : List VMot} (h : AsmO base w x a T C M) : AsmR w w.heap.size x a :=
  ⟨by rw [← h.tm]; exact h.t.rows, h.b.slR, by rw [← h.cm]; exact h.c.acts, by rw [← h.mm]; exact h.m.mots⟩
def asmFoot (x : VAsm) (a : Asm) (T : List VRow) (C : List VAct) (M : List VMot) (b : Nat) : Prop := Foot kRow x.t T b ∨ Foot kArt x.b a.base b ∨ Foot kAct x.c C b ∨ Foot kMot x.m M b
theorem AsmO.touch {base : Nat} {w w' : World} {x : VAsm} {a : Asm} {T : List VRow} {C : List VAct} {M : List VMot} {F : Nat → Prop} (h : AsmO base w x a T C M) (ht : Touch F w w') (hF : ∀ b, asmFoot x a T C M b → ¬ F b) : AsmO base w' x a T C M :=
  ⟨h.tm, h.cm, h.mm, h.t.touch ht (fun b hb => hF b (.inl hb)), h.b.touch ht (fun b hb => hF b (.inr (.inl hb))), h.c.touch ht (fun b hb => hF b (.inr (.inr (.inl hb)))), h.m.touch ht (fun b hb => hF b (.inr (.inr (.inr hb)))), h.tb, h.tc, h.tmo, h.bc, h.bm, h.cmo⟩
theorem AsmO.below {base : Nat} {w w' : World} {x : VAsm} {a : Asm} {T : List VRow} {C : List VAct} {M : List VMot} (h : AsmO base w x a T C M) (hb : Below w.heap.size w w') : AsmO base w' x a T C M :=
  h.touch (F := fun _ => False) (Touch.of_below hb) (fun _ _ h => h)
theorem AsmO.lt {base : Nat} {w : World} {x : VAsm} {a : Asm} {T : List VRow} {C : List VAct} {M : List VMot} (h : AsmO base w x a T C M) {b : Nat} (hb : asmFoot x a T C M b) : base ≤ b ∧ b < w.heap.size := by
  rcases hb with hb | hb | hb | hb
  · exact h.t.lt hb
  · exact h.b.lt hb
  · exact h.c.lt hb
  · exact h.m.lt hb
def RetAsm (a : Asm) (w : World) (e : Ending) (w' : World) : Prop := ∃ x T C M, e = .returned (asmV a x) ∧ AsmO w.heap.size w' x a T C M ∧ Below w.heap.size w w'
theorem asm_ret {a : Asm} {w W2 W3 W4 W1 w1 w2 w3 w4 w' : World} {A1 A2 A3 A4 : Option Addr} {T : List VRow} {B : List Art} {C : List VAct} {M : List VMot} {e : Ending}
    (he : e = .returned (.agg #[.int .i64 a.day, .int .i64 a.rule, .slice A1 a.trust.length a.trust.length, .slice A2 a.base.length a.base.length, .slice A3 a.acts.length a.acts.length, .slice A4 a.mots.length a.mots.length]))
    (m1 : T.map VRow.a = a.trust) (m2 : B.map id = a.base) (m3 : C.map VAct.a = a.acts) (m4 : M.map VMot.a = a.mots)
    (h1 : TreeO kRow w.heap.size w' (.slice A1 a.trust.length a.trust.length) T) (h2 : TreeO kArt w.heap.size w' (.slice A2 a.base.length a.base.length) B) (h3 : TreeO kAct w.heap.size w' (.slice A3 a.acts.length a.acts.length) C) (h4 : TreeO kMot w.heap.size w' (.slice A4 a.mots.length a.mots.length) M)
    (l1 : ∀ b, Foot kRow (.slice A1 a.trust.length a.trust.length) T b → W1.heap.size ≤ b ∧ b < w1.heap.size) (l2 : ∀ b, Foot kArt (.slice A2 a.base.length a.base.length) B b → W2.heap.size ≤ b ∧ b < w2.heap.size)
    (l3 : ∀ b, Foot kAct (.slice A3 a.acts.length a.acts.length) C b → W3.heap.size ≤ b ∧ b < w3.heap.size) (l4 : ∀ b, Foot kMot (.slice A4 a.mots.length a.mots.length) M b → W4.heap.size ≤ b ∧ b < w4.heap.size)
    (s2 : w1.heap.size ≤ W2.heap.size) (s3 : w2.heap.size ≤ W3.heap.size) (s4 : w3.heap.size ≤ W4.heap.size) (z2 : W2.heap.size ≤ w2.heap.size) (z3 : W3.heap.size ≤ w3.heap.size) (hb : Below w.heap.size w w') : RetAsm a w e w' := by
  rw [List.map_id] at m2
  subst m2
  refine ⟨⟨_, _, _, _⟩, T, C, M, he, ⟨m1, m3, m4, h1, h2, h3, h4, ?_, ?_, ?_, ?_, ?_, ?_⟩, hb⟩
  · intro b p q; have := l1 b p; have := l2 b q; omega
  · intro b p q; have := l1 b p; have := l3 b q; omega
  · intro b p q; have := l1 b p; have := l4 b q; omega
  · intro b p q; have := l2 b p; have := l3 b q; omega
  · intro b p q; have := l2 b p; have := l4 b q; omega
  · intro b p q; have := l3 b p; have := l4 b q; omega
theorem AsmR.slices {w : World} {B : Nat} {x : VAsm} {a : Asm} (h : AsmR w B x a) : ∃ At ct Ab cb Ac cc Am cm, x = ⟨.slice At a.trust.length ct, .slice Ab a.base.length cb, .slice Ac a.acts.length cc, .slice Am a.mots.length cm⟩ := by
  obtain ⟨At, ct, et, -⟩ := rows_at h.t
  obtain ⟨Ab, cb, eb, -⟩ := h.b
  obtain ⟨Ac, cc, ec, -⟩ := acts_at h.c
  obtain ⟨Am, cm, em, -⟩ := mots_at h.m
  obtain ⟨xt, xb, xc, xm⟩ := x
  exact ⟨At, ct, Ab, cb, Ac, cc, Am, cm, by rw [show xt = _ from et, show xb = _ from eb, show xc = _ from ec, show xm = _ from em]⟩
end Go.Proofs.Ytlbnebmdolnagaa

namespace Go.Proofs.Ytlbnebmdolnagaa
open Go.Joins Go.ChangeShapes Go.WideShapes Go.RowKit Go.Deep

section
variable {H : Type} {enc : TypeId × Value → H} {P : Program} {w : World} {base : Nat} {spare : Nat → Bool} {held : Bool}
theorem open_slice_fields {t e : TypeId} {fs : Array Field} {fuel : Nat} {cs : List Value} {x : DataW H × List MemPlace} (ht : P.underlying t = some (.slice e)) (he : P.underlying e = some (.struct fs))
    (hone : oneCellFields P fs = true) (hC : P.cellsOf e = fs.size) (h : DataW.trod enc P w base spare held fuel t cs = some x) :
    (cs = [.slice none 0 0] ∧ x = (.nil, [])) ∨
    ∃ (a : Addr) (len cap m : Nat) (D : Nat → DataW H) (Pl : Nat → List MemPlace), cs = [.slice (some a) len cap] ∧ base ≤ a.block ∧ len ≤ cap ∧ cap ≤ maxLen ∧ m = (if spare a.block then cap else len) ∧
      x = (.slice ((List.range len).map D) ((List.range (m - len)).map fun j => D (len + j)), MemPlace.row a (m * fs.size) ++ (List.range m).flatMap Pl) ∧
      ∀ i, i < m → ∃ (ys : List (DataW H × List MemPlace)) (n : Nat), D i = .agg (ys.map (·.1)) ∧ Pl i = ys.flatMap (·.2) ∧ ys.length = fs.size ∧
        ∀ (j : Nat) (f : Field), fs[j]? = some f → ∃ (v : Value) (y : DataW H × List MemPlace), w.cell? (a.add (i * fs.size + j)) = some v ∧ ys[j]? = some y ∧ DataW.trod enc P w base spare held n f.type [v] = some y := by
  rcases open_slice ht h with h0 | ⟨a, len, cap, m, n, D, Pl, hcs, hb, hl, hm, hmm, hx, hi⟩
  · exact .inl h0
  · refine .inr ⟨a, len, cap, m, D, Pl, hcs, hb, hl, hm, hmm, by rw [hC] at hx; exact hx, fun i him => ?_⟩
    obtain ⟨cs', hc, ht'⟩ := hi i him
    rw [hC] at hc
    obtain ⟨ys, n', hn', hy, hlen, hyl, hf⟩ := DataW.trod_struct he ht'
    obtain ⟨_, hcl, hat⟩ := World.cells?_some hc
    simp only [Prod.mk.injEq] at hy
    refine ⟨ys, n', hy.1, hy.2, hyl, fun j f hj => ?_⟩
    obtain ⟨ho, hk⟩ := hone_of hone j f hj
    have hjl : j < fs.size := (Array.getElem?_eq_some_iff.1 hj).1
    have hcell := hat j hjl
    have hv : cs'[j]? = some (cs'[j]'(by omega)) := List.getElem?_eq_getElem (by omega)
    have h1 := hf j f hj
    rw [ho, hk] at h1
    have hone' : (cs'.drop j).take 1 = [cs'[j]'(by omega)] := by
      rw [List.drop_eq_getElem_cons (by omega)]
      rfl
    rw [hone'] at h1
    have hys : ys[j]? = some (ys[j]'(by omega)) := List.getElem?_eq_getElem (by omega)
    refine ⟨_, _, ?_, hys, h1.trans hys⟩
    rw [← Go.Deep.add_add, hcell, hv]
theorem open_agg9 {r : Reach} {b0 : Nat} {t : TypeId} {f0 f1 f2 f3 f4 f5 f6 f7 f8 : Field} {v : Value} {d : DataW H} {p : List MemPlace} (hs : P.underlying t = some (.struct #[f0, f1, f2, f3, f4, f5, f6, f7, f8])) (hone : oneCellFields P #[f0, f1, f2, f3, f4, f5, f6, f7, f8] = true) (hC : P.cellsOf t = 9)
    (hv : Value.okWide P w r b0 t v) (h : DataW.Trod enc P w base spare held t v d p) :
    ∃ (v0 v1 v2 v3 v4 v5 v6 v7 v8 : Value) (y0 y1 y2 y3 y4 y5 y6 y7 y8 : DataW H × List MemPlace) (n : Nat), v = .agg #[v0, v1, v2, v3, v4, v5, v6, v7, v8] ∧ d = .agg [y0.1, y1.1, y2.1, y3.1, y4.1, y5.1, y6.1, y7.1, y8.1] ∧ p = y0.2 ++ (y1.2 ++ (y2.2 ++ (y3.2 ++ (y4.2 ++ (y5.2 ++ (y6.2 ++ (y7.2 ++ y8.2))))))) ∧
      DataW.trod enc P w base spare held n f0.type [v0] = some y0 ∧ DataW.trod enc P w base spare held n f1.type [v1] = some y1 ∧ DataW.trod enc P w base spare held n f2.type [v2] = some y2 ∧ DataW.trod enc P w base spare held n f3.type [v3] = some y3 ∧ DataW.trod enc P w base spare held n f4.type [v4] = some y4 ∧ DataW.trod enc P w base spare held n f5.type [v5] = some y5 ∧ DataW.trod enc P w base spare held n f6.type [v6] = some y6 ∧ DataW.trod enc P w base spare held n f7.type [v7] = some y7 ∧ DataW.trod enc P w base spare held n f8.type [v8] = some y8 := by
  obtain ⟨cs, rfl, hsz⟩ := okWide_struct hs hv
  obtain ⟨l⟩ := cs
  match l, hsz.trans hC with
  | [c0, c1, c2, c3, c4, c5, c6, c7, c8], _ =>
    obtain ⟨fuel, hf⟩ := h
    obtain ⟨xs, n, _, hx, _, hlen, hg⟩ := DataW.trod_struct hs hf
    obtain ⟨o0, k0⟩ := hone_of hone 0 f0 rfl
    obtain ⟨o1, k1⟩ := hone_of hone 1 f1 rfl
    obtain ⟨o2, k2⟩ := hone_of hone 2 f2 rfl
    obtain ⟨o3, k3⟩ := hone_of hone 3 f3 rfl
    obtain ⟨o4, k4⟩ := hone_of hone 4 f4 rfl
    obtain ⟨o5, k5⟩ := hone_of hone 5 f5 rfl
    obtain ⟨o6, k6⟩ := hone_of hone 6 f6 rfl
    obtain ⟨o7, k7⟩ := hone_of hone 7 f7 rfl
    obtain ⟨o8, k8⟩ := hone_of hone 8 f8 rfl
    match xs, hlen with
    | [y0, y1, y2, y3, y4, y5, y6, y7, y8], _ =>
      simp only [Prod.mk.injEq] at hx
      exact ⟨c0, c1, c2, c3, c4, c5, c6, c7, c8, y0, y1, y2, y3, y4, y5, y6, y7, y8, n, rfl, by simpa using hx.1, by simpa using hx.2, by simpa [Value.cells, o0, k0] using hg 0 f0 rfl, by simpa [Value.cells, o1, k1] using hg 1 f1 rfl, by simpa [Value.cells, o2, k2] using hg 2 f2 rfl, by simpa [Value.cells, o3, k3] using hg 3 f3 rfl, by simpa [Value.cells, o4, k4] using hg 4 f4 rfl, by simpa [Value.cells, o5, k5] using hg 5 f5 rfl, by simpa [Value.cells, o6, k6] using hg 6 f6 rfl, by simpa [Value.cells, o7, k7] using hg 7 f7 rfl, by simpa [Value.cells, o8, k8] using hg 8 f8 rfl⟩
end

theorem spot_none {w : World} {a : Addr} {v : Value} (h : w.cell? a = some v) : a.spot = none := by simpa using World.cell?_spot h
theorem add_off (b off i : Nat) : (⟨b, off, none⟩ : Addr).add i = ⟨b, off + i, none⟩ := by
  unfold Addr.add
  by_cases h : i = 0 <;> simp [h]
theorem block_lt {w : World} {b o : Nat} {v : Value} (h : w.cell? ⟨b, o, none⟩ = some v) : b < w.heap.size := World.block_lt_of_cell? w ⟨b, o, none⟩ h

section
variable {H : Type} {enc : TypeId × Value → H} {P : Program} {w : World} {base fuel : Nat} {held : Bool} {x : DataW H × List MemPlace}
/-- A slice of numbers that came in. -/
theorem ints_of {t e : TypeId} {v : Value} (ht : P.underlying t = some (.slice e)) (he : P.underlying e = some (.int .i64)) (hc : P.cellsOf e = 1) (h : DataW.trod enc P w base (fun _ => true) held fuel t [v] = some x) :
    ∃ A n c zs, v = .slice A n c ∧ Ints w w.heap.size (.slice A n c) zs := by
  rcases open_ints ht he hc h with ⟨hcs, _⟩ | ⟨a, len, cap, zs, hcs, _, hl, hm, hz, _, hcell, _⟩
  · simp only [List.cons.injEq, and_true] at hcs
    exact ⟨none, 0, 0, [], hcs, SlR.nil _ _ _ _ _ _ (Nat.zero_le _)⟩
  · simp only [List.cons.injEq, and_true] at hcs
    have hz' : zs.length = cap := by simpa using hz
    have hlen : (zs.take len).length = len := by rw [List.length_take]; omega
    refine ⟨some a, len, cap, zs.take len, hcs, ⟨some a, cap, by rw [hlen], by omega, hm, fun h0 => ?_⟩⟩
    have h0c := hcell 0 (by omega)
    obtain ⟨b, off, spot⟩ := a
    have hs : spot = none := by simpa [Addr.add] using spot_none h0c
    subst hs
    refine ⟨b, off, rfl, ?_, fun k z hk => ⟨intCells z, rfl, rfl, fun j u hu => ?_⟩⟩
    · rw [add_off] at h0c; exact block_lt h0c
    · match j, hu with
      | 0, hu =>
        injection hu with hu
        subst hu
        have hk2 : k < len := by have := (List.getElem?_eq_some_iff.1 hk).1; omega
        have := hcell k (by omega)
        rw [add_off] at this
        rw [Nat.mul_one, Nat.add_zero, this]
        rw [List.getElem?_take, if_pos hk2] at hk
        rw [List.getD_eq_getElem?_getD, hk]
        rfl

/-- A slice of edits that came in. -/
theorem edits_of {t e : TypeId} {v : Value} {fs : Array Field} {f0 f1 f2 f3 : Field} (ht : P.underlying t = some (.slice e)) (he : P.underlying e = some (.struct fs)) (hfs : fs = #[f0, f1, f2, f3]) (hone : oneCellFields P fs = true) (hC : P.cellsOf e = fs.size)
    (t0 : P.underlying f0.type = some (.int .i64)) (t1 : P.underlying f1.type = some (.int .i64)) (t2 : P.underlying f2.type = some .string) (t3 : P.underlying f3.type = some .string)
    (h : DataW.trod enc P w base (fun _ => true) held fuel t [v] = some x) :
    ∃ A n c es, v = .slice A n c ∧ Edits w w.heap.size (.slice A n c) es ∧ SizesOk es := by
  rcases open_slice_fields ht he hone hC h with ⟨hcs, _⟩ | ⟨a, len, cap, m, D, Pl', hcs, _, hl, hm, hmm, _, hi⟩
  · simp only [List.cons.injEq, and_true] at hcs
    exact ⟨none, 0, 0, [], hcs, SlR.nil _ _ _ _ _ _ (Nat.zero_le _), fun e he => by cases he⟩
  · simp only [List.cons.injEq, and_true] at hcs
    have hmc : m = cap := by simpa using hmm
    have H : ∀ i, i < m → ∃ e : Edit, SizeOk e ∧ w.cell? (a.add (i * 4)) = some (.int .i64 e.kind) ∧ w.cell? (a.add (i * 4 + 1)) = some (.int .i64 e.id) ∧ w.cell? (a.add (i * 4 + 2)) = some (.string e.old) ∧ w.cell? (a.add (i * 4 + 3)) = some (.string e.new) := by
      intro i him
      obtain ⟨ys, n, _, _, _, hf⟩ := hi i him
      subst hfs
      obtain ⟨u0, y0, c0, _, r0⟩ := hf 0 f0 rfl
      obtain ⟨u1, y1, c1, _, r1⟩ := hf 1 f1 rfl
      obtain ⟨u2, y2, c2, _, r2⟩ := hf 2 f2 rfl
      obtain ⟨u3, y3, c3, _, r3⟩ := hf 3 f3 rfl
      obtain ⟨k0, e0, _, _⟩ := DataW.trod_int t0 r0
      obtain ⟨k1, e1, _, _⟩ := DataW.trod_int t1 r1
      obtain ⟨s2, e2, _, l2⟩ := DataW.trod_string t2 r2
      obtain ⟨s3, e3, _, l3⟩ := DataW.trod_string t3 r3
      simp only [List.cons.injEq, and_true] at e0 e1 e2 e3
      subst e0 e1 e2 e3
      exact ⟨⟨k0, k1, s2, s3⟩, ⟨l2, l3⟩, c0, c1, c2, c3⟩
    obtain ⟨F, hF⟩ : ∃ F : Nat → Edit, ∀ i, i < m → SizeOk (F i) ∧ w.cell? (a.add (i * 4)) = some (.int .i64 (F i).kind) ∧ w.cell? (a.add (i * 4 + 1)) = some (.int .i64 (F i).id) ∧ w.cell? (a.add (i * 4 + 2)) = some (.string (F i).old) ∧ w.cell? (a.add (i * 4 + 3)) = some (.string (F i).new) :=
      ⟨fun i => if h : i < m then Classical.choose (H i h) else ⟨0, 0, ⟨#[]⟩, ⟨#[]⟩⟩, fun i hi => by simp only [dif_pos hi]; exact Classical.choose_spec (H i hi)⟩
    clear H
    have hlen : ((List.range len).map F).length = len := by simp
    have hget : ∀ (i : Nat) (e : Edit), ((List.range len).map F)[i]? = some e → i < m ∧ e = F i := by
      intro i e he
      have hi : i < len := by have := (List.getElem?_eq_some_iff.1 he).1; omega
      refine ⟨by omega, ?_⟩
      simp only [List.getElem?_map, List.getElem?_range hi, Option.map_some, Option.some.injEq] at he
      exact he.symm
    refine ⟨some a, len, cap, (List.range len).map F, hcs, ⟨some a, cap, by rw [hlen], by omega, hm, fun h0 => ?_⟩, fun e he => ?_⟩
    · obtain ⟨_, c0, _⟩ := hF 0 (by omega)
      obtain ⟨b, off, spot⟩ := a
      have hs : spot = none := by simpa [Addr.add] using spot_none c0
      subst hs
      rw [add_off] at c0
      refine ⟨b, off, rfl, block_lt c0, fun k z hk => ⟨editCells z, rfl, rfl, fun j u hu => ?_⟩⟩
      obtain ⟨hkm, rfl⟩ := hget k z hk
      obtain ⟨_, d0, d1, d2, d3⟩ := hF k hkm
      simp only [add_off] at d0 d1 d2 d3
      match j, hu with
      | 0, hu => injection hu with hu; subst hu; exact d0
      | 1, hu => injection hu with hu; subst hu; rw [Nat.add_assoc]; exact d1
      | 2, hu => injection hu with hu; subst hu; rw [Nat.add_assoc]; exact d2
      | 3, hu => injection hu with hu; subst hu; rw [Nat.add_assoc]; exact d3
    · obtain ⟨i, hi⟩ := List.getElem?_of_mem he
      obtain ⟨him, rfl⟩ := hget i e hi
      exact (hF i him).1
end
end Go.Proofs.Ytlbnebmdolnagaa
