/- append of a slice onto a row of the call's own, with where the row lies behind it. -/
import Derived.Test.YtlbnebmdolnagaaQE
namespace Go.Proofs.Ytlbnebmdolnagaa
open Go.RowKit Go.Lib

theorem wp_append_slRA {P : Program} {w : World} {α : Type} (f : α → List Value) {o : Oper} {a : Act} {K : Act → World → Prop} {Q : Exit → Act → World → Prop} (s x : Operand) (t : TypeId)
    (ho : o.op = .call { callee := .builtin .append, args := #[s, x], argTypes := #[t, t] })
    (base : Nat) (e : TypeId) (i : TypeInfo) (z : Value) (size bytes : Nat) (ht : P.underlying t = some (.slice e)) (hi : P.info? e = some i) (hz : i.zero = some z)
    (hsize : i.size = size) (hby : i.bytes = bytes) (hzs : z.cells.size = size) (hsz : 0 < size)
    (v : Value) (n : Nat) (ys : List Value) (hs : a.eval s = v) (hown : w.ownsRow base e size v n ys)
    (vs : Value) (xs : List α) (B : Nat) (hx : a.eval x = vs) (hSl : SlR (Pl f) size w B vs xs) (hf : ∀ y, (f y).length = size) (h1 : ∀ y, ∀ u ∈ f y, u.oneCell' = true)
    (h63 : n + xs.length ≤ maxLen) (hbytes : (n + xs.length) * bytes ≤ 140737488355328) (hbase : base ≤ w.heap.size)
    (h : ∀ v' w', w'.ownsRow base e size v' (n + xs.length) (ys ++ xs.flatMap f) → w.grownBy w' v.ownBlock → (v ≠ .slice none 0 0 → v' ≠ .slice none 0 0) → (v'.ownBlock = v.ownBlock ∨ v'.ownBlock = some w.heap.size) → K (a.put o.dst v') w') : o.wp P a w K Q := by
  obtain ⟨A, c, rfl, hc, hm, hel⟩ := hSl
  have hsome : ∀ ad : Addr, A = some ad → (∀ j u, (xs.flatMap f)[j]? = some u → w.cell? (ad.add j) = some u) → o.wp P a w K Q := fun ad hA hcells => by
    subst hA
    obtain ⟨v', w', hr, g1, g2, g3, g4⟩ := run_append_own_at (P := P) w base t o.type e i z size bytes ht hi hz hsize hby hzs hsz v n ys hown ad xs.length c (xs.flatMap f) (flat_len f hf xs) hcells (flat_one f (fun y u hu => h1 y u hu) xs) h63 hbytes hbase
    unfold Oper.wp execOp
    simp only [ho, resolve, invoke, builtin, Sem.run_bind, Sem.run_pure, Result.andThen_ok, List.map_toArray, List.map_cons, List.map_nil, hs, hx, hr]
    exact h v' w' g1 g2 (fun hv hv' => hv (g3.1 hv').1) g4
  by_cases h0 : xs = []
  · subst h0
    cases A with
    | some ad => exact hsome ad rfl (fun j u hj => by simp at hj)
    | none =>
      have hrun : (Builtin.append_ #[t, t] o.type #[v, .slice none 0 c]).run P w = .ok v w := by
        rcases hown.2 with ⟨rfl, rfl⟩ | ⟨g, cap, cur, rfl, _, _, hnc, _⟩
        · simp [Builtin.append_, run_underlying ht, sizeOf, typeInfo, hi, Builtin.lenOf, Builtin.firstCells]
        · simp [Builtin.append_, run_underlying ht, sizeOf, typeInfo, hi, Builtin.lenOf, Builtin.firstCells, hnc, storeCells]
      unfold Oper.wp
      have hx' : a.eval x = .slice none 0 c := hx
      simp [execOp, ho, resolve, invoke, builtin, hs, hx', hrun, Result.andThen]
      exact (h v w (by simpa using hown) ⟨rfl, rfl, rfl, Nat.le_refl _, fun _ _ _ => rfl⟩ (fun hv => hv) (.inl rfl))
  · obtain ⟨b, off, hA, hb, hcell⟩ := hel (List.length_pos_iff.2 h0)
    refine hsome ⟨b, off, none⟩ hA (fun j u hj => ?_)
    have hjl : j < xs.length * size := by rw [← flat_len f hf xs]; exact (List.getElem?_eq_some_iff.1 hj).1
    have hq : j / size < xs.length := Nat.div_lt_of_lt_mul (by rw [Nat.mul_comm]; exact hjl)
    obtain ⟨us, hl, hp, hcl⟩ := hcell (j / size) xs[j / size] (List.getElem?_eq_getElem hq)
    have hp : us = f xs[j / size] := hp
    subst hp
    have hmod : j % size < size := Nat.mod_lt _ hsz
    have hu : (f xs[j / size])[j % size]? = some u := by
      have hjj : j = (j / size) * size + j % size := by rw [Nat.mul_comm]; exact (Nat.div_add_mod j size).symm
      have hfa : ∀ (L : List α) (q r : Nat) (hq : q < L.length), r < size → (L.flatMap f)[q * size + r]? = (f L[q])[r]? := by
        intro L
        induction L with
        | nil => intro q r hq; cases hq
        | cons y L ih =>
          intro q r hq hr
          rw [List.flatMap_cons]
          cases q with
          | zero => rw [Nat.zero_mul, Nat.zero_add, List.getElem?_append_left (by rw [hf]; exact hr)]; rfl
          | succ q =>
            rw [List.getElem?_append_right (by rw [hf, Nat.succ_mul]; omega), hf, Nat.succ_mul, show q * size + size + r - size = q * size + r by omega]
            exact ih q r (by simpa using hq) hr
      rw [← hfa xs (j / size) (j % size) hq hmod, ← hjj]
      exact hj
    have := hcl (j % size) u hu
    have hjj : (j / size) * size + j % size = j := by rw [Nat.mul_comm]; exact Nat.div_add_mod j size
    rw [Nat.add_assoc, hjj] at this
    rw [Addr.add_lit]
    exact this
/-- append onto a row of the call's own as one step of a region that draws its order, whatever list of values the guard looks at. -/
theorem step_append_slT {P : Program} {α : Type} {w : World} (f : α → List Value) {T : Bool} {o : Oper} {a : Act} {K : Act → World → Prop} {Q : Exit → Act → World → Prop} {E : Prop} (hgd : T = true) (s x : Operand) (t : TypeId)
    (ho : o.op = .call { callee := .builtin .append, args := #[s, x], argTypes := #[t, t] })
    (base : Nat) (e : TypeId) (i : TypeInfo) (z : Value) (size bytes : Nat) (ht : P.underlying t = some (.slice e)) (hi : P.info? e = some i) (hz : i.zero = some z)
    (hsize : i.size = size) (hby : i.bytes = bytes) (hzs : z.cells.size = size) (hsz : 0 < size)
    (v : Value) (n : Nat) (ys : List Value) (hs : a.eval s = v) (hown : w.ownsRow base e size v n ys)
    (vs : Value) (xs : List α) (B : Nat) (hx : a.eval x = vs) (hSl : SlR (Pl f) size w B vs xs) (hf : ∀ y, (f y).length = size) (h1 : ∀ y, ∀ u ∈ f y, u.oneCell' = true)
    (h63 : n + xs.length ≤ maxLen) (hbytes : (n + xs.length) * bytes ≤ 140737488355328) (hbase : base ≤ w.heap.size)
    (h : ∀ v' w', w'.ownsRow base e size v' (n + xs.length) (ys ++ xs.flatMap f) → w.grownBy w' v.ownBlock → (v ≠ .slice none 0 0 → v' ≠ .slice none 0 0) → (v'.ownBlock = v.ownBlock ∨ v'.ownBlock = some w.heap.size) → K (a.put o.dst v') w') :
    if T = true then Oper.wp P o a w K Q else E := by
  rw [if_pos hgd]
  exact wp_append_slRA f s x t ho base e i z size bytes ht hi hz hsize hby hzs hsz v n ys hs hown vs xs B hx hSl hf h1 h63 hbytes hbase h
/-- The same for cells that lie somewhere. -/
theorem step_append_ownT {P : Program} {w : World} {T : Bool} {o : Oper} {a : Act} {K : Act → World → Prop} {Q : Exit → Act → World → Prop} {E : Prop} (hgd : T = true) (s x : Operand) (t : TypeId)
    (ho : o.op = .call { callee := .builtin .append, args := #[s, x], argTypes := #[t, t] })
    (base : Nat) (e : TypeId) (i : TypeInfo) (z : Value) (size bytes : Nat) (ht : P.underlying t = some (.slice e)) (hi : P.info? e = some i) (hz : i.zero = some z)
    (hsize : i.size = size) (hby : i.bytes = bytes) (hzs : z.cells.size = size) (hsz : 0 < size)
    (v : Value) (n : Nat) (xs : List Value) (hs : a.eval s = v) (hown : w.ownsRow base e size v n xs)
    (ad : Addr) (m c : Nat) (news : List Value) (hx : a.eval x = .slice (some ad) m c) (hl : news.length = m * size) (hnews : ∀ j u, news[j]? = some u → w.cell? (ad.add j) = some u) (h1 : ∀ u ∈ news, u.oneCell' = true)
    (h63 : n + m ≤ maxLen) (hbytes : (n + m) * bytes ≤ 140737488355328) (hbase : base ≤ w.heap.size)
    (h : ∀ v' w', w'.ownsRow base e size v' (n + m) (xs ++ news) → w.grownBy w' v.ownBlock → (v' = .slice none 0 0 ↔ v = .slice none 0 0 ∧ m = 0) → (v'.ownBlock = v.ownBlock ∨ v'.ownBlock = some w.heap.size) → K (a.put o.dst v') w') :
    if T = true then Oper.wp P o a w K Q else E := by
  rw [if_pos hgd]
  obtain ⟨v', w', hr, h2, h3, h4, h5⟩ := run_append_own_at (P := P) w base t o.type e i z size bytes ht hi hz hsize hby hzs hsz v n xs hown ad m c news hl hnews h1 h63 hbytes hbase
  unfold Oper.wp execOp
  simp only [ho, resolve, invoke, builtin, Sem.run_bind, Sem.run_pure, Result.andThen_ok, List.map_toArray, List.map_cons, List.map_nil, hs, hx, hr]
  exact h v' w' h2 h3 h4 h5
end Go.Proofs.Ytlbnebmdolnagaa
