/- A queue of numbers: a slice of the call's own that begins anywhere in its block; append to it. No program here. Numbers as a result; the ends as a function; the count, plain. Settling, plain: the reference's and the program's tests of a step fit the one test; what the searches hand back. The costs of ways, the reference's, walked. The cheapest path, the reference's, walked. The program's test of voices, walked: valid voices pass. The ends from a member, the program's, walked. The deepest path, the reference's, walked; the best path by a rule. -/
import Derived.Test.YtlbnebmdolnagaaQE
import Derived.Test.YtlbnebmdolnagaaYA
namespace Go.Proofs.Ytlbnebmdolnagaa
open Go.RowKit Go.Lib

def Que (w : World) (base : Nat) (e : TypeId) (g : Nat) (v : Value) (xs : List Value) : Prop :=
  ∃ off cap cur, v = .slice (some ⟨g, off, none⟩) xs.length cap ∧ base ≤ g ∧ w.heap[g]? = some (.cells cur e (0, 0)) ∧ xs.length ≤ cap ∧ cap ≤ maxLen ∧ off + cap ≤ cur.size ∧ ∀ j u, xs[j]? = some u → cur[off + j]? = some u
theorem Que.lt {w : World} {base : Nat} {e : TypeId} {g : Nat} {v : Value} {xs : List Value} (h : Que w base e g v xs) : base ≤ g ∧ g < w.heap.size := by
  obtain ⟨off, cap, cur, _, h1, h2, _⟩ := h
  exact ⟨h1, (Array.getElem?_eq_some_iff.1 h2).1⟩
theorem Que.kept {w w' : World} {base : Nat} {e : TypeId} {g : Nat} {v : Value} {xs : List Value} (h : Que w base e g v xs) (hb : w'.heap[g]? = w.heap[g]?) : Que w' base e g v xs := by
  obtain ⟨off, cap, cur, h0, h1, h2, h3⟩ := h
  exact ⟨off, cap, cur, h0, h1, hb.trans h2, h3⟩
theorem Que.below {w w' : World} {base : Nat} {e : TypeId} {g : Nat} {v : Value} {xs : List Value} (h : Que w base e g v xs) (hb : Below w.heap.size w w') : Que w' base e g v xs := h.kept (hb.block g h.lt.2)
theorem Que.grown {w w' : World} {base : Nat} {e : TypeId} {g : Nat} {v : Value} {xs : List Value} {r : Option Nat} (h : Que w base e g v xs) (hb : w.grownBy w' r) (hr : some g ≠ r) : Que w' base e g v xs := h.kept (hb.block g h.lt.2 hr)
theorem Que.less {w : World} {b base : Nat} {e : TypeId} {g : Nat} {v : Value} {xs : List Value} (h : Que w base e g v xs) (hb : b ≤ base) : Que w b e g v xs := by
  obtain ⟨off, cap, cur, h0, h1, h2, h3⟩ := h
  exact ⟨off, cap, cur, h0, Nat.le_trans hb h1, h2, h3⟩
/-- The head, and what is left. -/
theorem Que.tail {w : World} {base : Nat} {e : TypeId} {g off n cap : Nat} {x : Value} {xs : List Value} (h : Que w base e g (.slice (some ⟨g, off, none⟩) n cap) (x :: xs)) :
    n = xs.length + 1 ∧ xs.length + 1 ≤ cap ∧ cap ≤ maxLen ∧ w.cell? ⟨g, off, none⟩ = some x ∧ Que w base e g (.slice (some (if cap = 1 then ⟨g, off, none⟩ else ⟨g, off + 1, none⟩)) xs.length (cap - 1)) xs := by
  obtain ⟨off', cap', cur, h0, h1, h2, h3, h4, h5, h6⟩ := h
  injection h0 with e1 e2 e3
  injection e1 with e1
  injection e1 with _ e1
  subst e1 e3
  have h7 := h6 0 x rfl
  rw [List.length_cons] at h3 e2
  refine ⟨e2, h3, h4, ?_, ?_⟩
  · rw [cell_of_row w g off cur e (0, 0) h2]; exact h7
  · by_cases hc : cap = 1
    · rw [if_pos hc]
      have : xs = [] := List.eq_nil_of_length_eq_zero (by omega)
      subst this
      exact ⟨off, cap - 1, cur, rfl, h1, h2, by simp, by omega, by omega, fun j u hj => by simp at hj⟩
    · rw [if_neg hc]
      exact ⟨off + 1, cap - 1, cur, rfl, h1, h2, by omega, by omega, by omega, fun j u hj => by rw [Nat.add_assoc, Nat.add_comm 1 j]; exact h6 (j + 1) u hj⟩
theorem Que.nil {w : World} {base : Nat} {e : TypeId} {g off n cap : Nat} (h : Que w base e g (.slice (some ⟨g, off, none⟩) n cap) []) : n = 0 ∧ cap ≤ maxLen := by
  obtain ⟨off', cap', cur, h0, h1, h2, h3, h4, h5, h6⟩ := h
  injection h0 with e1 e2 e3
  subst e3
  exact ⟨e2, h4⟩
theorem Que.one (w : World) (e : TypeId) (x : Value) : Que (w.alloc (.cells #[x] e)) w.heap.size e w.heap.size (.slice (some ⟨w.heap.size, 0, none⟩) 1 1) [x] :=
  ⟨0, 1, #[x], rfl, Nat.le_refl _, heap_alloc_new w _, Nat.le_refl _, by decide, Nat.le_refl _, fun j u hj => by rw [Nat.zero_add]; simpa using hj⟩
section
variable {P : Program} {w : World}
theorem run_append_que (base : Nat) (t ty e : TypeId) (i : TypeInfo) (z : Value) (bytes : Nat) (ht : P.underlying t = some (.slice e)) (hi : P.info? e = some i) (hz : i.zero = some z)
    (hsize : i.size = 1) (hby : i.bytes = bytes) (hzs : z.cells.size = 1) (v : Value) (g : Nat) (xs : List Value) (hq : Que w base e g v xs)
    (a : Addr) (m c : Nat) (news : List Value) (hl : news.length = m) (hnews : ∀ j u, news[j]? = some u → w.cell? (a.add j) = some u) (h1 : ∀ u ∈ news, u.oneCell' = true)
    (h63 : xs.length + m ≤ maxLen) (hbytes : (xs.length + m) * bytes ≤ 140737488355328) (hbase : base ≤ w.heap.size) :
    ∃ v' g' w', (Builtin.append_ #[t, t] ty #[v, .slice (some a) m c]).run P w = .ok v' w' ∧ Que w' base e g' v' (xs ++ news) ∧ w.grownBy w' (some g) ∧ (g' = g ∨ g' = w.heap.size) := by
  subst hby
  subst hl
  obtain ⟨off, cap, cur, rfl, hb, hg, hn, hm, hc, hcell⟩ := hq
  by_cases hroom : xs.length + news.length ≤ cap
  · have hf := run_firstCells_some (P := P) w i.size news.length a news.length c news (by rw [hsize, Nat.mul_one]) hnews
    have hst := run_storeCells_at P g (off + xs.length) e news 0 cur w hg (by omega) h1
    simp only [Nat.add_zero] at hst
    have htl : (cur.toList.take (off + xs.length)).length = off + xs.length := by
      rw [List.length_take]
      have : cur.toList.length = cur.size := Array.length_toList
      omega
    refine ⟨.slice (some ⟨g, off, none⟩) (xs.length + news.length) cap, g, _, by simp [Builtin.append_, run_underlying ht, sizeOf, typeInfo, hi, Builtin.lenOf, hroom, hsize, Addr.add_lit, hst, hsize ▸ hf]; rfl, ⟨off, cap, _, by rw [List.length_append], hb, setRow_heap w g cur _ e _ hg, by rw [List.length_append]; exact hroom, hm, ?_, fun j u hj => ?_⟩, ⟨rfl, rfl, rfl, by simp, fun k _ hk => setRow_other w g k _ (fun e => hk (by rw [e]))⟩, Or.inl rfl⟩
    · simp only [List.size_toArray, List.length_append, List.length_take, List.length_drop, Array.length_toList]
      omega
    · rw [List.getElem?_toArray]
      by_cases hj2 : j < xs.length
      · rw [List.getElem?_append_left hj2] at hj
        rw [List.getElem?_append_left (by rw [htl]; omega), List.getElem?_take, if_pos (by omega)]
        simpa using hcell j u hj
      · rw [List.getElem?_append_right (by omega)] at hj
        have hjl := (List.getElem?_eq_some_iff.1 hj).1
        rw [List.getElem?_append_right (by rw [htl]; omega), htl, show off + j - (off + xs.length) = j - xs.length by omega, List.getElem?_append_left hjl]
        exact hj
  · have holds : ∀ j u, xs[j]? = some u → w.cell? ((⟨g, off, none⟩ : Addr).add j) = some u := fun j u hj => by
      rw [Addr.add_lit, cell_of_row w g (off + j) cur e (0, 0) hg]
      exact hcell j u hj
    have h63' : xs.length + news.length ≤ 9223372036854775807 := by simpa only [maxLen] using h63
    have hr := run_append_grow (P := P) w t ty e i z ht hi hz ⟨g, off, none⟩ xs.length cap xs (by rw [hsize, Nat.mul_one]) holds a news.length c news (by rw [hsize, Nat.mul_one]) hnews (by omega) (by omega) (growslice_fits (by omega) hbytes)
    have hge := grownCap_ge w (xs.length + news.length) cap e
    refine ⟨_, _, _, hr, ⟨0, _, _, by rw [List.length_append], hbase, heap_alloc_new w.drew _, by rw [List.length_append]; exact hge, grownCap_le_maxLen w _ cap e h63, ?_, fun j u hj => ?_⟩, ⟨rfl, rfl, rfl, by simp, fun k hk _ => heap_alloc_old w.drew _ hk⟩, Or.inr rfl⟩
    · simp only [Array.size_append, List.size_toArray, size_zeroCells, hzs]
      omega
    · rw [Nat.zero_add, ← Array.getElem?_toList, Array.toList_append, Array.toList_append, List.getElem?_append_left (by simpa using (List.getElem?_eq_some_iff.1 hj).1)]
      exact hj
theorem wp_append_que {o : Oper} {a : Act} {K : Act → World → Prop} {Q : Exit → Act → World → Prop} (s x : Operand) (t : TypeId)
    (ho : o.op = .call { callee := .builtin .append, args := #[s, x], argTypes := #[t, t] })
    (base : Nat) (e : TypeId) (i : TypeInfo) (z : Value) (bytes : Nat) (ht : P.underlying t = some (.slice e)) (hi : P.info? e = some i) (hz : i.zero = some z)
    (hsize : i.size = 1) (hby : i.bytes = bytes) (hzs : z.cells.size = 1) (v : Value) (g : Nat) (ys : List Value) (hs : a.eval s = v) (hq : Que w base e g v ys)
    (vs : Value) (zs : List Int) (B : Nat) (hx : a.eval x = vs) (hSl : Ints w B vs zs)
    (h63 : ys.length + zs.length ≤ maxLen) (hbytes : (ys.length + zs.length) * bytes ≤ 140737488355328) (hbase : base ≤ w.heap.size)
    (h : ∀ v' g' w', Que w' base e g' v' (ys ++ zs.map (Value.int .i64)) → w.grownBy w' (some g) → (g' = g ∨ g' = w.heap.size) → K (a.put o.dst v') w') : o.wp P a w K Q := by
  obtain ⟨A, c, rfl, hc, hm, hel⟩ := hSl
  have hsome : ∀ ad : Addr, A = some ad → (∀ j u, (zs.map (Value.int .i64))[j]? = some u → w.cell? (ad.add j) = some u) → o.wp P a w K Q := fun ad hA hcells => by
    subst hA
    obtain ⟨v', g', w', hr, g1, g2, g3⟩ := run_append_que (P := P) (w := w) base t o.type e i z bytes ht hi hz hsize hby hzs v g ys hq ad zs.length c (zs.map (Value.int .i64)) (by simp) hcells (by
      intro u hu
      obtain ⟨y, _, rfl⟩ := List.mem_map.1 hu
      rfl) h63 hbytes hbase
    unfold Oper.wp execOp
    simp only [ho, resolve, invoke, builtin, Sem.run_bind, Sem.run_pure, Result.andThen_ok, List.map_toArray, List.map_cons, List.map_nil, hs, hx, hr]
    exact h v' g' w' g1 g2 g3
  by_cases h0 : zs = []
  · subst h0
    cases A with
    | some ad => exact hsome ad rfl (fun j u hj => by simp at hj)
    | none =>
      have hq' := hq
      obtain ⟨off, cap, cur, rfl, _, _, hnc, _⟩ := hq'
      have hrun : (Builtin.append_ #[t, t] o.type #[.slice (some ⟨g, off, none⟩) ys.length cap, .slice none 0 c]).run P w = .ok (.slice (some ⟨g, off, none⟩) ys.length cap) w := by
        simp [Builtin.append_, run_underlying ht, sizeOf, typeInfo, hi, Builtin.lenOf, Builtin.firstCells, hnc, storeCells]
      unfold Oper.wp
      have hx' : a.eval x = .slice none 0 c := hx
      simp [execOp, ho, resolve, invoke, builtin, hs, hx', hrun, Result.andThen]
      exact h _ g w (by simpa using hq) ⟨rfl, rfl, rfl, Nat.le_refl _, fun _ _ _ => rfl⟩ (Or.inl rfl)
  · obtain ⟨b, off, hA, hb, hcell⟩ := hel (List.length_pos_iff.2 h0)
    refine hsome ⟨b, off, none⟩ hA (fun j u hj => ?_)
    rw [List.getElem?_map] at hj
    cases hz' : zs[j]? with
    | none => rw [hz'] at hj; cases hj
    | some y =>
      rw [hz'] at hj
      injection hj with hj
      subst hj
      obtain ⟨us, hl, hp, hcl⟩ := hcell j y hz'
      have hp : us = intCells y := hp
      subst hp
      have := hcl 0 _ rfl
      rw [Nat.mul_one, Nat.add_zero] at this
      rw [Addr.add_lit]
      exact this
/-- The same as a step of a region that draws its order. -/
theorem step_append_que {ops : Array Oper} {o : Oper} {a : Act} {K : Act → World → Prop} {Q : Exit → Act → World → Prop} {E : Prop} (hgd : o.guard = none) (s x : Operand) (t : TypeId)
    (ho : o.op = .call { callee := .builtin .append, args := #[s, x], argTypes := #[t, t] })
    (base : Nat) (e : TypeId) (i : TypeInfo) (z : Value) (bytes : Nat) (ht : P.underlying t = some (.slice e)) (hi : P.info? e = some i) (hz : i.zero = some z)
    (hsize : i.size = 1) (hby : i.bytes = bytes) (hzs : z.cells.size = 1) (v : Value) (g : Nat) (ys : List Value) (hs : a.eval s = v) (hq : Que w base e g v ys)
    (vs : Value) (zs : List Int) (B : Nat) (hx : a.eval x = vs) (hSl : Ints w B vs zs)
    (h63 : ys.length + zs.length ≤ maxLen) (hbytes : (ys.length + zs.length) * bytes ≤ 140737488355328) (hbase : base ≤ w.heap.size)
    (h : ∀ v' g' w', Que w' base e g' v' (ys ++ zs.map (Value.int .i64)) → w.grownBy w' (some g) → (g' = g ∨ g' = w.heap.size) → K (a.put o.dst v') w') :
    if Region.wanted o (yielded ops a.tmps) = true then Oper.wp P o a w K Q else E := by
  have hw : Region.wanted o (yielded ops a.tmps) = true := by simp [Region.wanted, hgd]
  rw [if_pos hw]
  exact wp_append_que s x t ho base e i z bytes ht hi hz hsize hby hzs v g ys hs hq vs zs B hx hSl h63 hbytes hbase h
theorem wpList_append_que {ops : Array Oper} {rest : List Oper} {o : Oper} {a : Act} {Q : Exit → Act → World → Prop} (hgd : o.guard = none) (s x : Operand) (t : TypeId)
    (ho : o.op = .call { callee := .builtin .append, args := #[s, x], argTypes := #[t, t] })
    (base : Nat) (e : TypeId) (i : TypeInfo) (z : Value) (bytes : Nat) (ht : P.underlying t = some (.slice e)) (hi : P.info? e = some i) (hz : i.zero = some z)
    (hsize : i.size = 1) (hby : i.bytes = bytes) (hzs : z.cells.size = 1) (v : Value) (g : Nat) (ys : List Value) (hs : a.eval s = v) (hq : Que w base e g v ys)
    (vs : Value) (zs : List Int) (B : Nat) (hx : a.eval x = vs) (hSl : Ints w B vs zs)
    (h63 : ys.length + zs.length ≤ maxLen) (hbytes : (ys.length + zs.length) * bytes ≤ 140737488355328) (hbase : base ≤ w.heap.size)
    (h : ∀ v' g' w', Que w' base e g' v' (ys ++ zs.map (Value.int .i64)) → w.grownBy w' (some g) → (g' = g ∨ g' = w.heap.size) → wpList P ops Q rest (a.put o.dst v') w') : wpList P ops Q (o :: rest) a w := by
  refine wpList_plain hgd fun K hK => ?_
  exact wp_append_que s x t ho base e i z bytes ht hi hz hsize hby hzs v g ys hs hq vs zs B hx hSl h63 hbytes hbase (fun v' g' w' h1 h2 h3 => hK _ _ (h v' g' w' h1 h2 h3))
end
end Go.Proofs.Ytlbnebmdolnagaa

namespace Go.Proofs.Ytlbnebmdolnagaa
open Go.RowKit Go.Lib

/-- Numbers as a result. -/
def intK (R : List Int) : ResK where
  own b W v := OwnL intCells R b W v
  mrk b W v := OwnL intCells (seqI 1 R.length) b W v
  n := 1 + R.length
  slice h := by obtain ⟨A, c, e, _⟩ := h; exact ⟨A, _, c, e⟩
  touch h ht hF := OwnL.touch h ht (fun c hc hf => by have q1 := (OwnL.sblk h hc).1; have q2 := hF c hf; omega)
  mtouch h hb := OwnL.on h hb
/-- The ends of all ballots, as a function. -/
noncomputable def endsL (V : List Voi) (rule : Int) : List Int := by
  classical
  exact if h : ∃ L, Ends (grV V) rule L then h.choose else []
theorem endsL_eq {V : List Voi} {rule : Int} {L : List Int} (h : Ends (grV V) rule L) : endsL V rule = L := by
  have he : ∃ L, Ends (grV V) rule L := ⟨L, h⟩
  unfold endsL
  rw [dif_pos he]
  exact Ends.one he.choose_spec h
theorem isEnd_range {V : List Voi} {rule : Int} {i : Nat} {e : Int} (h : IsEnd (grV V) rule i e) : e = -1 ∨ ∃ k : Nat, e = (k : Int) ∧ k < V.length := by
  rcases h with ⟨_, p, a, _, hs, rfl⟩ | ⟨_, rfl⟩
  · refine Or.inr ⟨a, rfl, ?_⟩
    unfold grV at hs
    simp only at hs
    rcases Nat.lt_or_ge a V.length with h | h
    · exact h
    · rw [List.getElem?_eq_none h] at hs; cases hs
  · exact Or.inl rfl

/-! The count. -/
theorem bump_len (c : List Int) (k : Nat) : (bump c k).length = c.length := by unfold bump; rw [List.length_set]
theorem bump_get {c : List Int} {k j : Nat} (hk : k < c.length) : (bump c k).getD j 0 = if j = k then c.getD k 0 + 1 else c.getD j 0 := by
  unfold bump
  rw [List.getD_eq_getElem?_getD, List.getElem?_set]
  by_cases e : k = j
  · subst e
    rw [if_pos rfl, if_pos hk, if_pos rfl]
    rfl
  · rw [if_neg e, if_neg (fun h => e h.symm), List.getD_eq_getElem?_getD]
theorem slotOf_lt (vs : List Int) (e : Int) : slotOf vs e < 4 := by
  unfold slotOf
  split
  · omega
  · split
    · omega
    · split <;> omega
theorem countL_bound (vs ends : List Int) (j : Nat) : 0 ≤ (countL vs ends).getD j 0 ∧ (countL vs ends).getD j 0 ≤ ends.length := by
  have key : ∀ (l : List Int) (c : List Int) (m : Int), c.length = 4 → (∀ j, 0 ≤ c.getD j 0 ∧ c.getD j 0 ≤ m) → ∀ j, 0 ≤ (l.foldl (fun c e => bump c (slotOf vs e)) c).getD j 0 ∧ (l.foldl (fun c e => bump c (slotOf vs e)) c).getD j 0 ≤ m + l.length := by
    intro l
    induction l with
    | nil => intro c m _ h j; have := h j; simpa using this
    | cons e l ih =>
      intro c m hc h j
      have := ih (bump c (slotOf vs e)) (m + 1) (by rw [bump_len]; exact hc) (fun j => by
        rw [bump_get (by rw [hc]; exact slotOf_lt vs e)]
        have h1 := h (slotOf vs e)
        have h2 := h j
        split <;> omega) j
      rw [List.foldl_cons, List.length_cons]
      omega
  have := key ends [0, 0, 0, 0] 0 rfl (fun j => by
    rcases j with _ | _ | _ | _ | j <;> simp [List.getD]) j
  unfold countL
  omega
noncomputable def countM (a : Asm) (vs : List Int) : List Int := countL vs (endsL (voices vs a.trust) a.rule)
theorem countM_len (a : Asm) (vs : List Int) : (countM a vs).length = 4 := countL_len _ _
noncomputable def countOf (a : Asm) (t : ByteArray) : List Int := if knownB a t = true then countM a (motOf a t).votes else []
theorem countOf_no {a : Asm} {t : ByteArray} (h : knownB a t = false) : countOf a t = [] := by unfold countOf; rw [if_neg (by rw [h]; simp)]
theorem countOf_yes {a : Asm} {t : ByteArray} (h : knownB a t = true) : countOf a t = countM a (motOf a t).votes := by unfold countOf; rw [if_pos h]
theorem countOf_len (a : Asm) (t : ByteArray) : (countOf a t).length ≤ 1048576 := by
  unfold countOf
  split
  · rw [countM_len]; omega
  · simp
end Go.Proofs.Ytlbnebmdolnagaa

namespace Go.Proofs.Ytlbnebmdolnagaa
open Go.RowKit Go.Lib

/-- Places as numbers in memory. -/
def barL (B : List Nat) : List Int := B.map Int.ofNat
theorem barL_len (B : List Nat) : (barL B).length = B.length := by unfold barL; simp
theorem barL_snoc (B : List Nat) (t : Nat) : barL (B ++ [t]) = barL B ++ [(t : Int)] := by unfold barL; simp
theorem barL_mem {B : List Nat} {i : Nat} : (i : Int) ∈ barL B ↔ i ∈ B := by
  unfold barL
  rw [List.mem_map]
  constructor
  · rintro ⟨b, hb, e⟩
    have : b = i := Int.ofNat.inj e
    rw [← this]
    exact hb
  · exact fun h => ⟨i, h, rfl⟩
theorem bar_has {B : List Nat} {i : Nat} : (barL B).contains (i : Int) = B.contains i := by
  rw [Bool.eq_iff_iff, List.contains_iff_mem, List.contains_iff_mem, barL_mem]
theorem barL_get {B : List Nat} {k t : Nat} (h : B[k]? = some t) : (barL B)[k]? = some (t : Int) := by unfold barL; rw [List.getElem?_map, h]; rfl
theorem barL_last {q : List Nat} {a : Nat} : (barL (q ++ [a]))[(q ++ [a]).length - 1]? = some (a : Int) := by
  rw [barL_snoc, List.getElem?_append_right (by rw [barL_len]; simp)]
  simp [barL_len]
section
variable {g : Gr} {rule : Int} {m a : Nat} {p : List Nat}
/-- The reference's test of a step. -/
theorem fitS (hg : g.Ok) (hn : g.n ≤ 12) {c : Nat → Int} (hc : CostOk c) {k t : Nat} (hk : k < 4) (ha : a < g.n) (_ht : t < g.n) (hf : runI g [] c g.n a < 1000) : (0 ≤ runS g [] c g.n t ∧ c (k + 1) + runS g [] c g.n t = runS g [] c g.n a) ↔ runI g [] c g.n t + c (k + 1) = runI g [] c g.n a := by
  have h1 := costS_eq (B := []) hg hn hc a ((costS_iff hg hn hc ha).2 ((fin_iff hg hn hc ha).1 hf))
  by_cases h : 0 ≤ runS g [] c g.n t
  · have h2 := costS_eq (B := []) hg hn hc t h
    rw [h1, h2]
    omega
  · have h6 := (hc k hk).1
    rcases Rel.run hg hn hc (B := []) g.n hn t with h3 | h3 <;> omega
/-- What a search for the best path hands back: nothing, or the path that was made. -/
def BestP (g : Gr) (rule : Int) (m : Nat) (p : List Nat) : Prop := (p = [] ∧ ¬ Reach g [] m) ∨ (Reach g [] m ∧ ∃ (q : List Nat) (a : Nat), p = q ++ [a] ∧ Made g rule m p a ∧ g.sp a = true)
theorem Going.best (h : Going g rule m p a) (hr : Reach g [] m) (hs : g.sp a = true) : BestP g rule m p := by
  obtain ⟨q, hq⟩ := h.last
  exact Or.inr ⟨hr, q, a, hq, h.made, hs⟩
theorem BestP.none (h : BestP g rule m []) : IsEnd g rule m (-1) := by
  rcases h with ⟨_, h⟩ | ⟨_, q, a, e, _⟩
  · exact Or.inr ⟨h, rfl⟩
  · cases q <;> cases e
theorem BestP.some (h : BestP g rule m p) (h0 : p ≠ []) : ∃ (q : List Nat) (b : Nat), p = q ++ [b] ∧ IsEnd g rule m (b : Int) := by
  rcases h with ⟨e, _⟩ | ⟨hr, q, b, e, hm, hs⟩
  · exact absurd e h0
  · exact ⟨q, b, e, Or.inl ⟨hr, p, b, hm, hs, rfl⟩⟩
end
end Go.Proofs.Ytlbnebmdolnagaa

namespace Go.Proofs.Ytlbnebmdolnagaa
open Go.RowKit Go.Lib

def costF (ranked : Bool) : Nat → Int := fun k => if ranked then (k : Int) else 1
theorem costF_ok (ranked : Bool) : CostOk (costF ranked) := fun k hk => by unfold costF; cases ranked <;> simp <;> omega
def CostsPost (V : List Voi) (B : List Nat) (ranked : Bool) (w : World) (e : Ending) (w' : World) : Prop :=
  ∃ g, w.heap.size ≤ g ∧ g < w'.heap.size ∧ e = .returned (.slice (some ⟨g, 0, none⟩) V.length V.length) ∧ Row w' g (costL (runS (grV V) B (costF ranked) V.length) V.length) ∧ Below w.heap.size w w'
theorem on_off {g : Gr} {B : List Nat} {i : Nat} (h : g.sp i = true ∨ B.contains i = true) : g.on B i = false := by
  unfold Gr.on
  rcases h with h | h <;> rw [h] <;> simp
theorem on_on {g : Gr} {B : List Nat} {i : Nat} (h : g.sp i = false) (h2 : B.contains i = false) : g.on B i = true := by
  unfold Gr.on
  rw [h, h2]
  rfl
theorem passS_off {g : Gr} {B : List Nat} {c C : Nat → Int} {i : Nat} (h : g.on B i = false) : passS g B c C (i + 1) = passS g B c C i := by rw [passS, rowS_off h]
theorem passS_on {g : Gr} {B : List Nat} {c C : Nat → Int} {i : Nat} (h : g.on B i = true) : passS g B c C (i + 1) = inS g c i (passS g B c C i) (g.tr i).length := by rw [passS, rowS_on h]

end Go.Proofs.Ytlbnebmdolnagaa

namespace Go.Proofs.Ytlbnebmdolnagaa
open Go.RowKit Go.Lib

theorem rank_cost (rule : Int) : rankCost rule = costF (rule == 1) := by
  funext k
  unfold rankCost costF
  by_cases h : rule = 1 <;> simp [h]
/-- A best path handed back. -/
def BestPost (V : List Voi) (rule : Int) (m : Nat) (w : World) (e : Ending) (w' : World) : Prop :=
  ∃ p v, e = .returned v ∧ BestP (grV V) rule m p ∧ p.length ≤ 577 ∧ OwnL intCells (barL p) w.heap.size w' v ∧ Below w.heap.size w w'
/-- A path of the call's own. -/
def PathO (w : World) (base g cap : Nat) (p : List Nat) : Prop := w.ownsRow base 2 1 (.slice (some ⟨g, 0, none⟩) p.length cap) p.length ((barL p).flatMap intCells)
theorem PathO.lt {w : World} {base g cap : Nat} {p : List Nat} (h : PathO w base g cap p) : base ≤ g ∧ g < w.heap.size := World.ownsRow.lt h g rfl
theorem PathO.row {w : World} {base g cap : Nat} {p : List Nat} (h : PathO w base g cap p) : w.ownsRow base 2 1 (.slice (some ⟨g, 0, none⟩) p.length cap) p.length ((barL p).flatMap intCells) := h
theorem PathO.below {w w' : World} {base g cap : Nat} {p : List Nat} (h : PathO w base g cap p) (hb : Below w.heap.size w w') : PathO w' base g cap p := own_below h hb
theorem PathO.own {w : World} {base g cap : Nat} {p : List Nat} (h : PathO w base g cap p) : OwnL intCells (barL p) base w (.slice (some ⟨g, 0, none⟩) p.length cap) := OwnL.of_own intCells (size := 1) (fun _ => rfl) (by rw [barL_len]; exact h)
theorem PathO.ints {w : World} {base g cap : Nat} {p : List Nat} (h : PathO w base g cap p) : Ints w w.heap.size (.slice (some ⟨g, 0, none⟩) p.length cap) (barL p) := h.own.slR (size := 1) (fun _ => rfl)
theorem PathO.one (w : World) (m : Nat) : PathO (w.alloc (.cells #[.int .i64 (m : Int)] 2)) w.heap.size w.heap.size 1 [m] :=
  ⟨rfl, .inr ⟨w.heap.size, 1, #[.int .i64 (m : Int)], rfl, Nat.le_refl _, heap_alloc_new w _, Nat.le_refl _, by decide, rfl, rfl⟩⟩
theorem PathO.less {w : World} {b base g cap : Nat} {p : List Nat} (h : PathO w base g cap p) (hb : b ≤ base) : PathO w b g cap p := by
  obtain ⟨h1, h2 | ⟨g', c, cur, e, h3, h4⟩⟩ := h
  · exact ⟨h1, .inl h2⟩
  · exact ⟨h1, .inr ⟨g', c, cur, e, Nat.le_trans hb h3, h4⟩⟩

theorem nextT_cost {g : Gr} {rule : Int} {p : List Nat} {a t k : Nat} (h2 : rule ≠ 2) (h1 : (g.tr a)[k]? = some t) (hf : runI g [] (rankCost rule) g.n t + rankCost rule (k + 1) = runI g [] (rankCost rule) g.n a)
    (hn : ∀ k', k' < k → ∀ t', (g.tr a)[k']? = some t' → ¬ (runI g [] (rankCost rule) g.n t' + rankCost rule (k' + 1) = runI g [] (rankCost rule) g.n a)) : NextT g rule p a t :=
  ⟨k, h1, by simp only [if_neg h2]; exact hf, fun k' hk' t' ht' => by simp only [if_neg h2]; exact hn k' hk' t' ht'⟩

end Go.Proofs.Ytlbnebmdolnagaa

namespace Go.Proofs.Ytlbnebmdolnagaa
open Go.RowKit Go.Lib

theorem trust_at {l : List Int} {m n : Int} {k : Nat} {z : Int} (h : okTrust l m n = true) (hk : l[k]? = some z) : inB z 0 (n - 1) = true ∧ z ≠ m ∧ (l.take k).contains z = false := by
  rw [okTrust_eq, Bool.and_eq_true] at h
  have h1 := allLt_true.1 h.1 k (List.getElem?_eq_some_iff.1 hk).1
  rw [trustAt_eq hk, Bool.and_eq_true, Bool.and_eq_true, decide_eq_true_eq] at h1
  exact ⟨h1.1.1, h1.1.2, by have := h1.2; simpa using this⟩
end Go.Proofs.Ytlbnebmdolnagaa

namespace Go.Proofs.Ytlbnebmdolnagaa
open Go.RowKit Go.Lib

def ClonePost (zs : List Int) (w : World) (e : Ending) (w' : World) : Prop :=
  ∃ v', e = .returned v' ∧ w'.ownsRow w.heap.size 2 1 v' zs.length (zs.flatMap intCells) ∧ Below w.heap.size w w'
set_option maxRecDepth 100000 in
set_option maxHeartbeats 1000000 in
theorem clone_nil (w : World) : Calls Try.prog 71 #[.slice none 0 0] w (ClonePost [] w) := by
  unfold ClonePost
  have hnl : ∀ W, (binOp .eql 25 (.slice none 0 0) (.slice none 0 0)).run Try.prog W = .ok (.bool true) W := fun W => Go.Lib.run_eql_slice_nil (P := Try.prog) W 25 2 none 0 0 0 0 Try.underlying25
  go_enter Try.func71, Try.ntmps71
  go_wp2
  go_ret
  exact ⟨_, rfl, World.ownsRow_nil _ _ _ _, Below.refl _ _⟩
set_option maxRecDepth 100000 in
set_option maxHeartbeats 1000000 in
theorem clone_some (zs : List Int) (ad : Addr) (c : Nat) (w : World) (h : Ints w w.heap.size (.slice (some ad) zs.length c) zs) (hl : zs.length ≤ 1048576) : Calls Try.prog 71 #[.slice (some ad) zs.length c] w (ClonePost zs w) := by
  have bW := (Below.refl w.heap.size w).alloc (Nat.le_refl _) (.cells #[] 2)
  have HS0 := Lib.hid (SlR.on h (Pl.stays _) bW bW.size)
  have HB0 := Lib.hid bW
  have hown0 : (w.alloc (.cells #[] 2)).ownsRow w.heap.size 2 1 (.slice (some ⟨w.heap.size, 0, none⟩) 0 0) 0 [] := by simpa using World.ownsRow_made w #[] 0 (Nat.le_refl _) (Nat.zero_le _) rfl
  have HOWN0 := Lib.hid hown0
  obtain ⟨i0, hi, hz0, hz1, hz2⟩ := info_parts Try.infoI
  clear bW hown0 h
  unfold ClonePost
  have hnl : ∀ W, (binOp .eql 25 (.slice (some ad) zs.length c) (.slice none 0 0)).run Try.prog W = .ok (.bool false) W := fun W => Go.Lib.run_eql_slice_nil (P := Try.prog) W 25 2 (some ad) zs.length c 0 0 Try.underlying25
  go_enter Try.func71, Try.ntmps71
  go_wp2_with (at_builtin; refine wpList_append_slR intCells rfl _ _ 25 rfl w.heap.size 2 i0 (.int .i64 0) 1 8 Try.underlying25 hi hz0 hz1 hz2 rfl (by decide) _ _ _ rfl HOWN0.out _ zs _ rfl HS0.out (fun _ => rfl) (fun y u hu => int_one' _ hu) ?c3 ?c4 HB0.out.size ?_)
  case c3 => unfold maxLen; omega
  case c4 => omega
  intro o1 w1 hown1 hgrow1 hnn1
  have HO1 : Hid (w1.ownsRow w.heap.size 2 1 o1 zs.length (zs.flatMap intCells)) := Lib.hid (by simpa using hown1)
  have HB1 : Hid (Below w.heap.size w w1) := Lib.hid (HB0.out.grown hgrow1 HB0.out.size (fun j hj => (HOWN0.out.lt j hj).1))
  clear hown1 hgrow1 hnn1
  go_wp2
  go_ret
  exact ⟨_, rfl, HO1.out, HB1.out⟩

/-- Three slices of the call's own in blocks of their own: the seen, the ends, the open. -/
structure Trio (base : Nat) (w : World) (vs vo vq : Value) (gq : Nat) (S E O : List Int) : Prop where
  s : w.ownsRow base 2 1 vs S.length (S.flatMap intCells)
  o : w.ownsRow base 2 1 vo E.length (E.flatMap intCells)
  q : Que w base 2 gq vq (O.map (Value.int .i64))
  so : ∀ j, vs.ownBlock = some j → vo.ownBlock ≠ some j
  sq : vs.ownBlock ≠ some gq
  oq : vo.ownBlock ≠ some gq
section
variable {base gq : Nat} {w w' : World} {vs vo vq : Value} {S E O : List Int}
theorem Trio.below (h : Trio base w vs vo vq gq S E O) (hb : Below w.heap.size w w') : Trio base w' vs vo vq gq S E O :=
  ⟨own_below h.s hb, own_below h.o hb, h.q.below hb, h.so, h.sq, h.oq⟩
theorem Trio.ints (h : Trio base w vs vo vq gq S E O) : Ints w w.heap.size vs S := (OwnL.of_own intCells (size := 1) (fun _ => rfl) h.s).slR (size := 1) (fun _ => rfl)
theorem Trio.tail {vq' : Value} {O' : List Int} (h : Trio base w vs vo vq gq S E O) (hq : Que w base 2 gq vq' (O'.map (Value.int .i64))) : Trio base w vs vo vq' gq S E O' :=
  ⟨h.s, h.o, hq, h.so, h.sq, h.oq⟩
theorem apart_kept {v1 v2 : Value} (h : ∀ j, v1.ownBlock = some j → v2.ownBlock ≠ some j) : v2.ownBlock = none ∨ v2.ownBlock ≠ v1.ownBlock := by
  cases hv : v2.ownBlock with
  | none => exact .inl rfl
  | some j => exact .inr (fun e => h j e.symm hv)
theorem Trio.pushS {vs' : Value} {z : Int} (h : Trio base w vs vo vq gq S E O) (hown : w'.ownsRow base 2 1 vs' (S.length + 1) (S.flatMap intCells ++ intCells z)) (hg : w.grownBy w' vs.ownBlock) (hor : vs'.ownBlock = vs.ownBlock ∨ vs'.ownBlock = some w.heap.size) : Trio base w' vs' vo vq gq (S ++ [z]) E O where
  s := by rw [List.length_append, flat_snoc]; exact hown
  o := h.o.kept hg (apart_kept h.so)
  q := h.q.grown hg (fun e => h.sq e.symm)
  so := fun j hj hj2 => by
    rcases hor with e | e
    · exact h.so j (e ▸ hj) hj2
    · rw [e] at hj
      injection hj with hj
      have := (h.o.lt j hj2).2
      omega
  sq := by
    rcases hor with e | e
    · rw [e]; exact h.sq
    · rw [e]
      intro hj
      injection hj with hj
      have := h.q.lt.2
      omega
  oq := h.oq
theorem Trio.pushO {vo' : Value} {z : Int} (h : Trio base w vs vo vq gq S E O) (hown : w'.ownsRow base 2 1 vo' (E.length + 1) (E.flatMap intCells ++ intCells z)) (hg : w.grownBy w' vo.ownBlock) (hor : vo'.ownBlock = vo.ownBlock ∨ vo'.ownBlock = some w.heap.size) : Trio base w' vs vo' vq gq S (E ++ [z]) O where
  s := h.s.kept hg (apart_kept (fun j hj hj2 => h.so j hj2 hj))
  o := by rw [List.length_append, flat_snoc]; exact hown
  q := h.q.grown hg (fun e => h.oq e.symm)
  so := fun j hj hj2 => by
    rcases hor with e | e
    · exact h.so j hj (e ▸ hj2)
    · rw [e] at hj2
      injection hj2 with hj2
      have := (h.s.lt j hj).2
      omega
  sq := h.sq
  oq := by
    rcases hor with e | e
    · rw [e]; exact h.oq
    · rw [e]
      intro hj
      injection hj with hj
      have := h.q.lt.2
      omega
theorem Trio.pushQ {vq' : Value} {g' : Nat} {O' : List Int} (h : Trio base w vs vo vq gq S E O) (hq : Que w' base 2 g' vq' (O'.map (Value.int .i64))) (hg : w.grownBy w' (some gq)) (hor : g' = gq ∨ g' = w.heap.size) : Trio base w' vs vo vq' g' S E O' where
  s := h.s.kept hg (.inr h.sq)
  o := h.o.kept hg (.inr h.oq)
  q := hq
  so := h.so
  sq := by
    rcases hor with e | e
    · rw [e]; exact h.sq
    · rw [e]
      intro hj
      have := (h.s.lt _ hj).2
      omega
  oq := by
    rcases hor with e | e
    · rw [e]; exact h.oq
    · rw [e]
      intro hj
      have := (h.o.lt _ hj).2
      omega
end
/-- The ends from a member: only whether there are any. -/
def EndsPost (V : List Voi) (B : List Nat) (m : Nat) (w : World) (e : Ending) (w' : World) : Prop :=
  ∃ A n c, e = .returned (.slice A n c) ∧ n ≤ 1000 ∧ (0 < n ↔ Reach (grV V) B m) ∧ Below w.heap.size w w'
theorem Bfs.slen {g : Gr} {B S O E : List Nat} {m : Nat} (h : Bfs g B m S O E) : S.length ≤ g.n := nodup_le g.n S h.nd (fun x hx => (h.son x hx).1)
theorem barL_app (B S : List Nat) : barL (B ++ S) = barL B ++ barL S := by unfold barL; simp
theorem tr_bar {V : List Voi} (hok : VoisOk V) {x : Nat} {a : Voi} (h : V[x]? = some a) : barL ((grV V).tr x) = a.tr := by
  rw [(grV_at h).2]
  unfold barL
  rw [List.map_map]
  have : ∀ l : List Int, (∀ z ∈ l, 0 ≤ z) → l.map (Int.ofNat ∘ Int.toNat) = l := by
    intro l
    induction l with
    | nil => intro _; rfl
    | cons z l ih =>
      intro h
      rw [List.map_cons, ih (fun y hy => h y (List.mem_cons_of_mem _ hy))]
      have := h z (List.mem_cons_self ..)
      congr 1
      show ((z.toNat : Nat) : Int) = z
      omega
  exact this _ (fun z hz => (trust_mem (hok.tr x _ h) hz).1)

end Go.Proofs.Ytlbnebmdolnagaa

namespace Go.Proofs.Ytlbnebmdolnagaa
open Go.RowKit Go.Lib

theorem nextT_deep {g : Gr} {p : List Nat} {a t k : Nat} (h1 : (g.tr a)[k]? = some t) (hf : Reach g p t)
    (hn : ∀ k', k' < k → ∀ t', (g.tr a)[k']? = some t' → ¬ Reach g p t') : NextT g 2 p a t :=
  ⟨k, h1, by simp only [if_true]; exact hf, fun k' hk' t' ht' => by simp only [if_true]; exact hn k' hk' t' ht'⟩
end Go.Proofs.Ytlbnebmdolnagaa
