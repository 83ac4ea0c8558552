/- A queue of numbers: a slice of the call's own that begins anywhere in its block; append to it. No program here. Numbers as a result; the ends as a function; the count, plain. Settling, plain: the reference's and the program's tests of a step fit the one test; what the searches hand back. The costs of ways, the reference's, walked. The cheapest path, the reference's, walked. The program's test of voices, walked: valid voices pass. The ends from a member, the program's, walked. The deepest path, the reference's, walked; the best path by a rule. -/
import Derived.Test.YtbamlilnbhhcmaaDoorQE
import Derived.Test.YtbamlilnbhhcmaaDoorYA
namespace Go.Proofs.YtbamlilnbhhcmaaDoor
open Go.RowKit Go.Lib

def Que (w : World) (base : Nat) (e : TypeId) (g : Nat) (v : Value) (xs : List Value) : Prop :=
  ∃ off cap cur, v = .slice (some ⟨g, off, none⟩) xs.length cap ∧ base ≤ g ∧ w.heap[g]? = some (.cells cur e (0, 0)) ∧ xs.length ≤ cap ∧ cap ≤ maxLen ∧ off + cap ≤ cur.size ∧ ∀ j u, xs[j]? = some u → cur[off + j]? = some u
theorem Que.lt {w : World} {base : Nat} {e : TypeId} {g : Nat} {v : Value} {xs : List Value} (h : Que w base e g v xs) : base ≤ g ∧ g < w.heap.size := by
  obtain ⟨off, cap, cur, _, h1, h2, _⟩ := h
  exact ⟨h1, (Array.getElem?_eq_some_iff.1 h2).1⟩
theorem Que.kept {w w' : World} {base : Nat} {e : TypeId} {g : Nat} {v : Value} {xs : List Value} (h : Que w base e g v xs) (hb : w'.heap[g]? = w.heap[g]?) : Que w' base e g v xs := by
  obtain ⟨off, cap, cur, h0, h1, h2, h3⟩ := h
  exact ⟨off, cap, cur, h0, h1, hb.trans h2, h3⟩
theorem Que.below {w w' : World} {base : Nat} {e : TypeId} {g : Nat} {v : Value} {xs : List Value} (h : Que w base e g v xs) (hb : Below w.heap.size w w') : Que w' base e g v xs := h.kept (hb.block g h.lt.2)
theorem Que.grown {w w' : World} {base : Nat} {e : TypeId} {g : Nat} {v : Value} {xs : List Value} {r : Option Nat} (h : Que w base e g v xs) (hb : w.grownBy w' r) (hr : some g ≠ r) : Que w' base e g v xs := h.kept (hb.block g h.lt.2 hr)
theorem Que.less {w : World} {b base : Nat} {e : TypeId} {g : Nat} {v : Value} {xs : List Value} (h : Que w base e g v xs) (hb : b ≤ base) : Que w b e g v xs := by
  obtain ⟨off, cap, cur, h0, h1, h2, h3⟩ := h
  exact ⟨off, cap, cur, h0, Nat.le_trans hb h1, h2, h3⟩
/-- The head, and what is left. -/
theorem Que.tail {w : World} {base : Nat} {e : TypeId} {g off n cap : Nat} {x : Value} {xs : List Value} (h : Que w base e g (.slice (some ⟨g, off, none⟩) n cap) (x :: xs)) :
    n = xs.length + 1 ∧ xs.length + 1 ≤ cap ∧ cap ≤ maxLen ∧ w.cell? ⟨g, off, none⟩ = some x ∧ Que w base e g (.slice (some (if cap = 1 then ⟨g, off, none⟩ else ⟨g, off + 1, none⟩)) xs.length (cap - 1)) xs := by
  obtain ⟨off', cap', cur, h0, h1, h2, h3, h4, h5, h6⟩ := h
  injection h0 with e1 e2 e3
  injection e1 with e1
  injection e1 with _ e1
  subst e1 e3
  have h7 := h6 0 x rfl
  rw [List.length_cons] at h3 e2
  refine ⟨e2, h3, h4, ?_, ?_⟩
  · rw [cell_of_row w g off cur e (0, 0) h2]; exact h7
  · by_cases hc : cap = 1
    · rw [if_pos hc]
      have : xs = [] := List.eq_nil_of_length_eq_zero (by omega)
      subst this
      exact ⟨off, cap - 1, cur, rfl, h1, h2, by simp, by omega, by omega, fun j u hj => by simp at hj⟩
    · rw [if_neg hc]
      exact ⟨off + 1, cap - 1, cur, rfl, h1, h2, by omega, by omega, by omega, fun j u hj => by rw [Nat.add_assoc, Nat.add_comm 1 j]; exact h6 (j + 1) u hj⟩
theorem Que.nil {w : World} {base : Nat} {e : TypeId} {g off n cap : Nat} (h : Que w base e g (.slice (some ⟨g, off, none⟩) n cap) []) : n = 0 ∧ cap ≤ maxLen := by
  obtain ⟨off', cap', cur, h0, h1, h2, h3, h4, h5, h6⟩ := h
  injection h0 with e1 e2 e3
  subst e3
  exact ⟨e2, h4⟩
theorem Que.one (w : World) (e : TypeId) (x : Value) : Que (w.alloc (.cells #[x] e)) w.heap.size e w.heap.size (.slice (some ⟨w.heap.size, 0, none⟩) 1 1) [x] :=
  ⟨0, 1, #[x], rfl, Nat.le_refl _, heap_alloc_new w _, Nat.le_refl _, by decide, Nat.le_refl _, fun j u hj => by rw [Nat.zero_add]; simpa using hj⟩
section
variable {P : Program} {w : World}
theorem run_append_que (base : Nat) (t ty e : TypeId) (i : TypeInfo) (z : Value) (bytes : Nat) (ht : P.underlying t = some (.slice e)) (hi : P.info? e = some i) (hz : i.zero = some z)
    (hsize : i.size = 1) (hby : i.bytes = bytes) (hzs : z.cells.size = 1) (v : Value) (g : Nat) (xs : List Value) (hq : Que w base e g v xs)
    (a : Addr) (m c : Nat) (news : List Value) (hl : news.length = m) (hnews : ∀ j u, news[j]? = some u → w.cell? (a.add j) = some u) (h1 : ∀ u ∈ news, u.oneCell' = true)
    (h63 : xs.length + m ≤ maxLen) (hbytes : (xs.length + m) * bytes ≤ 140737488355328) (hbase : base ≤ w.heap.size) :
    ∃ v' g' w', (Builtin.append_ #[t, t] ty #[v, .slice (some a) m c]).run P w = .ok v' w' ∧ Que w' base e g' v' (xs ++ news) ∧ w.grownBy w' (some g) ∧ (g' = g ∨ g' = w.heap.size) := by
  subst hby
  subst hl
  obtain ⟨off, cap, cur, rfl, hb, hg, hn, hm, hc, hcell⟩ := hq
  by_cases hroom : xs.length + news.length ≤ cap
  · have hf := run_firstCells_some (P := P) w i.size news.length a news.length c news (by rw [hsize, Nat.mul_one]) hnews
    have hst := run_storeCells_at P g (off + xs.length) e news 0 cur w hg (by omega) h1
    simp only [Nat.add_zero] at hst
    have htl : (cur.toList.take (off + xs.length)).length = off + xs.length := by
      rw [List.length_take]
      have : cur.toList.length = cur.size := Array.length_toList
      omega
    refine ⟨.slice (some ⟨g, off, none⟩) (xs.length + news.length) cap, g, _, by simp [Builtin.append_, run_underlying ht, sizeOf, typeInfo, hi, Builtin.lenOf, hroom, hsize, Addr.add_lit, hst, hsize ▸ hf]; rfl, ⟨off, cap, _, by rw [List.length_append], hb, setRow_heap w g cur _ e _ hg, by rw [List.length_append]; exact hroom, hm, ?_, fun j u hj => ?_⟩, ⟨rfl, rfl, rfl, by simp, fun k _ hk => setRow_other w g k _ (fun e => hk (by rw [e]))⟩, Or.inl rfl⟩
    · simp only [List.size_toArray, List.length_append, List.length_take, List.length_drop, Array.length_toList]
      omega
    · rw [List.getElem?_toArray]
      by_cases hj2 : j < xs.length
      · rw [List.getElem?_append_left hj2] at hj
        rw [List.getElem?_append_left (by rw [htl]; omega), List.getElem?_take, if_pos (by omega)]
        simpa using hcell j u hj
      · rw [List.getElem?_append_right (by omega)] at hj
        have hjl := (List.getElem?_eq_some_iff.1 hj).1
        rw [List.getElem?_append_right (by rw [htl]; omega), htl, show off + j - (off + xs.length) = j - xs.length by omega, List.getElem?_append_left hjl]
        exact hj
  · have holds : ∀ j u, xs[j]? = some u → w.cell? ((⟨g, off, none⟩ : Addr).add j) = some u := fun j u hj => by
      rw [Addr.add_lit, cell_of_row w g (off + j) cur e (0, 0) hg]
      exact hcell j u hj
    have h63' : xs.length + news.length ≤ 9223372036854775807 := by simpa only [maxLen] using h63
    have hr := run_append_grow (P := P) w t ty e i z ht hi hz ⟨g, off, none⟩ xs.length cap xs (by rw [hsize, Nat.mul_one]) holds a news.length c news (by rw [hsize, Nat.mul_one]) hnews (by omega) (by omega) (growslice_fits (by omega) hbytes)
    have hge := grownCap_ge w (xs.length + news.length) cap e
    refine ⟨_, _, _, hr, ⟨0, _, _, by rw [List.length_append], hbase, heap_alloc_new w.drew _, by rw [List.length_append]; exact hge, grownCap_le_maxLen w _ cap e h63, ?_, fun j u hj => ?_⟩, ⟨rfl, rfl, rfl, by simp, fun k hk _ => heap_alloc_old w.drew _ hk⟩, Or.inr rfl⟩
    · simp only [Array.size_append, List.size_toArray, size_zeroCells, hzs]
      omega
    · rw [Nat.zero_add, ← Array.getElem?_toList, Array.toList_append, Array.toList_append, List.getElem?_append_left (by simpa using (List.getElem?_eq_some_iff.1 hj).1)]
      exact hj
theorem wp_append_que {o : Oper} {a : Act} {K : Act → World → Prop} {Q : Exit → Act → World → Prop} (s x : Operand) (t : TypeId)
    (ho : o.op = .call { callee := .builtin .append, args := #[s, x], argTypes := #[t, t] })
    (base : Nat) (e : TypeId) (i : TypeInfo) (z : Value) (bytes : Nat) (ht : P.underlying t = some (.slice e)) (hi : P.info? e = some i) (hz : i.zero = some z)
    (hsize : i.size = 1) (hby : i.bytes = bytes) (hzs : z.cells.size = 1) (v : Value) (g : Nat) (ys : List Value) (hs : a.eval s = v) (hq : Que w base e g v ys)
    (vs : Value) (zs : List Int) (B : Nat) (hx : a.eval x = vs) (hSl : Ints w B vs zs)
    (h63 : ys.length + zs.length ≤ maxLen) (hbytes : (ys.length + zs.length) * bytes ≤ 140737488355328) (hbase : base ≤ w.heap.size)
    (h : ∀ v' g' w', Que w' base e g' v' (ys ++ zs.map (Value.int .i64)) → w.grownBy w' (some g) → (g' = g ∨ g' = w.heap.size) → K (a.put o.dst v') w') : o.wp P a w K Q := by
  obtain ⟨A, c, rfl, hc, hm, hel⟩ := hSl
  have hsome : ∀ ad : Addr, A = some ad → (∀ j u, (zs.map (Value.int .i64))[j]? = some u → w.cell? (ad.add j) = some u) → o.wp P a w K Q := fun ad hA hcells => by
    subst hA
    obtain ⟨v', g', w', hr, g1, g2, g3⟩ := run_append_que (P := P) (w := w) base t o.type e i z bytes ht hi hz hsize hby hzs v g ys hq ad zs.length c (zs.map (Value.int .i64)) (by simp) hcells (by
      intro u hu
      obtain ⟨y, _, rfl⟩ := List.mem_map.1 hu
      rfl) h63 hbytes hbase
    unfold Oper.wp execOp
    simp only [ho, resolve, invoke, builtin, Sem.run_bind, Sem.run_pure, Result.andThen_ok, List.map_toArray, List.map_cons, List.map_nil, hs, hx, hr]
    exact h v' g' w' g1 g2 g3
  by_cases h0 : zs = []
  · subst h0
    cases A with
    | some ad => exact hsome ad rfl (fun j u hj => by simp at hj)
    | none =>
      have hq' := hq
      obtain ⟨off, cap, cur, rfl, _, _, hnc, _⟩ := hq'
      have hrun : (Builtin.append_ #[t, t] o.type #[.slice (some ⟨g, off, none⟩) ys.length cap, .slice none 0 c]).run P w = .ok (.slice (some ⟨g, off, none⟩) ys.length cap) w := by
        simp [Builtin.append_, run_underlying ht, sizeOf, typeInfo, hi, Builtin.lenOf, Builtin.firstCells, hnc, storeCells]
      unfold Oper.wp
      have hx' : a.eval x = .slice none 0 c := hx
      simp [execOp, ho, resolve, invoke, builtin, hs, hx', hrun, Result.andThen]
      exact h _ g w (by simpa using hq) ⟨rfl, rfl, rfl, Nat.le_refl _, fun _ _ _ => rfl⟩ (Or.inl rfl)
  · obtain ⟨b, off, hA, hb, hcell⟩ := hel (List.length_pos_iff.2 h0)
    refine hsome ⟨b, off, none⟩ hA (fun j u hj => ?_)
    rw [List.getElem?_map] at hj
    cases hz' : zs[j]? with
    | none => rw [hz'] at hj; cases hj
    | some y =>
      rw [hz'] at hj
      injection hj with hj
      subst hj
      obtain ⟨us, hl, hp, hcl⟩ := hcell j y hz'
      have hp : us = intCells y := hp
      subst hp
      have := hcl 0 _ rfl
      rw [Nat.mul_one, Nat.add_zero] at this
      rw [Addr.add_lit]
      exact this
theorem wpList_append_que {ops : Array Oper} {rest : List Oper} {o : Oper} {a : Act} {Q : Exit → Act → World → Prop} (hgd : o.guard = none) (s x : Operand) (t : TypeId)
    (ho : o.op = .call { callee := .builtin .append, args := #[s, x], argTypes := #[t, t] })
    (base : Nat) (e : TypeId) (i : TypeInfo) (z : Value) (bytes : Nat) (ht : P.underlying t = some (.slice e)) (hi : P.info? e = some i) (hz : i.zero = some z)
    (hsize : i.size = 1) (hby : i.bytes = bytes) (hzs : z.cells.size = 1) (v : Value) (g : Nat) (ys : List Value) (hs : a.eval s = v) (hq : Que w base e g v ys)
    (vs : Value) (zs : List Int) (B : Nat) (hx : a.eval x = vs) (hSl : Ints w B vs zs)
    (h63 : ys.length + zs.length ≤ maxLen) (hbytes : (ys.length + zs.length) * bytes ≤ 140737488355328) (hbase : base ≤ w.heap.size)
    (h : ∀ v' g' w', Que w' base e g' v' (ys ++ zs.map (Value.int .i64)) → w.grownBy w' (some g) → (g' = g ∨ g' = w.heap.size) → wpList P ops Q rest (a.put o.dst v') w') : wpList P ops Q (o :: rest) a w := by
  refine wpList_plain hgd fun K hK => ?_
  exact wp_append_que s x t ho base e i z bytes ht hi hz hsize hby hzs v g ys hs hq vs zs B hx hSl h63 hbytes hbase (fun v' g' w' h1 h2 h3 => hK _ _ (h v' g' w' h1 h2 h3))
end
end Go.Proofs.YtbamlilnbhhcmaaDoor

namespace Go.Proofs.YtbamlilnbhhcmaaDoor
open Go.RowKit Go.Lib

/-- Numbers as a result. -/
def intK (R : List Int) : ResK where
  own b W v := OwnL intCells R b W v
  mrk b W v := OwnL intCells (seqI 1 R.length) b W v
  n := 1 + R.length
  slice h := by obtain ⟨A, c, e, _⟩ := h; exact ⟨A, _, c, e⟩
  touch h ht hF := OwnL.touch h ht (fun c hc hf => by have q1 := (OwnL.sblk h hc).1; have q2 := hF c hf; omega)
  mtouch h hb := OwnL.on h hb
/-- The ends of all ballots, as a function. -/
noncomputable def endsL (V : List Voi) (rule : Int) : List Int := by
  classical
  exact if h : ∃ L, Ends (grV V) rule L then h.choose else []
/-! The count. -/
noncomputable def countM (a : Asm) (vs : List Int) : List Int := countL vs (endsL (voices vs a.trust) a.rule)
noncomputable def countOf (a : Asm) (t : ByteArray) : List Int := if knownB a t = true then countM a (motOf a t).votes else []
end Go.Proofs.YtbamlilnbhhcmaaDoor

namespace Go.Proofs.YtbamlilnbhhcmaaDoor
open Go.RowKit Go.Lib

/-- Places as numbers in memory. -/
def barL (B : List Nat) : List Int := B.map Int.ofNat
theorem barL_len (B : List Nat) : (barL B).length = B.length := by unfold barL; simp
theorem barL_snoc (B : List Nat) (t : Nat) : barL (B ++ [t]) = barL B ++ [(t : Int)] := by unfold barL; simp
section
variable {g : Gr} {rule : Int} {m a : Nat} {p : List Nat}
/-- What a search for the best path hands back: nothing, or the path that was made. -/
def BestP (g : Gr) (rule : Int) (m : Nat) (p : List Nat) : Prop := (p = [] ∧ ¬ Reach g [] m) ∨ (Reach g [] m ∧ ∃ (q : List Nat) (a : Nat), p = q ++ [a] ∧ Made g rule m p a ∧ g.sp a = true)
theorem BestP.some (h : BestP g rule m p) (h0 : p ≠ []) : ∃ (q : List Nat) (b : Nat), p = q ++ [b] ∧ IsEnd g rule m (b : Int) := by
  rcases h with ⟨e, _⟩ | ⟨hr, q, b, e, hm, hs⟩
  · exact absurd e h0
  · exact ⟨q, b, e, Or.inl ⟨hr, p, b, hm, hs, rfl⟩⟩
end
end Go.Proofs.YtbamlilnbhhcmaaDoor

namespace Go.Proofs.YtbamlilnbhhcmaaDoor
open Go.RowKit Go.Lib

def costF (ranked : Bool) : Nat → Int := fun k => if ranked then (k : Int) else 1
def CostsPost (V : List Voi) (B : List Nat) (ranked : Bool) (w : World) (e : Ending) (w' : World) : Prop :=
  ∃ g, w.heap.size ≤ g ∧ g < w'.heap.size ∧ e = .returned (.slice (some ⟨g, 0, none⟩) V.length V.length) ∧ Row w' g (costL (runS (grV V) B (costF ranked) V.length) V.length) ∧ Below w.heap.size w w'
end Go.Proofs.YtbamlilnbhhcmaaDoor

namespace Go.Proofs.YtbamlilnbhhcmaaDoor
open Go.RowKit Go.Lib

/-- A best path handed back. -/
def BestPost (V : List Voi) (rule : Int) (m : Nat) (w : World) (e : Ending) (w' : World) : Prop :=
  ∃ p v, e = .returned v ∧ BestP (grV V) rule m p ∧ p.length ≤ 577 ∧ OwnL intCells (barL p) w.heap.size w' v ∧ Below w.heap.size w w'
/-- A path of the call's own. -/
def PathO (w : World) (base g cap : Nat) (p : List Nat) : Prop := w.ownsRow base 2 1 (.slice (some ⟨g, 0, none⟩) p.length cap) p.length ((barL p).flatMap intCells)
theorem PathO.lt {w : World} {base g cap : Nat} {p : List Nat} (h : PathO w base g cap p) : base ≤ g ∧ g < w.heap.size := World.ownsRow.lt h g rfl
theorem PathO.row {w : World} {base g cap : Nat} {p : List Nat} (h : PathO w base g cap p) : w.ownsRow base 2 1 (.slice (some ⟨g, 0, none⟩) p.length cap) p.length ((barL p).flatMap intCells) := h
theorem PathO.below {w w' : World} {base g cap : Nat} {p : List Nat} (h : PathO w base g cap p) (hb : Below w.heap.size w w') : PathO w' base g cap p := own_below h hb
theorem PathO.own {w : World} {base g cap : Nat} {p : List Nat} (h : PathO w base g cap p) : OwnL intCells (barL p) base w (.slice (some ⟨g, 0, none⟩) p.length cap) := OwnL.of_own intCells (size := 1) (fun _ => rfl) (by rw [barL_len]; exact h)
theorem PathO.ints {w : World} {base g cap : Nat} {p : List Nat} (h : PathO w base g cap p) : Ints w w.heap.size (.slice (some ⟨g, 0, none⟩) p.length cap) (barL p) := h.own.slR (size := 1) (fun _ => rfl)
theorem PathO.one (w : World) (m : Nat) : PathO (w.alloc (.cells #[.int .i64 (m : Int)] 2)) w.heap.size w.heap.size 1 [m] :=
  ⟨rfl, .inr ⟨w.heap.size, 1, #[.int .i64 (m : Int)], rfl, Nat.le_refl _, heap_alloc_new w _, Nat.le_refl _, by decide, rfl, rfl⟩⟩
theorem PathO.less {w : World} {b base g cap : Nat} {p : List Nat} (h : PathO w base g cap p) (hb : b ≤ base) : PathO w b g cap p := by
  obtain ⟨h1, h2 | ⟨g', c, cur, e, h3, h4⟩⟩ := h
  · exact ⟨h1, .inl h2⟩
  · exact ⟨h1, .inr ⟨g', c, cur, e, Nat.le_trans hb h3, h4⟩⟩

end Go.Proofs.YtbamlilnbhhcmaaDoor

namespace Go.Proofs.YtbamlilnbhhcmaaDoor
open Go.RowKit Go.Lib

theorem trust_at {l : List Int} {m n : Int} {k : Nat} {z : Int} (h : okTrust l m n = true) (hk : l[k]? = some z) : inB z 0 (n - 1) = true ∧ z ≠ m ∧ (l.take k).contains z = false := by
  rw [okTrust_eq, Bool.and_eq_true] at h
  have h1 := allLt_true.1 h.1 k (List.getElem?_eq_some_iff.1 hk).1
  rw [trustAt_eq hk, Bool.and_eq_true, Bool.and_eq_true, decide_eq_true_eq] at h1
  exact ⟨h1.1.1, h1.1.2, by have := h1.2; simpa using this⟩
set_option maxRecDepth 100000 in
set_option maxHeartbeats 4000000 in
theorem valid2v_any (V : List Voi) (v : Value) (w : World) (hV : Vois w w.heap.size v V) (hok : VoisOk V) : Calls Tryd.prog 13 #[v] w (RetB (.bool true) w) := by
  obtain ⟨A, c0, rfl, hc0, hm0, hel⟩ := vois_at hV
  have hn1 := hok.n1
  have hn12 := hok.n12
  obtain ⟨b, off, rfl, hblt, hcell⟩ := hel (by omega)
  have HEL := Lib.hid hcell
  have HOK := Lib.hid hok
  clear hV hel hcell hok
  refine calls_aft fun x0 => ?_
  go_enter Tryd.func13, Tryd.ntmps13
  go_wp2
  go_loopw [3, 4, 5, 6, 9, 17] (fun _ _ _ _ i _ wr => ∃ (k : Nat) (x : Aft w), k ≤ V.length ∧ i = .int .i64 (k : Int) ∧ wr = x.val) (fun _ _ _ _ i _ _ => V.length - (RowKit.intOf i).toNat)
  case atStart => exact ⟨0, x0, Nat.zero_le _, rfl, rfl⟩
  case round =>
    obtain ⟨k, x, hk, rfl, rfl⟩ := hrel
    by_cases hlt : k < V.length
    · have hget : V[k]? = some V[k] := List.getElem?_eq_getElem hlt
      obtain ⟨A1, c1, d0, d1, hc1, hI⟩ := HEL.out k _ hget
      have x0' := x.cell d0
      have x1' := x.cell d1
      have HT := Lib.hid (fun m z => trust_at (HOK.out.tr k _ hget) (k := m) (z := z))
      have h4 : V[k].tr.length ≤ 4 := trust_four (HOK.out.tr k _ hget)
      have HI := Lib.hid hI
      clear hget d0 d1 hI
      generalize V[k] = a at *
      go_upto_region 4 with (fail)
      obtain ⟨U, hU⟩ : ∃ U : World, U = x.val.alloc (.cells #[.bool a.sp, .slice A1 a.tr.length c1] 36) := ⟨_, rfl⟩
      change Code.wp _ _ _ _ (x.val.alloc (.cells #[.bool a.sp, .slice A1 a.tr.length c1] 36))
      have bU : Below x.val.heap.size x.val U := by rw [hU]; exact (Below.refl _ _).alloc (Nat.le_refl _) _
      have bWU : Below w.heap.size w U := x.ok.trans (bU.mono x.ok.size)
      have a2 : Row U x.val.heap.size [.bool a.sp, .slice A1 a.tr.length c1] := by rw [hU]; exact Row.new x.val _ _
      have t1 := fun y : Aft U => y.cell (a2.cell 1 _ rfl)
      have HIU := Lib.hid (fun y : Aft U => SlR.on HI.out (Pl.stays _) (aft_done bWU y) (aft_done bWU y).size)
      have HTW := Lib.hid (fun y : Aft U => (⟨⟨y.val, aft_done bWU y⟩, rfl⟩ : ∃ t : Aft w, t.val = y.val))
      have HCU := Lib.hid (fun (p o : Nat) (v : Value) (h : w.cell? ⟨p, o, none⟩ = some v) (y : Aft U) => (Aft.cell ⟨y.val, aft_done bWU y⟩ h : y.val.cell? ⟨p, o, none⟩ = some v))
      rw [← hU]
      obtain ⟨u0, hu0⟩ : ∃ y : Aft U, y.val = U := ⟨⟨U, Below.refl _ _⟩, rfl⟩
      rw [← hu0]
      clear hU x0' x1' a2 bU hu0
      go_wp2
      go_loopw [5, 6, 17] (fun _ _ i wr => ∃ (m : Nat) (y : Aft U), m ≤ a.tr.length ∧ i = .int .i64 (m : Int) ∧ wr = y.val) (fun _ _ i _ => a.tr.length - (RowKit.intOf i).toNat)
      case atStart => exact ⟨0, u0, Nat.zero_le _, rfl, rfl⟩
      case round =>
        obtain ⟨m, y, hm, rfl, rfl⟩ := hrel
        by_cases hml : m < a.tr.length
        · have hz : a.tr[m]? = some a.tr[m] := List.getElem?_eq_getElem hml
          obtain ⟨b3, o3, rfl, hb3, e0⟩ := ints_get HI.out hz
          have x2 := HCU.out _ _ _ e0
          obtain ⟨h1, h2, h3⟩ := HT.out m _ hz
          have HSub := Lib.hid (fun y : Aft U => (SlR.take (HIU.out y) m hm : Ints y.val y.val.heap.size (.slice (some ⟨b3, o3, none⟩) m c1) (a.tr.take m)))
          generalize a.tr.take m = zs at *
          clear hz e0
          generalize a.tr[m] = z at *
          have hz1 : (z == (k : Int)) = false := by simpa using h2
          have hlc := (slR_len HI.out).2.1
          have hk1 : (m : Int) ≤ (c1 : Int) := by omega
          have hk0 : (0 : Int) ≤ (m : Int) := by omega
          have H2 := Lib.hid (in2_any z 0 ((V.length : Int) - 1))
          rw [h1] at H2
          clear h1 h2
          go_wp2_with (fail)
          refine (aft_q (H2.out _)).mono ?_
          rintro e _ ⟨rfl, y1, rfl⟩
          go_wp2_with (fail)
          have H3 := contains_any zs z _ _ (HSub.out y1)
          rw [h3] at H3
          refine (aft_q H3).mono ?_
          rintro e _ ⟨rfl, y2, rfl⟩
          go_wp2
          go_roundw
          case rel => exact ⟨m + 1, y2, by omega, by go_num, rfl⟩
          case measure => simp [RowKit.intOf]; omega
        · have hge : ¬ (m : Int) < (a.tr.length : Int) := by omega
          have hno : ¬ (4 : Int) < (a.tr.length : Int) := by omega
          obtain ⟨t, ht⟩ := HTW.out y
          go_wp2
          go_roundw
          case rel => exact ⟨k + 1, t, by omega, by go_num, ht.symm⟩
          case measure => simp [RowKit.intOf]; omega
    · have hge : ¬ (k : Int) < (V.length : Int) := by omega
      have h1 : (1 : Int) ≤ (V.length : Int) := by omega
      have h2 : (V.length : Int) ≤ 12 := by omega
      go_wp2
      go_ret
      exact ⟨rfl, x.ok⟩
end Go.Proofs.YtbamlilnbhhcmaaDoor

namespace Go.Proofs.YtbamlilnbhhcmaaDoor
open Go.RowKit Go.Lib

def ClonePost (zs : List Int) (w : World) (e : Ending) (w' : World) : Prop :=
  ∃ v', e = .returned v' ∧ w'.ownsRow w.heap.size 2 1 v' zs.length (zs.flatMap intCells) ∧ Below w.heap.size w w'
/-- Three slices of the call's own in blocks of their own: the seen, the ends, the open. -/
structure Trio (base : Nat) (w : World) (vs vo vq : Value) (gq : Nat) (S E O : List Int) : Prop where
  s : w.ownsRow base 2 1 vs S.length (S.flatMap intCells)
  o : w.ownsRow base 2 1 vo E.length (E.flatMap intCells)
  q : Que w base 2 gq vq (O.map (Value.int .i64))
  so : ∀ j, vs.ownBlock = some j → vo.ownBlock ≠ some j
  sq : vs.ownBlock ≠ some gq
  oq : vo.ownBlock ≠ some gq
section
variable {base gq : Nat} {w w' : World} {vs vo vq : Value} {S E O : List Int}
theorem Trio.below (h : Trio base w vs vo vq gq S E O) (hb : Below w.heap.size w w') : Trio base w' vs vo vq gq S E O :=
  ⟨own_below h.s hb, own_below h.o hb, h.q.below hb, h.so, h.sq, h.oq⟩
theorem Trio.ints (h : Trio base w vs vo vq gq S E O) : Ints w w.heap.size vs S := (OwnL.of_own intCells (size := 1) (fun _ => rfl) h.s).slR (size := 1) (fun _ => rfl)
theorem Trio.tail {vq' : Value} {O' : List Int} (h : Trio base w vs vo vq gq S E O) (hq : Que w base 2 gq vq' (O'.map (Value.int .i64))) : Trio base w vs vo vq' gq S E O' :=
  ⟨h.s, h.o, hq, h.so, h.sq, h.oq⟩
theorem apart_kept {v1 v2 : Value} (h : ∀ j, v1.ownBlock = some j → v2.ownBlock ≠ some j) : v2.ownBlock = none ∨ v2.ownBlock ≠ v1.ownBlock := by
  cases hv : v2.ownBlock with
  | none => exact .inl rfl
  | some j => exact .inr (fun e => h j e.symm hv)
theorem Trio.pushS {vs' : Value} {z : Int} (h : Trio base w vs vo vq gq S E O) (hown : w'.ownsRow base 2 1 vs' (S.length + 1) (S.flatMap intCells ++ intCells z)) (hg : w.grownBy w' vs.ownBlock) (hor : vs'.ownBlock = vs.ownBlock ∨ vs'.ownBlock = some w.heap.size) : Trio base w' vs' vo vq gq (S ++ [z]) E O where
  s := by rw [List.length_append, flat_snoc]; exact hown
  o := h.o.kept hg (apart_kept h.so)
  q := h.q.grown hg (fun e => h.sq e.symm)
  so := fun j hj hj2 => by
    rcases hor with e | e
    · exact h.so j (e ▸ hj) hj2
    · rw [e] at hj
      injection hj with hj
      have := (h.o.lt j hj2).2
      omega
  sq := by
    rcases hor with e | e
    · rw [e]; exact h.sq
    · rw [e]
      intro hj
      injection hj with hj
      have := h.q.lt.2
      omega
  oq := h.oq
theorem Trio.pushO {vo' : Value} {z : Int} (h : Trio base w vs vo vq gq S E O) (hown : w'.ownsRow base 2 1 vo' (E.length + 1) (E.flatMap intCells ++ intCells z)) (hg : w.grownBy w' vo.ownBlock) (hor : vo'.ownBlock = vo.ownBlock ∨ vo'.ownBlock = some w.heap.size) : Trio base w' vs vo' vq gq S (E ++ [z]) O where
  s := h.s.kept hg (apart_kept (fun j hj hj2 => h.so j hj2 hj))
  o := by rw [List.length_append, flat_snoc]; exact hown
  q := h.q.grown hg (fun e => h.oq e.symm)
  so := fun j hj hj2 => by
    rcases hor with e | e
    · exact h.so j hj (e ▸ hj2)
    · rw [e] at hj2
      injection hj2 with hj2
      have := (h.s.lt j hj).2
      omega
  sq := h.sq
  oq := by
    rcases hor with e | e
    · rw [e]; exact h.oq
    · rw [e]
      intro hj
      injection hj with hj
      have := h.q.lt.2
      omega
theorem Trio.pushQ {vq' : Value} {g' : Nat} {O' : List Int} (h : Trio base w vs vo vq gq S E O) (hq : Que w' base 2 g' vq' (O'.map (Value.int .i64))) (hg : w.grownBy w' (some gq)) (hor : g' = gq ∨ g' = w.heap.size) : Trio base w' vs vo vq' g' S E O' where
  s := h.s.kept hg (.inr h.sq)
  o := h.o.kept hg (.inr h.oq)
  q := hq
  so := h.so
  sq := by
    rcases hor with e | e
    · rw [e]; exact h.sq
    · rw [e]
      intro hj
      have := (h.s.lt _ hj).2
      omega
  oq := by
    rcases hor with e | e
    · rw [e]; exact h.oq
    · rw [e]
      intro hj
      have := (h.o.lt _ hj).2
      omega
end
/-- The ends from a member: only whether there are any. -/
def EndsPost (V : List Voi) (B : List Nat) (m : Nat) (w : World) (e : Ending) (w' : World) : Prop :=
  ∃ A n c, e = .returned (.slice A n c) ∧ n ≤ 1000 ∧ (0 < n ↔ Reach (grV V) B m) ∧ Below w.heap.size w w'
theorem Bfs.slen {g : Gr} {B S O E : List Nat} {m : Nat} (h : Bfs g B m S O E) : S.length ≤ g.n := nodup_le g.n S h.nd (fun x hx => (h.son x hx).1)
theorem barL_app (B S : List Nat) : barL (B ++ S) = barL B ++ barL S := by unfold barL; simp
theorem tr_bar {V : List Voi} (hok : VoisOk V) {x : Nat} {a : Voi} (h : V[x]? = some a) : barL ((grV V).tr x) = a.tr := by
  rw [(grV_at h).2]
  unfold barL
  rw [List.map_map]
  have : ∀ l : List Int, (∀ z ∈ l, 0 ≤ z) → l.map (Int.ofNat ∘ Int.toNat) = l := by
    intro l
    induction l with
    | nil => intro _; rfl
    | cons z l ih =>
      intro h
      rw [List.map_cons, ih (fun y hy => h y (List.mem_cons_of_mem _ hy))]
      have := h z (List.mem_cons_self ..)
      congr 1
      show ((z.toNat : Nat) : Int) = z
      omega
  exact this _ (fun z hz => (trust_mem (hok.tr x _ h) hz).1)

end Go.Proofs.YtbamlilnbhhcmaaDoor

namespace Go.Proofs.YtbamlilnbhhcmaaDoor
open Go.RowKit Go.Lib

end Go.Proofs.YtbamlilnbhhcmaaDoor
