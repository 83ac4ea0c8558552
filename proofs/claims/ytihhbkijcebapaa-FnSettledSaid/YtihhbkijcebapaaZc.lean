/- An assembly of the call's own that may be changed: what is held, and how it stands behind each kind of store. -/
import Derived.Test.YtihhbkijcebapaaZb
import Derived.Test.YtihhbkijcebapaaZn
import Derived.Test.YtihhbkijcebapaaQE
namespace Go.Proofs.Ytihhbkijcebapaa
open Go.RowKit Go.Lib

theorem own_lessR {w : World} {b base size n : Nat} {e : TypeId} {v : Value} {xs : List Value} (h : w.ownsRow base e size v n xs) (hb : b ≤ base) : w.ownsRow b e size v n xs := by
  obtain ⟨h1, h2 | ⟨g', c, cur, e, h3, h4⟩⟩ := h
  · exact ⟨h1, .inl h2⟩
  · exact ⟨h1, .inr ⟨g', c, cur, e, Nat.le_trans hb h3, h4⟩⟩
theorem keepC {w w' : World} {p0 : Addr} {v0 : Value} (h : w.cell? p0 = some v0) (hb : Below w.heap.size w w') : w'.cell? p0 = some v0 := (hb.cell (World.block_lt_of_cell? w _ h)).trans h
/-- A row that may grow, written in place. -/
theorem own_set {w : World} {base g n cap size : Nat} {e : TypeId} {xs : List Value} (h : w.ownsRow base e size (.slice (some ⟨g, 0, none⟩) n cap) n xs) (i : Nat) (u : Value) : (w.setCell ⟨g, i, none⟩ u).ownsRow base e size (.slice (some ⟨g, 0, none⟩) n cap) n (xs.set i u) := by
  obtain ⟨hl, h | ⟨g', cap', cur, e1, hg, hh, h1, h2, h3, h4⟩⟩ := h
  · cases h.1
  · injection e1 with e1 e2 e3
    injection e1 with e1
    injection e1 with e1
    subst e1 e3
    refine ⟨by rw [List.length_set]; exact hl, .inr ⟨g, cap, cur.setIfInBounds i u, rfl, hg, heap_setCell_same w g i cur e u hh, h1, h2, by rw [Array.size_setIfInBounds]; exact h3, ?_⟩⟩
    rw [← h4, Array.toList_setIfInBounds, List.take_set]
theorem own_touch {w w' : World} {base n size : Nat} {e : TypeId} {v : Value} {xs : List Value} {F : Nat → Prop} (h : w.ownsRow base e size v n xs) (ht : Touch F w w') (hF : ∀ b, v.ownBlock = some b → ¬ F b) : w'.ownsRow base e size v n xs := by
  obtain ⟨hl, h | ⟨g, cap, cur, rfl, hg, hh, hr⟩⟩ := h
  · exact ⟨hl, .inl h⟩
  · have hlt : g < w.heap.size := by
      rcases Nat.lt_or_ge g w.heap.size with hlt | hge
      · exact hlt
      · rw [Array.getElem?_eq_none hge] at hh; cases hh
    exact ⟨hl, .inr ⟨g, cap, cur, rfl, hg, (ht.block g hlt (hF g rfl)).trans hh, hr⟩⟩
theorem pair_setm {β : Type} {R : β → β → Prop} : ∀ (L : List β) (j : Nat) (x' : β), L.Pairwise R → (∀ p ∈ L, R p x') → (∀ p ∈ L, R x' p) → (L.set j x').Pairwise R
  | [], _, _, h, _, _ => h
  | y :: L, 0, x', h, h1, h2 => by
    rw [List.pairwise_cons] at h
    rw [List.set_cons_zero, List.pairwise_cons]
    exact ⟨fun p hp => h2 p (List.mem_cons_of_mem _ hp), h.2⟩
  | y :: L, j + 1, x', h, h1, h2 => by
    rw [List.pairwise_cons] at h
    rw [List.set_cons_succ, List.pairwise_cons]
    refine ⟨fun p hp => ?_, pair_setm L j x' h.2 (fun p hp => h1 p (List.mem_cons_of_mem _ hp)) (fun p hp => h2 p (List.mem_cons_of_mem _ hp))⟩
    rcases List.mem_or_eq_of_mem_set hp with hm | rfl
    · exact h.1 p hm
    · exact h1 y (List.mem_cons_self ..)
/-- A cell of an element is written; what it leads to now is new. -/
theorem TreeO.setNew {β : Type} {K : Kind β} {base : Nat} {w : World} {v : Value} {L : List β} (h : TreeO K base w v L) {j : Nat} {x x' : β} (hx : L[j]? = some x) {g : Nat} (hv : v.ownBlock = some g) (i : Nat) (hi : i < K.size) (u : Value) (hc : K.cells x' = (K.cells x).set i u)
    (hin : K.inn base w x') (hfr : ∀ b, K.blk x' b → b ≠ g ∧ ∀ q ∈ L, ¬ K.blk q b) : TreeO K base (w.setCell ⟨g, j * K.size + i, none⟩ u) v (L.set j x') := by
  obtain ⟨A, c, rfl, h1, h2, h3⟩ := h.row
  have hne : L ≠ [] := fun e => by rw [e] at hx; simp at hx
  obtain ⟨g', rfl, hg, hlt, hr⟩ := h3 hne
  injection hv with hv
  have hv : g' = g := hv
  subst hv
  have hlj := (List.getElem?_eq_some_iff.1 hx).1
  have ht : Touch (fun b => b = g') w (w.setCell ⟨g', j * K.size + i, none⟩ u) := Touch.setCell (F := fun b => b = g') (Touch.refl _ w) rfl u
  refine ⟨⟨_, c, by rw [List.length_set], by rw [List.length_set]; exact h1, h2, fun _ => ⟨g', rfl, hg, by simpa [World.setCell] using hlt, ?_⟩⟩, fun q hq => ?_, fun q hq b hqb => ?_, ?_⟩
  · rw [← flat_set K L j x x' i u hx hi hc]
    refine hr.set _ u ?_
    have : (j + 1) * K.size ≤ L.length * K.size := Nat.mul_le_mul_right _ hlj
    rw [Nat.succ_mul] at this
    rw [flat_len K.cells K.len]
    omega
  · rcases List.mem_or_eq_of_mem_set hq with hm | rfl
    · exact K.touch (h.inn q hm) ht (fun b hb' e => h.out q hm b hb' (by rw [e]; rfl))
    · exact K.touch hin ht (fun b hb' e => (hfr b hb').1 e)
  · rcases List.mem_or_eq_of_mem_set hq with hm | rfl
    · exact h.out q hm b hqb
    · intro e
      injection e with e
      exact (hfr b hqb).1 e.symm
  · exact pair_setm L j x' h.two (fun p hp b h1 h2 => (hfr b h2).2 p hp h1) (fun p hp b h1 h2 => (hfr b h1).2 p hp h2)
/-- An element comes at the end. -/
theorem TreeO.push {β : Type} {K : Kind β} {te : TypeId} {base : Nat} {w w' : World} {v v' : Value} {L : List β} {x : β} (h : TreeO K base w v L) (hg : w.grownBy w' v.ownBlock) (hor : v'.ownBlock = v.ownBlock ∨ v'.ownBlock = some w.heap.size)
    (hrow : w'.ownsRow base te K.size v' (L.length + 1) (L.flatMap K.cells ++ K.cells x)) (hx : K.inn base w x) (hxn : ∀ b, K.blk x b → v.ownBlock ≠ some b ∧ ∀ q ∈ L, ¬ K.blk q b) : TreeO K base w' v' (L ++ [x]) := by
  have ht : Touch (fun b => v.ownBlock = some b) w w' := Touch.of_grown hg (fun b hb => hb)
  have hlt : ∀ y ∈ L ++ [x], ∀ b, K.blk y b → b < w.heap.size ∧ v.ownBlock ≠ some b := fun y hy b hb => by
    rcases List.mem_append.1 hy with hy | hy
    · exact ⟨(K.lt (h.inn y hy) hb).2, h.out y hy b hb⟩
    · rw [List.mem_singleton.1 hy] at hb
      exact ⟨(K.lt hx hb).2, (hxn b hb).1⟩
  refine ⟨OwnL.of_own K.cells K.len (by simpa using hrow), fun y hy => ?_, fun y hy b hb e => ?_, ?_⟩
  · have hi : K.inn base w y := by
      rcases List.mem_append.1 hy with hy | hy
      · exact h.inn y hy
      · rw [List.mem_singleton.1 hy]; exact hx
    exact K.touch hi ht (fun b hb e => (hlt y hy b hb).2 e)
  · have q := hlt y hy b hb
    rcases hor with e' | e'
    · rw [e'] at e; exact q.2 e
    · rw [e'] at e; injection e with e; omega
  · rw [List.pairwise_append]
    refine ⟨h.two, List.pairwise_singleton _ _, fun p hp q hq b h1 h2 => ?_⟩
    rw [List.mem_singleton.1 hq] at h2
    exact (hxn b h2).2 p hp h1
theorem Apart.symm {p q : Nat → Prop} (h : Apart p q) : Apart q p := fun b h1 h2 => h b h2 h1
theorem Apart.grow {p p' q : Nat → Prop} {n : Nat} (h : Apart p q) (hp : ∀ b, p' b → p b ∨ n ≤ b) (hq : ∀ b, q b → b < n) : Apart p' q := fun b hb hqb => by
  rcases hp b hb with h1 | h1
  · exact h b h1 hqb
  · have := hq b hqb
    omega
/-- One tree of an assembly's is another one now; what is new of it lies above all that was. -/
theorem AsmO.upT {base : Nat} {w w' : World} {x : VAsm} {a : Asm} {T T' : List VRow} {C : List VAct} {M : List VMot} {v' : Value} {ls : List (List Int)} {F : Nat → Prop} (h : AsmO base w x a T C M) (ht : Touch F w w') (hF : ∀ b, b < w.heap.size → F b → Foot kRow x.t T b) (t' : TreeO kRow base w' v' T') (hl : T'.map VRow.a = ls)
    (hf : ∀ b, Foot kRow v' T' b → Foot kRow x.t T b ∨ w.heap.size ≤ b) : AsmO base w' { x with t := v' } { a with trust := ls } T' C M :=
  ⟨hl, h.cm, h.mm, t', h.b.touch ht (fun b hb hf => h.tb b (hF b (h.b.lt hb).2 hf) hb), h.c.touch ht (fun b hb hf => h.tc b (hF b (h.c.lt hb).2 hf) hb), h.m.touch ht (fun b hb hf => h.tmo b (hF b (h.m.lt hb).2 hf) hb),
    h.tb.grow hf (fun _ hb => (h.b.lt hb).2), h.tc.grow hf (fun _ hb => (h.c.lt hb).2), h.tmo.grow hf (fun _ hb => (h.m.lt hb).2), h.bc, h.bm, h.cmo⟩
theorem AsmO.upC {base : Nat} {w w' : World} {x : VAsm} {a : Asm} {T : List VRow} {C C' : List VAct} {M : List VMot} {v' : Value} {ls : List Acta} {F : Nat → Prop} (h : AsmO base w x a T C M) (ht : Touch F w w') (hF : ∀ b, b < w.heap.size → F b → Foot kAct x.c C b) (t' : TreeO kAct base w' v' C') (hl : C'.map VAct.a = ls)
    (hf : ∀ b, Foot kAct v' C' b → Foot kAct x.c C b ∨ w.heap.size ≤ b) : AsmO base w' { x with c := v' } { a with acts := ls } T C' M :=
  ⟨h.tm, hl, h.mm, h.t.touch ht (fun b hb hf => h.tc b hb (hF b (h.t.lt hb).2 hf)), h.b.touch ht (fun b hb hf => h.bc b hb (hF b (h.b.lt hb).2 hf)), t', h.m.touch ht (fun b hb hf => h.cmo b (hF b (h.m.lt hb).2 hf) hb),
    h.tb, (h.tc.symm.grow hf (fun _ hb => (h.t.lt hb).2)).symm, h.tmo, (h.bc.symm.grow hf (fun _ hb => (h.b.lt hb).2)).symm, h.bm, h.cmo.grow hf (fun _ hb => (h.m.lt hb).2)⟩
theorem AsmO.upM {base : Nat} {w w' : World} {x : VAsm} {a : Asm} {T : List VRow} {C : List VAct} {M M' : List VMot} {v' : Value} {ls : List Mot} {F : Nat → Prop} (h : AsmO base w x a T C M) (ht : Touch F w w') (hF : ∀ b, b < w.heap.size → F b → Foot kMot x.m M b) (t' : TreeO kMot base w' v' M') (hl : M'.map VMot.a = ls)
    (hf : ∀ b, Foot kMot v' M' b → Foot kMot x.m M b ∨ w.heap.size ≤ b) : AsmO base w' { x with m := v' } { a with mots := ls } T C M' :=
  ⟨h.tm, h.cm, hl, h.t.touch ht (fun b hb hf => h.tmo b hb (hF b (h.t.lt hb).2 hf)), h.b.touch ht (fun b hb hf => h.bm b hb (hF b (h.b.lt hb).2 hf)), h.c.touch ht (fun b hb hf => h.cmo b hb (hF b (h.c.lt hb).2 hf)), t',
    h.tb, h.tc, (h.tmo.symm.grow hf (fun _ hb => (h.t.lt hb).2)).symm, h.bc, (h.bm.symm.grow hf (fun _ hb => (h.b.lt hb).2)).symm, (h.cmo.symm.grow hf (fun _ hb => (h.c.lt hb).2)).symm⟩
def setR (m : Mot) (r : Int) : Mot := { m with result := r }
def setV (m : Mot) (i : Nat) (r : Int) : Mot := { m with votes := m.votes.set i r }
def vR (y : VMot) (r : Int) : VMot := ⟨setR y.a r, y.p, y.t⟩
def vV (y : VMot) (i : Nat) (r : Int) : VMot := ⟨setV y.a i r, y.p, y.t⟩
theorem foot_setZ {β : Type} {K : Kind β} {v : Value} {L : List β} {j : Nat} {x x' : β} (hx : L[j]? = some x) (hb : ∀ b, K.blk x' b ↔ K.blk x b) (b : Nat) : Foot K v (L.set j x') b ↔ Foot K v L b := by
  have hm := List.mem_of_getElem? hx
  have hlj := (List.getElem?_eq_some_iff.1 hx).1
  unfold Foot
  constructor
  · rintro (h | ⟨q, hq, h⟩)
    · exact .inl (sBlk_len h (by simp))
    · rcases List.mem_or_eq_of_mem_set hq with hm' | rfl
      · exact .inr ⟨q, hm', h⟩
      · exact .inr ⟨x, hm, (hb b).1 h⟩
  · rintro (h | ⟨q, hq, h⟩)
    · exact .inl (sBlk_len h (by simp))
    · obtain ⟨i, hi⟩ := List.getElem?_of_mem hq
      by_cases e : j = i
      · subst e
        rw [hx] at hi
        injection hi with hi
        subst hi
        exact .inr ⟨x', List.mem_of_getElem? (List.getElem?_set_self hlj), (hb b).2 h⟩
      · exact .inr ⟨q, List.mem_of_getElem? (i := i) (by rw [List.getElem?_set_ne e]; exact hi), h⟩
end Go.Proofs.Ytihhbkijcebapaa
