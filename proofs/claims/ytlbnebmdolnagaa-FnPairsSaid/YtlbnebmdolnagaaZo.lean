/- A region that draws its order, whose loads hold until one operation comes up (a store, behind all of them). -/
import Derived.Deep.RegionHeld
import Derived.StillTail
import Derived.Test.YtlbnebmdolnagaaZn
namespace Go.Proofs.Ytlbnebmdolnagaa
open Go.RowKit Go.Lib

section
variable {P : Program} {ops : Array Oper} {Q : Exit → Act → World → Prop} {md : Region.Mode} {t : Nat} {C : World → Prop}

/-- Whatever order is picked from here on, and C holds behind every operation as long as operation t has not come up. -/
def wpAnyG (P : Program) (md : Region.Mode) (ops : Array Oper) (Q : Exit → Act → World → Prop) (t : Nat) (C : World → Prop) : Nat → Array Bool → Act → World → Prop
  | 0, listed, a, w => Region.ready md ops listed = [] ∧ Q .normal a w
  | fuel + 1, listed, a, w =>
    (Region.ready md ops listed = [] → Q .normal a w) ∧
    ∀ i ∈ Region.ready md ops listed, wpOp P ops Q i (fun a' w' => ((listed.setIfInBounds i true).getD t true = false → C w') ∧ wpAnyG P md ops Q t C fuel (listed.setIfInBounds i true) a' w') a w
theorem wpAny_of_G : ∀ (fuel : Nat) (listed : Array Bool) (a : Act) (w : World), wpAnyG P md ops Q t C fuel listed a w → wpAny P md ops Q fuel listed a w
  | 0, _, _, _, h => h
  | fuel + 1, _, _, _, h => ⟨h.1, fun i hi => wpOp_mono (fun a' w' h' => wpAny_of_G fuel _ a' w' h'.2) (h.2 i hi)⟩
theorem wpAnyG_first {D : World → Prop} {i : Nat} {oi : Oper} {v : Value} (hi : ops[i]? = some oi) (hsel : ∀ (j : Nat) (o : Oper) cs b, ops[j]? = some o → o.op ≠ .select cs b)
    (hQ : ∀ c a w, Q (.panic c) (a.put oi.dst v) w → Q (.panic c) a w) (hti : t ≠ i) (hD : (∀ w, D w) ∨ ((∀ w, C w → D w) ∧ ∃ ot, ops[t]? = some ot ∧ ∃ e ∈ ot.after, Region.binds md e = true ∧ e.on = i)) :
    ∀ (fuel : Nat) (listed : Array Bool) (a : Act) (w : World),
      (∀ j oj, ops[j]? = some oj → j ≠ i → listed.getD j true = false → (∀ e ∈ oj.after, Region.binds md e = true → e.on ≠ i) → oi.apart ops oj = true) →
      i ∈ Region.ready md ops listed → YieldsIf P ops D oi v a → ((∀ w, D w) ∨ listed.getD t true = false) → D w → ((listed.setIfInBounds i true).getD t true = false → C w) →
      wpAnyG P md ops Q t C fuel (listed.setIfInBounds i true) (a.put oi.dst v) w → wpAnyG P md ops Q t C (fuel + 1) listed a w := by
  intro fuel
  induction fuel with
  | zero =>
    intro listed a w _ hr hy _ hS hC H
    refine ⟨fun h => (by rw [h] at hr; cases hr), fun j hj => ?_⟩
    by_cases hji : j = i
    · subst hji; exact hy.wpOp hi hS ⟨hC, H⟩
    · have := ready_mono hj hji
      rw [H.1] at this
      cases this
  | succ fuel ih =>
    intro listed a w hfree hr hy hut hS hC H
    refine ⟨fun h => (by rw [h] at hr; cases hr), fun j hj => ?_⟩
    by_cases hji : j = i
    · subst hji; exact hy.wpOp hi hS ⟨hC, H⟩
    · have h1 := H.2 j (ready_mono hj hji)
      obtain ⟨hjun, oj, hoj, hall⟩ := mem_ready.1 hj
      have hnot : ∀ e ∈ oj.after, Region.binds md e = true → e.on ≠ i := fun e he hb heq => by
        have h1 := hall e he hb
        have h0 := (mem_ready.1 hr).1
        rw [heq] at h1
        rcases Nat.lt_or_ge i listed.size with h' | h'
        · simp [h'] at h0 h1; rw [h0] at h1; cases h1
        · simp [Array.getElem?_eq_none h'] at h1
      have h2 := wpOp_putIf hoj (hfree j oj hoj hji hjun hnot) (fun cs b => hsel i oi cs b hi) (fun cs b => hsel j oj cs b hoj) hQ hy h1
      have hfree' : ∀ k ok, ops[k]? = some ok → k ≠ i → (listed.setIfInBounds j true).getD k true = false →
          (∀ e ∈ ok.after, Region.binds md e = true → e.on ≠ i) → oi.apart ops ok = true := fun k ok hk hki hun hno => by
        refine hfree k ok hk hki ?_ hno
        by_cases hjk : j = k
        · subst hjk; exact hjun
        · rw [getD_set_ne true hjk] at hun; exact hun
      have hut' : (∀ w, D w) ∨ (listed.setIfInBounds j true).getD t true = false := by
        rcases hut with h | h
        · exact .inl h
        · rcases hD with h' | ⟨_, ot, hot, e, he, hb, hei⟩
          · exact .inl h'
          · refine .inr ?_
            have hjt : j ≠ t := fun e' => by
              subst e'
              rw [hoj] at hot
              injection hot with hot
              subst hot
              exact hnot e he hb hei
            rw [getD_set_ne true hjt]
            exact h
      refine wpOp_mono (fun a' w' h3 => ?_) h2
      have hc' : (listed.setIfInBounds j true).getD t true = false → C w' := fun h => h3.2.1 (by
        rw [Array.setIfInBounds_comm _ _ (Ne.symm hji), getD_set_ne true (Ne.symm hti)]
        exact h)
      have hD' : D w' := by
        rcases hut' with h | h
        · exact h w'
        · rcases hD with h' | ⟨h', _⟩
          · exact h' w'
          · exact h' w' (hc' h)
      refine ⟨hc', ih (listed.setIfInBounds j true) a' w' hfree' (ready_mono hr (Ne.symm hji)) h3.1 hut' hD' ?_ ?_⟩
      · rw [Array.setIfInBounds_comm _ _ hji]
        exact h3.2.1
      · rw [Array.setIfInBounds_comm _ _ hji]
        exact h3.2.2
/-- Take number 'i' first: t waits for it, and it yields 'v' in every world that meets C. -/
theorem wpAnyG_take {i : Nat} {oi : Oper} {v : Value} {fuel : Nat} {listed : Array Bool} {a : Act} {w : World} (hi : ops[i]? = some oi)
    (hs : Region.noSelect ops = true) (hf : Region.free md ops listed i = true) (hr : (Region.ready md ops listed).contains i = true) (hw : Region.waitsFor md ops t i = true) (hut : listed.getD t true = false) (hti : (t == i) = false)
    (hQ : ∀ c a w, Q (.panic c) (a.put oi.dst v) w → Q (.panic c) a w) (hy : YieldsIf P ops C oi v a) (hS : C w)
    (h : wpAnyG P md ops Q t C fuel (listed.setIfInBounds i true) (a.put oi.dst v) w) : wpAnyG P md ops Q t C (fuel + 1) listed a w :=
  wpAnyG_first (D := C) hi (Region.noSelect_spec hs) hQ (by simpa using hti) (.inr ⟨fun _ h => h, Region.waitsFor_spec hw⟩) fuel listed a w (Region.free_spec hi hf) (by simpa using hr) hy (.inr hut) hS (fun _ => hS) h
/-- Take number 'i' first: it yields 'v' in whatever world. -/
theorem wpAnyG_takeP {i : Nat} {oi : Oper} {v : Value} {fuel : Nat} {listed : Array Bool} {a : Act} {w : World} (hi : ops[i]? = some oi)
    (hs : Region.noSelect ops = true) (hf : Region.free md ops listed i = true) (hr : (Region.ready md ops listed).contains i = true) (hti : (t == i) = false)
    (hQ : ∀ c a w, Q (.panic c) (a.put oi.dst v) w → Q (.panic c) a w) (hy : YieldsIf P ops (fun _ => True) oi v a) (hC : listed.getD t true = false → C w)
    (h : wpAnyG P md ops Q t C fuel (listed.setIfInBounds i true) (a.put oi.dst v) w) : wpAnyG P md ops Q t C (fuel + 1) listed a w :=
  wpAnyG_first (D := fun _ => True) hi (Region.noSelect_spec hs) hQ (by simpa using hti) (.inl fun _ => trivial) fuel listed a w (Region.free_spec hi hf) (by simpa using hr) hy (.inl fun _ => trivial) trivial (fun h' => hC (by
    have hne : i ≠ t := fun e => by rw [e] at hti; simp at hti
    rw [getD_set_ne true hne] at h'
    exact h')) h
theorem wpAnyG_done {listed : Array Bool} {a : Act} {w : World} (hr : Region.ready md ops listed = []) (h : Q .normal a w) : ∀ fuel, wpAnyG P md ops Q t C fuel listed a w
  | 0 => ⟨hr, h⟩
  | _ + 1 => ⟨fun _ => h, by rw [hr]; simp⟩
def AllReadyG (P : Program) (md : Region.Mode) (ops : Array Oper) (Q : Exit → Act → World → Prop) (t : Nat) (C : World → Prop) (fuel : Nat) (listed : Array Bool) (a : Act) (w : World) (rs : List Nat) : Prop :=
  ∀ i ∈ rs, wpOp P ops Q i (fun a' w' => ((listed.setIfInBounds i true).getD t true = false → C w') ∧ wpAnyG P md ops Q t C fuel (listed.setIfInBounds i true) a' w') a w
theorem AllReadyG.nil {fuel : Nat} {listed : Array Bool} {a : Act} {w : World} : AllReadyG P md ops Q t C fuel listed a w [] := fun _ h => by cases h
theorem AllReadyG.cons {fuel : Nat} {listed : Array Bool} {a : Act} {w : World} {i : Nat} {o : Oper} {rs : List Nat} (ho : ops[i]? = some o)
    (h : ∀ K' : Act → World → Prop, Shut (∀ a w, ((listed.setIfInBounds i true).getD t true = false → C w) → wpAnyG P md ops Q t C fuel (listed.setIfInBounds i true) a w → K' a w) → if Region.wanted o (yielded ops a.tmps) = true then Oper.wp P o a w K' Q else K' (a.put o.dst undef) w)
    (hs : AllReadyG P md ops Q t C fuel listed a w rs) : AllReadyG P md ops Q t C fuel listed a w (i :: rs) := fun j hj => by
  rcases List.mem_cons.1 hj with rfl | hj
  · exact wpOp_step ho (fun K' hK => h K' (fun a w hS hW => hK a w ⟨hS, hW⟩))
  · exact hs j hj
theorem wpAnyG_ready {rs : List Nat} {fuel : Nat} {listed : Array Bool} {a : Act} {w : World} (hr : Region.ready md ops listed = rs) (hne : rs ≠ [])
    (h : AllReadyG P md ops Q t C fuel listed a w rs) : wpAnyG P md ops Q t C (fuel + 1) listed a w := ⟨fun h0 => absurd (hr ▸ h0) hne, hr ▸ h⟩
/-- The same steps with their side goals done by themselves. -/
theorem wG_t (i : Nat) {oi : Oper} {v : Value} {fuel : Nat} {listed : Array Bool} {a : Act} {w : World} (h : wpAnyG P md ops Q t C fuel (listed.setIfInBounds i true) (a.put oi.dst v) w)
    (hi : ops[i]? = some oi := by exact rfl) (hs : Region.noSelect ops = true := by kernel_rfl) (hf : Region.free md ops listed i = true := by kernel_rfl) (hr : (Region.ready md ops listed).contains i = true := by kernel_rfl) (hw : Region.waitsFor md ops t i = true := by kernel_rfl) (hut : listed.getD t true = false := by kernel_rfl) (hti : (t == i) = false := by exact rfl)
    (hQ : ∀ c a w, Q (.panic c) (a.put oi.dst v) w → Q (.panic c) a w := by exact fun _ _ _ h => h) (hS : C w := by assumption)
    (hy : YieldsIf P ops C oi v a := by
      refine Or.inl ⟨by rfl, ?_⟩
      intro w hSw
      try dsimp only at hSw
      simp only [List.getElem_toArray, List.getElem_cons_zero, List.getElem_cons_succ]
      first | (go_simp; done) | (go_simp; with_reducible rfl)) : wpAnyG P md ops Q t C (fuel + 1) listed a w :=
  wpAnyG_take hi hs hf hr hw hut hti hQ hy hS h
theorem wG_p (i : Nat) {oi : Oper} {v : Value} {fuel : Nat} {listed : Array Bool} {a : Act} {w : World} (hC : listed.getD t true = false → C w) (h : wpAnyG P md ops Q t C fuel (listed.setIfInBounds i true) (a.put oi.dst v) w)
    (hi : ops[i]? = some oi := by exact rfl) (hs : Region.noSelect ops = true := by kernel_rfl) (hf : Region.free md ops listed i = true := by kernel_rfl) (hr : (Region.ready md ops listed).contains i = true := by kernel_rfl) (hti : (t == i) = false := by exact rfl)
    (hQ : ∀ c a w, Q (.panic c) (a.put oi.dst v) w → Q (.panic c) a w := by exact fun _ _ _ h => h)
    (hy : YieldsIf P ops (fun _ => True) oi v a := by
      refine Or.inl ⟨by rfl, ?_⟩
      intro w hSw
      simp only [List.getElem_toArray, List.getElem_cons_zero, List.getElem_cons_succ]
      first | (go_simp; done) | (go_simp; with_reducible rfl)) : wpAnyG P md ops Q t C (fuel + 1) listed a w :=
  wpAnyG_takeP hi hs hf hr hti hQ hy hC h
theorem wG_o (i : Nat) {o : Oper} {fuel : Nat} {listed : Array Bool} {a : Act} {w : World} (h : ∀ K' : Act → World → Prop, Shut (∀ a w, ((listed.setIfInBounds i true).getD t true = false → C w) → wpAnyG P md ops Q t C fuel (listed.setIfInBounds i true) a w → K' a w) → if Region.wanted o (yielded ops a.tmps) = true then Oper.wp P o a w K' Q else K' (a.put o.dst undef) w)
    (ho : ops[i]? = some o := by exact rfl) (hr : Region.ready md ops listed = [i] := by kernel_rfl) : wpAnyG P md ops Q t C (fuel + 1) listed a w :=
  wpAnyG_ready hr (by simp) (AllReadyG.cons ho h AllReadyG.nil)
theorem wp_region_G {id : Nat} {a : Act} {w : World} (t : Nat) (C : World → Prop) (hm : P.follows .mixedOrders = true)
    (h : wpAnyG P .any ops Q t C ops.size (Array.replicate ops.size false) a w.drew) : (Code.region id ops true).wp P Q a w :=
  wp_region_any hm (wpAny_of_G _ _ _ _ h)
end
end Go.Proofs.Ytlbnebmdolnagaa
