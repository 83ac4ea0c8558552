/- Settling, plain: costs of ways, as the program and as the reference reckon them; no program in sight. Settling, plain: behind as many rounds as members the costs stand still; finite exactly where a way leads on; a next step fits. Settling, plain: the ends from a member; the best path is one. Settling, plain: a path under way goes on; with whom a ballot is settled is one. Settling, plain: a list of voices as a graph; the count of the ends. Settling: costs as a row of cells; the states of both loops, step by step. -/
import Derived.Test.YtlbnebmdolnagaaQI
namespace Go.Proofs.Ytlbnebmdolnagaa

structure Gr where
  n : Nat
  sp : Nat → Bool
  tr : Nat → List Nat
structure Gr.Ok (g : Gr) : Prop where
  lt : ∀ i, i < g.n → ∀ t ∈ g.tr i, t < g.n
  ne : ∀ i, ∀ t ∈ g.tr i, t ≠ i
  four : ∀ i, (g.tr i).length ≤ 4
/-- May i go on: it does not speak and is not barred. -/
def Gr.on (g : Gr) (B : List Nat) (i : Nat) : Bool := !g.sp i && !B.contains i
inductive Reach (g : Gr) (B : List Nat) : Nat → Prop
  | sp (i : Nat) : B.contains i = false → g.sp i = true → Reach g B i
  | st (i t : Nat) : g.on B i = true → t ∈ g.tr i → Reach g B t → Reach g B i

def stepI (C : Nat → Int) (i t : Nat) (s : Int) : Nat → Int := fun j => if j = i then min (C i) (C t + s) else C j
def stepS (D : Nat → Int) (i t : Nat) (s : Int) : Nat → Int := fun j => if j = i then (if 0 ≤ D t ∧ (D i < 0 ∨ s + D t < D i) then s + D t else D i) else D j
def inI (g : Gr) (c : Nat → Int) (i : Nat) (C : Nat → Int) : Nat → (Nat → Int)
  | 0 => C
  | k + 1 => match (g.tr i)[k]? with | some t => stepI (inI g c i C k) i t (c (k + 1)) | none => inI g c i C k
def inS (g : Gr) (c : Nat → Int) (i : Nat) (C : Nat → Int) : Nat → (Nat → Int)
  | 0 => C
  | k + 1 => match (g.tr i)[k]? with | some t => stepS (inS g c i C k) i t (c (k + 1)) | none => inS g c i C k
def rowI (g : Gr) (B : List Nat) (c : Nat → Int) (C : Nat → Int) (i : Nat) : Nat → Int := if g.on B i then inI g c i C (g.tr i).length else C
def rowS (g : Gr) (B : List Nat) (c : Nat → Int) (C : Nat → Int) (i : Nat) : Nat → Int := if g.on B i then inS g c i C (g.tr i).length else C
def passI (g : Gr) (B : List Nat) (c : Nat → Int) (C : Nat → Int) : Nat → (Nat → Int)
  | 0 => C
  | i + 1 => rowI g B c (passI g B c C i) i
def passS (g : Gr) (B : List Nat) (c : Nat → Int) (C : Nat → Int) : Nat → (Nat → Int)
  | 0 => C
  | i + 1 => rowS g B c (passS g B c C i) i
def initI (g : Gr) (B : List Nat) : Nat → Int := fun i => if g.sp i && !B.contains i then 0 else 1000
def initS (g : Gr) (B : List Nat) : Nat → Int := fun i => if g.sp i && !B.contains i then 0 else -1
def runI (g : Gr) (B : List Nat) (c : Nat → Int) : Nat → (Nat → Int)
  | 0 => initI g B
  | r + 1 => passI g B c (runI g B c r) g.n
def runS (g : Gr) (B : List Nat) (c : Nat → Int) : Nat → (Nat → Int)
  | 0 => initS g B
  | r + 1 => passS g B c (runS g B c r) g.n
def CostOk (c : Nat → Int) : Prop := ∀ k, k < 4 → 1 ≤ c (k + 1) ∧ c (k + 1) ≤ 4

/-! The two agree. -/
def Rel (b : Int) (C D : Nat → Int) : Prop := ∀ j, (C j = 1000 ∧ D j = -1) ∨ (0 ≤ C j ∧ C j ≤ b ∧ D j = C j)
def RelR (i : Nat) (b : Int) (C D : Nat → Int) : Prop := ∀ j, (C j = 1000 ∧ D j = -1) ∨ (0 ≤ C j ∧ C j ≤ (if j = i then b + 4 else b) ∧ D j = C j)
theorem Rel.row {b : Int} {C D : Nat → Int} (h : Rel b C D) (i : Nat) : RelR i b C D := fun j => by
  rcases h j with h | ⟨h1, h2, h3⟩
  · exact Or.inl h
  · refine Or.inr ⟨h1, ?_, h3⟩
    by_cases e : j = i
    · rw [if_pos e]; omega
    · rw [if_neg e]; exact h2
theorem RelR.rel {b : Int} {i : Nat} {C D : Nat → Int} (h : RelR i b C D) : Rel (b + 4) C D := fun j => by
  rcases h j with h | ⟨h1, h2, h3⟩
  · exact Or.inl h
  · refine Or.inr ⟨h1, ?_, h3⟩
    by_cases e : j = i
    · rw [if_pos e] at h2; exact h2
    · rw [if_neg e] at h2; omega
theorem Rel.mono {b b' : Int} {C D : Nat → Int} (h : Rel b C D) (hb : b ≤ b') : Rel b' C D := fun j => by
  rcases h j with h | ⟨h1, h2, h3⟩
  · exact Or.inl h
  · exact Or.inr ⟨h1, by omega, h3⟩
theorem RelR.step {b : Int} {i t : Nat} {s : Int} {C D : Nat → Int} (h : RelR i b C D) (ht : t ≠ i) (h1 : 1 ≤ s) (h4 : s ≤ 4) (hb : b + 4 < 1000) : RelR i b (stepI C i t s) (stepS D i t s) := fun j => by
  unfold stepI stepS
  by_cases e : j = i
  · subst e
    simp only [if_true]
    have hj := h j
    have hk := h t
    rw [if_pos rfl] at hj
    rw [if_neg ht] at hk
    rcases hk with ⟨k1, k2⟩ | ⟨k1, k2, k3⟩
    · rw [k1, k2, if_neg (by omega)]
      rcases hj with ⟨j1, j2⟩ | ⟨j1, j2, j3⟩
      · exact Or.inl ⟨by rw [j1, Int.min_eq_left (by omega)], j2⟩
      · rw [Int.min_eq_left (by omega)]
        exact Or.inr ⟨j1, j2, j3⟩
    · rw [k3]
      rcases hj with ⟨j1, j2⟩ | ⟨j1, j2, j3⟩
      · rw [j1, j2, if_pos (by omega), Int.min_eq_right (by omega)]
        exact Or.inr ⟨by omega, by omega, by omega⟩
      · rw [j3]
        by_cases hl : s + C t < C j
        · rw [if_pos (by omega), Int.min_eq_right (by omega)]
          exact Or.inr ⟨by omega, by omega, by omega⟩
        · rw [if_neg (by omega), Int.min_eq_left (by omega)]
          exact Or.inr ⟨j1, j2, rfl⟩
  · simp only [if_neg e]
    have hj := h j
    rw [if_neg e] at hj
    exact hj
theorem RelR.inn {g : Gr} (hg : g.Ok) {c : Nat → Int} (hc : CostOk c) {b : Int} {i : Nat} {C D : Nat → Int} (h : RelR i b C D) (hb : b + 4 < 1000) : ∀ k, RelR i b (inI g c i C k) (inS g c i D k)
  | 0 => h
  | k + 1 => by
    have ih := RelR.inn hg hc h hb k
    unfold inI inS
    cases ht : (g.tr i)[k]? with
    | none => exact ih
    | some t =>
      have hk := (List.getElem?_eq_some_iff.1 ht).1
      have h4 := hg.four i
      obtain ⟨c1, c4⟩ := hc k (by omega)
      exact ih.step (hg.ne i t (List.mem_of_getElem? ht)) c1 c4 hb
theorem Rel.rows {g : Gr} (hg : g.Ok) {c : Nat → Int} (hc : CostOk c) {b : Int} {B : List Nat} {C D : Nat → Int} (h : Rel b C D) (hb : b + 4 < 1000) (i : Nat) : Rel (b + 4) (rowI g B c C i) (rowS g B c D i) := by
  unfold rowI rowS
  by_cases ho : g.on B i = true
  · rw [if_pos ho, if_pos ho]
    exact ((h.row i).inn hg hc hb _).rel
  · rw [if_neg ho, if_neg ho]
    exact h.mono (by omega)
theorem Rel.pass {g : Gr} (hg : g.Ok) {c : Nat → Int} (hc : CostOk c) {b : Int} {B : List Nat} {C D : Nat → Int} (h : Rel b C D) : ∀ i : Nat, b + 4 * (i : Int) < 1000 → Rel (b + 4 * (i : Int)) (passI g B c C i) (passS g B c D i)
  | 0, _ => h.mono (by omega)
  | i + 1, hb => by
    unfold passI passS
    exact ((Rel.pass hg hc h i (by omega)).rows hg hc (by omega) i).mono (by omega)
theorem Rel.run {g : Gr} (hg : g.Ok) (hn : g.n ≤ 12) {c : Nat → Int} (hc : CostOk c) {B : List Nat} : ∀ r : Nat, r ≤ 12 → Rel (48 * (r : Int)) (runI g B c r) (runS g B c r)
  | 0, _ => fun j => by
    unfold runI runS initI initS
    by_cases h : (g.sp j && !B.contains j) = true
    · rw [if_pos h, if_pos h]; exact Or.inr ⟨by omega, by omega, rfl⟩
    · rw [if_neg h, if_neg h]; exact Or.inl ⟨rfl, rfl⟩
  | r + 1, hr => by
    unfold runI runS
    exact (Rel.pass hg hc (Rel.run hg hn hc r (by omega)) g.n (by omega)).mono (by omega)
end Go.Proofs.Ytlbnebmdolnagaa

namespace Go.Proofs.Ytlbnebmdolnagaa

theorem stepI_le (C : Nat → Int) (i t : Nat) (s : Int) (j : Nat) : stepI C i t s j ≤ C j := by
  unfold stepI
  by_cases e : j = i
  · subst e; rw [if_pos rfl]; omega
  · rw [if_neg e]; omega
theorem stepI_mono {C C' : Nat → Int} (h : ∀ j, C j ≤ C' j) (i t : Nat) (s : Int) (j : Nat) : stepI C i t s j ≤ stepI C' i t s j := by
  unfold stepI
  have h1 := h i
  have h2 := h t
  have h3 := h j
  by_cases e : j = i
  · rw [if_pos e, if_pos e]; omega
  · rw [if_neg e, if_neg e]; exact h3
theorem stepI_other {C : Nat → Int} {i t : Nat} {s : Int} {j : Nat} (h : j ≠ i) : stepI C i t s j = C j := by unfold stepI; rw [if_neg h]
theorem stepI_self {C : Nat → Int} {i t : Nat} {s : Int} : stepI C i t s i = min (C i) (C t + s) := by unfold stepI; rw [if_pos rfl]

section
variable {g : Gr} {B : List Nat} {c : Nat → Int}
theorem inI_succ {i k t : Nat} {C : Nat → Int} (h : (g.tr i)[k]? = some t) : inI g c i C (k + 1) = stepI (inI g c i C k) i t (c (k + 1)) := by
  rw [inI, h]
theorem inI_end {i k : Nat} {C : Nat → Int} (h : (g.tr i)[k]? = none) : inI g c i C (k + 1) = inI g c i C k := by
  rw [inI, h]
theorem inI_le1 (i k : Nat) (C : Nat → Int) (j : Nat) : inI g c i C (k + 1) j ≤ inI g c i C k j := by
  cases h : (g.tr i)[k]? with
  | none => rw [inI_end h]; omega
  | some t => rw [inI_succ h]; exact stepI_le _ _ _ _ _
theorem inI_le (i : Nat) (C : Nat → Int) (j : Nat) : ∀ {k m : Nat}, k ≤ m → inI g c i C m j ≤ inI g c i C k j := by
  intro k m h
  induction m with
  | zero => rw [Nat.le_zero.1 h]; omega
  | succ m ih =>
    by_cases e : k = m + 1
    · rw [e]; omega
    · have := ih (by omega)
      have := inI_le1 (g := g) (c := c) i m C j
      omega
theorem inI_mono {C C' : Nat → Int} (h : ∀ j, C j ≤ C' j) (i : Nat) : ∀ (k j : Nat), inI g c i C k j ≤ inI g c i C' k j
  | 0, j => h j
  | k + 1, j => by
    have ih := inI_mono h i k
    cases ht : (g.tr i)[k]? with
    | none => rw [inI_end ht, inI_end ht]; exact ih j
    | some t => rw [inI_succ ht, inI_succ ht]; exact stepI_mono ih _ _ _ _
theorem inI_other {i j : Nat} (h : j ≠ i) (C : Nat → Int) : ∀ k, inI g c i C k j = C j
  | 0 => rfl
  | k + 1 => by
    have ih := inI_other h C k
    cases ht : (g.tr i)[k]? with
    | none => rw [inI_end ht]; exact ih
    | some t => rw [inI_succ ht, stepI_other h]; exact ih
theorem rowI_le (C : Nat → Int) (i j : Nat) : rowI g B c C i j ≤ C j := by
  unfold rowI
  by_cases h : g.on B i = true
  · rw [if_pos h]; exact inI_le i C j (Nat.zero_le _)
  · rw [if_neg h]; omega
theorem rowI_mono {C C' : Nat → Int} (h : ∀ j, C j ≤ C' j) (i j : Nat) : rowI g B c C i j ≤ rowI g B c C' i j := by
  unfold rowI
  by_cases ho : g.on B i = true
  · rw [if_pos ho, if_pos ho]; exact inI_mono h i _ j
  · rw [if_neg ho, if_neg ho]; exact h j
theorem rowI_other {C : Nat → Int} {i j : Nat} (h : j ≠ i) : rowI g B c C i j = C j := by
  unfold rowI
  by_cases ho : g.on B i = true
  · rw [if_pos ho]; exact inI_other h C _
  · rw [if_neg ho]
theorem rowI_off {C : Nat → Int} {i : Nat} (h : g.on B i = false) : rowI g B c C i = C := by
  unfold rowI
  rw [if_neg (by rw [h]; simp)]
/-- Behind its row a member's cost is no more than by any of its steps. -/
theorem rowI_step (hg : g.Ok) {C : Nat → Int} {i k t : Nat} (ho : g.on B i = true) (ht : (g.tr i)[k]? = some t) : rowI g B c C i i ≤ C t + c (k + 1) := by
  unfold rowI
  rw [if_pos ho]
  have h1 := inI_le (g := g) (c := c) i C i (k := k + 1) (m := (g.tr i).length) (List.getElem?_eq_some_iff.1 ht).1
  rw [inI_succ ht, stepI_self, inI_other (hg.ne i t (List.mem_of_getElem? ht))] at h1
  omega
theorem passI_le1 (C : Nat → Int) (i j : Nat) : passI g B c C (i + 1) j ≤ passI g B c C i j := rowI_le _ _ _
theorem passI_le (C : Nat → Int) (j : Nat) : ∀ {k m : Nat}, k ≤ m → passI g B c C m j ≤ passI g B c C k j := by
  intro k m h
  induction m with
  | zero => rw [Nat.le_zero.1 h]; omega
  | succ m ih =>
    by_cases e : k = m + 1
    · rw [e]; omega
    · have := ih (by omega)
      have := passI_le1 (g := g) (B := B) (c := c) C m j
      omega
theorem passI_mono {C C' : Nat → Int} (h : ∀ j, C j ≤ C' j) : ∀ (i j : Nat), passI g B c C i j ≤ passI g B c C' i j
  | 0, j => h j
  | i + 1, j => rowI_mono (passI_mono h i) i j
theorem passI_off {C : Nat → Int} {j : Nat} (h : g.on B j = false) : ∀ i, passI g B c C i j = C j
  | 0 => rfl
  | i + 1 => by
    have ih := passI_off (C := C) h i
    by_cases e : j = i
    · subst e
      rw [passI, rowI_off h]; exact ih
    · rw [passI, rowI_other e]; exact ih
theorem passI_out {C : Nat → Int} {j : Nat} : ∀ i, i ≤ j → passI g B c C i j = C j
  | 0, _ => rfl
  | i + 1, h => by rw [passI, rowI_other (by omega)]; exact passI_out i (by omega)
theorem runI_le1 (r j : Nat) : runI g B c (r + 1) j ≤ runI g B c r j := passI_le _ j (Nat.zero_le _)
theorem runI_le (j : Nat) : ∀ {k m : Nat}, k ≤ m → runI g B c m j ≤ runI g B c k j := by
  intro k m h
  induction m with
  | zero => rw [Nat.le_zero.1 h]; omega
  | succ m ih =>
    by_cases e : k = m + 1
    · rw [e]; omega
    · have := ih (by omega)
      have := runI_le1 (g := g) (B := B) (c := c) m j
      omega
theorem runI_off {j : Nat} (h : g.on B j = false) : ∀ r, runI g B c r j = initI g B j
  | 0 => rfl
  | r + 1 => by rw [runI, passI_off h]; exact runI_off h r
theorem runI_out {j : Nat} (h : g.n ≤ j) : ∀ r, runI g B c r j = initI g B j
  | 0 => rfl
  | r + 1 => by rw [runI, passI_out _ h]; exact runI_out h r
theorem runI_stay {N : Nat} (h : runI g B c (N + 1) = runI g B c N) : ∀ m, runI g B c (N + m) = runI g B c N
  | 0 => rfl
  | m + 1 => by
    show passI g B c (runI g B c (N + m)) g.n = _
    rw [runI_stay h m]
    exact h

/-! What each state keeps. -/
structure Keeps (g : Gr) (B : List Nat) (c : Nat → Int) (C : Nat → Int) : Prop where
  pos : ∀ j, 0 ≤ C j
  top : ∀ j, C j ≤ 1000
  sup : ∀ i, g.on B i = true → C i < 1000 → ∃ k t, (g.tr i)[k]? = some t ∧ C t + c (k + 1) ≤ C i
  snd : ∀ i, C i < 1000 → Reach g B i
theorem Keeps.init : Keeps g B c (initI g B) where
  pos j := by unfold initI; split <;> omega
  top j := by unfold initI; split <;> omega
  sup i ho h := by
    unfold initI at h
    unfold Gr.on at ho
    cases hs : g.sp i with
    | true => rw [hs] at ho; cases ho
    | false => rw [hs] at h; simp at h
  snd i h := by
    unfold initI at h
    by_cases e : (g.sp i && !B.contains i) = true
    · rw [Bool.and_eq_true, Bool.not_eq_true'] at e
      exact Reach.sp i e.2 e.1
    · rw [if_neg e] at h; omega
theorem Keeps.step (hg : g.Ok) (hc : CostOk c) {C : Nat → Int} (h : Keeps g B c C) {i k t : Nat} (ho : g.on B i = true) (ht : (g.tr i)[k]? = some t) : Keeps g B c (stepI C i t (c (k + 1))) where
  pos j := by
    have h1 := h.pos i
    have h2 := h.pos t
    have h3 := h.pos j
    have := (hc k (by have := hg.four i; have := (List.getElem?_eq_some_iff.1 ht).1; omega)).1
    unfold stepI
    split <;> omega
  top j := Int.le_trans (stepI_le _ _ _ _ _) (h.top j)
  sup j hj hlt := by
    have hne := hg.ne i t (List.mem_of_getElem? ht)
    by_cases e : j = i
    · subst e
      rw [stepI_self] at hlt ⊢
      by_cases hm : C j ≤ C t + c (k + 1)
      · obtain ⟨k', t', h1, h2⟩ := h.sup j hj (by omega)
        exact ⟨k', t', h1, by rw [stepI_other (hg.ne j t' (List.mem_of_getElem? h1))]; omega⟩
      · exact ⟨k, t, ht, by rw [stepI_other hne]; omega⟩
    · rw [stepI_other e] at hlt ⊢
      obtain ⟨k', t', h1, h2⟩ := h.sup j hj hlt
      have := stepI_le C i t (c (k + 1)) t'
      exact ⟨k', t', h1, by omega⟩
  snd j hlt := by
    by_cases e : j = i
    · subst e
      rw [stepI_self] at hlt
      have := (hc k (by have := hg.four j; have := (List.getElem?_eq_some_iff.1 ht).1; omega)).1
      by_cases hm : C j < 1000
      · exact h.snd j hm
      · exact Reach.st j t ho (List.mem_of_getElem? ht) (h.snd t (by omega))
    · rw [stepI_other e] at hlt
      exact h.snd j hlt
theorem Keeps.inn (hg : g.Ok) (hc : CostOk c) {C : Nat → Int} (h : Keeps g B c C) {i : Nat} (ho : g.on B i = true) : ∀ k, Keeps g B c (inI g c i C k)
  | 0 => h
  | k + 1 => by
    have ih := Keeps.inn hg hc h ho k
    cases ht : (g.tr i)[k]? with
    | none => rw [inI_end ht]; exact ih
    | some t => rw [inI_succ ht]; exact ih.step hg hc ho ht
theorem Keeps.pass (hg : g.Ok) (hc : CostOk c) {C : Nat → Int} (h : Keeps g B c C) : ∀ i, Keeps g B c (passI g B c C i)
  | 0 => h
  | i + 1 => by
    have ih := Keeps.pass hg hc h i
    rw [passI]
    unfold rowI
    by_cases ho : g.on B i = true
    · rw [if_pos ho]; exact ih.inn hg hc ho _
    · rw [if_neg ho]; exact ih
theorem Keeps.run (hg : g.Ok) (hc : CostOk c) : ∀ r, Keeps g B c (runI g B c r)
  | 0 => Keeps.init
  | r + 1 => (Keeps.run hg hc r).pass hg hc g.n

/-! A state that stands still. -/
theorem sq {C F : Nat → Int} (h1 : ∀ j, C j ≤ F j) (h2 : ∀ j, F j ≤ C j) : C = F := funext fun j => Int.le_antisymm (h1 j) (h2 j)
theorem fix_step (hg : g.Ok) {F : Nat → Int} (h : passI g B c F g.n = F) {i k t : Nat} (hi : i < g.n) (ho : g.on B i = true) (ht : (g.tr i)[k]? = some t) : F i ≤ F t + c (k + 1) := by
  have e : passI g B c F i = F := sq (fun j => passI_le F j (Nat.zero_le _)) (fun j => by
    have := passI_le (g := g) (B := B) (c := c) F j (Nat.le_of_lt hi)
    rwa [h] at this)
  have h1 := passI_le (g := g) (B := B) (c := c) F i (Nat.succ_le_of_lt hi)
  rw [h, passI, e] at h1
  exact Int.le_trans h1 (rowI_step hg ho ht)
def sumN (C : Nat → Int) : Nat → Nat
  | 0 => 0
  | n + 1 => sumN C n + (C n).toNat
theorem sumN_le {C D : Nat → Int} (h : ∀ j, C j ≤ D j) : ∀ n, sumN C n ≤ sumN D n
  | 0 => Nat.le_refl _
  | n + 1 => by
    have := sumN_le h n
    have := h n
    unfold sumN
    omega
theorem sumN_lt {C D : Nat → Int} (h : ∀ j, C j ≤ D j) (h0 : ∀ j, 0 ≤ C j) : ∀ n, (∃ j, j < n ∧ C j ≠ D j) → sumN C n < sumN D n
  | 0, ⟨j, hj, _⟩ => absurd hj (Nat.not_lt_zero _)
  | n + 1, ⟨j, hj, hne⟩ => by
    have h1 := h n
    have h2 := h0 n
    have h3 := sumN_le h n
    unfold sumN
    by_cases e : j = n
    · subst e; omega
    · have := sumN_lt h h0 n ⟨j, by omega, hne⟩
      omega
theorem stands (hg : g.Ok) (hc : CostOk c) : ∃ N, runI g B c (N + 1) = runI g B c N := by
  apply Classical.byContradiction
  intro hno
  have hd : ∀ r, sumN (runI g B c r) g.n + r ≤ sumN (runI g B c 0) g.n := by
    intro r
    induction r with
    | zero => omega
    | succ r ih =>
      have hne : ∃ j, j < g.n ∧ runI g B c (r + 1) j ≠ runI g B c r j := by
        apply Classical.byContradiction
        intro hn
        refine hno ⟨r, funext fun j => ?_⟩
        by_cases hj : j < g.n
        · exact Classical.byContradiction fun h => hn ⟨j, hj, h⟩
        · rw [runI_out (by omega), runI_out (by omega)]
      have := sumN_lt (C := runI g B c (r + 1)) (D := runI g B c r) (fun j => runI_le1 r j) (Keeps.run hg hc (r + 1)).pos g.n hne
      omega
  have := hd (sumN (runI g B c 0) g.n + 1)
  omega

/-! Behind as many rounds as members. -/
def rk (F : Nat → Int) (n i : Nat) : Nat := ((List.range n).filter (fun j => decide (F j < F i))).length
theorem filter_le {p q : Nat → Bool} (h : ∀ j, p j = true → q j = true) : ∀ l : List Nat, (l.filter p).length ≤ (l.filter q).length
  | [] => Nat.le_refl _
  | a :: l => by
    have ih := filter_le h l
    cases hp : p a with
    | true => rw [List.filter_cons_of_pos hp, List.filter_cons_of_pos (h a hp)]; simpa using ih
    | false =>
      rw [List.filter_cons_of_neg (by rw [hp]; simp)]
      cases hq : q a with
      | true => rw [List.filter_cons_of_pos hq, List.length_cons]; omega
      | false => rw [List.filter_cons_of_neg (by rw [hq]; simp)]; exact ih
theorem filter_lt {p q : Nat → Bool} (h : ∀ j, p j = true → q j = true) {t : Nat} (hp : p t = false) (hq : q t = true) : ∀ l : List Nat, t ∈ l → (l.filter p).length < (l.filter q).length
  | a :: l, hm => by
    by_cases e : t = a
    · subst e
      have := filter_le h l
      rw [List.filter_cons_of_neg (by rw [hp]; simp), List.filter_cons_of_pos hq, List.length_cons]
      omega
    · have ih := filter_lt h hp hq l (by rcases List.mem_cons.1 hm with hm | hm; exact absurd hm e; exact hm)
      cases hpa : p a with
      | true => rw [List.filter_cons_of_pos hpa, List.filter_cons_of_pos (h a hpa)]; simpa using ih
      | false =>
        rw [List.filter_cons_of_neg (by rw [hpa]; simp)]
        cases hqa : q a with
        | true => rw [List.filter_cons_of_pos hqa, List.length_cons]; omega
        | false => rw [List.filter_cons_of_neg (by rw [hqa]; simp)]; exact ih
theorem rk_lt {F : Nat → Int} {n i t : Nat} (ht : t < n) (h : F t < F i) : rk F n t < rk F n i :=
  filter_lt (t := t) (fun j hj => by rw [decide_eq_true_eq] at hj ⊢; omega) (by simp) (by simpa using h) _ (List.mem_range.2 ht)
theorem rk_n {F : Nat → Int} {n i : Nat} (hi : i < n) : rk F n i < n := by
  have h := filter_lt (p := fun j => decide (F j < F i)) (q := fun _ => true) (t := i) (fun _ _ => rfl) (by simp) rfl _ (List.mem_range.2 hi)
  rw [List.filter_eq_self.2 (fun _ _ => rfl), List.length_range] at h
  exact h
theorem near (hg : g.Ok) (hc : CostOk c) {F : Nat → Int} (hF : Keeps g B c F) (ho' : ∀ i, g.on B i = false → F i = initI g B i) : ∀ (r i : Nat), i < g.n → F i < 1000 → rk F g.n i ≤ r → runI g B c r i ≤ F i := by
  intro r
  induction r with
  | zero =>
    intro i hi hlt hr
    cases ho : g.on B i with
    | false => rw [runI_off ho, ho' i ho]; omega
    | true =>
      obtain ⟨k, t, ht, hle⟩ := hF.sup i ho hlt
      have := (hc k (by have := hg.four i; have := (List.getElem?_eq_some_iff.1 ht).1; omega)).1
      have := rk_lt (F := F) (n := g.n) (i := i) (hg.lt i hi t (List.mem_of_getElem? ht)) (by omega)
      omega
  | succ r ih =>
    intro i hi hlt hr
    cases ho : g.on B i with
    | false => rw [runI_off ho, ho' i ho]; omega
    | true =>
      obtain ⟨k, t, ht, hle⟩ := hF.sup i ho hlt
      have := (hc k (by have := hg.four i; have := (List.getElem?_eq_some_iff.1 ht).1; omega)).1
      have htn := hg.lt i hi t (List.mem_of_getElem? ht)
      have h1 := rk_lt (F := F) (n := g.n) (i := i) htn (by omega)
      have h2 := ih t htn (by omega) (by omega)
      have h3 := passI_le (g := g) (B := B) (c := c) (runI g B c r) i (k := i + 1) (m := g.n) hi
      have h4 : passI g B c (runI g B c r) (i + 1) i ≤ passI g B c (runI g B c r) i t + c (k + 1) := rowI_step hg ho ht
      have h5 := passI_le (g := g) (B := B) (c := c) (runI g B c r) t (Nat.zero_le i)
      have h6 : passI g B c (runI g B c r) 0 t = runI g B c r t := rfl
      rw [runI]
      omega
theorem still (hg : g.Ok) (hc : CostOk c) : passI g B c (runI g B c g.n) g.n = runI g B c g.n := by
  obtain ⟨N, hN⟩ := stands (g := g) (B := B) hg hc
  have hk := Keeps.run (B := B) hg hc N
  have e : runI g B c g.n = runI g B c N := by
    rcases Nat.le_total N g.n with h | h
    · have := runI_stay hN (g.n - N)
      rwa [show N + (g.n - N) = g.n by omega] at this
    · refine sq (fun j => ?_) (fun j => runI_le j h)
      by_cases hj : j < g.n
      · by_cases hf : runI g B c N j < 1000
        · exact near hg hc hk (fun i ho => runI_off ho N) g.n j hj hf (Nat.le_of_lt (rk_n hj))
        · have := (Keeps.run (B := B) hg hc g.n).top j
          omega
      · rw [runI_out (by omega), runI_out (by omega)]; omega
  rw [e]
  exact hN
/-- A member's cost is finite exactly if a way leads on from it. -/
theorem fin_iff (hg : g.Ok) (hn : g.n ≤ 12) (hc : CostOk c) {i : Nat} (hi : i < g.n) : runI g B c g.n i < 1000 ↔ Reach g B i := by
  refine ⟨(Keeps.run hg hc g.n).snd i, fun h => ?_⟩
  induction h with
  | sp i hb hs =>
    have h1 := runI_le (g := g) (B := B) (c := c) i (Nat.zero_le g.n)
    have h2 : runI g B c 0 i = 0 := by
      show initI g B i = 0
      unfold initI
      rw [hs, hb]
      rfl
    omega
  | st i t ho ht _ ih =>
    obtain ⟨k, hk⟩ := List.mem_iff_getElem?.1 ht
    have h1 := ih (hg.lt i hi t ht)
    have h2 := fix_step hg (still (B := B) hg hc) hi ho hk
    have h3 := (hc k (by have := hg.four i; have := (List.getElem?_eq_some_iff.1 hk).1; omega)).2
    rcases Rel.run hg hn hc (B := B) g.n hn t with h4 | h4 <;> omega
/-- A next step that fits. -/
theorem next_fits (hg : g.Ok) (hc : CostOk c) {i : Nat} (hi : i < g.n) (ho : g.on B i = true) (h : runI g B c g.n i < 1000) : ∃ k t, (g.tr i)[k]? = some t ∧ runI g B c g.n t + c (k + 1) = runI g B c g.n i := by
  obtain ⟨k, t, ht, hle⟩ := (Keeps.run (B := B) hg hc g.n).sup i ho h
  have := fix_step hg (still (B := B) hg hc) hi ho ht
  exact ⟨k, t, ht, by omega⟩
/-- In the depth: from a member that does not speak a way leads on beside it. -/
theorem deep_fits {at0 : Nat} (ha : g.sp at0 = false) {x : Nat} (h : Reach g B x) : Reach g (B ++ [at0]) x ∨ ∃ t ∈ g.tr at0, Reach g (B ++ [at0]) t := by
  have hcn : ∀ y, y ≠ at0 → B.contains y = false → (B ++ [at0]).contains y = false := fun y hy hb => by
    have h1 : ¬ y ∈ B := by simpa using hb
    simp [h1, hy]
  induction h with
  | sp i hb hs =>
    exact Or.inl (Reach.sp i (hcn i (fun e => by rw [e, ha] at hs; cases hs) hb) hs)
  | st i t ho ht _ ih =>
    rcases ih with ih | ih
    · by_cases e : i = at0
      · subst e; exact Or.inr ⟨t, ht, ih⟩
      · refine Or.inl (Reach.st i t ?_ ht ih)
        unfold Gr.on at ho ⊢
        rw [Bool.and_eq_true, Bool.not_eq_true', Bool.not_eq_true'] at ho ⊢
        exact ⟨ho.1, hcn i e ho.2⟩
    · exact Or.inr ih
end
end Go.Proofs.Ytlbnebmdolnagaa

namespace Go.Proofs.Ytlbnebmdolnagaa

/-- The state of the search for ends: barred B, seen B ++ S, open O, ends E. -/
structure Bfs (g : Gr) (B : List Nat) (m : Nat) (S O E : List Nat) : Prop where
  son : ∀ x ∈ S, x < g.n ∧ ¬ x ∈ B
  oon : ∀ x ∈ O, x < g.n
  nd : S.Nodup
  ends : ∀ x ∈ E, x ∈ S ∧ g.sp x = true
  sp : ∀ x ∈ S, g.sp x = true → x ∈ E
  tr : ∀ x ∈ S, g.sp x = false → ∀ u ∈ g.tr x, u ∈ B ∨ u ∈ S ∨ u ∈ O
  start : m ∈ B ∨ m ∈ S ∨ m ∈ O
  backS : ∀ x ∈ S, Reach g B x → Reach g B m
  backO : ∀ x ∈ O, Reach g B x → Reach g B m
theorem Bfs.init {g : Gr} {B : List Nat} {m : Nat} (hm : m < g.n) : Bfs g B m [] [m] [] where
  son x h := by cases h
  oon x h := by rw [List.mem_singleton.1 h]; exact hm
  nd := List.nodup_nil
  ends x h := by cases h
  sp x h := by cases h
  tr x h := by cases h
  start := Or.inr (Or.inr (List.mem_singleton.2 rfl))
  backS x h := by cases h
  backO x h := by rw [List.mem_singleton.1 h]; exact id
theorem Bfs.skip {g : Gr} {B S O E : List Nat} {m x : Nat} (h : Bfs g B m S (x :: O) E) (hx : x ∈ B ∨ x ∈ S) : Bfs g B m S O E where
  son := h.son
  oon y hy := h.oon y (List.mem_cons_of_mem _ hy)
  nd := h.nd
  ends := h.ends
  sp := h.sp
  tr y hy hs u hu := by
    rcases h.tr y hy hs u hu with h1 | h1 | h1
    · exact Or.inl h1
    · exact Or.inr (Or.inl h1)
    · rcases List.mem_cons.1 h1 with rfl | h1
      · rcases hx with hx | hx
        · exact Or.inl hx
        · exact Or.inr (Or.inl hx)
      · exact Or.inr (Or.inr h1)
  start := by
    rcases h.start with h1 | h1 | h1
    · exact Or.inl h1
    · exact Or.inr (Or.inl h1)
    · rcases List.mem_cons.1 h1 with rfl | h1
      · rcases hx with hx | hx
        · exact Or.inl hx
        · exact Or.inr (Or.inl hx)
      · exact Or.inr (Or.inr h1)
  backS := h.backS
  backO y hy := h.backO y (List.mem_cons_of_mem _ hy)
theorem mem_snoc {x y : Nat} {S : List Nat} : y ∈ S ++ [x] ↔ y ∈ S ∨ y = x := by simp
theorem nodup_snoc {x : Nat} {S : List Nat} (h : S.Nodup) (hx : ¬ x ∈ S) : (S ++ [x]).Nodup := by
  rw [List.nodup_append]
  exact ⟨h, by simp, fun a ha b hb => by rw [List.mem_singleton.1 hb]; exact fun e => hx (e ▸ ha)⟩
theorem Bfs.endd {g : Gr} {B S O E : List Nat} {m x : Nat} (h : Bfs g B m S (x :: O) E) (hb : ¬ x ∈ B) (hs : ¬ x ∈ S) (hx : g.sp x = true) : Bfs g B m (S ++ [x]) O (E ++ [x]) where
  son y hy := by
    rcases mem_snoc.1 hy with hy | rfl
    · exact h.son y hy
    · exact ⟨h.oon y (List.mem_cons_self ..), hb⟩
  oon y hy := h.oon y (List.mem_cons_of_mem _ hy)
  nd := nodup_snoc h.nd hs
  ends y hy := by
    rcases mem_snoc.1 hy with hy | rfl
    · exact ⟨mem_snoc.2 (Or.inl (h.ends y hy).1), (h.ends y hy).2⟩
    · exact ⟨mem_snoc.2 (Or.inr rfl), hx⟩
  sp y hy hsp := by
    rcases mem_snoc.1 hy with hy | rfl
    · exact mem_snoc.2 (Or.inl (h.sp y hy hsp))
    · exact mem_snoc.2 (Or.inr rfl)
  tr y hy hsp u hu := by
    rcases mem_snoc.1 hy with hy | rfl
    · rcases h.tr y hy hsp u hu with h1 | h1 | h1
      · exact Or.inl h1
      · exact Or.inr (Or.inl (mem_snoc.2 (Or.inl h1)))
      · rcases List.mem_cons.1 h1 with rfl | h1
        · exact Or.inr (Or.inl (mem_snoc.2 (Or.inr rfl)))
        · exact Or.inr (Or.inr h1)
    · rw [hx] at hsp; cases hsp
  start := by
    rcases h.start with h1 | h1 | h1
    · exact Or.inl h1
    · exact Or.inr (Or.inl (mem_snoc.2 (Or.inl h1)))
    · rcases List.mem_cons.1 h1 with rfl | h1
      · exact Or.inr (Or.inl (mem_snoc.2 (Or.inr rfl)))
      · exact Or.inr (Or.inr h1)
  backS y hy := by
    rcases mem_snoc.1 hy with hy | rfl
    · exact h.backS y hy
    · exact h.backO y (List.mem_cons_self ..)
  backO y hy := h.backO y (List.mem_cons_of_mem _ hy)
theorem Bfs.more {g : Gr} (hg : g.Ok) {B S O E : List Nat} {m x : Nat} (h : Bfs g B m S (x :: O) E) (hb : ¬ x ∈ B) (hs : ¬ x ∈ S) (hx : g.sp x = false) : Bfs g B m (S ++ [x]) (O ++ g.tr x) E where
  son y hy := by
    rcases mem_snoc.1 hy with hy | rfl
    · exact h.son y hy
    · exact ⟨h.oon y (List.mem_cons_self ..), hb⟩
  oon y hy := by
    rcases List.mem_append.1 hy with hy | hy
    · exact h.oon y (List.mem_cons_of_mem _ hy)
    · exact hg.lt x (h.oon x (List.mem_cons_self ..)) y hy
  nd := nodup_snoc h.nd hs
  ends y hy := ⟨mem_snoc.2 (Or.inl (h.ends y hy).1), (h.ends y hy).2⟩
  sp y hy hsp := by
    rcases mem_snoc.1 hy with hy | rfl
    · exact h.sp y hy hsp
    · rw [hx] at hsp; cases hsp
  tr y hy hsp u hu := by
    rcases mem_snoc.1 hy with hy | rfl
    · rcases h.tr y hy hsp u hu with h1 | h1 | h1
      · exact Or.inl h1
      · exact Or.inr (Or.inl (mem_snoc.2 (Or.inl h1)))
      · rcases List.mem_cons.1 h1 with rfl | h1
        · exact Or.inr (Or.inl (mem_snoc.2 (Or.inr rfl)))
        · exact Or.inr (Or.inr (List.mem_append.2 (Or.inl h1)))
    · exact Or.inr (Or.inr (List.mem_append.2 (Or.inr hu)))
  start := by
    rcases h.start with h1 | h1 | h1
    · exact Or.inl h1
    · exact Or.inr (Or.inl (mem_snoc.2 (Or.inl h1)))
    · rcases List.mem_cons.1 h1 with rfl | h1
      · exact Or.inr (Or.inl (mem_snoc.2 (Or.inr rfl)))
      · exact Or.inr (Or.inr (List.mem_append.2 (Or.inl h1)))
  backS y hy := by
    rcases mem_snoc.1 hy with hy | rfl
    · exact h.backS y hy
    · exact h.backO y (List.mem_cons_self ..)
  backO y hy hr := by
    rcases List.mem_append.1 hy with hy | hy
    · exact h.backO y (List.mem_cons_of_mem _ hy) hr
    · exact h.backO x (List.mem_cons_self ..) (Reach.st x y (by unfold Gr.on; rw [hx]; simpa using hb) hy hr)
theorem Bfs.done {g : Gr} {B S E : List Nat} {m : Nat} (h : Bfs g B m S [] E) : E ≠ [] ↔ Reach g B m := by
  constructor
  · intro hE
    obtain ⟨x, hx⟩ := List.exists_mem_of_ne_nil E hE
    obtain ⟨h1, h2⟩ := h.ends x hx
    exact h.backS x h1 (Reach.sp x (by simpa using (h.son x h1).2) h2)
  · intro hr hE
    have key : ∀ x, Reach g B x → (x ∈ B ∨ x ∈ S) → False := by
      intro x hx
      induction hx with
      | sp i hb hs =>
        rintro (hi | hi)
        · rw [List.contains_iff_mem.2 hi] at hb; cases hb
        · have := h.sp i hi hs
          rw [hE] at this
          cases this
      | st i t ho ht _ ih =>
        unfold Gr.on at ho
        rw [Bool.and_eq_true, Bool.not_eq_true', Bool.not_eq_true'] at ho
        rintro (hi | hi)
        · rw [List.contains_iff_mem.2 hi] at ho; cases ho.2
        · rcases h.tr i hi ho.1 t ht with h1 | h1 | h1
          · exact ih (Or.inl h1)
          · exact ih (Or.inr h1)
          · cases h1
    rcases h.start with h1 | h1 | h1
    · exact key m hr (Or.inl h1)
    · exact key m hr (Or.inr h1)
    · cases h1

/-! The best path. -/
/-- The first in a list that fits. -/
def First (p : Nat → Nat → Prop) (l : List Nat) (t : Nat) : Prop := ∃ k, l[k]? = some t ∧ p k t ∧ ∀ k', k' < k → ∀ t', l[k']? = some t' → ¬ p k' t'
theorem First.one {p : Nat → Nat → Prop} {l : List Nat} {t u : Nat} (h : First p l t) (h' : First p l u) : t = u := by
  obtain ⟨k, h1, h2, h3⟩ := h
  obtain ⟨j, g1, g2, g3⟩ := h'
  rcases Nat.lt_trichotomy k j with e | e | e
  · exact absurd h2 (g3 k e t h1)
  · subst e
    rw [h1] at g1
    exact Option.some.inj g1
  · exact absurd g2 (h3 j e u g1)
theorem First.some {p : Nat → Nat → Prop} {l : List Nat} (h : ∃ k t, l[k]? = some t ∧ p k t) : ∃ t, First p l t := by
  obtain ⟨k, h⟩ := h
  induction k using Nat.strongRecOn with
  | ind k ih =>
    by_cases hs : ∃ k', k' < k ∧ ∃ t', l[k']? = Option.some t' ∧ p k' t'
    · obtain ⟨k', hk, h'⟩ := hs
      exact ih k' hk h'
    · obtain ⟨t, h1, h2⟩ := h
      exact ⟨t, k, h1, h2, fun k' hk t' h3 h4 => hs ⟨k', hk, t', h3, h4⟩⟩
def rankCost (rule : Int) : Nat → Int := fun k => if rule = 1 then (k : Int) else 1
theorem rankCost_ok (rule : Int) : CostOk (rankCost rule) := fun k hk => by unfold rankCost; split <;> omega
/-- t is the step that a path's end takes. -/
def NextT (g : Gr) (rule : Int) (path : List Nat) (at0 t : Nat) : Prop :=
  First (fun k t => if rule = 2 then Reach g path t else runI g [] (rankCost rule) g.n t + rankCost rule (k + 1) = runI g [] (rankCost rule) g.n at0) (g.tr at0) t
/-- Paths as they are made, with their last member. -/
inductive Made (g : Gr) (rule : Int) (m : Nat) : List Nat → Nat → Prop
  | one : Made g rule m [m] m
  | more (p : List Nat) (a t : Nat) : Made g rule m p a → g.sp a = false → NextT g rule p a t → Made g rule m (p ++ [t]) t
theorem Made.len {g : Gr} {rule : Int} {m a : Nat} {p : List Nat} (h : Made g rule m p a) : 0 < p.length := by
  cases h <;> simp
theorem Made.det {g : Gr} {rule : Int} {m a b : Nat} {p q : List Nat} (h : Made g rule m p a) (h' : Made g rule m q b) (hl : p.length = q.length) : p = q ∧ a = b := by
  induction h generalizing q b with
  | one =>
    cases h' with
    | one => exact ⟨rfl, rfl⟩
    | more q' a' t' h1 _ _ =>
      have := h1.len
      simp only [List.length_append, List.length_singleton] at hl
      omega
  | more p a t h1 _ h3 ih =>
    cases h' with
    | one =>
      have := h1.len
      simp only [List.length_append, List.length_singleton] at hl
      omega
    | more q' a' t' g1 _ g3 =>
      obtain ⟨e1, e2⟩ := ih g1 (by simpa using hl)
      subst e1 e2
      have := First.one h3 g3
      subst this
      exact ⟨rfl, rfl⟩
/-- A beginning of a path that was made was made, and does not speak at its end. -/
theorem Made.cut {g : Gr} {rule : Int} {m a : Nat} {p : List Nat} (h : Made g rule m p a) : ∀ k, 0 < k → k < p.length → ∃ b, Made g rule m (p.take k) b ∧ g.sp b = false := by
  induction h with
  | one =>
    intro k h0 h1
    simp at h1
    omega
  | more p a t h1 h2 h3 ih =>
    intro k h0 hk
    rw [List.length_append, List.length_singleton] at hk
    by_cases e : k = p.length
    · rw [List.take_append_of_le_length (by omega), e, List.take_length]
      exact ⟨a, h1, h2⟩
    · rw [List.take_append_of_le_length (by omega)]
      exact ih k h0 (by omega)
/-- The path that ends with one who speaks is one. -/
theorem Made.same {g : Gr} {rule : Int} {m a b : Nat} {p q : List Nat} (h : Made g rule m p a) (h' : Made g rule m q b) (ha : g.sp a = true) (hb : g.sp b = true) : p = q ∧ a = b := by
  rcases Nat.lt_trichotomy p.length q.length with e | e | e
  · obtain ⟨d, h1, h2⟩ := h'.cut p.length h.len e
    obtain ⟨_, e2⟩ := h.det h1 (by rw [List.length_take]; omega)
    rw [← e2, ha] at h2
    cases h2
  · exact h.det h' e
  · obtain ⟨d, h1, h2⟩ := h.cut q.length h'.len e
    obtain ⟨_, e2⟩ := h'.det h1 (by rw [List.length_take]; omega)
    rw [← e2, hb] at h2
    cases h2
end Go.Proofs.Ytlbnebmdolnagaa

namespace Go.Proofs.Ytlbnebmdolnagaa

theorem Reach.free {g : Gr} {B : List Nat} {x : Nat} (h : Reach g B x) : ¬ x ∈ B := by
  cases h with
  | sp _ hb _ => exact fun h => by rw [List.contains_iff_mem.2 h] at hb; cases hb
  | st _ t ho _ _ =>
    unfold Gr.on at ho
    rw [Bool.and_eq_true, Bool.not_eq_true', Bool.not_eq_true'] at ho
    exact fun h => by rw [List.contains_iff_mem.2 h] at ho; cases ho.2
/-- A path under way. -/
structure Going (g : Gr) (rule : Int) (m : Nat) (p : List Nat) (a : Nat) : Prop where
  made : Made g rule m p a
  lt : ∀ x ∈ p, x < g.n
  last : ∃ q, p = q ++ [a]
  cost : rule ≠ 2 → runI g [] (rankCost rule) g.n a < 1000 ∧ (p.length : Int) + runI g [] (rankCost rule) g.n a ≤ 1 + runI g [] (rankCost rule) g.n m
  deep : rule = 2 → p.Nodup ∧ ∀ q, p = q ++ [a] → Reach g q a
theorem Going.alt {g : Gr} {rule : Int} {m a : Nat} {p : List Nat} (h : Going g rule m p a) : a < g.n := by
  obtain ⟨q, hq⟩ := h.last
  exact h.lt a (by rw [hq]; simp)
theorem Going.init {g : Gr} (hg : g.Ok) (hn : g.n ≤ 12) {rule : Int} {m : Nat} (hm : m < g.n) (hr : Reach g [] m) : Going g rule m [m] m where
  made := Made.one
  lt x hx := by rw [List.mem_singleton.1 hx]; exact hm
  last := ⟨[], rfl⟩
  cost _ := ⟨(fin_iff hg hn (rankCost_ok rule) hm).2 hr, by simp⟩
  deep _ := ⟨by simp, fun q hq => by
    cases q with
    | nil => exact hr
    | cons y q => simp at hq⟩
theorem Going.next {g : Gr} (hg : g.Ok) {rule : Int} {m a : Nat} {p : List Nat} (h : Going g rule m p a) (hs : g.sp a = false) : ∃ t, NextT g rule p a t := by
  unfold NextT
  by_cases hr : rule = 2
  · obtain ⟨_, hd⟩ := h.deep hr
    obtain ⟨q, hq⟩ := h.last
    have h1 := hd q hq
    rcases deep_fits hs h1 with h2 | ⟨t, ht, h2⟩
    · exact absurd (by simp : a ∈ q ++ [a]) h2.free
    · obtain ⟨k, hk⟩ := List.mem_iff_getElem?.1 ht
      exact First.some ⟨k, t, hk, by rw [if_pos hr, hq]; exact h2⟩
  · obtain ⟨h1, _⟩ := h.cost hr
    obtain ⟨k, t, hk, he⟩ := next_fits (B := []) hg (rankCost_ok rule) h.alt (by unfold Gr.on; rw [hs]; rfl) h1
    exact First.some ⟨k, t, hk, by rw [if_neg hr]; exact he⟩
theorem Going.more {g : Gr} (hg : g.Ok) {rule : Int} {m a t : Nat} {p : List Nat} (h : Going g rule m p a) (hs : g.sp a = false) (ht : NextT g rule p a t) : Going g rule m (p ++ [t]) t where
  made := Made.more p a t h.made hs ht
  lt x hx := by
    rcases mem_snoc.1 hx with hx | rfl
    · exact h.lt x hx
    · obtain ⟨k, h1, _⟩ := ht
      exact hg.lt a h.alt x (List.mem_of_getElem? h1)
  last := ⟨p, rfl⟩
  cost hr := by
    obtain ⟨h1, h2⟩ := h.cost hr
    obtain ⟨k, h3, h4, _⟩ := ht
    rw [if_neg hr] at h4
    have := (rankCost_ok rule k (by have := hg.four a; have := (List.getElem?_eq_some_iff.1 h3).1; omega)).1
    rw [List.length_append, List.length_singleton]
    omega
  deep hr := by
    obtain ⟨h1, h2⟩ := h.deep hr
    obtain ⟨k, h3, h4, _⟩ := ht
    rw [if_pos hr] at h4
    refine ⟨nodup_snoc h1 h4.free, fun q hq => ?_⟩
    have := (List.append_inj' hq rfl).1
    rw [← this]
    exact h4
theorem nodup_le : ∀ (n : Nat) (l : List Nat), l.Nodup → (∀ x ∈ l, x < n) → l.length ≤ n
  | 0, l, _, h => by
    cases l with
    | nil => exact Nat.le_refl _
    | cons a l => exact absurd (h a (List.mem_cons_self ..)) (Nat.not_lt_zero _)
  | n + 1, l, hd, h => by
    have h1 : (l.filter (fun x => decide (x ≠ n))).length ≤ n := nodup_le n _ (hd.filter _) (fun x hx => by
      obtain ⟨h2, h3⟩ := List.mem_filter.1 hx
      have := h x h2
      rw [decide_eq_true_eq] at h3
      omega)
    have h2 : l.length ≤ (l.filter (fun x => decide (x ≠ n))).length + 1 := by
      clear h h1
      induction l with
      | nil => simp
      | cons a l ih =>
        rw [List.nodup_cons] at hd
        by_cases e : a = n
        · subst e
          have : l.filter (fun x => decide (x ≠ a)) = l := List.filter_eq_self.2 (fun x hx => by
            rw [decide_eq_true_eq]
            exact fun e => hd.1 (e ▸ hx))
          rw [List.filter_cons_of_neg (by simp), this]
          simp
        · have := ih hd.2
          rw [List.filter_cons_of_pos (by simpa using e), List.length_cons, List.length_cons]
          omega
    omega
theorem Going.len {g : Gr} (hg : g.Ok) (hn : g.n ≤ 12) {rule : Int} {m a : Nat} {p : List Nat} (h : Going g rule m p a) (_hm : m < g.n) : p.length ≤ 577 := by
  by_cases hr : rule = 2
  · have := nodup_le g.n p (h.deep hr).1 h.lt
    omega
  · obtain ⟨h1, h2⟩ := h.cost hr
    have h3 := (Keeps.run (B := []) hg (rankCost_ok rule) g.n).pos a
    have hmm : runI g [] (rankCost rule) g.n m < 1000 → runI g [] (rankCost rule) g.n m ≤ 576 := fun hlt => by
      rcases Rel.run hg hn (rankCost_ok rule) (B := []) g.n hn m with h4 | h4 <;> omega
    have h5 := (Keeps.run (B := []) hg (rankCost_ok rule) g.n).top m
    by_cases hlt : runI g [] (rankCost rule) g.n m < 1000
    · have := hmm hlt
      omega
    · exfalso
      have : ∀ {p : List Nat} {b : Nat}, Made g rule m p b → runI g [] (rankCost rule) g.n b < 1000 → runI g [] (rankCost rule) g.n m < 1000 := by
        intro p b hp
        induction hp with
        | one => exact id
        | more p a t _ _ h4 ih =>
          intro hb
          obtain ⟨k, h5, h6, _⟩ := h4
          rw [if_neg hr] at h6
          have := (rankCost_ok rule k (by have := hg.four a; have := (List.getElem?_eq_some_iff.1 h5).1; omega)).2
          rcases Rel.run hg hn (rankCost_ok rule) (B := []) g.n hn t with h7 | h7 <;> exact ih (by omega)
      exact hlt (this h.made h1)
/-- With whom a member's ballot is settled. -/
def IsEnd (g : Gr) (rule : Int) (m : Nat) (e : Int) : Prop := (Reach g [] m ∧ ∃ p a, Made g rule m p a ∧ g.sp a = true ∧ e = (a : Int)) ∨ (¬ Reach g [] m ∧ e = -1)
theorem IsEnd.one {g : Gr} {rule : Int} {m : Nat} {e e' : Int} (h : IsEnd g rule m e) (h' : IsEnd g rule m e') : e = e' := by
  rcases h with ⟨h1, p, a, h2, h3, rfl⟩ | ⟨h1, rfl⟩
  · rcases h' with ⟨_, q, b, g2, g3, rfl⟩ | ⟨g1, _⟩
    · rw [(h2.same g2 h3 g3).2]
    · exact absurd h1 g1
  · rcases h' with ⟨g1, _⟩ | ⟨_, rfl⟩
    · exact absurd g1 h1
    · rfl
/-- The ends of all ballots. -/
def Ends (g : Gr) (rule : Int) (L : List Int) : Prop := L.length = g.n ∧ ∀ (i : Nat) (e : Int), L[i]? = some e → IsEnd g rule i e
theorem Ends.one {g : Gr} {rule : Int} {L L' : List Int} (h : Ends g rule L) (h' : Ends g rule L') : L = L' := by
  apply List.ext_getElem?
  intro i
  by_cases hi : i < g.n
  · have h1 : L[i]? = some (L[i]'(by rw [h.1]; exact hi)) := List.getElem?_eq_getElem _
    have h2 : L'[i]? = some (L'[i]'(by rw [h'.1]; exact hi)) := List.getElem?_eq_getElem _
    rw [h1, h2, (h.2 i _ h1).one (h'.2 i _ h2)]
  · rw [List.getElem?_eq_none (by rw [h.1]; omega), List.getElem?_eq_none (by rw [h'.1]; omega)]
end Go.Proofs.Ytlbnebmdolnagaa

namespace Go.Proofs.Ytlbnebmdolnagaa

def grV (V : List Voi) : Gr where
  n := V.length
  sp i := match V[i]? with | some v => v.sp | none => false
  tr i := match V[i]? with | some v => v.tr.map Int.toNat | none => []
/-- Voices that are valid. -/
structure VoisOk (V : List Voi) : Prop where
  n1 : 1 ≤ V.length
  n12 : V.length ≤ 12
  tr : ∀ (k : Nat) (v : Voi), V[k]? = some v → okTrust v.tr (k : Int) V.length = true
theorem trust_mem {l : List Int} {m n : Int} (h : okTrust l m n = true) {z : Int} (hz : z ∈ l) : 0 ≤ z ∧ z < n ∧ z ≠ m := by
  rw [okTrust_eq, Bool.and_eq_true] at h
  obtain ⟨k, hk⟩ := List.mem_iff_getElem?.1 hz
  have h1 := allLt_true.1 h.1 k (List.getElem?_eq_some_iff.1 hk).1
  rw [trustAt_eq hk, Bool.and_eq_true, Bool.and_eq_true, inB_iff, decide_eq_true_eq] at h1
  exact ⟨h1.1.1.1, by omega, h1.1.2⟩
theorem trust_four {l : List Int} {m n : Int} (h : okTrust l m n = true) : l.length ≤ 4 := by
  rw [okTrust_eq, Bool.and_eq_true, decide_eq_true_eq] at h
  exact h.2
theorem grV_at {V : List Voi} {k : Nat} {v : Voi} (h : V[k]? = some v) : (grV V).sp k = v.sp ∧ (grV V).tr k = v.tr.map Int.toNat := by
  unfold grV
  simp only [h, and_self]
theorem VoisOk.gr {V : List Voi} (h : VoisOk V) : (grV V).Ok where
  lt i hi t ht := by
    have hk : V[i]? = some V[i] := List.getElem?_eq_getElem hi
    rw [(grV_at hk).2] at ht
    obtain ⟨z, hz, rfl⟩ := List.mem_map.1 ht
    have := trust_mem (h.tr i _ hk) hz
    show z.toNat < V.length
    omega
  ne i t ht := by
    cases hk : V[i]? with
    | none =>
      unfold grV at ht
      simp only [hk] at ht
      cases ht
    | some v =>
      rw [(grV_at hk).2] at ht
      obtain ⟨z, hz, rfl⟩ := List.mem_map.1 ht
      have := trust_mem (h.tr i _ hk) hz
      omega
  four i := by
    cases hk : V[i]? with
    | none =>
      unfold grV
      simp only [hk, List.length_nil]
      omega
    | some v =>
      rw [(grV_at hk).2, List.length_map]
      exact trust_four (h.tr i _ hk)
/-- The k-th whom a member trusts, as a number and as a place. -/
theorem VoisOk.at_tr {V : List Voi} (h : VoisOk V) {i k : Nat} {v : Voi} {z : Int} (hi : V[i]? = some v) (hk : v.tr[k]? = some z) : ((grV V).tr i)[k]? = some z.toNat ∧ (z.toNat : Int) = z ∧ z.toNat < V.length ∧ z.toNat ≠ i := by
  have h1 := trust_mem (h.tr i _ hi) (List.mem_of_getElem? hk)
  refine ⟨by rw [(grV_at hi).2, List.getElem?_map, hk]; rfl, by omega, by omega, by omega⟩
theorem AsmOk.vois {a : Asm} (h : AsmOk a) {vs : List Int} (hl : vs.length = a.trust.length) : VoisOk (voices vs a.trust) where
  n1 := by rw [voices_len hl]; exact h.n1
  n12 := by rw [voices_len hl]; exact h.n12
  tr k v hk := by
    have h1 : k < a.trust.length := by
      have := (List.getElem?_eq_some_iff.1 hk).1
      rwa [voices_len hl] at this
    rw [voices_get (by omega) h1] at hk
    injection hk with hk
    subst hk
    rw [voices_len hl]
    exact h.trust k _ (List.getElem?_eq_getElem h1)

/-! The count. -/
def bump (c : List Int) (k : Nat) : List Int := c.set k (c.getD k 0 + 1)
def slotOf (vs : List Int) (e : Int) : Nat := if e < 0 then 3 else if vs.getD e.toNat 0 = 2 then 0 else if vs.getD e.toNat 0 = 1 then 1 else 2
def countL (vs : List Int) (ends : List Int) : List Int := ends.foldl (fun c e => bump c (slotOf vs e)) [0, 0, 0, 0]
theorem countL_len (vs : List Int) (ends : List Int) : (countL vs ends).length = 4 := by
  unfold countL
  have : ∀ (l : List Int) (c : List Int), c.length = 4 → (l.foldl (fun c e => bump c (slotOf vs e)) c).length = 4 := by
    intro l
    induction l with
    | nil => exact fun c h => h
    | cons e l ih => exact fun c h => ih _ (by unfold bump; rw [List.length_set]; exact h)
  exact this _ _ rfl
theorem countL_take (vs : List Int) {ends : List Int} {k : Nat} {e : Int} (h : ends[k]? = some e) : countL vs (ends.take (k + 1)) = bump (countL vs (ends.take k)) (slotOf vs e) := by
  obtain ⟨hk, rfl⟩ := List.getElem?_eq_some_iff.1 h
  unfold countL
  rw [List.take_succ_eq_append_getElem hk, List.foldl_append]
  rfl
end Go.Proofs.Ytlbnebmdolnagaa

namespace Go.Proofs.Ytlbnebmdolnagaa
open Go.RowKit

def costL (C : Nat → Int) (n : Nat) : List Value := (List.range n).map (fun i => .int .i64 (C i))
theorem costL_len (C : Nat → Int) (n : Nat) : (costL C n).length = n := by unfold costL; simp
theorem costL_get {C : Nat → Int} {n i : Nat} (h : i < n) : (costL C n)[i]? = some (.int .i64 (C i)) := by unfold costL; simp [h]
theorem costL_set {C : Nat → Int} {n i : Nat} (z : Int) : (costL C n).set i (.int .i64 z) = costL (fun j => if j = i then z else C j) n := by
  apply List.ext_getElem?
  intro j
  by_cases hj : j < n
  · by_cases e : j = i
    · subst e
      rw [List.getElem?_set_self (by rw [costL_len]; exact hj), costL_get hj, if_pos rfl]
    · rw [List.getElem?_set_ne (fun h => e h.symm), costL_get hj, costL_get hj, if_neg e]
  · rw [List.getElem?_eq_none (by rw [List.length_set, costL_len]; omega), List.getElem?_eq_none (by rw [costL_len]; omega)]
theorem costL_ext {C D : Nat → Int} {n : Nat} (h : ∀ j, j < n → C j = D j) : costL C n = costL D n := by
  unfold costL
  exact List.map_congr_left (fun j hj => by rw [h j (List.mem_range.1 hj)])
theorem stepS_yes {D : Nat → Int} {i t : Nat} {s : Int} (h1 : 0 ≤ D t) (h2 : D i < 0 ∨ s + D t < D i) : stepS D i t s = fun j => if j = i then s + D t else D j := by
  unfold stepS
  rw [if_pos ⟨h1, h2⟩]
theorem stepS_no {D : Nat → Int} {i t : Nat} {s : Int} (h : ¬ (0 ≤ D t ∧ (D i < 0 ∨ s + D t < D i))) : stepS D i t s = D := by
  unfold stepS
  rw [if_neg h]
  funext j
  by_cases e : j = i
  · rw [if_pos e, e]
  · rw [if_neg e]
section
variable {g : Gr} {B : List Nat} {c : Nat → Int}
theorem inS_succ {i k t : Nat} {C : Nat → Int} (h : (g.tr i)[k]? = some t) : inS g c i C (k + 1) = stepS (inS g c i C k) i t (c (k + 1)) := by
  rw [inS, h]
theorem rowS_on {C : Nat → Int} {i : Nat} (h : g.on B i = true) : rowS g B c C i = inS g c i C (g.tr i).length := by unfold rowS; rw [if_pos h]
theorem rowS_off {C : Nat → Int} {i : Nat} (h : g.on B i = false) : rowS g B c C i = C := by unfold rowS; rw [if_neg (by rw [h]; simp)]
theorem rowI_on {C : Nat → Int} {i : Nat} (h : g.on B i = true) : rowI g B c C i = inI g c i C (g.tr i).length := by unfold rowI; rw [if_pos h]
theorem RelR.small {b : Int} {i : Nat} {C D : Nat → Int} (h : RelR i b C D) (hb : b + 4 < 1000) (j : Nat) : (-1 ≤ D j ∧ D j ≤ 999) ∧ 0 ≤ C j ∧ C j ≤ 1000 := by
  rcases h j with ⟨h1, h2⟩ | ⟨h1, h2, h3⟩
  · omega
  · split at h2 <;> omega
/-- Each number on the way is small: round r, row i, step k, of both. -/
theorem state_small (hg : g.Ok) (hn : g.n ≤ 12) (hc : CostOk c) {r i : Nat} (hr : r < 12) (hi : i ≤ g.n) (k j : Nat) :
    (-1 ≤ inS g c i (passS g B c (runS g B c r) i) k j ∧ inS g c i (passS g B c (runS g B c r) i) k j ≤ 999) ∧ 0 ≤ inI g c i (passI g B c (runI g B c r) i) k j ∧ inI g c i (passI g B c (runI g B c r) i) k j ≤ 1000 :=
  (((Rel.pass hg hc (Rel.run hg hn hc r (by omega)) i (by omega)).row i).inn hg hc (by omega) k).small (by omega) j
/-- The reference's cost is not below 0 exactly if a way leads on. -/
theorem costS_iff (hg : g.Ok) (hn : g.n ≤ 12) (hc : CostOk c) {i : Nat} (hi : i < g.n) : 0 ≤ runS g B c g.n i ↔ Reach g B i := by
  rw [← fin_iff hg hn hc hi]
  rcases Rel.run hg hn hc (B := B) g.n hn i with h | h <;> omega
/-- Where both are finite they are the same. -/
theorem costS_eq (hg : g.Ok) (hn : g.n ≤ 12) (hc : CostOk c) (i : Nat) (h : 0 ≤ runS g B c g.n i) : runS g B c g.n i = runI g B c g.n i := by
  rcases Rel.run hg hn hc (B := B) g.n hn i with h' | h' <;> omega
end
end Go.Proofs.Ytlbnebmdolnagaa
