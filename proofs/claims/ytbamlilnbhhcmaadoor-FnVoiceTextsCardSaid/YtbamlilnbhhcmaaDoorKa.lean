/- A list of voices as a text, and its first circles: plain. -/
import Derived.Test.YtbamlilnbhhcmaaDoorYA
import Derived.Test.YtbamlilnbhhcmaaDoorQB
import Derived.Test.YtbamlilnbhhcmaaDoorQR
namespace Go.Proofs.YtbamlilnbhhcmaaDoor
open Go.RowKit Go.Lib

/-- The word of a voice. -/
def vword (v : Voi) : List UInt8 := (if v.sp = true then 43 else 45) :: nums v.tr [44]
def voiText (V : List Voi) : List UInt8 := Lib.join (V.map vword) [32]
theorem vword_sp (v : Voi) : (32 : UInt8) ∉ vword v := by
  unfold vword
  intro h
  rcases List.mem_cons.1 h with h | h
  · split at h
    · revert h; decide
    · revert h; decide
  · exact nums_not (.inl (by decide)) h
theorem voi_split {V : List Voi} (h : 1 ≤ V.length) : splitC 32 (voiText V) = V.map vword := by
  cases V with
  | nil => simp at h
  | cons v V =>
    unfold voiText
    rw [List.map_cons]
    exact splitC_join _ _ (fun y hy => by
      rw [← List.map_cons] at hy
      obtain ⟨v, _, rfl⟩ := List.mem_map.1 hy
      exact vword_sp v)
theorem vword_len {v : Voi} (h4 : v.tr.length ≤ 4) (hz : ∀ z ∈ v.tr, 0 ≤ z ∧ z ≤ 11) : (vword v).length ≤ 60 := by
  unfold vword
  rw [List.length_cons]
  cases hv : v.tr with
  | nil => simp [nums, Lib.join_nil]
  | cons z r =>
    rw [hv] at hz h4
    have key : ∀ zs : List Int, (∀ z ∈ zs, 0 ≤ z ∧ z ≤ 11) → Lib.lens (zs.map itoa) ≤ 10 * zs.length := by
      intro zs
      induction zs with
      | nil => intro _; simp [Lib.lens]
      | cons z r ih =>
        intro h
        have h1 := itoa_len10 (n := z) (by have := h z (by simp); omega) (by have := h z (by simp); omega)
        have h2 := ih (fun x hx => h x (by simp [hx]))
        simp [Lib.lens] at *
        omega
    have h2 := key (z :: r) hz
    unfold nums
    rw [List.map_cons, Lib.join_length, ← List.map_cons, List.length_map]
    rw [List.length_cons] at h2 h4
    simp only [List.length_cons, List.length_nil] at h4 ⊢
    omega
theorem voi_facts {V : List Voi} (h : VoisOk V) {v : Voi} (hv : v ∈ V) : v.tr.length ≤ 4 ∧ ∀ z ∈ v.tr, 0 ≤ z ∧ z ≤ 11 := by
  obtain ⟨k, hk⟩ := List.getElem?_of_mem hv
  have ht := h.tr k v hk
  refine ⟨?_, fun z hz => ?_⟩
  · rw [okTrust_eq, Bool.and_eq_true] at ht
    exact of_decide_eq_true ht.2
  · have := trust_mem ht hz
    have := h.n12
    omega
theorem voiText_len {V : List Voi} (h : VoisOk V) : (voiText V).length ≤ 740 := by
  have key : ∀ L : List Voi, (∀ v ∈ L, v ∈ V) → Lib.lens (L.map vword) ≤ 60 * L.length := by
    intro L
    induction L with
    | nil => intro _; simp [Lib.lens]
    | cons v r ih =>
      intro hL
      obtain ⟨f1, f2⟩ := voi_facts h (hL v (by simp))
      have h1 := vword_len f1 f2
      have h2 := ih (fun x hx => hL x (by simp [hx]))
      simp [Lib.lens] at *
      omega
  have h1 := key V (fun v hv => hv)
  have h12 := h.n12
  unfold voiText
  cases V with
  | nil => simp [Lib.join_nil]
  | cons v r =>
    rw [List.map_cons, Lib.join_length, ← List.map_cons, List.length_map]
    rw [List.length_cons] at h1 h12
    simp only [List.length_cons, List.length_nil] at h12 ⊢
    omega
/-- The first trusted one. -/
def firstV (V : List Voi) (k : Nat) : Option Int := match V[k]? with
  | some v => if v.sp = true then none else v.tr[0]?
  | none => none
theorem firstV_at {V : List Voi} {k : Nat} {v : Voi} (h : V[k]? = some v) (hs : v.sp = false) {z : Int} (hz : v.tr[0]? = some z) : firstV V k = some z := by
  unfold firstV
  rw [h]
  simp [hs, hz]
theorem firstV_ok {V : List Voi} (h : VoisOk V) {k : Nat} {z : Int} (hf : firstV V k = some z) : 0 ≤ z ∧ z < V.length ∧ z ≠ k := by
  unfold firstV at hf
  cases hv : V[k]? with
  | none => rw [hv] at hf; cases hf
  | some v =>
    rw [hv] at hf
    by_cases hs : v.sp = true
    · simp [hs] at hf
    · have hf : v.tr[0]? = some z := by simpa [hs] using hf
      exact trust_mem (h.tr k v hv) (List.mem_of_getElem? hf)
/-- Members that trust one another first, from i on: so far P, next at. -/
structure Walk1 (V : List Voi) (i : Nat) (P : List Nat) (at_ : Int) : Prop where
  nxt : ∀ (k : Nat) (a : Nat), P[k]? = some a → ∃ z, firstV V a = some z ∧ (P[k + 1]?.map fun b : Nat => (b : Int)).getD at_ = z
  hd : ∀ a, P[0]? = some a → a = i
  beg : P = [] → at_ = (i : Int)
  lt : ∀ a ∈ P, a < V.length
  nd : P.Nodup
theorem Walk1.init (V : List Voi) (i : Nat) : Walk1 V i [] (i : Int) := ⟨fun k a h => by simp at h, fun a h => by simp at h, fun _ => rfl, fun a h => (by cases h), List.nodup_nil⟩
theorem Walk1.more {V : List Voi} {i : Nat} {P : List Nat} {a : Nat} (h : Walk1 V i P (a : Int)) (hn : a ∉ P) (ha : a < V.length) {z : Int} (hz : firstV V a = some z) : Walk1 V i (P ++ [a]) z := by
  refine ⟨fun k b hb => ?_, fun b hb => ?_, fun e => by simp at e, fun b hb => ?_, ?_⟩
  · by_cases hk : k < P.length
    · rw [List.getElem?_append_left hk] at hb
      obtain ⟨y, h1, h2⟩ := h.nxt k b hb
      refine ⟨y, h1, ?_⟩
      rw [← h2]
      by_cases hk2 : k + 1 < P.length
      · rw [List.getElem?_append_left hk2, List.getElem?_eq_getElem hk2]
        rfl
      · have e : k + 1 = P.length := by omega
        rw [e, List.getElem?_append_right (Nat.le_refl _), Nat.sub_self, List.getElem?_eq_none (Nat.le_refl _)]
        rfl
    · rw [List.getElem?_append_right (by omega)] at hb
      have hk0 : k - P.length = 0 := by
        rcases Nat.eq_zero_or_pos (k - P.length) with h0 | h0
        · exact h0
        · rw [List.getElem?_eq_none (by simp; omega)] at hb
          cases hb
      rw [hk0] at hb
      injection hb with hb
      subst hb
      refine ⟨z, hz, ?_⟩
      rw [List.getElem?_eq_none (by simp; omega)]
      rfl
  · cases P with
    | nil =>
      have hb : [a][0]? = some b := hb
      injection hb with hb
      have := h.beg rfl
      omega
    | cons p P => exact h.hd b (by simpa using hb)
  · rcases List.mem_append.1 hb with hb | hb
    · exact h.lt b hb
    · rw [List.mem_singleton] at hb
      omega
  · exact nodup_snoc h.nd hn
theorem Walk1.len {V : List Voi} {i : Nat} {P : List Nat} {z : Int} (h : Walk1 V i P z) : P.length ≤ V.length := by
  exact nodup_le V.length P h.nd h.lt
/-- A circle that is told: what the law asks of it. -/
theorem Walk1.circle {V : List Voi} (hok : VoisOk V) {i : Nat} {P : List Nat} (h : Walk1 V i P (i : Int)) (hp : P ≠ []) : 2 ≤ P.length ∧ P.length ≤ V.length ∧ P[0]? = some i ∧
    ∀ (k : Nat) (a : Nat), P[k]? = some a → a < V.length ∧ ∃ b : Nat, P[(k + 1) % P.length]? = some b ∧ firstV V a = some (b : Int) := by
  have h0 : P[0]? = some i := by
    cases P with
    | nil => exact absurd rfl hp
    | cons p P =>
      have := h.hd p rfl
      rw [this]
      rfl
  have hlen : 0 < P.length := List.length_pos_iff.2 hp
  have key : ∀ (k : Nat) (a : Nat), P[k]? = some a → a < V.length ∧ ∃ b : Nat, P[(k + 1) % P.length]? = some b ∧ firstV V a = some (b : Int) := by
    intro k a hk
    have hkl := (List.getElem?_eq_some_iff.1 hk).1
    refine ⟨h.lt a (List.mem_of_getElem? hk), ?_⟩
    obtain ⟨z, h1, h2⟩ := h.nxt k a hk
    by_cases hk2 : k + 1 < P.length
    · rw [List.getElem?_eq_getElem hk2] at h2
      refine ⟨P[k + 1], ?_, ?_⟩
      · rw [Nat.mod_eq_of_lt hk2, List.getElem?_eq_getElem hk2]
      · rw [h1, ← h2]
        rfl
    · rw [List.getElem?_eq_none (by omega)] at h2
      refine ⟨i, ?_, ?_⟩
      · rw [show k + 1 = P.length by omega, Nat.mod_self]
        exact h0
      · rw [h1, ← h2]
        rfl
  refine ⟨?_, h.len, h0, key⟩
  rcases Nat.lt_or_ge 1 P.length with h2 | h2
  · exact h2
  · have h1 : P.length = 1 := by omega
    obtain ⟨_, b, hb, hf⟩ := key 0 i h0
    rw [h1] at hb
    have hb : P[0]? = some b := hb
    rw [h0] at hb
    injection hb with hb
    subst hb
    exact absurd rfl (firstV_ok hok hf).2.2
end Go.Proofs.YtbamlilnbhhcmaaDoor
