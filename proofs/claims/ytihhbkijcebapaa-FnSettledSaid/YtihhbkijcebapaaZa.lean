/- What a deed does to an assembly, plain; what is valid stays valid. -/
import Derived.Test.YtihhbkijcebapaaYV
import Derived.Test.YtihhbkijcebapaaZc
namespace Go.Proofs.Ytihhbkijcebapaa
open Go.RowKit Go.Lib

theorem votesOk_iff {vs : List Int} : votesOk vs = true ↔ ∀ z ∈ vs, 0 ≤ z ∧ z ≤ 3 := by
  unfold votesOk
  rw [allLt_true]
  constructor
  · intro h z hz
    obtain ⟨k, hk⟩ := List.getElem?_of_mem hz
    obtain ⟨hl, rfl⟩ := List.getElem?_eq_some_iff.1 hk
    have := h k hl
    rw [List.getD_eq_getElem?_getD, List.getElem?_eq_getElem hl, Option.getD_some, inB_iff] at this
    exact this
  · intro h k hk
    rw [List.getD_eq_getElem?_getD, List.getElem?_eq_getElem hk, Option.getD_some, inB_iff]
    exact h _ (List.getElem_mem hk)
structure MotOk (m : Mot) (day n : Int) : Prop where
  name : okName m.title.toList = true
  a0 : 0 ≤ m.author
  a1 : m.author ≤ n - 1
  p0 : (m.pat.length : Int) ≠ 0
  pat : okPatch m.pat = true
  span : spanB m.beg m.fin m.closes = true
  len : (m.votes.length : Int) = n
  votes : ∀ z ∈ m.votes, 0 ≤ z ∧ z ≤ 3
  r0 : 0 ≤ m.result
  r4 : m.result ≤ 4
  res : m.result = 0 ↔ day < m.closes
theorem deceq_iff {p q : Prop} [Decidable p] [Decidable q] : (decide p == decide q) = true ↔ (p ↔ q) := by
  by_cases hp : p <;> by_cases hq : q <;> simp [hp, hq]
theorem okMot_iff {m : Mot} {day n : Int} : okMot m day n = true ↔ MotOk m day n := by
  unfold okMot
  have e : (((m.result == 0) == decide (day < m.closes)) = true) ↔ (m.result = 0 ↔ day < m.closes) := deceq_iff (p := m.result = 0) (q := day < m.closes)
  simp only [Bool.and_eq_true, inB_iff, e, votesOk_iff, beq_iff_eq, Bool.not_eq_true', beq_eq_false_iff_ne]
  constructor
  · rintro ⟨⟨⟨⟨⟨⟨⟨⟨h1, h2⟩, h3⟩, h4⟩, h5⟩, h6⟩, h7⟩, h8⟩, h9⟩
    exact ⟨h1, h2.1, h2.2, h3, h4, h5, h6, h7, h8.1, h8.2, h9⟩
  · rintro ⟨h1, h2, h2', h3, h4, h5, h6, h7, h8, h8', h9⟩
    exact ⟨⟨⟨⟨⟨⟨⟨⟨h1, h2, h2'⟩, h3⟩, h4⟩, h5⟩, h6⟩, h7⟩, h8, h8'⟩, h9⟩
structure AsmFull (a : Asm) : Prop where
  ok : AsmOk a
  d0 : 0 ≤ a.day
  d1 : a.day ≤ 999
  two : ∀ (i j : Nat) (p q : Mot), i < j → a.mots[i]? = some p → a.mots[j]? = some q → (p.title.toList == q.title.toList) = false
  stat : okStat a.base = true
  acts : okActs a.acts = true
  all : AllDays a.base a.acts
theorem okAsm_full {a : Asm} (h : okAsm a = true) : AsmFull a := by
  obtain ⟨h1, h2, h3, h4, h5⟩ := okAsm_parts h
  refine ⟨okAsm_ok h, h4, h5, fun i j p q hij hp hq => ?_, h1, h2, h3⟩
  unfold okAsm at h
  simp only [Bool.and_eq_true] at h
  have hm := h.1.1.1.2
  unfold okMots at hm
  obtain ⟨hl, he⟩ := List.getElem?_eq_some_iff.1 hq
  have := allLt_true.1 hm j hl
  rw [motAt_at hl, Bool.and_eq_true, Bool.not_eq_true', List.any_eq_false] at this
  have h9 := this.2 p (List.mem_take_iff_getElem.2 ⟨i, by have := (List.getElem?_eq_some_iff.1 hp).1; omega, (List.getElem?_eq_some_iff.1 hp).2⟩)
  rw [he] at h9
  simpa using h9
theorem AsmFull.okAsm {a : Asm} (h : AsmFull a) : okAsm a = true := by
  unfold Go.Proofs.Ytihhbkijcebapaa.okAsm okHead okTrusts okMots
  simp only [Bool.and_eq_true, decide_eq_true_eq, inB_iff, allLt_true]
  refine ⟨⟨⟨⟨⟨⟨⟨⟨⟨h.d0, h.d1⟩, h.ok.rule⟩, ?_⟩, h.ok.m6⟩, fun k hk => ?_⟩, fun k hk => ?_⟩, h.stat⟩, h.acts⟩, h.all⟩
  · have := h.ok.n1
    have := h.ok.n12
    omega
  · rw [memAt_at hk]
    exact h.ok.trust k _ (List.getElem?_eq_getElem hk)
  · rw [motAt_at hk, Bool.and_eq_true, Bool.not_eq_true', List.any_eq_false]
    refine ⟨h.ok.mots k _ (List.getElem?_eq_getElem hk), fun p hp => ?_⟩
    obtain ⟨i, hi, he⟩ := List.mem_take_iff_getElem.1 hp
    have := h.two i k p a.mots[k] (by omega) (List.getElem?_eq_some_iff.2 ⟨by omega, he⟩) (List.getElem?_eq_getElem hk)
    simpa using this
theorem idxG_neg {α : Type} {p : α → Bool} {L : List α} (h : idxG p L < 0) : ∀ x ∈ L, p x = false := by
  intro x hx
  rcases hf : L.findIdx? p with _ | k
  · have := List.findIdx?_eq_none_iff.1 hf x hx
    simpa using this
  · have e : idxG p L = k := by unfold idxG; rw [hf]
    omega

/-- One motion decided, if it closes; the day, motion by motion. -/
noncomputable def dayStep (a : Asm) (k : Nat) : Asm :=
  match a.mots[k]? with
  | none => a
  | some m => if m.closes = a.day then { a with acts := (if verM a m m.votes = 1 then enterL a.acts (actOf m) else a.acts), mots := a.mots.set k (setR m (verM a m m.votes)) } else a
noncomputable def dayI (a : Asm) : Nat → Asm
  | 0 => { a with day := a.day + 1 }
  | k + 1 => dayStep (dayI a k) k
noncomputable def nextA (a : Asm) : Asm := dayI a a.mots.length
theorem dayStep_far {a : Asm} {k : Nat} {m : Mot} (hm : a.mots[k]? = some m) (h : ¬ m.closes = a.day) : dayStep a k = a := by
  unfold dayStep
  rw [hm]
  exact if_neg h
theorem dayStep_due {a : Asm} {k : Nat} {m : Mot} (hm : a.mots[k]? = some m) (h : m.closes = a.day) {r : Int} (hr : verM a m m.votes = r) : dayStep a k = { a with acts := (if r = 1 then enterL a.acts (actOf m) else a.acts), mots := a.mots.set k (setR m r) } := by
  subst hr
  unfold dayStep
  rw [hm]
  exact if_pos h
theorem verM_range (a : Asm) (m : Mot) (vs : List Int) : 1 ≤ verM a m vs ∧ verM a m vs ≤ 4 := by
  unfold verM
  split
  · omega
  · split
    · omega
    · split <;> omega
theorem verM_one {a : Asm} {m : Mot} {vs : List Int} (h : verM a m vs = 1) : entOk a.base a.acts (actOf m) = true := by
  unfold verM at h
  split at h
  · omega
  · split at h
    · omega
    · split at h
      · assumption
      · omega
open Classical in
theorem entOk_parts {S : List Art} {l : List Acta} {x : Acta} (h : entOk S l x = true) : l.length < 8 ∧ AllDays S (enterL l x) := by
  unfold entOk at h
  rw [Bool.and_eq_true, decide_eq_true_eq, decide_eq_true_eq] at h
  exact h
/-- How the day stands ahead of motion k. -/
structure DayInv (a b : Asm) (k : Nat) : Prop where
  day : b.day = a.day + 1
  rule : b.rule = a.rule
  trust : b.trust = a.trust
  base : b.base = a.base
  acts : okActs b.acts = true
  all : AllDays b.base b.acts
  len : b.mots.length = a.mots.length
  rest : ∀ j, k ≤ j → b.mots[j]? = a.mots[j]?
  done : ∀ (j : Nat) (m : Mot), j < k → b.mots[j]? = some m → MotOk m (a.day + 1) a.trust.length
  title : ∀ (j : Nat) (m : Mot), b.mots[j]? = some m → ∃ q, a.mots[j]? = some q ∧ q.title = m.title
theorem day_inv {a : Asm} (h : AsmFull a) : ∀ k, k ≤ a.mots.length → DayInv a (dayI a k) k
  | 0, _ => ⟨rfl, rfl, rfl, rfl, h.acts, h.all, rfl, fun _ _ => rfl, fun j _ hj => absurd hj (Nat.not_lt_zero _), fun j m hm => ⟨m, hm, rfl⟩⟩
  | k + 1, hk => by
    have ih := day_inv h k (by omega)
    have hm : a.mots[k]? = some a.mots[k] := List.getElem?_eq_getElem hk
    have hb := (ih.rest k (Nat.le_refl _)).trans hm
    have hok := okMot_iff.1 (h.ok.mots k _ hm)
    show DayInv a (dayStep (dayI a k) k) (k + 1)
    generalize dayI a k = b at *
    generalize a.mots[k] = m at *
    by_cases hc : m.closes = b.day
    · have hr := verM_range b m m.votes
      have he : verM b m m.votes = 1 → entOk b.base b.acts (actOf m) = true := verM_one
      rw [dayStep_due hb hc rfl]
      generalize verM b m m.votes = r at *
      have hac : okActs (if r = 1 then enterL b.acts (actOf m) else b.acts) = true ∧ AllDays b.base (if r = 1 then enterL b.acts (actOf m) else b.acts) := by
        by_cases h1 : r = 1
        · rw [if_pos h1]
          obtain ⟨q1, q2⟩ := entOk_parts (he h1)
          exact ⟨enterL_ok ih.acts (actOf_ok (h.ok.mots k _ hm)) q1, q2⟩
        · rw [if_neg h1]
          exact ⟨ih.acts, ih.all⟩
      have hlt : k < b.mots.length := by rw [ih.len]; omega
      refine ⟨ih.day, ih.rule, ih.trust, ih.base, hac.1, hac.2, by show (b.mots.set k _).length = _; rw [List.length_set]; exact ih.len, fun j hj => ?_, fun j q hj hq => ?_, fun j q hq => ?_⟩
      · show (b.mots.set k _)[j]? = _
        rw [List.getElem?_set_ne (by omega)]
        exact ih.rest j (by omega)
      · have hq : (b.mots.set k (setR m r))[j]? = some q := hq
        by_cases e : k = j
        · subst e
          rw [List.getElem?_set_self hlt] at hq
          injection hq with hq
          subst hq
          have := ih.day
          exact ⟨hok.name, hok.a0, hok.a1, hok.p0, hok.pat, hok.span, hok.len, hok.votes, by show 0 ≤ r; omega, by show r ≤ 4; omega, by show r = 0 ↔ a.day + 1 < m.closes; omega⟩
        · rw [List.getElem?_set_ne e] at hq
          exact ih.done j q (by omega) hq
      · have hq : (b.mots.set k (setR m r))[j]? = some q := hq
        by_cases e : k = j
        · subst e
          rw [List.getElem?_set_self hlt] at hq
          injection hq with hq
          subst hq
          exact ⟨m, hm, rfl⟩
        · rw [List.getElem?_set_ne e] at hq
          exact ih.title j q hq
    · rw [dayStep_far hb hc]
      refine ⟨ih.day, ih.rule, ih.trust, ih.base, ih.acts, ih.all, ih.len, fun j hj => ih.rest j (by omega), fun j q hj hq => ?_, ih.title⟩
      by_cases e : k = j
      · subst e
        rw [hb] at hq
        injection hq with hq
        subst hq
        have := ih.day
        have := hok.res
        exact ⟨hok.name, hok.a0, hok.a1, hok.p0, hok.pat, hok.span, hok.len, hok.votes, hok.r0, hok.r4, by omega⟩
      · exact ih.done j q (by omega) hq
theorem next_full {a : Asm} (h : AsmFull a) (hd : a.day < 999) : AsmFull (nextA a) := by
  have hI := day_inv h a.mots.length (Nat.le_refl _)
  show AsmFull (dayI a a.mots.length)
  generalize dayI a a.mots.length = b at *
  have h0 := h.d0
  refine ⟨⟨by rw [hI.trust]; exact h.ok.n1, by rw [hI.trust]; exact h.ok.n12, by rw [hI.len]; exact h.ok.m6, by rw [hI.rule]; exact h.ok.rule, fun k l hk => ?_, fun k m hk => ?_⟩, by rw [hI.day]; omega, by rw [hI.day]; omega, fun i j p q hij hp hq => ?_, by rw [hI.base]; exact h.stat, hI.acts, hI.all⟩
  · rw [hI.trust] at hk ⊢
    exact h.ok.trust k l hk
  · rw [hI.day, hI.trust]
    exact okMot_iff.2 (hI.done k m (by have := (List.getElem?_eq_some_iff.1 hk).1; rw [hI.len] at this; exact this) hk)
  · obtain ⟨p', hp', e1⟩ := hI.title i p hp
    obtain ⟨q', hq', e2⟩ := hI.title j q hq
    rw [← e1, ← e2]
    exact h.two i j p' q' hij hp' hq'

/-- The motion that a deed proposes. -/
def newMot (d : Deed) (n : Nat) : Mot := ⟨d.title, d.member, d.patch, d.start, d.until_, d.closes, List.replicate n 0, 0⟩
noncomputable def doA (a : Asm) (d : Deed) : Option Asm :=
  if d.kind = 4 then (if a.day < 999 then some (nextA a) else none)
  else if (a.trust.length : Int) ≤ d.member then none
  else if d.kind = 1 then (if okTrust d.trust d.member a.trust.length = true then some { a with trust := a.trust.set d.member.toNat d.trust } else none)
  else if d.kind = 2 then (if 0 ≤ findT a.mots d.title ∧ (motOf a d.title).result = 0 then some { a with mots := a.mots.set (findT a.mots d.title).toNat (setV (motOf a d.title) d.member.toNat d.vote) } else none)
  else (if findT a.mots d.title < 0 ∧ a.mots.length < 6 ∧ a.day < d.closes then some { a with mots := a.mots ++ [newMot d a.trust.length] } else none)
theorem do_next {a : Asm} {d : Deed} (hk : d.kind = 4) (h : a.day < 999) : doA a d = some (nextA a) := by unfold doA; rw [if_pos hk, if_pos h]
theorem do_last {a : Asm} {d : Deed} (hk : d.kind = 4) (h : ¬ a.day < 999) : doA a d = none := by unfold doA; rw [if_pos hk, if_neg h]
theorem do_who {a : Asm} {d : Deed} (hk : ¬ d.kind = 4) (h : (a.trust.length : Int) ≤ d.member) : doA a d = none := by unfold doA; rw [if_neg hk, if_pos h]
theorem do_trust {a : Asm} {d : Deed} (hk : d.kind = 1) (h : ¬ (a.trust.length : Int) ≤ d.member) (ht : okTrust d.trust d.member a.trust.length = true) : doA a d = some { a with trust := a.trust.set d.member.toNat d.trust } := by unfold doA; rw [if_neg (by omega), if_neg h, if_pos hk, if_pos ht]
theorem do_distrust {a : Asm} {d : Deed} (hk : d.kind = 1) (h : ¬ (a.trust.length : Int) ≤ d.member) (ht : okTrust d.trust d.member a.trust.length = false) : doA a d = none := by unfold doA; rw [if_neg (by omega), if_neg h, if_pos hk, if_neg (by rw [ht]; simp)]
theorem do_vote {a : Asm} {d : Deed} (hk : d.kind = 2) (h : ¬ (a.trust.length : Int) ≤ d.member) (hf : 0 ≤ findT a.mots d.title) (hr : (motOf a d.title).result = 0) : doA a d = some { a with mots := a.mots.set (findT a.mots d.title).toNat (setV (motOf a d.title) d.member.toNat d.vote) } := by unfold doA; rw [if_neg (by omega), if_neg h, if_neg (by omega), if_pos hk, if_pos ⟨hf, hr⟩]
theorem do_unknown {a : Asm} {d : Deed} (hk : d.kind = 2) (h : ¬ (a.trust.length : Int) ≤ d.member) (hf : findT a.mots d.title < 0) : doA a d = none := by unfold doA; rw [if_neg (by omega), if_neg h, if_neg (by omega), if_pos hk, if_neg (by omega)]
theorem do_closed {a : Asm} {d : Deed} (hk : d.kind = 2) (h : ¬ (a.trust.length : Int) ≤ d.member) (hr : ¬ (motOf a d.title).result = 0) : doA a d = none := by unfold doA; rw [if_neg (by omega), if_neg h, if_neg (by omega), if_pos hk, if_neg (fun h => hr h.2)]
theorem do_propose {a : Asm} {d : Deed} (hk : d.kind = 3) (h : ¬ (a.trust.length : Int) ≤ d.member) (hf : findT a.mots d.title < 0) (h6 : a.mots.length < 6) (hc : a.day < d.closes) : doA a d = some { a with mots := a.mots ++ [newMot d a.trust.length] } := by unfold doA; rw [if_neg (by omega), if_neg h, if_neg (by omega), if_neg (by omega), if_pos ⟨hf, h6, hc⟩]
theorem do_not {a : Asm} {d : Deed} (hk : d.kind = 3) (h : ¬ (a.trust.length : Int) ≤ d.member) (hf : ¬ (findT a.mots d.title < 0 ∧ a.mots.length < 6 ∧ a.day < d.closes)) : doA a d = none := by unfold doA; rw [if_neg (by omega), if_neg h, if_neg (by omega), if_neg (by omega), if_neg hf]
theorem motOf_at {a : Asm} {t : ByteArray} (h : 0 ≤ findT a.mots t) : ∃ k : Nat, findT a.mots t = k ∧ k < a.mots.length ∧ a.mots[k]? = some (motOf a t) := by
  obtain ⟨k, hk, e, _⟩ := idxG_at (p := fun m : Mot => m.title.toList == t.toList) (L := a.mots) h
  have e : findT a.mots t = k := e
  refine ⟨k, e, hk, ?_⟩
  unfold motOf
  rw [e, Int.toNat_natCast, List.getElem?_eq_getElem hk]
  rfl
/-- What a valid deed's parts are. -/
theorem deed_member {d : Deed} (h : okDeed d = true) : 0 ≤ d.member ∧ d.member ≤ 11 := by
  unfold okDeed at h
  simp only [Bool.or_eq_true, Bool.and_eq_true, decide_eq_true_eq, inB_iff] at h
  rcases h with ((h | h) | h) | h
  · exact h.1.1.1.1.2
  · exact h.1.1.1.1.2
  · exact h.1.1.1.1.2
  · have := h.1.1.1.1.2; omega
theorem deed_kind {d : Deed} (h : okDeed d = true) : d.kind = 1 ∨ d.kind = 2 ∨ d.kind = 3 ∨ d.kind = 4 := by
  unfold okDeed at h
  simp only [Bool.or_eq_true, Bool.and_eq_true, decide_eq_true_eq, inB_iff] at h
  rcases h with ((h | h) | h) | h
  · exact .inl h.1.1.1.1.1
  · exact .inr (.inl h.1.1.1.1.1)
  · exact .inr (.inr (.inl h.1.1.1.1.1))
  · exact .inr (.inr (.inr h.1.1.1.1.1))
theorem deed_vote {d : Deed} (h : okDeed d = true) (hk : d.kind = 2) : 0 ≤ d.vote ∧ d.vote ≤ 3 := by
  rw [okDeed_2s hk] at h
  simp only [Bool.and_eq_true, inB_iff] at h
  exact h.1.2
theorem deed_prop {d : Deed} (h : okDeed d = true) (hk : d.kind = 3) : okName d.title.toList = true ∧ (d.patch.length : Int) ≠ 0 ∧ okPatch d.patch = true ∧ spanB d.start d.until_ d.closes = true := by
  rw [okDeed_3s hk] at h
  simp only [Bool.and_eq_true, inB_iff, decide_eq_true_eq] at h
  obtain ⟨⟨⟨⟨⟨⟨_, _⟩, h3⟩, _⟩, h5⟩, h6⟩, h7⟩ := h
  exact ⟨h3, by omega, h6, h7⟩
theorem mem_set_get {α : Type} {L : List α} {k j : Nat} {x y : α} (h : (L.set k x)[j]? = some y) : (j = k ∧ y = x) ∨ (j ≠ k ∧ L[j]? = some y) := by
  by_cases e : k = j
  · subst e
    have hl := (List.getElem?_eq_some_iff.1 h).1
    rw [List.length_set] at hl
    rw [List.getElem?_set_self hl] at h
    injection h with h
    exact .inl ⟨rfl, h.symm⟩
  · rw [List.getElem?_set_ne e] at h
    exact .inr ⟨fun q => e q.symm, h⟩
/-- What is valid stays valid. -/
theorem do_full {a b : Asm} {d : Deed} (h : AsmFull a) (hd : okDeed d = true) (hb : doA a d = some b) : AsmFull b := by
  have hm := deed_member hd
  have hn1 := h.ok.n1
  have hn12 := h.ok.n12
  by_cases k4 : d.kind = 4
  · by_cases hday : a.day < 999
    · rw [do_next k4 hday] at hb
      injection hb with hb
      rw [← hb]
      exact next_full h hday
    · rw [do_last k4 hday] at hb
      cases hb
  by_cases hw : (a.trust.length : Int) ≤ d.member
  · rw [do_who k4 hw] at hb
    cases hb
  rcases deed_kind hd with k | k | k | k
  · cases ht : okTrust d.trust d.member a.trust.length with
    | false => rw [do_distrust k hw ht] at hb; cases hb
    | true =>
      rw [do_trust k hw ht] at hb
      injection hb with hb
      rw [← hb]
      have el : (a.trust.set d.member.toNat d.trust).length = a.trust.length := List.length_set
      refine ⟨⟨by show 1 ≤ (a.trust.set _ _).length; omega, by show (a.trust.set _ _).length ≤ 12; omega, h.ok.m6, h.ok.rule, fun j l hj => ?_, fun j m hj => ?_⟩, h.d0, h.d1, h.two, h.stat, h.acts, h.all⟩
      · show okTrust l j ((a.trust.set d.member.toNat d.trust).length : Nat) = true
        rw [el]
        rcases mem_set_get (show (a.trust.set d.member.toNat d.trust)[j]? = some l from hj) with ⟨e1, e2⟩ | ⟨_, e2⟩
        · rw [e1, e2, show ((d.member.toNat : Nat) : Int) = d.member by omega]
          exact ht
        · exact h.ok.trust j l e2
      · show okMot m a.day ((a.trust.set d.member.toNat d.trust).length : Nat) = true
        rw [el]
        exact h.ok.mots j m hj
  · by_cases hf : 0 ≤ findT a.mots d.title
    · by_cases hr : (motOf a d.title).result = 0
      · obtain ⟨i, hi, hil, hg⟩ := motOf_at hf
        rw [do_vote k hw hf hr, hi, Int.toNat_natCast] at hb
        injection hb with hb
        rw [← hb]
        have hv := deed_vote hd k
        refine ⟨⟨hn1, hn12, by show (a.mots.set _ _).length ≤ 6; rw [List.length_set]; exact h.ok.m6, h.ok.rule, h.ok.trust, fun j m hj => ?_⟩, h.d0, h.d1, fun u v p q huv hp hq => ?_, h.stat, h.acts, h.all⟩
        · rcases mem_set_get (show (a.mots.set i _)[j]? = some m from hj) with ⟨e1, e2⟩ | ⟨_, e2⟩
          · have hM := okMot_iff.1 (h.ok.mots i _ hg)
            refine okMot_iff.2 ?_
            rw [e2]
            refine ⟨hM.name, hM.a0, hM.a1, hM.p0, hM.pat, hM.span, by show ((((motOf a d.title).votes.set d.member.toNat d.vote).length : Nat) : Int) = _; rw [List.length_set]; exact hM.len, fun z hz => ?_, hM.r0, hM.r4, hM.res⟩
            rcases List.mem_or_eq_of_mem_set hz with hz | hz
            · exact hM.votes z hz
            · rw [hz]; exact hv
          · exact h.ok.mots j m e2
        · have key : ∀ (j : Nat) (m : Mot), (a.mots.set i (setV (motOf a d.title) d.member.toNat d.vote))[j]? = some m → ∃ q, a.mots[j]? = some q ∧ q.title = m.title := fun j m hj => by
            rcases mem_set_get hj with ⟨e1, e2⟩ | ⟨_, e2⟩
            · exact ⟨_, by rw [e1]; exact hg, by rw [e2]; rfl⟩
            · exact ⟨m, e2, rfl⟩
          obtain ⟨p', hp', e1⟩ := key u p hp
          obtain ⟨q', hq', e2⟩ := key v q hq
          rw [← e1, ← e2]
          exact h.two u v p' q' huv hp' hq'
      · rw [do_closed k hw hr] at hb
        cases hb
    · rw [do_unknown k hw (by omega)] at hb
      cases hb
  · by_cases hf : findT a.mots d.title < 0 ∧ a.mots.length < 6 ∧ a.day < d.closes
    · obtain ⟨f1, f2, f3⟩ := hf
      rw [do_propose k hw f1 f2 f3] at hb
      injection hb with hb
      rw [← hb]
      obtain ⟨q1, q2, q3, q4⟩ := deed_prop hd k
      have hneg := idxG_neg (p := fun m : Mot => m.title.toList == d.title.toList) (L := a.mots) f1
      have key : ∀ (j : Nat) (m : Mot), (a.mots ++ [newMot d a.trust.length])[j]? = some m → a.mots[j]? = some m ∨ (j = a.mots.length ∧ m = newMot d a.trust.length) := fun j m hj => by
        rcases Nat.lt_trichotomy j a.mots.length with e | e | e
        · rw [List.getElem?_append_left e] at hj
          exact .inl hj
        · subst e
          rw [List.getElem?_append_right (Nat.le_refl _), Nat.sub_self] at hj
          injection hj with hj
          exact .inr ⟨rfl, hj.symm⟩
        · rw [List.getElem?_eq_none (by simp; omega)] at hj
          cases hj
      refine ⟨⟨hn1, hn12, by show (a.mots ++ _).length ≤ 6; simp; omega, h.ok.rule, h.ok.trust, fun j m hj => ?_⟩, h.d0, h.d1, fun u v p q huv hp hq => ?_, h.stat, h.acts, h.all⟩
      · rcases key j m hj with e | ⟨_, e⟩
        · exact h.ok.mots j m e
        · rw [e]
          exact okMot_iff.2 ⟨q1, hm.1, by show d.member ≤ (a.trust.length : Int) - 1; omega, q2, q3, q4, by show ((((List.replicate a.trust.length (0 : Int)).length : Nat)) : Int) = _; rw [List.length_replicate], fun z hz => by rw [List.eq_of_mem_replicate hz]; omega, by show (0 : Int) ≤ 0; omega, by show (0 : Int) ≤ 4; omega, by show (0 : Int) = 0 ↔ a.day < d.closes; omega⟩
      · rcases key u p hp with e1 | ⟨e1, _⟩
        · rcases key v q hq with e2 | ⟨_, e2⟩
          · exact h.two u v p q huv e1 e2
          · rw [e2]
            exact hneg p (List.mem_of_getElem? e1)
        · rcases key v q hq with e2 | ⟨e2, _⟩
          · have := (List.getElem?_eq_some_iff.1 e2).1
            omega
          · omega
    · rw [do_not k hw hf] at hb
      cases hb
  · exact absurd k k4
end Go.Proofs.Ytihhbkijcebapaa
