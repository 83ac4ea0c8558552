/- The path of a member by a rule is better than every other path of it: plain. -/
import Derived.Test.YtihhbkijcebapaaYA
namespace Go.Proofs.Ytihhbkijcebapaa
open Go.RowKit

/-- Where a step stands among those that a member trusts. -/
def ixT (g : Gr) (x t : Nat) : Nat := (g.tr x).findIdx (· == t)
theorem ix_get {g : Gr} {x t : Nat} (h : t ∈ g.tr x) : (g.tr x)[ixT g x t]? = some t := by
  have hl : (g.tr x).findIdx (· == t) < (g.tr x).length := List.findIdx_lt_length_of_exists ⟨t, h, by simp⟩
  unfold ixT
  rw [List.getElem?_eq_getElem hl]
  have := List.findIdx_getElem (w := hl)
  simpa using this
theorem ix_le {g : Gr} {x t k : Nat} (h : (g.tr x)[k]? = some t) : ixT g x t ≤ k := by
  obtain ⟨hk, he⟩ := List.getElem?_eq_some_iff.1 h
  rcases Nat.lt_or_ge k (ixT g x t) with hlt | hge
  · have := List.not_of_lt_findIdx hlt
    rw [he] at this
    simp at this
  · exact hge
theorem ix_nd {g : Gr} (hnd : ∀ x, (g.tr x).Nodup) {x t k : Nat} (h : (g.tr x)[k]? = some t) : ixT g x t = k := by
  have h1 := ix_get (List.mem_of_getElem? h)
  obtain ⟨a1, a2⟩ := List.getElem?_eq_some_iff.1 h
  obtain ⟨b1, b2⟩ := List.getElem?_eq_some_iff.1 h1
  exact (List.getElem_inj (hnd x)).1 (b2.trans a2.symm)
/-- Steps from a member to one who speaks. -/
inductive Stp (g : Gr) : Nat → List Nat → Prop
  | stop (x : Nat) : g.sp x = true → Stp g x []
  | step (x t : Nat) (r : List Nat) : g.sp x = false → t ∈ g.tr x → Stp g t r → Stp g x (t :: r)
def rks (g : Gr) : Nat → List Nat → List Nat
  | _, [] => []
  | x, t :: r => (ixT g x t + 1) :: rks g t r
inductive Fst (g : Gr) (P : List Nat → Nat → Nat → Nat → Prop) : List Nat → Nat → List Nat → Prop
  | stop (B : List Nat) (x : Nat) : g.sp x = true → Fst g P B x []
  | step (B : List Nat) (x t : Nat) (r : List Nat) : g.sp x = false → First (P (B ++ [x]) x) (g.tr x) t → Fst g P (B ++ [x]) t r → Fst g P B x (t :: r)
inductive Fit (g : Gr) (P : List Nat → Nat → Nat → Nat → Prop) : List Nat → Nat → List Nat → Prop
  | stop (B : List Nat) (x : Nat) : g.sp x = true → Fit g P B x []
  | step (B : List Nat) (x t : Nat) (r : List Nat) : g.sp x = false → t ∈ g.tr x → P (B ++ [x]) x (ixT g x t) t → Fit g P (B ++ [x]) t r → Fit g P B x (t :: r)
def cmpN : List Nat → List Nat → Int
  | [], [] => 0
  | [], _ :: _ => -1
  | _ :: _, [] => 1
  | a :: p, b :: q => if a < b then -1 else if b < a then 1 else cmpN p q
theorem fst_lex {g : Gr} {P : List Nat → Nat → Nat → Nat → Prop} {B : List Nat} {x : Nat} {p q : List Nat} (h : Fst g P B x p) (h' : Fit g P B x q) :
    (p = q ∧ cmpN (rks g x p) (rks g x q) = 0) ∨ (p ≠ q ∧ cmpN (rks g x p) (rks g x q) = -1) := by
  induction h generalizing q with
  | stop B x hs =>
    cases h' with
    | stop _ _ _ => exact .inl ⟨rfl, rfl⟩
    | step _ _ t r h1 _ _ _ => rw [hs] at h1; cases h1
  | step B x t r hs hF _ ih =>
    cases h' with
    | stop _ _ h1 => rw [hs] at h1; cases h1
    | step _ _ t' r' _ hm hP hr =>
      by_cases e : t = t'
      · subst e
        rcases ih hr with ⟨h1, h2⟩ | ⟨h1, h2⟩
        · subst h1
          exact .inl ⟨rfl, by simp [rks, cmpN, h2]⟩
        · exact .inr ⟨fun h => h1 (List.cons.inj h).2, by simp [rks, cmpN, h2]⟩
      · obtain ⟨k, hk, _, hmin⟩ := hF
        have h1 := ix_le hk
        have h2 := ix_get hm
        have h3 := ix_get (List.mem_of_getElem? hk)
        have h4 : k ≤ ixT g x t' := by
          rcases Nat.lt_or_ge (ixT g x t') k with hlt | hge
          · exact absurd hP (hmin _ hlt t' h2)
          · exact hge
        have h5 : ixT g x t ≠ ixT g x t' := fun h => by
          rw [h, h2] at h3
          exact e (Option.some.inj h3).symm
        refine .inr ⟨fun h => e (List.cons.inj h).1, ?_⟩
        show cmpN ((ixT g x t + 1) :: _) ((ixT g x t' + 1) :: _) = -1
        rw [cmpN, if_pos (by omega)]
/-- The costs of the steps. -/
def costR (c : Nat → Int) (g : Gr) : Nat → List Nat → Int
  | _, [] => 0
  | x, t :: r => c (ixT g x t + 1) + costR c g t r
def PN (g : Gr) (rule : Int) (B : List Nat) (x k t : Nat) : Prop := if rule = 2 then Reach g B t else runI g [] (rankCost rule) g.n t + rankCost rule (k + 1) = runI g [] (rankCost rule) g.n x
theorem run_sp {g : Gr} {rule : Int} {x : Nat} (h : g.sp x = true) : runI g [] (rankCost rule) g.n x = 0 := by
  rw [runI_off (by unfold Gr.on; rw [h]; rfl)]
  unfold initI
  rw [h]
  rfl
theorem run_step {g : Gr} (hg : g.Ok) {rule : Int} {x t : Nat} (hx : x < g.n) (hs : g.sp x = false) (ht : t ∈ g.tr x) : runI g [] (rankCost rule) g.n x ≤ runI g [] (rankCost rule) g.n t + rankCost rule (ixT g x t + 1) :=
  fix_step hg (still (B := []) hg (rankCost_ok rule)) hx (by unfold Gr.on; rw [hs]; rfl) (ix_get ht)
theorem cost_ge {g : Gr} (hg : g.Ok) {rule : Int} {x : Nat} {r : List Nat} (h : Stp g x r) (hx : x < g.n) : runI g [] (rankCost rule) g.n x ≤ costR (rankCost rule) g x r := by
  induction h with
  | stop x hs => rw [run_sp hs]; exact Int.le_refl _
  | step x t r hs ht _ ih =>
    have h1 := run_step hg (rule := rule) hx hs ht
    have h2 := ih (hg.lt x hx t ht)
    unfold costR
    omega
theorem cost_fit {g : Gr} (hg : g.Ok) {rule : Int} (hr : rule ≠ 2) {x : Nat} {r : List Nat} (h : Stp g x r) (hx : x < g.n) (he : costR (rankCost rule) g x r = runI g [] (rankCost rule) g.n x) (B : List Nat) : Fit g (PN g rule) B x r := by
  induction h generalizing B with
  | stop x hs => exact Fit.stop B x hs
  | step x t r hs ht hst ih =>
    have h1 := run_step hg (rule := rule) hx hs ht
    have h2 := cost_ge hg (rule := rule) hst (hg.lt x hx t ht)
    unfold costR at he
    refine Fit.step B x t r hs ht ?_ (ih (hg.lt x hx t ht) (by omega) _)
    unfold PN
    rw [if_neg hr]
    omega
theorem fst_cost {g : Gr} (hg : g.Ok) (hnd : ∀ x, (g.tr x).Nodup) {rule : Int} (hr : rule ≠ 2) {B : List Nat} {x : Nat} {r : List Nat} (h : Fst g (PN g rule) B x r) :
    costR (rankCost rule) g x r = runI g [] (rankCost rule) g.n x ∧ (∀ y ∈ r, runI g [] (rankCost rule) g.n y < runI g [] (rankCost rule) g.n x) ∧ (x :: r).Nodup := by
  induction h with
  | stop B x hs => exact ⟨(run_sp hs).symm, fun y hy => (by cases hy), by simp⟩
  | step B x t r hs hF _ ih =>
    obtain ⟨k, hk, hP, _⟩ := hF
    unfold PN at hP
    rw [if_neg hr] at hP
    have hix := ix_nd hnd hk
    have hc := (rankCost_ok rule k (by have := hg.four x; have := (List.getElem?_eq_some_iff.1 hk).1; omega)).1
    obtain ⟨h1, h2, h3⟩ := ih
    have h4 : ∀ y ∈ t :: r, runI g [] (rankCost rule) g.n y < runI g [] (rankCost rule) g.n x := fun y hy => by
      rcases List.mem_cons.1 hy with rfl | hy
      · omega
      · have := h2 y hy; omega
    refine ⟨?_, h4, List.nodup_cons.2 ⟨fun h => ?_, h3⟩⟩
    · unfold costR
      rw [hix]
      omega
    · have := h4 x h
      omega
theorem Fst.stp {g : Gr} {P : List Nat → Nat → Nat → Nat → Prop} {B : List Nat} {x : Nat} {r : List Nat} (h : Fst g P B x r) : Stp g x r := by
  induction h with
  | stop B x hs => exact Stp.stop x hs
  | step B x t r hs hF _ ih =>
    obtain ⟨k, hk, _⟩ := hF
    exact Stp.step x t r hs (List.mem_of_getElem? hk) ih
theorem fst_deep {g : Gr} {B : List Nat} {x : Nat} {r : List Nat} (h : Fst g (PN g 2) B x r) : (∀ y ∈ r, y ∉ B ++ [x]) ∧ r.Nodup := by
  induction h with
  | stop B x hs => exact ⟨fun y hy => (by cases hy), List.nodup_nil⟩
  | step B x t r hs hF _ ih =>
    obtain ⟨k, hk, hP, _⟩ := hF
    unfold PN at hP
    rw [if_pos rfl] at hP
    obtain ⟨h1, h2⟩ := ih
    refine ⟨fun y hy => ?_, List.nodup_cons.2 ⟨fun h => h1 t h (by simp), h2⟩⟩
    rcases List.mem_cons.1 hy with rfl | hy
    · exact hP.free
    · exact fun h => h1 y hy (List.mem_append_left _ h)
theorem stp_reach {g : Gr} {B : List Nat} {x : Nat} {r : List Nat} (h : Stp g x r) (hB : ∀ y ∈ x :: r, y ∉ B) : Reach g B x := by
  induction h with
  | stop x hs => exact Reach.sp x (by simpa using hB x (by simp)) hs
  | step x t r hs ht _ ih =>
    refine Reach.st x t ?_ ht (ih (fun y hy => hB y (List.mem_cons_of_mem _ hy)))
    unfold Gr.on
    have := hB x (by simp)
    simp [hs, this]
theorem stp_deep {g : Gr} {B : List Nat} {x : Nat} {r : List Nat} (h : Stp g x r) (hB : ∀ y ∈ r, y ∉ B ++ [x]) (hd : r.Nodup) : Fit g (PN g 2) B x r := by
  induction h generalizing B with
  | stop x hs => exact Fit.stop B x hs
  | step x t r hs ht hst ih =>
    obtain ⟨h1, h2⟩ := List.nodup_cons.1 hd
    refine Fit.step B x t r hs ht ?_ (ih (fun y hy h => ?_) h2)
    · unfold PN
      rw [if_pos rfl]
      exact stp_reach hst hB
    · rcases mem_snoc.1 h with h | h
      · exact hB y (List.mem_cons_of_mem _ hy) h
      · exact h1 (h ▸ hy)
/-- Two paths of a member, held against one another by a rule. -/
def costOf (g : Gr) (rule : Int) (m : Nat) (p : List Nat) : Int := if rule = 2 then 0 else costR (rankCost rule) g m p
def cmpP (g : Gr) (rule : Int) (m : Nat) (p q : List Nat) : Int := if costOf g rule m p < costOf g rule m q then -1 else if costOf g rule m q < costOf g rule m p then 1 else cmpN (rks g m p) (rks g m q)
theorem fst_nd {g : Gr} (hg : g.Ok) (hnd : ∀ x, (g.tr x).Nodup) {rule : Int} {m : Nat} {p : List Nat} (h : Fst g (PN g rule) [] m p) : (m :: p).Nodup := by
  by_cases hr : rule = 2
  · subst hr
    obtain ⟨h1, h2⟩ := fst_deep h
    exact List.nodup_cons.2 ⟨fun h => h1 m h (by simp), h2⟩
  · exact (fst_cost hg hnd hr h).2.2
theorem best_law {g : Gr} (hg : g.Ok) (hnd : ∀ x, (g.tr x).Nodup) {rule : Int} {m : Nat} (hm : m < g.n) {p q : List Nat} (h : Fst g (PN g rule) [] m p) (h' : Stp g m q) (hd : (m :: q).Nodup) :
    (p = q ∧ cmpP g rule m p q = 0) ∨ (p ≠ q ∧ cmpP g rule m p q = -1) := by
  unfold cmpP costOf
  by_cases hr : rule = 2
  · subst hr
    obtain ⟨h1, h2⟩ := List.nodup_cons.1 hd
    have := fst_lex h (stp_deep h' (fun y hy hb => h1 (by simp at hb; exact hb ▸ hy)) h2)
    simpa using this
  · rw [if_neg hr, if_neg hr]
    have h1 := cost_ge hg (rule := rule) h' hm
    have h2 := (fst_cost hg hnd hr h).1
    by_cases hlt : costR (rankCost rule) g m p < costR (rankCost rule) g m q
    · rw [if_pos hlt]
      exact .inr ⟨fun e => by rw [e] at hlt; omega, rfl⟩
    · rw [if_neg hlt, if_neg (by omega)]
      exact fst_lex h (cost_fit hg hr h' hm (by omega) [])
theorem Made.end_ {g : Gr} {rule : Int} {m a : Nat} {p : List Nat} (h : Made g rule m p a) : p = p.dropLast ++ [a] := by
  cases h <;> simp
theorem made_tail {g : Gr} {rule : Int} {m a : Nat} {p : List Nat} (h : Made g rule m p a) {r : List Nat} (hr : Fst g (PN g rule) p.dropLast a r) : ∃ s, p ++ r = m :: s ∧ Fst g (PN g rule) [] m s := by
  induction h generalizing r with
  | one => exact ⟨r, rfl, hr⟩
  | more p a t h1 h2 h3 ih =>
    obtain ⟨s, e, hs⟩ := ih (r := t :: r) (Fst.step _ a t r h2 (by rw [← h1.end_]; exact h3) (by rw [← h1.end_]; simpa using hr))
    exact ⟨s, by rw [← e]; simp, hs⟩
theorem made_fst {g : Gr} {rule : Int} {m a : Nat} {p : List Nat} (h : Made g rule m p a) (ha : g.sp a = true) : ∃ s, p = m :: s ∧ Fst g (PN g rule) [] m s := by
  obtain ⟨s, e, hs⟩ := made_tail h (Fst.stop _ a ha)
  exact ⟨s, by simpa using e, hs⟩
/-- All paths that go on from a member behind others. -/
def exts (g : Gr) : Nat → List Nat → Nat → List (List Nat)
  | 0, _, _ => []
  | f + 1, B, x => if g.sp x = true then [B ++ [x]] else (g.tr x).flatMap (fun t => if (B ++ [x]).contains t then [] else exts g f (B ++ [x]) t)
theorem exts_iff {g : Gr} (hg : g.Ok) : ∀ (f : Nat) (B : List Nat) (x : Nat) (q : List Nat), g.n ≤ f + B.length → (B ++ [x]).Nodup → (∀ y ∈ B ++ [x], y < g.n) →
    (q ∈ exts g f B x ↔ ∃ r, q = B ++ x :: r ∧ Stp g x r ∧ (B ++ x :: r).Nodup)
  | 0, B, x, q, hf, hd, hl => by
    have := nodup_le g.n _ hd hl
    rw [List.length_append, List.length_singleton] at this
    omega
  | f + 1, B, x, q, hf, hd, hl => by
    unfold exts
    have hx : x < g.n := hl x (by simp)
    cases hs : g.sp x with
    | true =>
      rw [if_pos rfl, List.mem_singleton]
      constructor
      · rintro rfl
        exact ⟨[], rfl, Stp.stop x hs, hd⟩
      · rintro ⟨r, rfl, h1, _⟩
        cases h1 with
        | stop _ _ => rfl
        | step _ t r h2 _ _ => rw [hs] at h2; cases h2
    | false =>
      rw [if_neg (by decide), List.mem_flatMap]
      constructor
      · rintro ⟨t, ht, h1⟩
        by_cases hc : (B ++ [x]).contains t = true
        · rw [if_pos hc] at h1; cases h1
        · rw [if_neg hc] at h1
          have hn : t ∉ B ++ [x] := fun h => hc (List.contains_iff_mem.2 h)
          obtain ⟨r, e, h2, h3⟩ := (exts_iff hg f (B ++ [x]) t q (by rw [List.length_append, List.length_singleton]; omega) (nodup_snoc hd hn) (fun y hy => by
            rcases mem_snoc.1 hy with hy | rfl
            · exact hl y hy
            · exact hg.lt x hx _ ht)).1 h1
          have e2 : B ++ [x] ++ t :: r = B ++ x :: t :: r := by simp
          rw [e2] at e h3
          exact ⟨t :: r, e, Stp.step x t r hs ht h2, h3⟩
      · rintro ⟨r, rfl, h1, h2⟩
        cases h1 with
        | stop _ h3 => rw [hs] at h3; cases h3
        | step _ t r h3 ht h4 =>
          have e2 : B ++ x :: t :: r = B ++ [x] ++ t :: r := by simp
          rw [e2] at h2 ⊢
          have hn : t ∉ B ++ [x] := fun h => by
            rw [List.nodup_append] at h2
            exact h2.2.2 t h t (by simp) rfl
          refine ⟨t, ht, ?_⟩
          rw [if_neg (fun h => hn (List.contains_iff_mem.1 h))]
          exact (exts_iff hg f (B ++ [x]) t _ (by rw [List.length_append, List.length_singleton]; omega) (nodup_snoc hd hn) (fun y hy => by
            rcases mem_snoc.1 hy with hy | rfl
            · exact hl y hy
            · exact hg.lt x hx _ ht)).2 ⟨r, rfl, h4, h2⟩
end Go.Proofs.Ytihhbkijcebapaa
