/- The path of a member by a rule is better than every other path of it: plain. Comparing lists of numbers, walked; where a number stands. Frames of arguments, plain: sets as masks of bits, what attacks and defends, grounded, preferred and ideal sets. Frames in memory, and what a mask attacks. What attacks each argument; what a mask defends; which masks are admissible. What a mask defends; which masks are free and admissible. Valid frames, arguments and sets of them, walked. Arguments of a frame, sets of them and their masks, walked. The set of a mask, walked. The rounds in which arguments are accepted and rejected, plain. The rounds, walked. The grounded mask; the masks for which something holds, walked. All masks for which something holds, walked. Which masks are preferred: slices.Clone, IndexFunc and ContainsFunc at masks, walked. slices.DeleteFunc at masks, and the preferred masks, walked. The preferred masks, walked. How many bits a mask has, walked; the ideal set. The ideal set, walked. How an argument stands, walked. A frame drawn, walked. -/
import Derived.Test.YtlbnebmdolnagaaYA
import Derived.Test.YtlbnebmdolnagaaYC
import Derived.Test.YtlbnebmdolnagaaQA
import Derived.Test.YtlbnebmdolnagaaQE
import Derived.Test.YtlbnebmdolnagaaQB
import Derived.Test.YtlbnebmdolnagaaQC
import Derived.StillTailTactics
import Derived.Laws.IdiomCopy
import Derived.Lib.SliceRun
import Derived.Laws.BitsAllLaws
import Derived.Test.YtlbnebmdolnagaaQI
namespace Go.Proofs.Ytlbnebmdolnagaa
open Go.RowKit

/-- Where a step stands among those that a member trusts. -/
def ixT (g : Gr) (x t : Nat) : Nat := (g.tr x).findIdx (· == t)
theorem ix_get {g : Gr} {x t : Nat} (h : t ∈ g.tr x) : (g.tr x)[ixT g x t]? = some t := by
  have hl : (g.tr x).findIdx (· == t) < (g.tr x).length := List.findIdx_lt_length_of_exists ⟨t, h, by simp⟩
  unfold ixT
  rw [List.getElem?_eq_getElem hl]
  have := List.findIdx_getElem (w := hl)
  simpa using this
theorem ix_le {g : Gr} {x t k : Nat} (h : (g.tr x)[k]? = some t) : ixT g x t ≤ k := by
  obtain ⟨hk, he⟩ := List.getElem?_eq_some_iff.1 h
  rcases Nat.lt_or_ge k (ixT g x t) with hlt | hge
  · have := List.not_of_lt_findIdx hlt
    rw [he] at this
    simp at this
  · exact hge
theorem ix_nd {g : Gr} (hnd : ∀ x, (g.tr x).Nodup) {x t k : Nat} (h : (g.tr x)[k]? = some t) : ixT g x t = k := by
  have h1 := ix_get (List.mem_of_getElem? h)
  obtain ⟨a1, a2⟩ := List.getElem?_eq_some_iff.1 h
  obtain ⟨b1, b2⟩ := List.getElem?_eq_some_iff.1 h1
  exact (List.getElem_inj (hnd x)).1 (b2.trans a2.symm)
/-- Steps from a member to one who speaks. -/
inductive Stp (g : Gr) : Nat → List Nat → Prop
  | stop (x : Nat) : g.sp x = true → Stp g x []
  | step (x t : Nat) (r : List Nat) : g.sp x = false → t ∈ g.tr x → Stp g t r → Stp g x (t :: r)
def rks (g : Gr) : Nat → List Nat → List Nat
  | _, [] => []
  | x, t :: r => (ixT g x t + 1) :: rks g t r
inductive Fst (g : Gr) (P : List Nat → Nat → Nat → Nat → Prop) : List Nat → Nat → List Nat → Prop
  | stop (B : List Nat) (x : Nat) : g.sp x = true → Fst g P B x []
  | step (B : List Nat) (x t : Nat) (r : List Nat) : g.sp x = false → First (P (B ++ [x]) x) (g.tr x) t → Fst g P (B ++ [x]) t r → Fst g P B x (t :: r)
inductive Fit (g : Gr) (P : List Nat → Nat → Nat → Nat → Prop) : List Nat → Nat → List Nat → Prop
  | stop (B : List Nat) (x : Nat) : g.sp x = true → Fit g P B x []
  | step (B : List Nat) (x t : Nat) (r : List Nat) : g.sp x = false → t ∈ g.tr x → P (B ++ [x]) x (ixT g x t) t → Fit g P (B ++ [x]) t r → Fit g P B x (t :: r)
def cmpN : List Nat → List Nat → Int
  | [], [] => 0
  | [], _ :: _ => -1
  | _ :: _, [] => 1
  | a :: p, b :: q => if a < b then -1 else if b < a then 1 else cmpN p q
theorem fst_lex {g : Gr} {P : List Nat → Nat → Nat → Nat → Prop} {B : List Nat} {x : Nat} {p q : List Nat} (h : Fst g P B x p) (h' : Fit g P B x q) :
    (p = q ∧ cmpN (rks g x p) (rks g x q) = 0) ∨ (p ≠ q ∧ cmpN (rks g x p) (rks g x q) = -1) := by
  induction h generalizing q with
  | stop B x hs =>
    cases h' with
    | stop _ _ _ => exact .inl ⟨rfl, rfl⟩
    | step _ _ t r h1 _ _ _ => rw [hs] at h1; cases h1
  | step B x t r hs hF _ ih =>
    cases h' with
    | stop _ _ h1 => rw [hs] at h1; cases h1
    | step _ _ t' r' _ hm hP hr =>
      by_cases e : t = t'
      · subst e
        rcases ih hr with ⟨h1, h2⟩ | ⟨h1, h2⟩
        · subst h1
          exact .inl ⟨rfl, by simp [rks, cmpN, h2]⟩
        · exact .inr ⟨fun h => h1 (List.cons.inj h).2, by simp [rks, cmpN, h2]⟩
      · obtain ⟨k, hk, _, hmin⟩ := hF
        have h1 := ix_le hk
        have h2 := ix_get hm
        have h3 := ix_get (List.mem_of_getElem? hk)
        have h4 : k ≤ ixT g x t' := by
          rcases Nat.lt_or_ge (ixT g x t') k with hlt | hge
          · exact absurd hP (hmin _ hlt t' h2)
          · exact hge
        have h5 : ixT g x t ≠ ixT g x t' := fun h => by
          rw [h, h2] at h3
          exact e (Option.some.inj h3).symm
        refine .inr ⟨fun h => e (List.cons.inj h).1, ?_⟩
        show cmpN ((ixT g x t + 1) :: _) ((ixT g x t' + 1) :: _) = -1
        rw [cmpN, if_pos (by omega)]
/-- The costs of the steps. -/
def costR (c : Nat → Int) (g : Gr) : Nat → List Nat → Int
  | _, [] => 0
  | x, t :: r => c (ixT g x t + 1) + costR c g t r
def PN (g : Gr) (rule : Int) (B : List Nat) (x k t : Nat) : Prop := if rule = 2 then Reach g B t else runI g [] (rankCost rule) g.n t + rankCost rule (k + 1) = runI g [] (rankCost rule) g.n x
theorem run_sp {g : Gr} {rule : Int} {x : Nat} (h : g.sp x = true) : runI g [] (rankCost rule) g.n x = 0 := by
  rw [runI_off (by unfold Gr.on; rw [h]; rfl)]
  unfold initI
  rw [h]
  rfl
theorem run_step {g : Gr} (hg : g.Ok) {rule : Int} {x t : Nat} (hx : x < g.n) (hs : g.sp x = false) (ht : t ∈ g.tr x) : runI g [] (rankCost rule) g.n x ≤ runI g [] (rankCost rule) g.n t + rankCost rule (ixT g x t + 1) :=
  fix_step hg (still (B := []) hg (rankCost_ok rule)) hx (by unfold Gr.on; rw [hs]; rfl) (ix_get ht)
theorem cost_ge {g : Gr} (hg : g.Ok) {rule : Int} {x : Nat} {r : List Nat} (h : Stp g x r) (hx : x < g.n) : runI g [] (rankCost rule) g.n x ≤ costR (rankCost rule) g x r := by
  induction h with
  | stop x hs => rw [run_sp hs]; exact Int.le_refl _
  | step x t r hs ht _ ih =>
    have h1 := run_step hg (rule := rule) hx hs ht
    have h2 := ih (hg.lt x hx t ht)
    unfold costR
    omega
theorem cost_fit {g : Gr} (hg : g.Ok) {rule : Int} (hr : rule ≠ 2) {x : Nat} {r : List Nat} (h : Stp g x r) (hx : x < g.n) (he : costR (rankCost rule) g x r = runI g [] (rankCost rule) g.n x) (B : List Nat) : Fit g (PN g rule) B x r := by
  induction h generalizing B with
  | stop x hs => exact Fit.stop B x hs
  | step x t r hs ht hst ih =>
    have h1 := run_step hg (rule := rule) hx hs ht
    have h2 := cost_ge hg (rule := rule) hst (hg.lt x hx t ht)
    unfold costR at he
    refine Fit.step B x t r hs ht ?_ (ih (hg.lt x hx t ht) (by omega) _)
    unfold PN
    rw [if_neg hr]
    omega
theorem fst_cost {g : Gr} (hg : g.Ok) (hnd : ∀ x, (g.tr x).Nodup) {rule : Int} (hr : rule ≠ 2) {B : List Nat} {x : Nat} {r : List Nat} (h : Fst g (PN g rule) B x r) :
    costR (rankCost rule) g x r = runI g [] (rankCost rule) g.n x ∧ (∀ y ∈ r, runI g [] (rankCost rule) g.n y < runI g [] (rankCost rule) g.n x) ∧ (x :: r).Nodup := by
  induction h with
  | stop B x hs => exact ⟨(run_sp hs).symm, fun y hy => (by cases hy), by simp⟩
  | step B x t r hs hF _ ih =>
    obtain ⟨k, hk, hP, _⟩ := hF
    unfold PN at hP
    rw [if_neg hr] at hP
    have hix := ix_nd hnd hk
    have hc := (rankCost_ok rule k (by have := hg.four x; have := (List.getElem?_eq_some_iff.1 hk).1; omega)).1
    obtain ⟨h1, h2, h3⟩ := ih
    have h4 : ∀ y ∈ t :: r, runI g [] (rankCost rule) g.n y < runI g [] (rankCost rule) g.n x := fun y hy => by
      rcases List.mem_cons.1 hy with rfl | hy
      · omega
      · have := h2 y hy; omega
    refine ⟨?_, h4, List.nodup_cons.2 ⟨fun h => ?_, h3⟩⟩
    · unfold costR
      rw [hix]
      omega
    · have := h4 x h
      omega
theorem Fst.stp {g : Gr} {P : List Nat → Nat → Nat → Nat → Prop} {B : List Nat} {x : Nat} {r : List Nat} (h : Fst g P B x r) : Stp g x r := by
  induction h with
  | stop B x hs => exact Stp.stop x hs
  | step B x t r hs hF _ ih =>
    obtain ⟨k, hk, _⟩ := hF
    exact Stp.step x t r hs (List.mem_of_getElem? hk) ih
theorem fst_deep {g : Gr} {B : List Nat} {x : Nat} {r : List Nat} (h : Fst g (PN g 2) B x r) : (∀ y ∈ r, y ∉ B ++ [x]) ∧ r.Nodup := by
  induction h with
  | stop B x hs => exact ⟨fun y hy => (by cases hy), List.nodup_nil⟩
  | step B x t r hs hF _ ih =>
    obtain ⟨k, hk, hP, _⟩ := hF
    unfold PN at hP
    rw [if_pos rfl] at hP
    obtain ⟨h1, h2⟩ := ih
    refine ⟨fun y hy => ?_, List.nodup_cons.2 ⟨fun h => h1 t h (by simp), h2⟩⟩
    rcases List.mem_cons.1 hy with rfl | hy
    · exact hP.free
    · exact fun h => h1 y hy (List.mem_append_left _ h)
theorem stp_reach {g : Gr} {B : List Nat} {x : Nat} {r : List Nat} (h : Stp g x r) (hB : ∀ y ∈ x :: r, y ∉ B) : Reach g B x := by
  induction h with
  | stop x hs => exact Reach.sp x (by simpa using hB x (by simp)) hs
  | step x t r hs ht _ ih =>
    refine Reach.st x t ?_ ht (ih (fun y hy => hB y (List.mem_cons_of_mem _ hy)))
    unfold Gr.on
    have := hB x (by simp)
    simp [hs, this]
theorem stp_deep {g : Gr} {B : List Nat} {x : Nat} {r : List Nat} (h : Stp g x r) (hB : ∀ y ∈ r, y ∉ B ++ [x]) (hd : r.Nodup) : Fit g (PN g 2) B x r := by
  induction h generalizing B with
  | stop x hs => exact Fit.stop B x hs
  | step x t r hs ht hst ih =>
    obtain ⟨h1, h2⟩ := List.nodup_cons.1 hd
    refine Fit.step B x t r hs ht ?_ (ih (fun y hy h => ?_) h2)
    · unfold PN
      rw [if_pos rfl]
      exact stp_reach hst hB
    · rcases mem_snoc.1 h with h | h
      · exact hB y (List.mem_cons_of_mem _ hy) h
      · exact h1 (h ▸ hy)
/-- Two paths of a member, held against one another by a rule. -/
def costOf (g : Gr) (rule : Int) (m : Nat) (p : List Nat) : Int := if rule = 2 then 0 else costR (rankCost rule) g m p
def cmpP (g : Gr) (rule : Int) (m : Nat) (p q : List Nat) : Int := if costOf g rule m p < costOf g rule m q then -1 else if costOf g rule m q < costOf g rule m p then 1 else cmpN (rks g m p) (rks g m q)
theorem fst_nd {g : Gr} (hg : g.Ok) (hnd : ∀ x, (g.tr x).Nodup) {rule : Int} {m : Nat} {p : List Nat} (h : Fst g (PN g rule) [] m p) : (m :: p).Nodup := by
  by_cases hr : rule = 2
  · subst hr
    obtain ⟨h1, h2⟩ := fst_deep h
    exact List.nodup_cons.2 ⟨fun h => h1 m h (by simp), h2⟩
  · exact (fst_cost hg hnd hr h).2.2
theorem best_law {g : Gr} (hg : g.Ok) (hnd : ∀ x, (g.tr x).Nodup) {rule : Int} {m : Nat} (hm : m < g.n) {p q : List Nat} (h : Fst g (PN g rule) [] m p) (h' : Stp g m q) (hd : (m :: q).Nodup) :
    (p = q ∧ cmpP g rule m p q = 0) ∨ (p ≠ q ∧ cmpP g rule m p q = -1) := by
  unfold cmpP costOf
  by_cases hr : rule = 2
  · subst hr
    obtain ⟨h1, h2⟩ := List.nodup_cons.1 hd
    have := fst_lex h (stp_deep h' (fun y hy hb => h1 (by simp at hb; exact hb ▸ hy)) h2)
    simpa using this
  · rw [if_neg hr, if_neg hr]
    have h1 := cost_ge hg (rule := rule) h' hm
    have h2 := (fst_cost hg hnd hr h).1
    by_cases hlt : costR (rankCost rule) g m p < costR (rankCost rule) g m q
    · rw [if_pos hlt]
      exact .inr ⟨fun e => by rw [e] at hlt; omega, rfl⟩
    · rw [if_neg hlt, if_neg (by omega)]
      exact fst_lex h (cost_fit hg hr h' hm (by omega) [])
theorem Made.end_ {g : Gr} {rule : Int} {m a : Nat} {p : List Nat} (h : Made g rule m p a) : p = p.dropLast ++ [a] := by
  cases h <;> simp
theorem made_tail {g : Gr} {rule : Int} {m a : Nat} {p : List Nat} (h : Made g rule m p a) {r : List Nat} (hr : Fst g (PN g rule) p.dropLast a r) : ∃ s, p ++ r = m :: s ∧ Fst g (PN g rule) [] m s := by
  induction h generalizing r with
  | one => exact ⟨r, rfl, hr⟩
  | more p a t h1 h2 h3 ih =>
    obtain ⟨s, e, hs⟩ := ih (r := t :: r) (Fst.step _ a t r h2 (by rw [← h1.end_]; exact h3) (by rw [← h1.end_]; simpa using hr))
    exact ⟨s, by rw [← e]; simp, hs⟩
theorem made_fst {g : Gr} {rule : Int} {m a : Nat} {p : List Nat} (h : Made g rule m p a) (ha : g.sp a = true) : ∃ s, p = m :: s ∧ Fst g (PN g rule) [] m s := by
  obtain ⟨s, e, hs⟩ := made_tail h (Fst.stop _ a ha)
  exact ⟨s, by simpa using e, hs⟩
/-- All paths that go on from a member behind others. -/
def exts (g : Gr) : Nat → List Nat → Nat → List (List Nat)
  | 0, _, _ => []
  | f + 1, B, x => if g.sp x = true then [B ++ [x]] else (g.tr x).flatMap (fun t => if (B ++ [x]).contains t then [] else exts g f (B ++ [x]) t)
theorem exts_iff {g : Gr} (hg : g.Ok) : ∀ (f : Nat) (B : List Nat) (x : Nat) (q : List Nat), g.n ≤ f + B.length → (B ++ [x]).Nodup → (∀ y ∈ B ++ [x], y < g.n) →
    (q ∈ exts g f B x ↔ ∃ r, q = B ++ x :: r ∧ Stp g x r ∧ (B ++ x :: r).Nodup)
  | 0, B, x, q, hf, hd, hl => by
    have := nodup_le g.n _ hd hl
    rw [List.length_append, List.length_singleton] at this
    omega
  | f + 1, B, x, q, hf, hd, hl => by
    unfold exts
    have hx : x < g.n := hl x (by simp)
    cases hs : g.sp x with
    | true =>
      rw [if_pos rfl, List.mem_singleton]
      constructor
      · rintro rfl
        exact ⟨[], rfl, Stp.stop x hs, hd⟩
      · rintro ⟨r, rfl, h1, _⟩
        cases h1 with
        | stop _ _ => rfl
        | step _ t r h2 _ _ => rw [hs] at h2; cases h2
    | false =>
      rw [if_neg (by decide), List.mem_flatMap]
      constructor
      · rintro ⟨t, ht, h1⟩
        by_cases hc : (B ++ [x]).contains t = true
        · rw [if_pos hc] at h1; cases h1
        · rw [if_neg hc] at h1
          have hn : t ∉ B ++ [x] := fun h => hc (List.contains_iff_mem.2 h)
          obtain ⟨r, e, h2, h3⟩ := (exts_iff hg f (B ++ [x]) t q (by rw [List.length_append, List.length_singleton]; omega) (nodup_snoc hd hn) (fun y hy => by
            rcases mem_snoc.1 hy with hy | rfl
            · exact hl y hy
            · exact hg.lt x hx _ ht)).1 h1
          have e2 : B ++ [x] ++ t :: r = B ++ x :: t :: r := by simp
          rw [e2] at e h3
          exact ⟨t :: r, e, Stp.step x t r hs ht h2, h3⟩
      · rintro ⟨r, rfl, h1, h2⟩
        cases h1 with
        | stop _ h3 => rw [hs] at h3; cases h3
        | step _ t r h3 ht h4 =>
          have e2 : B ++ x :: t :: r = B ++ [x] ++ t :: r := by simp
          rw [e2] at h2 ⊢
          have hn : t ∉ B ++ [x] := fun h => by
            rw [List.nodup_append] at h2
            exact h2.2.2 t h t (by simp) rfl
          refine ⟨t, ht, ?_⟩
          rw [if_neg (fun h => hn (List.contains_iff_mem.1 h))]
          exact (exts_iff hg f (B ++ [x]) t _ (by rw [List.length_append, List.length_singleton]; omega) (nodup_snoc hd hn) (fun y hy => by
            rcases mem_snoc.1 hy with hy | rfl
            · exact hl y hy
            · exact hg.lt x hx _ ht)).2 ⟨r, rfl, h4, h2⟩
end Go.Proofs.Ytlbnebmdolnagaa

namespace Go.Proofs.Ytlbnebmdolnagaa
open Go.RowKit Go.Lib

theorem VoisOk.nd {V : List Voi} (h : VoisOk V) (x : Nat) : ((grV V).tr x).Nodup := by
  cases hv : V[x]? with
  | none =>
    have : (grV V).tr x = [] := by unfold grV; simp only [hv]
    rw [this]
    exact List.nodup_nil
  | some v =>
    rw [(grV_at hv).2]
    have ht := h.tr x v hv
    unfold List.Nodup
    rw [List.pairwise_iff_getElem]
    intro i j hi hj hij e
    rw [List.length_map] at hi hj
    rw [List.getElem_map, List.getElem_map] at e
    have h1 := trust_mem ht (List.getElem_mem hi)
    have h2 := trust_mem ht (List.getElem_mem hj)
    have h3 := (trust_at ht (List.getElem?_eq_getElem hj)).2.2
    have e2 : v.tr[i] = v.tr[j] := by omega
    have h4 : v.tr[j] ∈ v.tr.take j := by
      rw [← e2]
      exact List.mem_take_iff_getElem.2 ⟨i, by omega, rfl⟩
    rw [List.contains_iff_mem.2 h4] at h3
    cases h3
theorem ixT_of {V : List Voi} (hok : VoisOk V) {x t : Nat} {v : Voi} {n : Int} (hx : V[x]? = some v) (h0 : 0 ≤ n) (h1 : v.tr[n.toNat]? = some (t : Int)) : n = (ixT (grV V) x t : Int) := by
  have h2 := (hok.at_tr hx h1).1
  rw [show ((t : Int)).toNat = t from rfl] at h2
  rw [ix_nd hok.nd h2]
  omega
set_option maxHeartbeats 1000000 in
theorem nan64_any (a : Int) (w : World) : Calls Try.prog 162 #[.int .i64 a] w (RetQ (.bool false) w) := by
  have e : (a != a) = false := by simp
  go_enter Try.func162, Try.ntmps162
  go_wp2
  go_ret
  exact ⟨rfl, 0, rfl⟩
set_option maxHeartbeats 1000000 in
theorem cmp1_any (a b : Int) (w : World) : Calls Try.prog 140 #[.int .i64 a, .int .i64 b] w (RetB (.int .i64 (if a < b then -1 else if b < a then 1 else 0)) w) := by
  generalize hr : (if a < b then (-1 : Int) else if b < a then 1 else 0) = r
  have HRR := Lib.hid hr
  clear hr
  go_enter Try.func140, Try.ntmps140
  go_wp2_with (fail)
  refine (nan64_any a w).mono ?_
  rintro e _ ⟨rfl, m, rfl⟩
  go_wp2_with (fail)
  refine (nan64_any b _).mono ?_
  rintro e _ ⟨rfl, m2, rfl⟩
  have hb : Below w.heap.size w ((w.drewN m).drewN m2) := below_drewN (below_drewN (Below.refl _ _) m) m2
  obtain ⟨W, hW⟩ : ∃ X, X = (w.drewN m).drewN m2 := ⟨_, rfl⟩
  rw [← hW] at hb ⊢
  clear hW
  by_cases h1 : a < b
  · have h1d : decide (a < b) = true := decide_eq_true h1
    have hr := HRR.out
    rw [if_pos h1] at hr
    subst hr
    clear HRR
    go_wp2
    go_ret
    exact ⟨rfl, hb⟩
  · have h1d : decide (a < b) = false := decide_eq_false h1
    by_cases h2 : b < a
    · have h2d : decide (b < a) = true := decide_eq_true h2
      have hr := HRR.out
      rw [if_neg h1, if_pos h2] at hr
      subst hr
      clear HRR
      go_wp2
      go_ret
      exact ⟨rfl, hb⟩
    · have h2d : decide (b < a) = false := decide_eq_false h2
      have hr := HRR.out
      rw [if_neg h1, if_neg h2] at hr
      subst hr
      clear HRR
      go_wp2
      go_ret
      exact ⟨rfl, hb⟩
theorem cmpN_drop {p q : List Nat} {k x y : Nat} (hp : p[k]? = some x) (hq : q[k]? = some y) : cmpN (p.drop k) (q.drop k) = if x < y then -1 else if y < x then 1 else cmpN (p.drop (k + 1)) (q.drop (k + 1)) := by
  obtain ⟨h1, e1⟩ := List.getElem?_eq_some_iff.1 hp
  obtain ⟨h2, e2⟩ := List.getElem?_eq_some_iff.1 hq
  rw [List.drop_eq_getElem_cons h1, List.drop_eq_getElem_cons h2, e1, e2, cmpN]
set_option maxRecDepth 100000 in
set_option maxHeartbeats 2000000 in
theorem cmp64_any (p q : List Nat) (v1 v2 : Value) (w : World) (h1 : Ints w w.heap.size v1 (barL p)) (h2 : Ints w w.heap.size v2 (barL q)) : Calls Try.prog 109 #[v1, v2] w (RetB (.int .i64 (cmpN p q)) w) := by
  obtain ⟨A1, c1, rfl, _, m1⟩ := h1.sl
  obtain ⟨A2, c2, rfl, _, m2⟩ := h2.sl
  unfold maxLen at m1 m2
  have hp : p.length ≤ 9223372036854775807 := by
    obtain ⟨_, _, e, g1, g2, _⟩ := h1
    unfold maxLen at g2
    rw [barL_len] at g1
    injection e with _ _ e3
    omega
  have hq : q.length ≤ 9223372036854775807 := by
    obtain ⟨_, _, e, g1, g2, _⟩ := h2
    unfold maxLen at g2
    rw [barL_len] at g1
    injection e with _ _ e3
    omega
  have H1 := Lib.hid (fun y : Aft w => SlR.on h1 (Pl.stays _) y.ok y.ok.size)
  have H2 := Lib.hid (fun y : Aft w => SlR.on h2 (Pl.stays _) y.ok y.ok.size)
  rw [barL_len] at H1 H2 ⊢
  rw [barL_len]
  clear h1 h2
  obtain ⟨r, hr⟩ : ∃ r, cmpN p q = r := ⟨_, rfl⟩
  rw [hr]
  refine calls_aft fun x0 => ?_
  go_enter Try.func109, Try.ntmps109
  go_wp2
  go_loopw [4, 5, 6, 7, 8, 11] (fun _ _ _ _ _ i wr => ∃ (k : Nat) (x : Aft w), k ≤ p.length ∧ k ≤ q.length ∧ i = .int .i64 (k : Int) ∧ r = cmpN (p.drop k) (q.drop k) ∧ wr = x.val) (fun _ _ _ _ _ i _ => p.length - (RowKit.intOf i).toNat)
  case atStart => exact ⟨0, x0, Nat.zero_le _, Nat.zero_le _, rfl, hr.symm, rfl⟩
  case round =>
    obtain ⟨k, x, hk, hk2, rfl, heq, rfl⟩ := hrel
    by_cases hlt : k < p.length
    · have hpk : p[k]? = some p[k] := List.getElem?_eq_getElem hlt
      obtain ⟨b, o, rfl, hb, e0⟩ := ints_get (H1.out x) (barL_get hpk)
      by_cases hl2 : k < q.length
      · have hqk : q[k]? = some q[k] := List.getElem?_eq_getElem hl2
        obtain ⟨b2, o2, rfl, hb2, e1⟩ := ints_get (H2.out x) (barL_get hqk)
        have hge : ¬ ((q.length : Int) ≤ (k : Int)) := by omega
        have hged : decide ((q.length : Int) ≤ (k : Int)) = false := decide_eq_false hge
        rw [cmpN_drop hpk hqk] at heq
        clear hpk hqk
        generalize p[k] = a at *
        generalize q[k] = b' at *
        have HC := Lib.hid (cmp1_any (a : Int) (b' : Int) x.val)
        by_cases h1 : a < b'
        · rw [if_pos h1] at heq
          rw [if_pos (by omega : (a : Int) < (b' : Int))] at HC
          subst heq
          go_wp2_with (fail)
          refine HC.out.mono ?_
          rintro e w2 ⟨rfl, hb⟩
          have hbe := x.ok.trans (hb.mono x.ok.size)
          go_wp2
          go_ret
          exact ⟨rfl, hbe⟩
        · rw [if_neg h1] at heq
          rw [if_neg (by omega : ¬ (a : Int) < (b' : Int))] at HC
          by_cases h3 : b' < a
          · rw [if_pos h3] at heq
            rw [if_pos (by omega : (b' : Int) < (a : Int))] at HC
            subst heq
            go_wp2_with (fail)
            refine HC.out.mono ?_
            rintro e w2 ⟨rfl, hb⟩
            have hbe := x.ok.trans (hb.mono x.ok.size)
            go_wp2
            go_ret
            exact ⟨rfl, hbe⟩
          · rw [if_neg h3] at heq
            rw [if_neg (by omega : ¬ (b' : Int) < (a : Int))] at HC
            have HEQ := Lib.hid heq
            clear heq
            go_wp2_with (fail)
            refine HC.out.mono ?_
            rintro e w2 ⟨rfl, hb⟩
            obtain ⟨y, rfl⟩ : ∃ y : Aft w, y.val = w2 := ⟨⟨w2, x.ok.trans (hb.mono x.ok.size)⟩, rfl⟩
            go_wp2
            go_roundw
            case rel => exact ⟨k + 1, y, by omega, by omega, by go_num, HEQ.out, rfl⟩
            case measure => simp [RowKit.intOf]; omega
      · have hge : (q.length : Int) ≤ (k : Int) := by omega
        have hged : decide ((q.length : Int) ≤ (k : Int)) = true := decide_eq_true hge
        have hR : r = 1 := by rw [heq, List.drop_eq_nil_of_le (by omega : q.length ≤ k), List.drop_eq_getElem_cons hlt, cmpN]
        clear heq
        subst hR
        clear hpk
        generalize p[k] = a at *
        go_wp2
        go_ret
        exact ⟨rfl, x.ok⟩
    · have hge : ¬ ((k : Int) < (p.length : Int)) := by omega
      by_cases hl2 : k < q.length
      · have hlt2 : (p.length : Int) < (q.length : Int) := by omega
        have hltd : decide ((p.length : Int) < (q.length : Int)) = true := decide_eq_true hlt2
        have hR : r = -1 := by rw [heq, List.drop_eq_nil_of_le (by omega : p.length ≤ k), List.drop_eq_getElem_cons hl2, cmpN]
        clear heq
        subst hR
        go_wp2
        go_ret
        exact ⟨rfl, x.ok⟩
      · have hlt2 : ¬ ((p.length : Int) < (q.length : Int)) := by omega
        have hltd : decide ((p.length : Int) < (q.length : Int)) = false := decide_eq_false hlt2
        have hR : r = 0 := by rw [heq, List.drop_eq_nil_of_le (by omega : p.length ≤ k), List.drop_eq_nil_of_le (by omega : q.length ≤ k), cmpN]
        clear heq
        subst hR
        go_wp2
        go_ret
        exact ⟨rfl, x.ok⟩
end Go.Proofs.Ytlbnebmdolnagaa

namespace Go.Proofs.Ytlbnebmdolnagaa
open Go.RowKit Go.Lib

/-- What is in one mask and not in another one. -/
def anN (a b : Nat) : Nat := a ^^^ (a &&& b)
theorem anN_bit (a b i : Nat) : (anN a b).testBit i = (a.testBit i && !b.testBit i) := by
  unfold anN
  rw [Nat.testBit_xor, Nat.testBit_and]
  cases a.testBit i <;> cases b.testBit i <;> rfl
theorem anN_le (a b : Nat) : anN a b ≤ a := by
  have e : anN a b &&& a = anN a b := Nat.eq_of_testBit_eq fun i => by
    rw [Nat.testBit_and, anN_bit]
    cases a.testBit i <;> cases b.testBit i <;> rfl
  have := Nat.and_le_right (n := anN a b) (m := a)
  omega
theorem anN_zero {a b : Nat} : anN a b = 0 ↔ ∀ i, a.testBit i = true → b.testBit i = true := by
  constructor
  · intro h i hi
    have := anN_bit a b i
    rw [h, Nat.zero_testBit, hi] at this
    cases hb : b.testBit i
    · rw [hb] at this; cases this
    · rfl
  · intro h
    refine Nat.eq_of_testBit_eq fun i => ?_
    rw [anN_bit, Nat.zero_testBit]
    cases ha : a.testBit i
    · rfl
    · rw [h i ha]; rfl
theorem and_zero {a b : Nat} : a &&& b = 0 ↔ ∀ i, a.testBit i = true → b.testBit i = true → False := by
  constructor
  · intro h i hi hb
    have := Nat.testBit_and a b i
    rw [h, Nat.zero_testBit, hi, hb] at this
    cases this
  · intro h
    refine Nat.eq_of_testBit_eq fun i => ?_
    rw [Nat.testBit_and, Nat.zero_testBit]
    cases ha : a.testBit i
    · rfl
    · cases hb : b.testBit i
      · rfl
      · exact (h i ha hb).elim
theorem lt_of_bits {m n : Nat} (h : ∀ i, m.testBit i = true → i < n) : m < 2 ^ n :=
  Nat.lt_pow_two_of_testBit m fun i hi => by
    cases hm : m.testBit i
    · rfl
    · have := h i hm; omega
theorem bit_lt {m n i : Nat} (h : m < 2 ^ n) (hi : m.testBit i = true) : i < n := by
  rcases Nat.lt_or_ge i n with h1 | h1
  · exact h1
  · rw [Nat.testBit_lt_two_pow (Nat.lt_of_lt_of_le h (Nat.pow_le_pow_right (by omega) h1))] at hi
    cases hi
theorem or_bit {o j i : Nat} : (o ||| 2 ^ j).testBit i = true ↔ o.testBit i = true ∨ j = i := by
  rw [Nat.testBit_or, Nat.testBit_two_pow]
  simp
theorem fold_bit {α : Type} (c : α → Bool) (f : α → Nat) : ∀ (l : List α) (o j : Nat), (l.foldl (fun o x => if c x then o ||| 2 ^ f x else o) o).testBit j = true ↔ o.testBit j = true ∨ ∃ x ∈ l, c x = true ∧ f x = j
  | [], o, j => by simp
  | a :: l, o, j => by
    rw [List.foldl_cons, fold_bit c f l]
    cases hc : c a
    · simp [hc]
    · rw [if_pos rfl, or_bit]
      simp [hc, or_assoc]

/-- A frame: how many arguments, and which of them attack which. -/
structure Fr where
  n : Nat
  R : List (Nat × Nat)
structure Fr.Ok (F : Fr) : Prop where
  n10 : F.n ≤ 10
  len : F.R.length ≤ 100
  lt : ∀ p ∈ F.R, p.1 < F.n ∧ p.2 < F.n
  up : F.R.Pairwise (fun p q => p.1 < q.1 ∨ p.1 = q.1 ∧ p.2 < q.2)

/-- What a mask attacks, by the attacks in a list. -/
def hitS (m : Nat) (R : List (Nat × Nat)) : Nat := R.foldl (fun o p => if m.testBit p.1 then o ||| 2 ^ p.2 else o) 0
theorem hit_bit {m j : Nat} {R : List (Nat × Nat)} : (hitS m R).testBit j = true ↔ ∃ p ∈ R, m.testBit p.1 = true ∧ p.2 = j := by
  unfold hitS
  rw [fold_bit (fun p : Nat × Nat => m.testBit p.1) (fun p => p.2)]
  simp
theorem hit_bit' {m j : Nat} {R : List (Nat × Nat)} : (hitS m R).testBit j = true ↔ ∃ a, (a, j) ∈ R ∧ m.testBit a = true := by
  rw [hit_bit]
  constructor
  · rintro ⟨⟨a, b⟩, h1, h2, h3⟩; exact ⟨a, by rw [← h3]; exact h1, h2⟩
  · rintro ⟨a, h1, h2⟩; exact ⟨(a, j), h1, h2, rfl⟩
/-- What attacks an argument. -/
def byM (R : List (Nat × Nat)) (b : Nat) : Nat := R.foldl (fun o p => if p.2 == b then o ||| 2 ^ p.1 else o) 0
theorem by_bit {a b : Nat} {R : List (Nat × Nat)} : (byM R b).testBit a = true ↔ (a, b) ∈ R := by
  unfold byM
  rw [fold_bit (fun p : Nat × Nat => p.2 == b) (fun p => p.1)]
  constructor
  · rintro (h | ⟨⟨x, y⟩, h1, h2, h3⟩)
    · rw [Nat.zero_testBit] at h; cases h
    · have h2 : y = b := by simpa using h2
      have h3 : x = a := h3
      rw [← h2, ← h3]; exact h1
  · intro h; exact .inr ⟨(a, b), h, by simp, rfl⟩
/-- What a mask defends, of the first k arguments. -/
def defS (F : Fr) (m k : Nat) : Nat := (List.range k).foldl (fun o a => if anN (byM F.R a) (hitS m F.R) == 0 then o ||| 2 ^ a else o) 0
theorem def_bit {F : Fr} {m k a : Nat} : (defS F m k).testBit a = true ↔ a < k ∧ ∀ x, (x, a) ∈ F.R → (hitS m F.R).testBit x = true := by
  unfold defS
  rw [fold_bit (fun a => anN (byM F.R a) (hitS m F.R) == 0) (fun a => a)]
  simp only [Nat.zero_testBit, List.mem_range, beq_iff_eq, anN_zero, by_bit]
  constructor
  · rintro (h | ⟨x, h1, h2, rfl⟩)
    · cases h
    · exact ⟨h1, h2⟩
  · rintro ⟨h1, h2⟩; exact .inr ⟨a, h1, h2, rfl⟩
def freeB (F : Fr) (m : Nat) : Bool := hitS m F.R &&& m == 0
def goodB (F : Fr) (m : Nat) : Bool := freeB F m && anN m (defS F m F.n) == 0
/-- Admissible: no two attack one another, and each attacker is attacked. -/
structure Good (F : Fr) (m : Nat) : Prop where
  free : ∀ a b, (a, b) ∈ F.R → m.testBit a = true → m.testBit b = true → False
  dfd : ∀ a, m.testBit a = true → a < F.n ∧ ∀ x, (x, a) ∈ F.R → ∃ y, (y, x) ∈ F.R ∧ m.testBit y = true
theorem good_iff {F : Fr} {m : Nat} : goodB F m = true ↔ Good F m := by
  unfold goodB freeB
  rw [Bool.and_eq_true, beq_iff_eq, beq_iff_eq, and_zero, anN_zero]
  constructor
  · rintro ⟨h1, h2⟩
    refine ⟨fun a b hab ha hb => h1 b (hit_bit'.2 ⟨a, hab, ha⟩) hb, fun a ha => ?_⟩
    obtain ⟨h3, h4⟩ := def_bit.1 (h2 a ha)
    exact ⟨h3, fun x hx => hit_bit'.1 (h4 x hx)⟩
  · intro h
    refine ⟨fun i hi hm => ?_, fun a ha => def_bit.2 ⟨(h.dfd a ha).1, fun x hx => hit_bit'.2 ((h.dfd a ha).2 x hx)⟩⟩
    obtain ⟨a, h1, h2⟩ := hit_bit'.1 hi
    exact h.free a i h1 h2 hm
theorem Good.lt {F : Fr} {m : Nat} (h : Good F m) : m < 2 ^ F.n := lt_of_bits fun i hi => (h.dfd i hi).1

/-- All admissible masks, and those of them that lie in no other one. -/
def goods (F : Fr) : List Nat := (List.range (2 ^ F.n)).filter (goodB F)
theorem goods_mem {F : Fr} {m : Nat} : m ∈ goods F ↔ Good F m := by
  unfold goods
  rw [List.mem_filter, List.mem_range, good_iff]
  exact ⟨fun h => h.2, fun h => ⟨h.lt, h⟩⟩
def inMk (m o : Nat) : Bool := o != m && anN m o == 0
def prefs (F : Fr) : List Nat := (goods F).filter (fun m => !(goods F).any (inMk m))
def Sub (a b : Nat) : Prop := ∀ i, a.testBit i = true → b.testBit i = true
theorem Sub.le {a b : Nat} (h : Sub a b) : a ≤ b := by
  have : a &&& b = a := Nat.eq_of_testBit_eq fun i => by
    rw [Nat.testBit_and]
    cases ha : a.testBit i
    · rfl
    · rw [h i ha]; rfl
  have h2 := Nat.and_le_right (n := a) (m := b)
  omega
theorem Sub.eq {a b : Nat} (h : Sub a b) (h' : Sub b a) : a = b := Nat.le_antisymm h.le h'.le
theorem prefs_mem {F : Fr} {m : Nat} : m ∈ prefs F ↔ Good F m ∧ ∀ o, Good F o → Sub m o → o = m := by
  unfold prefs
  rw [List.mem_filter, goods_mem, Bool.not_eq_true', List.any_eq_false]
  refine and_congr_right fun _ => ?_
  constructor
  · intro h o ho hs
    have h1 := h o (goods_mem.2 ho)
    have h2 : anN m o = 0 := anN_zero.2 hs
    unfold inMk at h1
    rw [h2] at h1
    simpa using h1
  · intro h o ho
    unfold inMk
    by_cases e : anN m o = 0
    · rw [h o (goods_mem.1 ho) (anN_zero.1 e)]
      simp
    · simp [e]
/-- Each admissible mask lies in one that is preferred. -/
theorem in_pref {F : Fr} : ∀ (k m : Nat), 2 ^ F.n ≤ m + k → Good F m → ∃ p ∈ prefs F, Sub m p
  | 0, m, h, hg => by have := hg.lt; omega
  | k + 1, m, h, hg => by
    by_cases hp : m ∈ prefs F
    · exact ⟨m, hp, fun i h => h⟩
    · rw [prefs_mem] at hp
      have : ∃ o, Good F o ∧ Sub m o ∧ o ≠ m := by
        refine Classical.byContradiction fun hn => hp ⟨hg, fun o h1 h2 => ?_⟩
        exact Classical.byContradiction fun h3 => hn ⟨o, h1, h2, h3⟩
      obtain ⟨o, h1, h2, h3⟩ := this
      have h4 := h2.le
      obtain ⟨p, h5, h6⟩ := in_pref k o (by omega) h1
      exact ⟨p, h5, fun i hi => h6 i (h2 i hi)⟩
theorem zero_good (F : Fr) : Good F 0 := ⟨fun a b _ h => by simp at h, fun a h => by simp at h⟩
theorem prefs_pos (F : Fr) : prefs F ≠ [] := by
  obtain ⟨p, hp, _⟩ := in_pref (F := F) (2 ^ F.n) 0 (by omega) (zero_good F)
  intro h
  rw [h] at hp
  cases hp
/-- Two admissible masks in a third one are so together. -/
theorem good_or {F : Fr} {a b p : Nat} (ha : Good F a) (hb : Good F b) (hp : Good F p) (h1 : Sub a p) (h2 : Sub b p) : Good F (a ||| b) ∧ Sub (a ||| b) p := by
  have hs : Sub (a ||| b) p := fun i hi => by
    rw [Nat.testBit_or, Bool.or_eq_true] at hi
    rcases hi with hi | hi
    · exact h1 i hi
    · exact h2 i hi
  refine ⟨⟨fun x y hxy hx hy => hp.free x y hxy (hs x hx) (hs y hy), fun x hx => ?_⟩, hs⟩
  rw [Nat.testBit_or, Bool.or_eq_true] at hx
  rcases hx with hx | hx
  · exact ⟨(ha.dfd x hx).1, fun y hy => by
      obtain ⟨z, h3, h4⟩ := (ha.dfd x hx).2 y hy
      exact ⟨z, h3, by rw [Nat.testBit_or, h4]; rfl⟩⟩
  · exact ⟨(hb.dfd x hx).1, fun y hy => by
      obtain ⟨z, h3, h4⟩ := (hb.dfd x hx).2 y hy
      exact ⟨z, h3, by rw [Nat.testBit_or, h4, Bool.or_true]⟩⟩

/-- What the rounds end with: g is accepted, j is rejected. -/
structure Grd (F : Fr) (g j : Nat) : Prop where
  lt : g < 2 ^ F.n ∧ j < 2 ^ F.n
  acc : ∀ a, g.testBit a = true → ∀ x, (x, a) ∈ F.R → j.testBit x = true
  rej : ∀ b, j.testBit b = true → ∃ x, (x, b) ∈ F.R ∧ g.testBit x = true
  apart : ∀ a, g.testBit a = true → j.testBit a = true → False
  low : ∀ A J : Nat, (∀ a, a < F.n → (∀ x, (x, a) ∈ F.R → J.testBit x = true) → A.testBit a = true) → (∀ a b, (a, b) ∈ F.R → A.testBit a = true → J.testBit b = true) → Sub g A ∧ Sub j J
/-- .. where nothing more is accepted or rejected. -/
structure Shut2 (F : Fr) (g j : Nat) : Prop where
  c1 : ∀ a, a < F.n → (∀ x, (x, a) ∈ F.R → j.testBit x = true) → g.testBit a = true
  c2 : ∀ a b, (a, b) ∈ F.R → g.testBit a = true → j.testBit b = true
theorem Grd.one {F : Fr} {g j g' j' : Nat} (h : Grd F g j) (hs : Shut2 F g j) (h' : Grd F g' j') (hs' : Shut2 F g' j') : g = g' :=
  Sub.eq (h.low g' j' hs'.c1 hs'.c2).1 (h'.low g j hs.c1 hs.c2).1
theorem Grd.good {F : Fr} {g j : Nat} (h : Grd F g j) : Good F g :=
  ⟨fun a b hab ha hb => h.apart a ha (h.acc b hb a hab), fun a ha => ⟨bit_lt h.lt.1 ha, fun x hx => by
    obtain ⟨y, h1, h2⟩ := h.rej x (h.acc a ha x hx)
    exact ⟨y, h1, h2⟩⟩⟩
/-- The grounded mask lies in each preferred one. -/
theorem Grd.pref {F : Fr} (_hF : F.Ok) {g j p : Nat} (h : Grd F g j) (hp : p ∈ prefs F) : Sub g p := by
  obtain ⟨hg, hm⟩ := prefs_mem.1 hp
  refine (h.low p (hitS p F.R) (fun a ha hx => ?_) (fun a b hab ha => hit_bit'.2 ⟨a, hab, ha⟩)).1
  have hx' : ∀ x, (x, a) ∈ F.R → ∃ y, (y, x) ∈ F.R ∧ p.testBit y = true := fun x h => hit_bit'.1 (hx x h)
  have hG : Good F (p ||| 2 ^ a) := by
    have no : ∀ x, (x, a) ∈ F.R → p.testBit x = true → False := fun x h1 h2 => by
      obtain ⟨y, h3, h4⟩ := hx' x h1
      exact hg.free y x h3 h4 h2
    have nf : ∀ y, (a, y) ∈ F.R → p.testBit y = true → False := fun y h1 h2 => by
      obtain ⟨z, h3, h4⟩ := (hg.dfd y h2).2 a h1
      exact no z h3 h4
    have ns : (a, a) ∈ F.R → False := fun h1 => by
      obtain ⟨z, h3, h4⟩ := hx' a h1
      exact no z h3 h4
    refine ⟨fun x y hxy h1 h2 => ?_, fun x h1 => ?_⟩
    · rw [or_bit] at h1 h2
      rcases h1 with h1 | rfl
      · rcases h2 with h2 | rfl
        · exact hg.free x y hxy h1 h2
        · exact no x hxy h1
      · rcases h2 with h2 | rfl
        · exact nf y hxy h2
        · exact ns hxy
    · rw [or_bit] at h1
      rcases h1 with h1 | rfl
      · exact ⟨(hg.dfd x h1).1, fun y hy => by
          obtain ⟨z, h3, h4⟩ := (hg.dfd x h1).2 y hy
          exact ⟨z, h3, or_bit.2 (.inl h4)⟩⟩
      · exact ⟨ha, fun y hy => by
          obtain ⟨z, h3, h4⟩ := hx' y hy
          exact ⟨z, h3, or_bit.2 (.inl h4)⟩⟩
  have e := hm _ hG (fun i hi => or_bit.2 (.inl hi))
  rw [← e]
  exact or_bit.2 (.inr rfl)
end Go.Proofs.Ytlbnebmdolnagaa

namespace Go.Proofs.Ytlbnebmdolnagaa
open Go.RowKit Go.Lib

theorem bits_nat (op : BinOp) (a b r : Nat) (_ha : a < 2 ^ 62) (_hb : b < 2 ^ 62) (hr : r < 2 ^ 62)
    (h : (match op with | .and => BitVec.ofNat 64 a &&& BitVec.ofNat 64 b | .or => BitVec.ofNat 64 a ||| BitVec.ofNat 64 b | .xor => BitVec.ofNat 64 a ^^^ BitVec.ofNat 64 b | _ => BitVec.ofNat 64 a &&& ~~~(BitVec.ofNat 64 b)).toNat = r) : bits op .i64 (a : Int) (b : Int) = (r : Int) := by
  have ea : BitVec.ofInt IntKind.i64.bits (a : Int) = BitVec.ofNat 64 a := by rw [BitVec.ofInt_natCast]; rfl
  have eb : BitVec.ofInt IntKind.i64.bits (b : Int) = BitVec.ofNat 64 b := by rw [BitVec.ofInt_natCast]; rfl
  unfold bits
  rw [ea, eb]
  have hw : ∀ x : Nat, x = r → IntKind.i64.wrap (x : Int) = (r : Int) := fun x hx => by rw [hx, IntKind.wrap_i64]; omega
  cases op <;> exact hw _ h
theorem bits_and (a b : Nat) (ha : a < 2 ^ 62) (hb : b < 2 ^ 62) : bits .and .i64 (a : Int) (b : Int) = ((a &&& b : Nat) : Int) :=
  bits_nat .and a b _ ha hb (Nat.lt_of_le_of_lt Nat.and_le_left ha) (by
    show (BitVec.ofNat 64 a &&& BitVec.ofNat 64 b).toNat = _
    rw [BitVec.toNat_and, BitVec.toNat_ofNat, BitVec.toNat_ofNat, Nat.mod_eq_of_lt (by omega), Nat.mod_eq_of_lt (by omega)])
theorem bits_or (a b : Nat) (ha : a < 2 ^ 62) (hb : b < 2 ^ 62) : bits .or .i64 (a : Int) (b : Int) = ((a ||| b : Nat) : Int) :=
  bits_nat .or a b _ ha hb (Nat.or_lt_two_pow ha hb) (by
    show (BitVec.ofNat 64 a ||| BitVec.ofNat 64 b).toNat = _
    rw [BitVec.toNat_or, BitVec.toNat_ofNat, BitVec.toNat_ofNat, Nat.mod_eq_of_lt (by omega), Nat.mod_eq_of_lt (by omega)])
theorem bits_not (a b : Nat) (ha : a < 2 ^ 62) (hb : b < 2 ^ 62) : bits .andNot .i64 (a : Int) (b : Int) = ((anN a b : Nat) : Int) :=
  bits_nat .andNot a b _ ha hb (Nat.lt_of_le_of_lt (anN_le a b) ha) (by
    show (BitVec.ofNat 64 a &&& ~~~(BitVec.ofNat 64 b)).toNat = _
    refine Nat.eq_of_testBit_eq fun i => ?_
    rw [anN_bit, BitVec.testBit_toNat, BitVec.getLsbD_and, BitVec.getLsbD_not, BitVec.getLsbD_ofNat, BitVec.getLsbD_ofNat]
    by_cases hi : i < 64
    · simp [hi]
    · have : a.testBit i = false := Nat.testBit_lt_two_pow (Nat.lt_of_lt_of_le ha (Nat.pow_le_pow_right (by omega) (by omega)))
      simp [hi, this])
theorem shr_nat (m i : Nat) : (m : Int) / 2 ^ i = ((m >>> i : Nat) : Int) := by
  rw [Nat.shiftRight_eq_div_pow]
  push_cast
  rfl
theorem and_one (m i : Nat) (hm : m < 2 ^ 62) : bits .and .i64 ((m : Int) / 2 ^ i) 1 = if m.testBit i then 1 else 0 := by
  have h := bits_and (m >>> i) 1 (by rw [Nat.shiftRight_eq_div_pow]; exact Nat.lt_of_le_of_lt (Nat.div_le_self _ _) hm) (by omega)
  rw [shr_nat]
  rw [show ((1 : Nat) : Int) = 1 from rfl] at h
  rw [h, Nat.and_one_is_mod, Nat.testBit_eq_decide_div_mod_eq, Nat.shiftRight_eq_div_pow]
  have := Nat.mod_two_eq_zero_or_one (m / 2 ^ i)
  rcases this with h | h <;> simp [h]
theorem tb_one (m i : Nat) (hm : m < 2 ^ 62) : (bits .and .i64 ((m : Int) / 2 ^ i) 1 == 1) = m.testBit i := by
  rw [and_one m i hm]
  cases m.testBit i <;> rfl
theorem tb_zero (m i : Nat) (hm : m < 2 ^ 62) : (bits .and .i64 ((m : Int) / 2 ^ i) 1 == 0) = !m.testBit i := by
  rw [and_one m i hm]
  cases m.testBit i <;> rfl
theorem wrap_two (j : Nat) (hj : j ≤ 20) : wrap64 (2 ^ j) = ((2 ^ j : Nat) : Int) := by
  have h := Nat.pow_le_pow_right (n := 2) (by omega) hj
  have e : (2 : Int) ^ j = ((2 ^ j : Nat) : Int) := by push_cast; rfl
  rw [e]
  generalize 2 ^ j = z at *
  unfold wrap64
  omega
theorem set_bit (o j : Nat) (ho : o < 2 ^ 62) (hj : j ≤ 20) : bits .or .i64 (o : Int) (wrap64 (2 ^ j)) = ((o ||| 2 ^ j : Nat) : Int) := by
  rw [wrap_two j hj]
  have h := Nat.pow_le_pow_right (n := 2) (by omega) hj
  exact bits_or o (2 ^ j) ho (by omega)

theorem hit_yes {m : Nat} {R : List (Nat × Nat)} {p : Nat × Nat} (h : m.testBit p.1 = true) : hitS m (R ++ [p]) = hitS m R ||| 2 ^ p.2 := by
  unfold hitS
  rw [List.foldl_append, List.foldl_cons, List.foldl_nil, if_pos h]
theorem hit_no {m : Nat} {R : List (Nat × Nat)} {p : Nat × Nat} (h : m.testBit p.1 = false) : hitS m (R ++ [p]) = hitS m R := by
  unfold hitS
  rw [List.foldl_append, List.foldl_cons, List.foldl_nil, h]
  rfl
theorem hit_lt (F : Fr) (hF : F.Ok) (m k : Nat) : hitS m (F.R.take k) < 1024 := by
  have h : hitS m (F.R.take k) < 2 ^ F.n := lt_of_bits fun i hi => by
    obtain ⟨p, h1, _, h3⟩ := hit_bit.1 hi
    rw [← h3]
    exact (hF.lt p (List.mem_of_mem_take h1)).2
  have := Nat.pow_le_pow_right (n := 2) (by omega) hF.n10
  omega
theorem hit_lt' (F : Fr) (hF : F.Ok) (m : Nat) : hitS m F.R < 1024 := by
  have := hit_lt F hF m F.R.length
  rwa [List.take_of_length_le (Nat.le_refl _)] at this
def frRows (F : Fr) : List (List Int) := F.R.map (fun p => [(p.1 : Int), (p.2 : Int)])
theorem frRows_len (F : Fr) : (frRows F).length = F.R.length := by unfold frRows; rw [List.length_map]
def FrR (w : World) (B : Nat) (F : Fr) (A : Option Addr) (c : Nat) : Prop := RowsR w B (.slice A F.R.length c) (frRows F)
def frV (F : Fr) (A : Option Addr) (c : Nat) : Value := .agg #[.int .i64 (F.n : Int), .slice A F.R.length c]
theorem FrR.on {w w' : World} {B B' : Nat} {F : Fr} {A : Option Addr} {c : Nat} (h : FrR w B F A c) (hb : Below B w w') (hB : B ≤ B') : FrR w' B' F A c := RowsR.on h hb hB
theorem fr_at {w : World} {B : Nat} {F : Fr} {A : Option Addr} {c : Nat} (h : FrR w B F A c) : F.R.length ≤ c ∧ c ≤ maxLen ∧ (0 < F.R.length → ∃ b off, A = some ⟨b, off, none⟩ ∧ b < B ∧
    ∀ (k : Nat) (p : Nat × Nat), F.R[k]? = some p → ∃ b1 o1 c1, w.cell? ⟨b, off + k, none⟩ = some (.slice (some ⟨b1, o1, none⟩) 2 c1) ∧ b1 < B ∧ w.cell? ⟨b1, o1, none⟩ = some (.int .i64 (p.1 : Int)) ∧ w.cell? ⟨b1, o1 + 1, none⟩ = some (.int .i64 (p.2 : Int))) := by
  obtain ⟨A', c', e, h1, h2, h3⟩ := rows_at h
  rw [frRows_len] at e h1 h3
  injection e with e1 e2 e3
  subst e1
  subst e3
  refine ⟨h1, h2, fun h0 => ?_⟩
  obtain ⟨b, off, hA, hb, hk⟩ := h3 h0
  refine ⟨b, off, hA, hb, fun k p hp => ?_⟩
  obtain ⟨A1, c1, x0, _, hi⟩ := hk k [(p.1 : Int), (p.2 : Int)] (by unfold frRows; rw [List.getElem?_map, hp]; rfl)
  obtain ⟨b1, o1, e1, hb1, y0⟩ := ints_get hi (k := 0) (z := (p.1 : Int)) rfl
  obtain ⟨b2, o2, e2, _, y1⟩ := ints_get hi (k := 1) (z := (p.2 : Int)) rfl
  rw [e1] at e2
  injection e2 with e2
  injection e2 with e2 e3
  subst e2
  subst e3
  subst e1
  exact ⟨b1, o1, c1, x0, hb1, y0, y1⟩

end Go.Proofs.Ytlbnebmdolnagaa

namespace Go.Proofs.Ytlbnebmdolnagaa
open Go.RowKit Go.Lib

theorem Try.infoCn : (Try.prog.info? 3).map (fun i => (i.zero, i.size, i.bytes)) = some (some (.int .i64 0), 1, 8) := by kernel_rfl
theorem Try.infoC64 : (Try.prog.info? 2).map (fun i => (i.zero, i.size, i.bytes)) = some (some (.int .i64 0), 1, 8) := by kernel_rfl
theorem make_zeros {P : Program} (w : World) (t e : TypeId) (i : TypeInfo) (ht : P.underlying t = some (.slice e)) (hi : P.info? e = some i) (hz : i.zero = some (.int .i64 0)) (hsize : i.size = 1) (hb8 : i.bytes = 8) (n : Nat) (hn : n ≤ 1048576) :
    ∃ w', (Instr.makeSlice t (.int .i64 (n : Int)) (.int .i64 (n : Int))).run P w = .ok (.slice (some ⟨w.heap.size, 0, none⟩) n n) w' ∧ Row w' w.heap.size (List.replicate n (.int .i64 0)) ∧ w.heap.size < w'.heap.size ∧ Below w.heap.size w w' := by
  have hr := run_make (P := P) w t e i _ ht hi hz .i64 .i64 n n (by omega) (Int.le_refl _) (by rw [hb8]; omega) (by omega)
  simp only [Int.toNat_natCast] at hr
  have h0 := Row.new w (madeCells (Value.cells (.int .i64 0)) (n * i.size)) e
  rw [hsize, Nat.mul_one] at h0
  rw [hsize, Nat.mul_one] at hr
  rw [show Value.cells (.int .i64 0) = #[.int .i64 0] from rfl, toList_madeCells_one] at h0
  exact ⟨_, hr, h0, by simp, (Below.refl _ _).alloc (Nat.le_refl _) _⟩
def nCells (l : List Nat) : List Value := l.map (fun (m : Nat) => Value.int .i64 (m : Int))
theorem nCells_get {l : List Nat} {k m : Nat} (h : l[k]? = some m) : (nCells l)[k]? = some (.int .i64 (m : Int)) := by unfold nCells; rw [List.getElem?_map, h]; rfl
def atkL (n : Nat) (R : List (Nat × Nat)) : List Nat := (List.range n).map (byM R)
theorem atkL_get {n b : Nat} {R : List (Nat × Nat)} (h : b < n) : (atkL n R)[b]? = some (byM R b) := by
  unfold atkL
  rw [List.getElem?_map, List.getElem?_range h]
  rfl
theorem atkL_len (n : Nat) (R : List (Nat × Nat)) : (nCells (atkL n R)).length = n := by unfold nCells atkL; simp
theorem atk_nil (n : Nat) : nCells (atkL n []) = List.replicate n (.int .i64 0) := by
  refine List.ext_getElem? fun k => ?_
  by_cases hk : k < n
  · rw [nCells_get (atkL_get hk), List.getElem?_replicate, if_pos hk]; rfl
  · rw [List.getElem?_eq_none (by rw [atkL_len]; omega), List.getElem?_eq_none (by rw [List.length_replicate]; omega)]
theorem by_snoc {R : List (Nat × Nat)} {p : Nat × Nat} {b : Nat} : byM (R ++ [p]) b = if p.2 = b then byM R b ||| 2 ^ p.1 else byM R b := by
  unfold byM
  rw [List.foldl_append, List.foldl_cons, List.foldl_nil]
  by_cases h : p.2 = b <;> simp [h]
theorem atk_snoc {n : Nat} {R : List (Nat × Nat)} {p : Nat × Nat} (h : p.2 < n) : (nCells (atkL n R)).set p.2 (.int .i64 ((byM R p.2 ||| 2 ^ p.1 : Nat) : Int)) = nCells (atkL n (R ++ [p])) := by
  refine List.ext_getElem? fun k => ?_
  rw [List.getElem?_set, atkL_len]
  by_cases hk : k < n
  · rw [nCells_get (atkL_get hk), nCells_get (atkL_get hk), by_snoc]
    by_cases e : p.2 = k
    · rw [if_pos e, if_pos h, if_pos e, e]
    · rw [if_neg e, if_neg e]
  · rw [List.getElem?_eq_none (by rw [atkL_len]; omega), List.getElem?_eq_none (by rw [atkL_len]; omega), if_neg (by omega)]
theorem by_lt {F : Fr} (hF : F.Ok) (k b : Nat) : byM (F.R.take k) b < 1024 := by
  have h : byM (F.R.take k) b < 2 ^ F.n := lt_of_bits fun i hi => (hF.lt _ (List.mem_of_mem_take (by_bit.1 hi))).1
  have := Nat.pow_le_pow_right (n := 2) (by omega) hF.n10
  omega
theorem by_lt' {F : Fr} (hF : F.Ok) (b : Nat) : byM F.R b < 1024 := by
  have := by_lt hF F.R.length b
  rwa [List.take_of_length_le (Nat.le_refl _)] at this
def AtkPost (F : Fr) (w : World) (e : Ending) (w' : World) : Prop :=
  ∃ g, e = .returned (.slice (some ⟨g, 0, none⟩) F.n F.n) ∧ Row w' g (nCells (atkL F.n F.R)) ∧ w.heap.size ≤ g ∧ g < w'.heap.size ∧ Below w.heap.size w w'

end Go.Proofs.Ytlbnebmdolnagaa

namespace Go.Proofs.Ytlbnebmdolnagaa
open Go.RowKit Go.Lib

theorem def_snoc {F : Fr} {m k : Nat} : defS F m (k + 1) = if anN (byM F.R k) (hitS m F.R) = 0 then defS F m k ||| 2 ^ k else defS F m k := by
  unfold defS
  rw [List.range_succ, List.foldl_append, List.foldl_cons, List.foldl_nil]
  by_cases h : anN (byM F.R k) (hitS m F.R) = 0 <;> simp [h]
theorem def_lt {F : Fr} (hF : F.Ok) {m k : Nat} (hk : k ≤ F.n) : defS F m k < 1024 := by
  have h : defS F m k < 2 ^ F.n := lt_of_bits fun i hi => by
    have := (def_bit.1 hi).1
    omega
  have := Nat.pow_le_pow_right (n := 2) (by omega) hF.n10
  omega
end Go.Proofs.Ytlbnebmdolnagaa

namespace Go.Proofs.Ytlbnebmdolnagaa
open Go.RowKit Go.Lib

theorem fr_row {w : World} {B : Nat} {F : Fr} {A : Option Addr} {c : Nat} (h : FrR w B F A c) : 0 < F.R.length → ∃ b off, A = some ⟨b, off, none⟩ ∧ b < B ∧
    ∀ (k : Nat) (p : Nat × Nat), F.R[k]? = some p → ∃ b1 o1 c1, w.cell? ⟨b, off + k, none⟩ = some (.slice (some ⟨b1, o1, none⟩) 2 c1) ∧ b1 < B ∧ w.cell? ⟨b1, o1, none⟩ = some (.int .i64 (p.1 : Int)) ∧ w.cell? ⟨b1, o1 + 1, none⟩ = some (.int .i64 (p.2 : Int)) ∧ Ints w B (.slice (some ⟨b1, o1, none⟩) 2 c1) (barL [p.1, p.2]) := by
  obtain ⟨A', c', e, h1, h2, h3⟩ := rows_at h
  rw [frRows_len] at e h1 h3
  injection e with e1 e2 e3
  subst e1
  subst e3
  intro h0
  obtain ⟨b, off, hA, hb, hk⟩ := h3 h0
  refine ⟨b, off, hA, hb, fun k p hp => ?_⟩
  obtain ⟨A1, c1, x0, _, hi⟩ := hk k [(p.1 : Int), (p.2 : Int)] (by unfold frRows; rw [List.getElem?_map, hp]; rfl)
  obtain ⟨b1, o1, e1, hb1, y0⟩ := ints_get hi (k := 0) (z := (p.1 : Int)) rfl
  obtain ⟨b2, o2, e2, _, y1⟩ := ints_get hi (k := 1) (z := (p.2 : Int)) rfl
  rw [e1] at e2
  injection e2 with e2
  injection e2 with e2 e3
  subst e2
  subst e3
  subst e1
  exact ⟨b1, o1, c1, x0, hb1, y0, y1, hi⟩
theorem up_cmp {F : Fr} (hF : F.Ok) {j k : Nat} {p q : Nat × Nat} (hp : F.R[j]? = some p) (hq : F.R[k]? = some q) (h : j < k) : cmpN [p.1, p.2] [q.1, q.2] = -1 := by
  obtain ⟨h1, rfl⟩ := List.getElem?_eq_some_iff.1 hp
  obtain ⟨h2, rfl⟩ := List.getElem?_eq_some_iff.1 hq
  have := List.pairwise_iff_getElem.1 hF.up j k h1 h2 h
  unfold cmpN
  rcases this with h | ⟨h, h'⟩
  · rw [if_pos h]
  · rw [if_neg (by omega), if_neg (by omega)]
    unfold cmpN
    rw [if_pos h']
end Go.Proofs.Ytlbnebmdolnagaa

namespace Go.Proofs.Ytlbnebmdolnagaa
open Go.RowKit Go.Lib

/-- Numbers that rise, all below n. -/
structure UpL (n : Nat) (l : List Nat) : Prop where
  up : l.Pairwise (· < ·)
  lt : ∀ x ∈ l, x < n
theorem UpL.len {n : Nat} {l : List Nat} (h : UpL n l) : l.length ≤ n := by
  have hd : l.Nodup := h.up.imp (fun {a b} h => Nat.ne_of_lt h)
  exact nodup_le n l hd h.lt
set_option maxRecDepth 100000 in
set_option maxHeartbeats 4000000 in
theorem isSet_any (n : Nat) (l : List Nat) (hl : UpL n l) (hn : n ≤ 1000) (v : Value) (w : World) (h : Ints w w.heap.size v (barL l)) :
    Calls Try.prog 114 #[v, .int .i64 (n : Int)] w (RetB (.bool true) w) := by
  obtain ⟨A, c, rfl, hc, hm⟩ := h.sl
  rw [barL_len] at h hc ⊢
  have HI := Lib.hid (fun y : Aft w => (SlR.on h (Pl.stays _) y.ok y.ok.size : Ints y.val y.val.heap.size _ _))
  have HL := Lib.hid hl
  have hlen := hl.len
  clear h hl
  refine calls_aft fun x0 => ?_
  go_enter Try.func114, Try.ntmps114
  go_wp2
  go_loopw [5, 6, 9] (fun _ _ i wr => ∃ (k : Nat) (x : Aft w), k ≤ l.length ∧ i = .int .i64 (k : Int) ∧ wr = x.val) (fun _ _ i _ => l.length - (RowKit.intOf i).toNat)
  case atStart => exact ⟨0, x0, Nat.zero_le _, rfl, rfl⟩
  case round =>
    obtain ⟨k, x, hk, rfl, rfl⟩ := hrel
    by_cases hlt : k < l.length
    · have hget : l[k]? = some l[k] := List.getElem?_eq_getElem hlt
      obtain ⟨b, off, rfl, hb, u0⟩ := ints_get (HI.out ⟨w, Below.refl _ _⟩) (barL_get hget)
      have y0 := fun y : Aft w => y.cell u0
      have hln := HL.out.lt _ (List.getElem_mem hlt)
      have hki : (k : Int) < (l.length : Int) := by omega
      have hk0 : (0 : Int) ≤ (k : Int) := by omega
      by_cases hkz : k = 0
      · subst hkz
        generalize l[0] = a at *
        simp only [Nat.add_zero] at y0
        clear u0 hget
        go_wp2_with (fail)
        refine (aft_q (in2_yes _ _ _ x.val (by omega) (by omega))).mono ?_
        rintro e _ ⟨rfl, y, rfl⟩
        go_wp2
        go_roundw
        case rel => exact ⟨1, y, by omega, by go_num, rfl⟩
        case measure => simp [RowKit.intOf]; omega
      · obtain ⟨j, hjk⟩ : ∃ j, k = j + 1 := ⟨k - 1, by omega⟩
        have hlj : j < l.length := by omega
        have hgj : l[j]? = some l[j] := List.getElem?_eq_getElem hlj
        obtain ⟨_, _, e, _, u1⟩ := ints_get (HI.out ⟨w, Below.refl _ _⟩) (barL_get hgj)
        injection e with e
        injection e with e1 e2 e3
        subst e1
        subst e2
        have y1 := fun y : Aft w => y.cell u1
        have hup := List.pairwise_iff_getElem.1 HL.out.up j k hlj hlt (by omega)
        have hkn : 0 < k := by omega
        have hkd : decide (0 < k) = true := decide_eq_true hkn
        have hk1 : (k : Int) - 1 = (j : Int) := by omega
        have hkw : IntKind.i64.wrap ((k : Int) - 1) = (j : Int) := by rw [IntKind.wrap_i64]; omega
        have hj0 : (0 : Int) ≤ (j : Int) := by omega
        have hji : (j : Int) < (l.length : Int) := by omega
        generalize l[k] = a at *
        generalize l[j] = a' at *
        have hnle : ¬ ((a : Int) ≤ (a' : Int)) := by omega
        clear u0 u1 hget hgj hjk hkz hlj e3
        go_wp2_with (fail)
        refine (aft_q (in2_yes _ _ _ x.val (by omega) (by omega))).mono ?_
        rintro e _ ⟨rfl, y, rfl⟩
        go_wp2
        go_roundw
        case rel => exact ⟨k + 1, y, by omega, by go_num, rfl⟩
        case measure => simp [RowKit.intOf]; omega
    · have hge : ¬ (k : Int) < (l.length : Int) := by omega
      go_wp2
      go_ret
      exact ⟨rfl, x.ok⟩

def setM (l : List Nat) : Nat := l.foldl (fun o x => if (fun _ => true) x then o ||| 2 ^ x else o) 0
theorem setM_bit {l : List Nat} {i : Nat} : (setM l).testBit i = true ↔ i ∈ l := by
  unfold setM
  rw [fold_bit (fun _ => true) (fun x => x)]
  simp
theorem setM_snoc {l : List Nat} {x : Nat} : setM (l ++ [x]) = setM l ||| 2 ^ x := by
  unfold setM
  rw [List.foldl_append]
  rfl
theorem setM_lt {n : Nat} {l : List Nat} (h : ∀ x ∈ l, x < n) : setM l < 2 ^ n := lt_of_bits fun i hi => h i (setM_bit.1 hi)
end Go.Proofs.Ytlbnebmdolnagaa

namespace Go.Proofs.Ytlbnebmdolnagaa
open Go.RowKit Go.Lib

def setK (m k : Nat) : List Nat := (List.range k).filter (fun i => m.testBit i)
def setL (m : Nat) : List Nat := setK m 10
theorem setK_snoc {m k : Nat} : setK m (k + 1) = if m.testBit k then setK m k ++ [k] else setK m k := by
  unfold setK
  rw [List.range_succ, List.filter_append]
  cases h : m.testBit k <;> simp [h]
theorem setK_end {m k : Nat} (h : m < 2 ^ k) : ∀ d, setK m (k + d) = setK m k
  | 0 => rfl
  | d + 1 => by
    rw [show k + (d + 1) = (k + d) + 1 by omega, setK_snoc, Nat.testBit_lt_two_pow (Nat.lt_of_lt_of_le h (Nat.pow_le_pow_right (by omega) (by omega))), setK_end h d]
    rfl
theorem setK_len (m k : Nat) : (setK m k).length ≤ k := by
  have := List.length_filter_le (fun i => m.testBit i) (List.range k)
  rw [List.length_range] at this
  exact this
theorem setL_mem {m i : Nat} (h : m < 1024) : i ∈ setL m ↔ m.testBit i = true := by
  unfold setL setK
  rw [List.mem_filter, List.mem_range]
  exact ⟨fun h => h.2, fun h' => ⟨bit_lt (n := 10) (by omega) h', h'⟩⟩
theorem setL_up {m n : Nat} (h : m < 2 ^ n) (hn : n ≤ 10) : UpL n (setL m) := by
  refine ⟨?_, fun x hx => ?_⟩
  · unfold setL setK
    exact List.Pairwise.filter _ List.pairwise_lt_range
  · have h2 := Nat.pow_le_pow_right (n := 2) (by omega) hn
    exact bit_lt h ((setL_mem (by omega)).1 hx)
theorem setM_setL {m : Nat} (h : m < 1024) : setM (setL m) = m := Nat.eq_of_testBit_eq fun i => by
  rw [Bool.eq_iff_iff, setM_bit, setL_mem h]
theorem div_pos {m k : Nat} (h : 2 ^ k ≤ m) : (0 : Int) < (m : Int) / 2 ^ k := by
  rw [shr_nat, Nat.shiftRight_eq_div_pow]
  have := Nat.div_pos h (Nat.pow_pos (by omega))
  omega
theorem div_none {m k : Nat} (h : m < 2 ^ k) : ¬ (0 : Int) < (m : Int) / 2 ^ k := by
  rw [shr_nat, Nat.shiftRight_eq_div_pow, Nat.div_eq_of_lt h]
  omega
def SetPost (m : Nat) (w : World) (e : Ending) (w' : World) : Prop :=
  ∃ g c, e = .returned (.slice (some ⟨g, 0, none⟩) (setL m).length c) ∧ NumO w' w.heap.size g c (barL (setL m)) ∧ Below w.heap.size w w'
theorem barL_snoc' (l : List Nat) (x : Nat) : barL (l ++ [x]) = barL l ++ [(x : Int)] := by unfold barL; rw [List.map_append]; rfl
set_option maxRecDepth 100000 in
set_option maxHeartbeats 4000000 in
theorem setOf_any (m : Nat) (hm : m < 1024) (w : World) : Calls Try.prog 117 #[.int .i64 (m : Int)] w (SetPost m w) := by
  obtain ⟨i0, hi, hz0, hz1, hz2⟩ := info_parts Try.infoC64
  have HO0 : Hid (NumO (w.alloc (.cells #[] 2)) w.heap.size w.heap.size 0 []) := Lib.hid (NumO.start w)
  have HB0 : Hid (Below w.heap.size w (w.alloc (.cells #[] 2))) := Lib.hid ((Below.refl _ _).alloc (Nat.le_refl _) _)
  unfold SetPost
  go_enter Try.func117, Try.ntmps117
  go_wp2
  go_loopw [3, 4] (fun o i wr => ∃ (k g cap : Nat), k ≤ 10 ∧ i = .int .i64 (k : Int) ∧ o = .slice (some ⟨g, 0, none⟩) (setK m k).length cap ∧ NumO wr w.heap.size g cap (barL (setK m k)) ∧ Below w.heap.size w wr) (fun _ i _ => 10 - (RowKit.intOf i).toNat)
  case atStart => exact ⟨0, _, 0, Nat.zero_le _, rfl, rfl, HO0.out, HB0.out⟩
  case round =>
    obtain ⟨k, g, cap, hk, rfl, rfl, ho, hb⟩ := hrel
    have HO := Lib.hid ho
    have HB := Lib.hid hb
    have hlen := setK_len m k
    clear ho
    have hbl : (barL (setK m k)).length = (setK m k).length := barL_len _
    by_cases hlt : 2 ^ k ≤ m
    · have hpos := div_pos hlt
      have hk10 : k < 10 := by
        rcases Nat.lt_or_ge k 10 with h | h
        · exact h
        · have := Nat.pow_le_pow_right (n := 2) (by omega) h
          omega
      have htb := tb_one m k (by omega)
      have HSN := Lib.hid (setK_snoc (m := m) (k := k))
      cases hb0 : m.testBit k with
      | true =>
        rw [hb0] at htb HSN
        have HSS : Hid (setK m (k + 1) = setK m k ++ [k]) := Lib.hid HSN.out
        have HROW := Lib.hid HO.out.row
        rw [hbl] at HROW
        clear hb0 HSN hlt
        go_wp2_with (at_builtin; refine wpList_append_own_at _ rfl _ _ 25 rfl w.heap.size 2 i0 (.int .i64 0) 1 8 Try.underlying25 hi hz0 hz1 hz2 rfl (by decide) _ _ _ rfl (HROW.out.alloc _) ⟨wr.heap.size, 0, none⟩ 1 1 (intCells (k : Int)) rfl rfl (fun j u hj => new_at hj) (fun u hu => int_one' _ hu) ?c3 ?c4 (base_le HB.out.size) ?_)
        case c3 => unfold maxLen; omega
        case c4 => omega
        intro v' w9 hown' hgrow hiff hat
        obtain ⟨g9, cap9, rfl, hdc9, hcm9⟩ := own_some hown' (by simpa using hiff)
        have HB9 := Lib.hid ((HB.out.alloc HB.out.size (.cells #[.int .i64 (k : Int)] 2)).grown hgrow (base_le HB.out.size) (fun j hj => (HROW.out.lt j hj).1))
        have HO9 : Hid (NumO w9 w.heap.size g9 cap9 (barL (setK m (k + 1)))) := Lib.hid (by
          unfold NumO
          rw [HSS.out, barL_snoc', flat_snoc, List.length_append, hbl]
          exact hown')
        have HL9 : Hid ((setK m (k + 1)).length = (setK m k).length + 1) := Lib.hid (by rw [HSS.out, List.length_append]; rfl)
        clear hown' hgrow hiff hat
        go_wp2
        go_roundw
        case rel => exact ⟨k + 1, g9, cap9, by omega, by go_num, by rw [HL9.out], HO9.out, HB9.out⟩
        case measure => simp [RowKit.intOf]; omega
      | false =>
        rw [hb0] at htb HSN
        have HSS : Hid (setK m (k + 1) = setK m k) := Lib.hid HSN.out
        clear hb0 HSN hlt
        go_wp2
        go_roundw
        case rel => exact ⟨k + 1, g, cap, by omega, by go_num, by rw [HSS.out], by rw [HSS.out]; exact HO.out, HB.out⟩
        case measure => simp [RowKit.intOf]; omega
    · have hno := div_none (m := m) (k := k) (by omega)
      have HE : Hid (setL m = setK m k) := Lib.hid (by
        unfold setL
        rw [show 10 = k + (10 - k) by omega]
        exact setK_end (by omega) _)
      clear hlt
      go_wp2
      go_ret
      exact ⟨g, cap, by rw [HE.out]; rfl, by rw [HE.out]; exact HO.out, HB.out⟩
end Go.Proofs.Ytlbnebmdolnagaa

namespace Go.Proofs.Ytlbnebmdolnagaa
open Go.RowKit Go.Lib

def newA (F : Fr) (b j a : Nat) : Bool := !b.testBit a && anN (byM F.R a) j == 0
def newR (F : Fr) (b g a : Nat) : Bool := !b.testBit a && byM F.R a &&& g != 0
def o1 (F : Fr) (b j : Nat) (r : Int) (o : Nat → Int) (k : Nat) : Nat → Int := fun a => if a < k ∧ newA F b j a = true then r else o a
def o2 (F : Fr) (b g : Nat) (r : Int) (o : Nat → Int) (k : Nat) : Nat → Int := fun a => if a < k ∧ newR F b g a = true then -r else o a
def upS (c : Nat → Bool) (g k : Nat) : Nat := (List.range k).foldl (fun o a => if c a then o ||| 2 ^ a else o) g
theorem upS_bit {c : Nat → Bool} {g k a : Nat} : (upS c g k).testBit a = true ↔ g.testBit a = true ∨ a < k ∧ c a = true := by
  unfold upS
  rw [fold_bit c (fun a => a)]
  refine or_congr_right ⟨?_, fun h => ⟨a, List.mem_range.2 h.1, h.2, rfl⟩⟩
  rintro ⟨x, h1, h2, rfl⟩
  exact ⟨List.mem_range.1 h1, h2⟩
theorem upS_succ {c : Nat → Bool} {g k : Nat} : upS c g (k + 1) = if c k then upS c g k ||| 2 ^ k else upS c g k := by
  unfold upS
  rw [List.range_succ, List.foldl_append]
  rfl
theorem upS_lt {c : Nat → Bool} {g k n : Nat} (hg : g < 2 ^ n) (hk : k ≤ n) : upS c g k < 2 ^ n := lt_of_bits fun i hi => by
  rcases upS_bit.1 hi with h | h
  · exact bit_lt hg h
  · omega
theorem o1_succ {F : Fr} {b j : Nat} {r : Int} {o : Nat → Int} {k : Nat} : o1 F b j r o (k + 1) = if newA F b j k = true then (fun i => if i = k then r else o1 F b j r o k i) else o1 F b j r o k := by
  funext a
  unfold o1
  by_cases h : newA F b j k = true
  · rw [if_pos h]
    by_cases e : a = k
    · subst e; rw [if_pos ⟨by omega, h⟩, if_pos rfl]
    · rw [if_neg e]
      by_cases h2 : a < k
      · simp [h2, show a < k + 1 by omega]
      · simp [h2, show ¬ a < k + 1 by omega]
  · rw [if_neg h]
    by_cases e : a = k
    · subst e; simp [h]
    · by_cases h2 : a < k
      · simp [h2, show a < k + 1 by omega]
      · simp [h2, show ¬ a < k + 1 by omega]
theorem o2_succ {F : Fr} {b g : Nat} {r : Int} {o : Nat → Int} {k : Nat} : o2 F b g r o (k + 1) = if newR F b g k = true then (fun i => if i = k then -r else o2 F b g r o k i) else o2 F b g r o k := by
  funext a
  unfold o2
  by_cases h : newR F b g k = true
  · rw [if_pos h]
    by_cases e : a = k
    · subst e; rw [if_pos ⟨by omega, h⟩, if_pos rfl]
    · rw [if_neg e]
      by_cases h2 : a < k
      · simp [h2, show a < k + 1 by omega]
      · simp [h2, show ¬ a < k + 1 by omega]
  · rw [if_neg h]
    by_cases e : a = k
    · subst e; simp [h]
    · by_cases h2 : a < k
      · simp [h2, show a < k + 1 by omega]
      · simp [h2, show ¬ a < k + 1 by omega]
theorem newA_iff {F : Fr} {g j a : Nat} : newA F (g ||| j) j a = true ↔ ¬ g.testBit a = true ∧ ¬ j.testBit a = true ∧ ∀ x, (x, a) ∈ F.R → j.testBit x = true := by
  unfold newA
  rw [Bool.and_eq_true, beq_iff_eq, anN_zero, Bool.not_eq_true', Nat.testBit_or, Bool.or_eq_false_iff, Bool.not_eq_true, Bool.not_eq_true, and_assoc]
  simp only [by_bit]
theorem newR_iff {F : Fr} {g j a : Nat} : newR F (g ||| j) g a = true ↔ ¬ g.testBit a = true ∧ ¬ j.testBit a = true ∧ ∃ x, (x, a) ∈ F.R ∧ g.testBit x = true := by
  unfold newR
  rw [Bool.and_eq_true, bne_iff_ne, ne_eq, and_zero, Bool.not_eq_true', Nat.testBit_or, Bool.or_eq_false_iff, Bool.not_eq_true, Bool.not_eq_true, and_assoc]
  refine and_congr_right fun _ => and_congr_right fun _ => ?_
  simp only [by_bit]
  constructor
  · intro h
    exact Classical.byContradiction fun hn => h fun x h1 h2 => hn ⟨x, h1, h2⟩
  · rintro ⟨x, h1, h2⟩ h
    exact h x h1 h2
/-- What holds ahead of each round. -/
structure RInv (F : Fr) (o : Nat → Int) (g j : Nat) : Prop where
  grd : Grd F g j
  pos : ∀ a, a < F.n → (0 < o a ↔ g.testBit a = true)
  neg : ∀ a, a < F.n → (o a < 0 ↔ j.testBit a = true)
theorem RInv.zero (F : Fr) : RInv F (fun _ => 0) 0 0 := by
  refine ⟨⟨⟨Nat.pow_pos (by omega), Nat.pow_pos (by omega)⟩, fun a h => by simp at h, fun a h => by simp at h, fun a h => by simp at h, fun A J _ _ => ⟨fun i h => by simp at h, fun i h => by simp at h⟩⟩, fun a _ => by simp, fun a _ => by simp⟩
section
variable {F : Fr} {o : Nat → Int} {g j : Nat} {r : Int}
def accN (F : Fr) (o : Nat → Int) (g j : Nat) (r : Int) : Nat := upS (fun a => decide (0 < o1 F (g ||| j) j r o F.n a)) g F.n
def outN (F : Fr) (o : Nat → Int) (g j : Nat) (r : Int) : Nat → Int := o2 F (accN F o g j r ||| j) (accN F o g j r) r (o1 F (g ||| j) j r o F.n) F.n
def rejN (F : Fr) (o : Nat → Int) (g j : Nat) (r : Int) : Nat := upS (fun a => decide (outN F o g j r a < 0)) j F.n
theorem acc_bit (h : RInv F o g j) (hr : 0 < r) {a : Nat} : (accN F o g j r).testBit a = true ↔ g.testBit a = true ∨ a < F.n ∧ newA F (g ||| j) j a = true := by
  unfold accN
  rw [upS_bit, decide_eq_true_eq]
  unfold o1
  constructor
  · rintro (h1 | ⟨h1, h2⟩)
    · exact .inl h1
    · by_cases h3 : newA F (g ||| j) j a = true
      · exact .inr ⟨h1, h3⟩
      · rw [if_neg (fun h => h3 h.2)] at h2
        exact .inl ((h.pos a h1).1 h2)
  · rintro (h1 | ⟨h1, h2⟩)
    · exact .inl h1
    · exact .inr ⟨h1, by rw [if_pos ⟨h1, h2⟩]; exact hr⟩
theorem out_neg (h : RInv F o g j) (hr : 0 < r) {a : Nat} (ha : a < F.n) : outN F o g j r a < 0 ↔ j.testBit a = true ∨ newR F (accN F o g j r ||| j) (accN F o g j r) a = true := by
  unfold outN o2
  by_cases h1 : newR F (accN F o g j r ||| j) (accN F o g j r) a = true
  · rw [if_pos ⟨ha, h1⟩]
    exact ⟨fun _ => .inr h1, fun _ => by omega⟩
  · rw [if_neg (fun h => h1 h.2)]
    unfold o1
    by_cases h2 : newA F (g ||| j) j a = true
    · rw [if_pos ⟨ha, h2⟩]
      exact ⟨fun h => by omega, fun h => by
        rcases h with h | h
        · exact absurd h (newA_iff.1 h2).2.1
        · exact absurd h h1⟩
    · rw [if_neg (fun h => h2 h.2), h.neg a ha]
      exact ⟨.inl, fun h => h.elim id (fun h => absurd h h1)⟩
theorem rej_bit (h : RInv F o g j) (hr : 0 < r) {a : Nat} : (rejN F o g j r).testBit a = true ↔ j.testBit a = true ∨ a < F.n ∧ newR F (accN F o g j r ||| j) (accN F o g j r) a = true := by
  unfold rejN
  rw [upS_bit, decide_eq_true_eq]
  constructor
  · rintro (h1 | ⟨h1, h2⟩)
    · exact .inl h1
    · rcases (out_neg h hr h1).1 h2 with h3 | h3
      · exact .inl h3
      · exact .inr ⟨h1, h3⟩
  · rintro (h1 | ⟨h1, h2⟩)
    · exact .inl h1
    · exact .inr ⟨h1, (out_neg h hr h1).2 (.inr h2)⟩
theorem RInv.next (h : RInv F o g j) (hr : 0 < r) : RInv F (outN F o g j r) (accN F o g j r) (rejN F o g j r) := by
  have ap : ∀ a, (accN F o g j r).testBit a = true → (rejN F o g j r).testBit a = true → False := fun a h1 h2 => by
    rcases (rej_bit h hr).1 h2 with h3 | ⟨_, h3⟩
    · rcases (acc_bit h hr).1 h1 with h4 | ⟨_, h4⟩
      · exact h.grd.apart a h4 h3
      · exact (newA_iff.1 h4).2.1 h3
    · exact (newR_iff.1 h3).1 h1
  refine ⟨⟨⟨upS_lt h.grd.lt.1 (Nat.le_refl _), upS_lt h.grd.lt.2 (Nat.le_refl _)⟩, fun a ha x hx => ?_, fun b hb => ?_, ap, fun A J h1 h2 => ?_⟩, fun a ha => ?_, fun a ha => ?_⟩
  · rcases (acc_bit h hr).1 ha with h3 | ⟨_, h3⟩
    · exact (rej_bit h hr).2 (.inl (h.grd.acc a h3 x hx))
    · exact (rej_bit h hr).2 (.inl ((newA_iff.1 h3).2.2 x hx))
  · rcases (rej_bit h hr).1 hb with h3 | ⟨_, h3⟩
    · obtain ⟨x, h4, h5⟩ := h.grd.rej b h3
      exact ⟨x, h4, (acc_bit h hr).2 (.inl h5)⟩
    · exact (newR_iff.1 h3).2.2
  · obtain ⟨k1, k2⟩ := h.grd.low A J h1 h2
    have k3 : Sub (accN F o g j r) A := fun a ha => by
      rcases (acc_bit h hr).1 ha with h3 | ⟨h3, h4⟩
      · exact k1 a h3
      · exact h1 a h3 (fun x hx => k2 x ((newA_iff.1 h4).2.2 x hx))
    refine ⟨k3, fun b hb => ?_⟩
    rcases (rej_bit h hr).1 hb with h3 | ⟨h3, h4⟩
    · exact k2 b h3
    · obtain ⟨x, h5, h6⟩ := (newR_iff.1 h4).2.2
      exact h2 x b h5 (k3 x h6)
  · unfold outN o2
    by_cases h1 : newR F (accN F o g j r ||| j) (accN F o g j r) a = true
    · rw [if_pos ⟨ha, h1⟩]
      exact ⟨fun h => by omega, fun h => absurd h (newR_iff.1 h1).1⟩
    · rw [if_neg (fun h => h1 h.2), acc_bit h hr]
      unfold o1
      by_cases h2 : newA F (g ||| j) j a = true
      · rw [if_pos ⟨ha, h2⟩]
        exact ⟨fun _ => .inr ⟨ha, h2⟩, fun _ => hr⟩
      · rw [if_neg (fun h => h2 h.2), h.pos a ha]
        exact ⟨.inl, fun h => h.elim id (fun h => absurd h.2 h2)⟩
  · rw [out_neg h hr ha, rej_bit h hr]
    exact or_congr_right ⟨fun h => ⟨ha, h⟩, fun h => h.2⟩
theorem RInv.more (h : RInv F o g j) (hr : 0 < r) : Sub (g ||| j) (accN F o g j r ||| rejN F o g j r) := fun a ha => by
  rw [Nat.testBit_or, Bool.or_eq_true] at ha ⊢
  rcases ha with ha | ha
  · exact .inl ((acc_bit h hr).2 (.inl ha))
  · exact .inr ((rej_bit h hr).2 (.inl ha))
theorem RInv.shut (hF : F.Ok) (h : RInv F o g j) (hr : 0 < r) (he : accN F o g j r ||| rejN F o g j r = g ||| j) : Shut2 F (accN F o g j r) (rejN F o g j r) := by
  have hn := (h.next hr).grd
  have old : ∀ b, (rejN F o g j r).testBit b = true → j.testBit b = true := fun b hb => by
    have h1 : (g ||| j).testBit b = true := by rw [← he, Nat.testBit_or, hb, Bool.or_true]
    rw [Nat.testBit_or, Bool.or_eq_true] at h1
    rcases h1 with h1 | h1
    · exact (hn.apart b ((acc_bit h hr).2 (.inl h1)) hb).elim
    · exact h1
  refine ⟨fun a ha hx => ?_, fun a b hab hb => ?_⟩
  · by_cases h1 : g.testBit a = true
    · exact (acc_bit h hr).2 (.inl h1)
    · by_cases h2 : j.testBit a = true
      · obtain ⟨x, h3, h4⟩ := h.grd.rej a h2
        exact (hn.apart x ((acc_bit h hr).2 (.inl h4)) (hx x h3)).elim
      · exact (acc_bit h hr).2 (.inr ⟨ha, newA_iff.2 ⟨h1, h2, fun x hxa => old x (hx x hxa)⟩⟩)
  · by_cases h1 : (accN F o g j r).testBit b = true
    · exact (hn.apart a hb (hn.acc b h1 a hab)).elim
    · by_cases h2 : j.testBit b = true
      · exact (rej_bit h hr).2 (.inl h2)
      · exact (rej_bit h hr).2 (.inr ⟨(hF.lt _ hab).2, newR_iff.2 ⟨h1, h2, a, hab, hb⟩⟩)
end
end Go.Proofs.Ytlbnebmdolnagaa

namespace Go.Proofs.Ytlbnebmdolnagaa
open Go.RowKit Go.Lib

/-- Zeros made, at whatever world. -/
theorem make_at {P : Program} (t e : TypeId) (i : TypeInfo) (ht : P.underlying t = some (.slice e)) (hi : P.info? e = some i) (hz : i.zero = some (.int .i64 0)) (hsize : i.size = 1) (hb8 : i.bytes = 8) (n : Nat) (hn : n ≤ 1048576) :
    ∃ cs : Array Value, cs.toList = List.replicate n (.int .i64 0) ∧ ∀ w : World, (Instr.makeSlice t (.int .i64 (n : Int)) (.int .i64 (n : Int))).run P w = .ok (.slice (some ⟨w.heap.size, 0, none⟩) n n) (w.alloc (.cells cs e)) := by
  refine ⟨madeCells (Value.cells (.int .i64 0)) (n * i.size), ?_, fun w => ?_⟩
  · rw [hsize, Nat.mul_one, show Value.cells (.int .i64 0) = #[.int .i64 0] from rfl, toList_madeCells_one]
  · have hr := run_make (P := P) w t e i _ ht hi hz .i64 .i64 n n (by omega) (Int.le_refl _) (by rw [hb8]; omega) (by omega)
    simpa only [Int.toNat_natCast] using hr
theorem below_then {B : Nat} {a b c : World} (h : Below B a b) (hB : B ≤ b.heap.size) (h' : Below b.heap.size b c) : Below B a c := h.trans (h'.mono hB)
def RoundsPost (F : Fr) (w : World) (e : Ending) (w' : World) : Prop :=
  ∃ g : Nat, e = .returned (.slice (some ⟨g, 0, none⟩) F.n F.n) ∧ w.heap.size ≤ g ∧ g < w'.heap.size ∧ Below w.heap.size w w' ∧ ∃ o : Nat → Int, Row w' g (costL o F.n) ∧ ∃ m j : Nat, RInv F o m j ∧ Shut2 F m j

end Go.Proofs.Ytlbnebmdolnagaa

namespace Go.Proofs.Ytlbnebmdolnagaa
open Go.RowKit Go.Lib

def GrdPost (F : Fr) (w : World) (e : Ending) (w' : World) : Prop :=
  ∃ m : Nat, e = .returned (.int .i64 (m : Int)) ∧ Below w.heap.size w w' ∧ ∃ j, Grd F m j ∧ Shut2 F m j
def GSetPost (F : Fr) (w : World) (e : Ending) (w' : World) : Prop :=
  ∃ m g c : Nat, e = .returned (.tuple #[.slice (some ⟨g, 0, none⟩) (setL m).length c, .bool true]) ∧ NumO w' w.heap.size g c (barL (setL m)) ∧ Below w.heap.size w w' ∧ ∃ j, Grd F m j ∧ Shut2 F m j
end Go.Proofs.Ytlbnebmdolnagaa

namespace Go.Proofs.Ytlbnebmdolnagaa
open Go.RowKit Go.Lib

theorem own_lessN {w : World} {b base size n : Nat} {e : TypeId} {v : Value} {xs : List Value} (h : w.ownsRow base e size v n xs) (hb : b ≤ base) : w.ownsRow b e size v n xs := by
  obtain ⟨h1, h2 | ⟨g', c, cur, e, h3, h4⟩⟩ := h
  · exact ⟨h1, .inl h2⟩
  · exact ⟨h1, .inr ⟨g', c, cur, e, Nat.le_trans hb h3, h4⟩⟩
/-- A row of masks of the call's own. -/
def NumN (w : World) (base g cap : Nat) (L : List Nat) : Prop := w.ownsRow base 3 1 (.slice (some ⟨g, 0, none⟩) L.length cap) L.length ((barL L).flatMap intCells)
theorem NumN.row {w : World} {base g cap : Nat} {L : List Nat} (h : NumN w base g cap L) : w.ownsRow base 3 1 (.slice (some ⟨g, 0, none⟩) L.length cap) L.length ((barL L).flatMap intCells) := h
theorem NumN.below {w w' : World} {base g cap : Nat} {L : List Nat} (h : NumN w base g cap L) (hb : Below w.heap.size w w') : NumN w' base g cap L := own_below h hb
theorem NumN.start (w : World) : NumN (w.alloc (.cells #[] 3)) w.heap.size w.heap.size 0 [] := by
  unfold NumN
  rw [show (barL []).flatMap intCells = ([] : List Value) from rfl]
  simpa using World.ownsRow_made w #[] 0 (Nat.le_refl _) (Nat.zero_le _) rfl
theorem NumN.own {w : World} {base g cap : Nat} {L : List Nat} (h : NumN w base g cap L) : OwnL intCells (barL L) base w (.slice (some ⟨g, 0, none⟩) L.length cap) := by
  have h' := h
  unfold NumN at h'
  rw [← barL_len L] at h' ⊢
  exact OwnL.of_own intCells (size := 1) (fun _ => rfl) h'
theorem NumN.ints {w : World} {base g cap : Nat} {L : List Nat} (h : NumN w base g cap L) : Ints w w.heap.size (.slice (some ⟨g, 0, none⟩) L.length cap) (barL L) := h.own.slR (size := 1) (fun _ => rfl)
theorem NumN.less {w : World} {b base g cap : Nat} {L : List Nat} (h : NumN w base g cap L) (hb : b ≤ base) : NumN w b g cap L := own_lessN h hb
def fltK (p : Nat → Bool) (k : Nat) : List Nat := (List.range k).filter p
theorem fltK_succ {p : Nat → Bool} {k : Nat} : fltK p (k + 1) = if p k then fltK p k ++ [k] else fltK p k := by
  unfold fltK
  rw [List.range_succ, List.filter_append]
  cases h : p k <;> simp [h]
theorem fltK_len (p : Nat → Bool) (k : Nat) : (fltK p k).length ≤ k := by
  have := List.length_filter_le p (List.range k)
  rw [List.length_range] at this
  exact this
def MaskPost (p : Nat → Bool) (n : Nat) (w : World) (e : Ending) (w' : World) : Prop :=
  ∃ g c, e = .returned (.slice (some ⟨g, 0, none⟩) (fltK p (2 ^ n)).length c) ∧ NumN w' w.heap.size g c (fltK p (2 ^ n)) ∧ Below w.heap.size w w'

end Go.Proofs.Ytlbnebmdolnagaa

namespace Go.Proofs.Ytlbnebmdolnagaa
open Go.RowKit Go.Lib

theorem cells_bar (L : List Nat) : (barL L).flatMap intCells = nCells L := by
  induction L with
  | nil => rfl
  | cons a L ih =>
    show intCells (a : Int) ++ (barL L).flatMap intCells = _
    rw [ih]
    rfl
def CloneN (L : List Nat) (w : World) (e : Ending) (w' : World) : Prop :=
  ∃ g c, e = .returned (.slice (some ⟨g, 0, none⟩) L.length c) ∧ NumN w' w.heap.size g c L ∧ Below w.heap.size w w'
def IdxPost (p : Nat → Bool) (L : List Nat) (w : World) (e : Ending) (w' : World) : Prop :=
  ∃ z : Int, e = .returned (.int .i64 z) ∧ Below w.heap.size w w' ∧ ((z = -1 ∧ ∀ x ∈ L, p x = false) ∨ ∃ i : Nat, z = (i : Int) ∧ (∃ x, L[i]? = some x ∧ p x = true) ∧ ∀ x ∈ L.take i, p x = false)
end Go.Proofs.Ytlbnebmdolnagaa

namespace Go.Proofs.Ytlbnebmdolnagaa
open Go.RowKit Go.Lib

theorem nCells_len (L : List Nat) : (nCells L).length = L.length := by unfold nCells; rw [List.length_map]
/-- What the row holds while masks are struck out: i are kept of the first j. -/
structure DelSt (L : List Nat) (p : Nat → Bool) (j i : Nat) (X : List Value) : Prop where
  len : X.length = L.length
  lt : i < j
  le : j ≤ L.length
  many : ((L.take j).filter (fun x => !p x)).length = i
  low : X.take i = nCells ((L.take j).filter (fun x => !p x))
  high : X.drop j = nCells (L.drop j)
theorem DelSt.start {L : List Nat} {p : Nat → Bool} {i x : Nat} (h : L[i]? = some x) (hp : p x = true) (hn : ∀ y ∈ L.take i, p y = false) : DelSt L p (i + 1) i (nCells L) := by
  obtain ⟨h1, h2⟩ := List.getElem?_eq_some_iff.1 h
  have e : (L.take (i + 1)).filter (fun x => !p x) = L.take i := by
    rw [List.take_succ_eq_append_getElem h1, h2, List.filter_append, List.filter_eq_self.2 (fun y hy => by rw [hn y hy]; rfl)]
    simp [hp]
  refine ⟨nCells_len L, by omega, by omega, by rw [e, List.length_take]; omega, ?_, ?_⟩
  · rw [e]; unfold nCells; rw [List.map_take]
  · unfold nCells; rw [List.map_drop]
theorem DelSt.get {L : List Nat} {p : Nat → Bool} {j i : Nat} {X : List Value} (h : DelSt L p j i X) {x : Nat} (hx : L[j]? = some x) : X[j]? = some (.int .i64 (x : Int)) := by
  have h1 : (X.drop j)[0]? = X[j]? := by rw [List.getElem?_drop, Nat.add_zero]
  rw [← h1, h.high, nCells_get (m := x)]
  rw [List.getElem?_drop, Nat.add_zero]
  exact hx
theorem DelSt.keep {L : List Nat} {p : Nat → Bool} {j i : Nat} {X : List Value} (h : DelSt L p j i X) {x : Nat} (hx : L[j]? = some x) (hp : p x = false) : DelSt L p (j + 1) (i + 1) (X.set i (.int .i64 (x : Int))) := by
  obtain ⟨h1, h2⟩ := List.getElem?_eq_some_iff.1 hx
  have hi := h.lt
  have hl := h.len
  have e : (L.take (j + 1)).filter (fun x => !p x) = (L.take j).filter (fun x => !p x) ++ [x] := by
    rw [List.take_succ_eq_append_getElem h1, h2, List.filter_append]
    simp [hp]
  refine ⟨by rw [List.length_set]; exact hl, by omega, by omega, by rw [e, List.length_append, h.many]; rfl, ?_, ?_⟩
  · rw [e, show nCells ((L.take j).filter (fun x => !p x) ++ [x]) = nCells ((L.take j).filter (fun x => !p x)) ++ [.int .i64 (x : Int)] by unfold nCells; rw [List.map_append]; rfl, ← h.low]
    rw [List.take_succ_eq_append_getElem (by rw [List.length_set]; omega), List.getElem_set_self]
    congr 1
    rw [List.take_set_of_le (Nat.le_refl _)]
  · rw [List.drop_set_of_lt (by omega), show X.drop (j + 1) = (X.drop j).drop 1 by rw [List.drop_drop], h.high]
    unfold nCells
    rw [← List.map_drop, List.drop_drop]
theorem DelSt.skip {L : List Nat} {p : Nat → Bool} {j i : Nat} {X : List Value} (h : DelSt L p j i X) {x : Nat} (hx : L[j]? = some x) (hp : p x = true) : DelSt L p (j + 1) i X := by
  obtain ⟨h1, h2⟩ := List.getElem?_eq_some_iff.1 hx
  have hi := h.lt
  have e : (L.take (j + 1)).filter (fun x => !p x) = (L.take j).filter (fun x => !p x) := by
    rw [List.take_succ_eq_append_getElem h1, h2, List.filter_append]
    simp [hp]
  refine ⟨h.len, by omega, by omega, by rw [e]; exact h.many, by rw [e]; exact h.low, ?_⟩
  rw [show X.drop (j + 1) = (X.drop j).drop 1 by rw [List.drop_drop], h.high]
  unfold nCells
  rw [← List.map_drop, List.drop_drop]
theorem row_ints {w : World} {g c : Nat} {L : List Nat} (h : Row w g (nCells L)) (hg : g < w.heap.size) (hc : L.length ≤ c) (hm : c ≤ maxLen) : Ints w w.heap.size (.slice (some ⟨g, 0, none⟩) L.length c) (barL L) := by
  have := SlR.of_row (xs := barL L) intCells (size := 1) (fun _ => rfl) (by rw [cells_bar]; exact h) hg (c := c) (by rw [barL_len]; exact hc) hm
  rwa [barL_len] at this
theorem below_cells {B : Nat} {a : World} (b : Nat) (hb : B ≤ b) : ∀ (vs : List Value) (o : Nat) {w : World}, Below B a w → Below B a (w.setCells b o vs)
  | [], _, _, h => h
  | v :: r, o, _, h => below_cells b hb r (o + 1) (h.setCell (p := ⟨b, o, none⟩) hb v)
theorem size_cells (b : Nat) : ∀ (vs : List Value) (o : Nat) (w : World), (w.setCells b o vs).heap.size = w.heap.size
  | [], _, _ => rfl
  | v :: r, o, w => by
    show ((w.setCell ⟨b, o, none⟩ v).setCells b (o + 1) r).heap.size = _
    rw [size_cells b r]
    simp
def StruckPost (L : List Nat) (p : Nat → Bool) (B g c : Nat) (w : World) (e : Ending) (w' : World) : Prop :=
  e = .returned (.slice (some ⟨g, 0, none⟩) (L.filter (fun x => !p x)).length c) ∧ Row w' g (nCells (L.filter (fun x => !p x))) ∧ g < w'.heap.size ∧ Below B w w'
end Go.Proofs.Ytlbnebmdolnagaa

namespace Go.Proofs.Ytlbnebmdolnagaa
open Go.RowKit Go.Lib

def PrefPost (F : Fr) (w : World) (e : Ending) (w' : World) : Prop :=
  ∃ g c : Nat, e = .returned (.slice (some ⟨g, 0, none⟩) (prefs F).length c) ∧ Row w' g (nCells (prefs F)) ∧ (prefs F).length ≤ c ∧ c ≤ maxLen ∧ w.heap.size ≤ g ∧ g < w'.heap.size ∧ Below w.heap.size w w'
theorem goods_flt (F : Fr) : fltK (goodB F) (2 ^ F.n) = goods F := rfl
theorem goods_lt {F : Fr} (hF : F.Ok) : ∀ k ∈ goods F, k < 1024 := fun k hk => by
  have h1 := (goods_mem.1 hk).lt
  have h2 := Nat.pow_le_pow_right (n := 2) (by omega) hF.n10
  omega
theorem goods_len {F : Fr} (hF : F.Ok) : (goods F).length ≤ 1024 := by
  have h1 := fltK_len (goodB F) (2 ^ F.n)
  have h2 := Nat.pow_le_pow_right (n := 2) (by omega) hF.n10
  rw [goods_flt] at h1
  omega
theorem goods_ne (F : Fr) : goods F ≠ [] := fun h => by
  have := goods_mem.2 (zero_good F)
  rw [h] at this
  cases this
theorem NumN.rowN {w : World} {base g c : Nat} {L : List Nat} (h : NumN w base g c L) (h0 : L ≠ []) : Row w g (nCells L) ∧ base ≤ g ∧ g < w.heap.size ∧ L.length ≤ c ∧ c ≤ maxLen := by
  obtain ⟨A, c', e, h1, h2, h3⟩ := h.own
  rw [barL_len] at e h1
  injection e with e1 e2 e3
  subst e3
  obtain ⟨g', hA, hb, hg, hr⟩ := h3 (fun e => h0 (by
    have := congrArg List.length e
    rw [barL_len] at this
    exact List.eq_nil_of_length_eq_zero this))
  rw [hA] at e1
  injection e1 with e1
  injection e1 with e1 _ _
  subst e1
  rw [cells_bar] at hr
  exact ⟨hr, hb, hg, h1, h2⟩
end Go.Proofs.Ytlbnebmdolnagaa

namespace Go.Proofs.Ytlbnebmdolnagaa
open Go.RowKit Go.Lib

def pop1 (m : Nat) : Nat := (m / 2 &&& 6148914691236517205) + (m &&& 6148914691236517205)
def pop2 (x : Nat) : Nat := (x / 4 &&& 3689348814741910323) + (x &&& 3689348814741910323)
def pop3 (x : Nat) : Nat := (x / 16 + x) &&& 1085102592571150095
def pop4 (x : Nat) : Nat := x + x / 256
def pop5 (x : Nat) : Nat := x + x / 65536
def pop6 (x : Nat) : Nat := x + x / 4294967296
def popN (m : Nat) : Nat := pop6 (pop5 (pop4 (pop3 (pop2 (pop1 m))))) &&& 127
theorem pop_all : ∀ n : Fin 1024, popN n.val = (setL n.val).length := by decide +kernel
theorem pop_len {m : Nat} (hm : m < 1024) : popN m = (setL m).length := pop_all ⟨m, hm⟩
theorem and_le_l (a b : Nat) : a &&& b ≤ a := Nat.and_le_left
theorem wrap_u64_nat (x : Nat) (h : x < 18446744073709551616) : IntKind.u64.wrap (x : Int) = (x : Int) := by rw [IntKind.wrap_u64]; omega
end Go.Proofs.Ytlbnebmdolnagaa

namespace Go.Proofs.Ytlbnebmdolnagaa
open Go.RowKit Go.Lib

def andS (c : Nat) (l : List Nat) : Nat := l.foldl (fun o m => o &&& m) c
theorem andS_bit : ∀ (l : List Nat) (c i : Nat), (andS c l).testBit i = true ↔ c.testBit i = true ∧ ∀ m ∈ l, m.testBit i = true
  | [], c, i => by simp [andS]
  | a :: l, c, i => by
    show (andS (c &&& a) l).testBit i = true ↔ _
    rw [andS_bit l, Nat.testBit_and, Bool.and_eq_true]
    simp [and_assoc]
theorem andS_snoc {c : Nat} {l : List Nat} {m : Nat} : andS c (l ++ [m]) = andS c l &&& m := by unfold andS; rw [List.foldl_append]; rfl
theorem andS_le (c : Nat) (l : List Nat) : andS c l ≤ c := Sub.le fun i hi => ((andS_bit l c i).1 hi).1
def bestS (C : Nat) (l : List Nat) : Nat := l.foldl (fun b m => if anN m C == 0 && decide ((setL b).length < (setL m).length) then m else b) 0
theorem bestS_snoc {C : Nat} {l : List Nat} {m : Nat} : bestS C (l ++ [m]) = if anN m C == 0 && decide ((setL (bestS C l)).length < (setL m).length) then m else bestS C l := by unfold bestS; rw [List.foldl_append]; rfl
theorem bestS_go {C : Nat} : ∀ (l : List Nat) (b : Nat), b < 1024 → (∀ m ∈ l, m < 1024) → l.foldl (fun b m => if anN m C == 0 && decide ((setL b).length < (setL m).length) then m else b) b < 1024
  | [], _, h, _ => h
  | a :: l, b, h, hl => by
    rw [List.foldl_cons]
    refine bestS_go l _ ?_ (fun m hm => hl m (by simp [hm]))
    split
    · exact hl a (by simp)
    · exact h
theorem bestS_lt {C : Nat} (l : List Nat) (h : ∀ m ∈ l, m < 1024) : bestS C l < 1024 := bestS_go l 0 (by omega) h
def comM (F : Fr) : Nat := andS (2 ^ F.n - 1) (prefs F)
def idealM (F : Fr) : Nat := bestS (comM F) (goods F)
def IdealPost (F : Fr) (w : World) (e : Ending) (w' : World) : Prop :=
  ∃ g c, e = .returned (.tuple #[.slice (some ⟨g, 0, none⟩) (setL (idealM F)).length c, .bool true]) ∧ NumO w' w.heap.size g c (barL (setL (idealM F))) ∧ Below w.heap.size w w'
end Go.Proofs.Ytlbnebmdolnagaa

namespace Go.Proofs.Ytlbnebmdolnagaa
open Go.RowKit Go.Lib

def cntS (x : Nat) (l : List Nat) : Nat := (l.filter (fun m => m.testBit x)).length
theorem cntS_snoc {x : Nat} {l : List Nat} {m : Nat} : cntS x (l ++ [m]) = if m.testBit x then cntS x l + 1 else cntS x l := by
  unfold cntS
  rw [List.filter_append, List.length_append]
  cases h : m.testBit x <;> simp [h]
theorem cntS_le (x : Nat) (l : List Nat) : cntS x l ≤ l.length := List.length_filter_le _ _
def standI (F : Fr) (m x : Nat) : Int := if m.testBit x then 3 else if cntS x (prefs F) = 0 then 0 else if cntS x (prefs F) = (prefs F).length then 2 else 1
theorem prefs_len {F : Fr} (hF : F.Ok) : (prefs F).length ≤ 1024 := Nat.le_trans (List.length_filter_le _ _) (goods_len hF)
end Go.Proofs.Ytlbnebmdolnagaa

namespace Go.Proofs.Ytlbnebmdolnagaa
open Go.RowKit Go.Lib

theorem only_touchC {b : Nat} {w w' : World} (h : Only b w w') : Touch (fun c => c = b) w w' := ⟨h.os, h.tape, h.output, h.size, fun i hi hn => h.block i hi (fun e => hn (by injection e))⟩
theorem only_transC {b gd : Nat} {w w1 w2 : World} (h : Only b w w1) (ht : Touch (fun c => c = gd) w1 w2) (hg : w.heap.size ≤ gd) : Only b w w2 :=
  ⟨ht.os.trans h.os, ht.tape.trans h.tape, ht.output.trans h.output, Nat.le_trans h.size ht.size, fun i hi hn => (ht.block i (Nat.lt_of_lt_of_le hi h.size) (by omega)).trans (h.block i hi hn)⟩
theorem own_touchC {w w' : World} {base n size : Nat} {e : TypeId} {v : Value} {xs : List Value} {F : Nat → Prop} (h : w.ownsRow base e size v n xs) (ht : Touch F w w') (hF : ∀ b, v.ownBlock = some b → ¬ F b) : w'.ownsRow base e size v n xs := by
  obtain ⟨hl, h | ⟨g, cap, cur, rfl, hg, hh, hr⟩⟩ := h
  · exact ⟨hl, .inl h⟩
  · have hlt : g < w.heap.size := by
      rcases Nat.lt_or_ge g w.heap.size with hlt | hge
      · exact hlt
      · rw [Array.getElem?_eq_none hge] at hh; cases hh
    exact ⟨hl, .inr ⟨g, cap, cur, rfl, hg, (ht.block g hlt (hF g rfl)).trans hh, hr⟩⟩
theorem TreeW.onlyC {β : Type} {K : Kind β} {te : TypeId} {base b : Nat} {w w' : World} {g cap : Nat} {L : List β} (h : TreeW K te base w g cap L) (hb : b < base) (ho : Only b w w') : TreeW K te base w' g cap L :=
  ⟨own_only h.row hb ho, fun x hx => K.touch (h.inn x hx) (only_touchC ho) (fun c hc e => by have := (K.lt (h.inn x hx) hc).1; omega), h.out, h.two⟩
theorem Row.sameC {W W' : World} {g : Nat} {L : List Value} (h : Row W g L) (e : W'.heap[g]? = W.heap[g]?) : Row W' g L :=
  ⟨fun j u hj => (World.cell?_of_block (a := ⟨g, j, none⟩) e).trans (h.cell j u hj), fun j hj => (World.frozen?_of_block (a := ⟨g, j, none⟩) e).trans (h.free j hj)⟩
theorem Try.infoFr : (Try.prog.info? 25).map (fun i => (i.zero, i.size, i.bytes)) = some (some (.slice none 0 0), 1, 24) := by kernel_rfl
def frL (Q : List (Nat × Nat)) : List (List Int) := Q.map (fun p => [(p.1 : Int), (p.2 : Int)])
/-- A frame that is being drawn: all attacks below (a, j) are. -/
structure DrSt (B b k n bx bt : Nat) (w wr : World) (a j g cap : Nat) (L : List VRow) (Q : List (Nat × Nat)) : Prop where
  box : Row wr bx [.int .i64 (n : Int), .slice (some ⟨g, 0, none⟩) L.length cap]
  tree : TreeW kRow 25 (w.heap.size + 1) wr g cap L
  map : L.map (·.a) = frL Q
  lt : ∀ p ∈ Q, p.1 < n ∧ p.2 < n
  up : Q.Pairwise (fun p q => p.1 < q.1 ∨ p.1 = q.1 ∧ p.2 < q.2)
  low : ∀ p ∈ Q, p.1 < a ∨ p.1 = a ∧ p.2 < j
  len : Q.length ≤ 10 * a + j
  src : Src B wr b (k + 20 + 20 * a + 2 * j)
  only : Only b w wr
  res : Row wr bt [.int .i64 0, .slice none 0 0]
  bxl : bx < wr.heap.size
  btl : bt < wr.heap.size
  gx : g ≠ bx
  blk : ∀ x ∈ L, ∀ c, kRow.blk x c → c ≠ bx
theorem DrSt.many {B b k n bx bt : Nat} {w wr : World} {a j g cap : Nat} {L : List VRow} {Q : List (Nat × Nat)} (h : DrSt B b k n bx bt w wr a j g cap L Q) : L.length = Q.length := by
  have := congrArg List.length h.map
  unfold frL at this
  rwa [List.length_map, List.length_map] at this
theorem DrSt.step {B b k n bx bt : Nat} {w wr wr' : World} {a j g cap : Nat} {L : List VRow} {Q : List (Nat × Nat)} (h : DrSt B b k n bx bt w wr a j g cap L Q) (hb : b < w.heap.size) (hbx : w.heap.size ≤ bx) (hbt : w.heap.size ≤ bt) (ho : Only b wr wr') (hs : Src B wr' b (k + 20 + 20 * a + 2 * (j + 1))) : DrSt B b k n bx bt w wr' a (j + 1) g cap L Q :=
  ⟨h.box.only h.bxl (by omega) ho, h.tree.onlyC (by omega) ho, h.map, h.lt, h.up, fun p hp => (h.low p hp).imp id (fun ⟨x, y⟩ => ⟨x, by omega⟩), by have := h.len; omega, hs, only_trans h.only ho, h.res.only h.btl (by omega) ho, Nat.lt_of_lt_of_le h.bxl ho.size, Nat.lt_of_lt_of_le h.btl ho.size, h.gx, h.blk⟩
theorem DrSt.next {B b k n bx bt : Nat} {w wr : World} {a g cap : Nat} {L : List VRow} {Q : List (Nat × Nat)} (h : DrSt B b k n bx bt w wr a n g cap L Q) (hn : n ≤ 10) : DrSt B b k n bx bt w wr (a + 1) 0 g cap L Q :=
  ⟨h.box, h.tree, h.map, h.lt, h.up, fun p hp => .inl (by rcases h.low p hp with h | h <;> omega), by have := h.len; omega, h.src.more (by omega), h.only, h.res, h.bxl, h.btl, h.gx, h.blk⟩
theorem own_pair (x y : Int) (w : World) : OwnL intCells [x, y] w.heap.size (w.alloc (.cells #[.int .i64 x, .int .i64 y] 2)) (.slice (some ⟨w.heap.size, 0, none⟩) 2 2) :=
  ⟨some ⟨w.heap.size, 0, none⟩, 2, rfl, Nat.le_refl _, by unfold maxLen; decide, fun _ => ⟨w.heap.size, rfl, Nat.le_refl _, by simp, Row.new w _ _⟩⟩
def FrDraw (B b k : Nat) (w : World) (e : Ending) (w' : World) : Prop :=
  ∃ (F : Fr) (g c : Nat), e = .returned (frV F (some ⟨g, 0, none⟩) c) ∧ F.Ok ∧ ∃ L : List VRow, TreeW kRow 25 (w.heap.size + 1) w' g c L ∧ L.map (·.a) = frRows F ∧ L.length = F.R.length ∧ Src B w' b k ∧ Only b w w'
theorem fr_tree {base : Nat} {w : World} {g c : Nat} {L : List VRow} {F : Fr} (h : TreeW kRow 25 base w g c L) (hm : L.map (·.a) = frRows F) (hl : L.length = F.R.length) : FrR w w.heap.size F (some ⟨g, 0, none⟩) c := by
  have h1 := h.tree.rows
  rw [hm] at h1
  unfold FrR
  rw [← hl]
  exact h1
end Go.Proofs.Ytlbnebmdolnagaa
