/- Rankings, plain: pairs, dominating sets, strengths of paths, winners, and all of it without an option. Paths by steps, plain: the search for a shortest one, what none shows, and orders that agree with what is locked. Duels, what of them is locked, and orders that begin with the least dominating set, plain. Profiles in memory; rankings and valid profiles, walked. -/
import Derived.Test.YtlbnebmdolnagaaKE
import Derived.Test.YtlbnebmdolnagaaYC
import Derived.Test.YtlbnebmdolnagaaQD
namespace Go.Proofs.Ytlbnebmdolnagaa
open Go.RowKit Go.Lib

/-- How often one option stands before another one in a ranking. -/
def bef : List Nat → Nat → Nat → Nat
  | [], _, _ => 0
  | x :: t, a, b => (if x = a then t.count b else 0) + bef t a b
def bmpM (M : Nat → Nat → Nat) (a b w : Nat) : Nat → Nat → Nat := fun x y => if x = a ∧ y = b then M x y + w else M x y
def addRow (a w : Nat) : List Nat → (Nat → Nat → Nat) → Nat → Nat → Nat
  | [], M => M
  | b :: t, M => addRow a w t (bmpM M a b w)
def addRank (w : Nat) : List Nat → (Nat → Nat → Nat) → Nat → Nat → Nat
  | [], M => M
  | a :: t, M => addRank w t (addRow a w t M)
def addAll : List (List Nat × Nat) → (Nat → Nat → Nat) → Nat → Nat → Nat
  | [], M => M
  | p :: r, M => addAll r (addRank p.2 p.1 M)
theorem addRow_eq (a w x y : Nat) : ∀ (t : List Nat) (M : Nat → Nat → Nat), addRow a w t M x y = M x y + (if x = a then w * t.count y else 0)
  | [], M => by simp [addRow]
  | b :: t, M => by
    rw [addRow, addRow_eq a w x y t]
    unfold bmpM
    by_cases h : x = a
    · by_cases h2 : y = b
      · rw [if_pos ⟨h, h2⟩, if_pos h, if_pos h, h2, List.count_cons_self, Nat.mul_add]; omega
      · rw [if_neg (fun e => h2 e.2), if_pos h, if_pos h, List.count_cons_of_ne (fun e => h2 e.symm)]
    · rw [if_neg (fun e => h e.1), if_neg h, if_neg h]
theorem addRank_eq (w x y : Nat) : ∀ (l : List Nat) (M : Nat → Nat → Nat), addRank w l M x y = M x y + w * bef l x y
  | [], M => by simp [addRank, bef]
  | a :: t, M => by
    rw [addRank, addRank_eq w x y t, addRow_eq, bef, Nat.mul_add]
    by_cases h : x = a
    · rw [if_pos h, if_pos h.symm]; omega
    · rw [if_neg h, if_neg (fun e => h e.symm)]; omega
def sumP (r : List (List Nat × Nat)) (x y : Nat) : Nat := (r.map (fun p => p.2 * bef p.1 x y)).sum
theorem addAll_eq (x y : Nat) : ∀ (r : List (List Nat × Nat)) (M : Nat → Nat → Nat), addAll r M x y = M x y + sumP r x y
  | [], M => by simp [addAll, sumP]
  | p :: r, M => by
    rw [addAll, addAll_eq x y r, addRank_eq]
    unfold sumP
    rw [List.map_cons, List.sum_cons]
    omega
theorem bef_le {l : List Nat} (h : l.Nodup) (x y : Nat) : bef l x y ≤ 1 := by
  induction l with
  | nil => simp [bef]
  | cons a t ih =>
    obtain ⟨h1, h2⟩ := List.nodup_cons.1 h
    have h3 := ih h2
    unfold bef
    by_cases e : a = x
    · subst e
      have : bef t a y = 0 := by
        clear ih h3 h2 h
        induction t with
        | nil => rfl
        | cons c t ih =>
          unfold bef
          rw [if_neg (fun e => h1 (by rw [e]; simp)), ih (fun h => h1 (List.mem_cons_of_mem _ h))]
      have := List.nodup_iff_count.1 h2 y
      rw [if_pos rfl]
      omega
    · rw [if_neg e]; omega

/-- A profile: n options, rankings and their weights. -/
structure Pf where
  n : Nat
  L : List (List Nat)
  W : List Nat
structure Pf.Ok (F : Pf) : Prop where
  n1 : 1 ≤ F.n
  n6 : F.n ≤ 6
  l1 : 1 ≤ F.L.length
  l12 : F.L.length ≤ 12
  wl : F.W.length = F.L.length
  perm : ∀ l ∈ F.L, l.Perm (List.range F.n)
  wt : ∀ x ∈ F.W, x ≤ 1000
def Pf.z (F : Pf) : List (List Nat × Nat) := F.L.zip F.W
def prs (F : Pf) (x y : Nat) : Nat := sumP F.z x y
theorem prs_eq (F : Pf) (x y : Nat) : addAll F.z (fun _ _ => 0) x y = prs F x y := by rw [addAll_eq]; unfold prs; omega
theorem Pf.Ok.nodup {F : Pf} (h : F.Ok) {l : List Nat} (hl : l ∈ F.L) : l.Nodup := (h.perm l hl).nodup_iff.2 List.nodup_range
theorem sumP_le : ∀ (r : List (List Nat × Nat)), (∀ p ∈ r, p.1.Nodup ∧ p.2 ≤ 1000) → ∀ x y, sumP r x y ≤ 1000 * r.length
  | [], _, x, y => by simp [sumP]
  | p :: r, h, x, y => by
    have h1 := sumP_le r (fun q hq => h q (List.mem_cons_of_mem _ hq)) x y
    have h2 := bef_le (h p (by simp)).1 x y
    have h3 := (h p (by simp)).2
    unfold sumP at h1 ⊢
    rw [List.map_cons, List.sum_cons, List.length_cons]
    have h4 : p.2 * bef p.1 x y ≤ 1000 * 1 := Nat.mul_le_mul h3 h2
    omega
theorem prs_le {F : Pf} (h : F.Ok) (x y : Nat) : prs F x y ≤ 12000 := by
  have h1 := sumP_le F.z (fun p hp => ⟨h.nodup (List.of_mem_zip hp).1, h.wt _ (List.of_mem_zip hp).2⟩) x y
  have h2 : F.z.length ≤ 12 := by
    unfold Pf.z
    rw [List.length_zip, h.wl]
    have := h.l12
    omega
  unfold prs
  omega
theorem bef_self {l : List Nat} (h : l.Nodup) (x : Nat) : bef l x x = 0 := by
  induction l with
  | nil => rfl
  | cons a t ih =>
    obtain ⟨h1, h2⟩ := List.nodup_cons.1 h
    unfold bef
    rw [ih h2]
    by_cases e : a = x
    · subst e; rw [if_pos rfl, List.count_eq_zero.2 h1]
    · rw [if_neg e]
def beats (F : Pf) (a b : Nat) : Prop := prs F b a < prs F a b

/-- A set that defeats all outside of it. -/
def Dom (F : Pf) (S : List Nat) : Prop := ∀ a ∈ S, ∀ b, b < F.n → b ∈ S ∨ beats F a b
structure IsSm (F : Pf) (S : List Nat) : Prop where
  up : UpL F.n S
  ne : S ≠ []
  dom : Dom F S
  min : ∀ T, UpL F.n T → T ≠ [] → Dom F T → S.length ≤ T.length
theorem dom_chain {F : Pf} {S T : List Nat} (hS : UpL F.n S) (hT : UpL F.n T) (h1 : Dom F S) (h2 : Dom F T) : (∀ x ∈ S, x ∈ T) ∨ (∀ x ∈ T, x ∈ S) := by
  refine Classical.byContradiction fun hn => ?_
  have hn1 : ∃ x, x ∈ S ∧ x ∉ T := Classical.byContradiction fun h => hn (.inl fun x hx => Classical.byContradiction fun h3 => h ⟨x, hx, h3⟩)
  have hn2 : ∃ x, x ∈ T ∧ x ∉ S := Classical.byContradiction fun h => hn (.inr fun x hx => Classical.byContradiction fun h3 => h ⟨x, hx, h3⟩)
  obtain ⟨a, ha, haT⟩ := hn1
  obtain ⟨b, hb, hbS⟩ := hn2
  have q1 := (h1 a ha b (hT.lt b hb)).resolve_left hbS
  have q2 := (h2 b hb a (hS.lt a ha)).resolve_left haT
  unfold beats at q1 q2
  omega
theorem su_len {a b : List Nat} (ha : a.Pairwise (· < ·)) (hb : b.Pairwise (· < ·)) (h : ∀ x ∈ a, x ∈ b) : a = b.filter (fun x => a.contains x) := by
  refine up_ext _ _ ha (List.Pairwise.filter _ hb) fun x => ?_
  rw [List.mem_filter, List.contains_iff_mem]
  exact ⟨fun hx => ⟨h x hx, hx⟩, fun hx => hx.2⟩
theorem su_le {a b : List Nat} (ha : a.Pairwise (· < ·)) (hb : b.Pairwise (· < ·)) (h : ∀ x ∈ a, x ∈ b) : a.length ≤ b.length := by
  rw [su_len ha hb h]; exact List.length_filter_le _ _
theorem su_eq {a b : List Nat} (ha : a.Pairwise (· < ·)) (hb : b.Pairwise (· < ·)) (h : ∀ x ∈ a, x ∈ b) (hl : b.length ≤ a.length) : a = b := by
  have e := su_len ha hb h
  have h2 : b.filter (fun x => a.contains x) = b := List.Sublist.eq_of_length_le List.filter_sublist (by rw [← e]; exact hl)
  rw [h2] at e
  exact e
theorem IsSm.one {F : Pf} {S T : List Nat} (hS : IsSm F S) (hT : IsSm F T) : S = T := by
  have h1 := hS.min T hT.up hT.ne hT.dom
  have h2 := hT.min S hS.up hS.ne hS.dom
  rcases dom_chain hS.up hT.up hS.dom hT.dom with h | h
  · exact su_eq hS.up.up hT.up.up h h2
  · exact (su_eq hT.up.up hS.up.up h h1).symm

/-- A profile without an option. -/
def dn (d x : Nat) : Nat := if d < x then x - 1 else x
def ups (d x : Nat) : Nat := if x < d then x else x + 1
theorem ups_dn {d x : Nat} (h : x ≠ d) : ups d (dn d x) = x := by
  unfold ups dn
  by_cases h1 : d < x
  · rw [if_pos h1, if_neg (by omega)]; omega
  · rw [if_neg h1, if_pos (by omega)]
theorem dn_ups (d x : Nat) : dn d (ups d x) = x := by
  unfold ups dn
  by_cases h1 : x < d
  · rw [if_pos h1, if_neg (by omega)]
  · rw [if_neg h1, if_pos (by omega)]; omega
theorem ups_ne (d x : Nat) : ups d x ≠ d := by
  unfold ups
  by_cases h1 : x < d
  · rw [if_pos h1]; omega
  · rw [if_neg h1]; omega
theorem dn_lt {d x n : Nat} (h : x < n) (hd : d < n) (hne : x ≠ d) : dn d x < n - 1 := by
  unfold dn
  by_cases h1 : d < x
  · rw [if_pos h1]; omega
  · rw [if_neg h1]; omega
theorem ups_lt {d x n : Nat} (h : x < n - 1) : ups d x < n := by
  unfold ups
  by_cases h1 : x < d
  · rw [if_pos h1]; omega
  · rw [if_neg h1]; omega
theorem dn_mono {d x y : Nat} (hx : x ≠ d) (hy : y ≠ d) (h : x < y) : dn d x < dn d y := by
  unfold dn
  by_cases h1 : d < x
  · rw [if_pos h1, if_pos (by omega)]; omega
  · rw [if_neg h1]
    by_cases h2 : d < y
    · rw [if_pos h2]; omega
    · rw [if_neg h2]; exact h
def dropR (d : Nat) (l : List Nat) : List Nat := (l.filter (fun x => !(x == d))).map (dn d)
theorem dropR_cons (d x : Nat) (l : List Nat) : dropR d (x :: l) = if x = d then dropR d l else dn d x :: dropR d l := by
  unfold dropR
  by_cases h : x = d
  · rw [if_pos h, List.filter_cons, if_neg (by simp [h])]
  · rw [if_neg h, List.filter_cons, if_pos (by simp [h])]; rfl
theorem dropR_count (d y : Nat) : ∀ l : List Nat, (dropR d l).count y = l.count (ups d y)
  | [] => by simp [dropR]
  | x :: l => by
    rw [dropR_cons]
    by_cases h : x = d
    · rw [if_pos h, dropR_count d y l, List.count_cons_of_ne (by rw [h]; exact fun e => ups_ne d y e.symm)]
    · rw [if_neg h]
      by_cases e : x = ups d y
      · rw [e, dn_ups, List.count_cons_self, List.count_cons_self, dropR_count d y l]
      · rw [List.count_cons_of_ne e, List.count_cons_of_ne (fun e2 => e (by rw [← e2, ups_dn h])), dropR_count d y l]
theorem dropR_bef (d a b : Nat) : ∀ l : List Nat, bef (dropR d l) a b = bef l (ups d a) (ups d b)
  | [] => by simp [dropR, bef]
  | x :: l => by
    rw [dropR_cons]
    by_cases h : x = d
    · rw [if_pos h, dropR_bef d a b l, bef, if_neg (by rw [h]; exact fun e => ups_ne d a e.symm)]; omega
    · rw [if_neg h, bef, bef, dropR_bef d a b l, dropR_count]
      by_cases e : x = ups d a
      · rw [if_pos e, if_pos (by rw [e, dn_ups])]
      · rw [if_neg e, if_neg (fun e2 => e (by rw [← e2, ups_dn h]))]
def less (F : Pf) (d : Nat) : Pf := ⟨F.n - 1, F.L.map (dropR d), F.W⟩
theorem less_prs (F : Pf) (d x y : Nat) : prs (less F d) x y = prs F (ups d x) (ups d y) := by
  unfold prs sumP Pf.z less
  show (((F.L.map (dropR d)).zip F.W).map _).sum = _
  rw [List.zip_map_left, List.map_map]
  refine congrArg List.sum (List.map_congr_left fun p _ => ?_)
  show p.2 * bef (dropR d p.1) x y = _
  rw [dropR_bef]
theorem less_prs' {F : Pf} {d x y : Nat} (hx : x ≠ d) (hy : y ≠ d) : prs (less F d) (dn d x) (dn d y) = prs F x y := by rw [less_prs, ups_dn hx, ups_dn hy]
theorem less_ok {F : Pf} (h : F.Ok) {d : Nat} (hd : d < F.n) (h2 : 2 ≤ F.n) : (less F d).Ok := by
  refine ⟨by show 1 ≤ F.n - 1; omega, by show F.n - 1 ≤ 6; have := h.n6; omega, by show 1 ≤ (F.L.map (dropR d)).length; rw [List.length_map]; exact h.l1, by show (F.L.map (dropR d)).length ≤ 12; rw [List.length_map]; exact h.l12, by show F.W.length = (F.L.map (dropR d)).length; rw [List.length_map]; exact h.wl, fun l hl => ?_, h.wt⟩
  have hl : l ∈ F.L.map (dropR d) := hl
  obtain ⟨l0, h0, rfl⟩ := List.mem_map.1 hl
  have hp := h.perm l0 h0
  rw [List.perm_iff_count]
  intro y
  rw [dropR_count, hp.count_eq]
  show (List.range F.n).count (ups d y) = (List.range (F.n - 1)).count y
  have hc : ∀ n z : Nat, (List.range n).count z = if z < n then 1 else 0 := fun n z => by
    rw [List.nodup_range.count]
    simp only [List.mem_range]
  rw [hc, hc]
  by_cases hy : y < F.n - 1
  · rw [if_pos hy, if_pos (ups_lt hy)]
  · rw [if_neg hy, if_neg (fun e => hy (by
      have := dn_lt e hd (ups_ne d y)
      rwa [dn_ups] at this))]
/-- The least dominating set without an option outside of it. -/
theorem sm_less {F : Pf} {S : List Nat} (hS : IsSm F S) {d : Nat} (hd : d < F.n) (hdS : d ∉ S) : IsSm (less F d) (S.map (dn d)) := by
  have hne : ∀ x ∈ S, x ≠ d := fun x hx e => hdS (e ▸ hx)
  have hup : UpL (less F d).n (S.map (dn d)) := by
    refine ⟨?_, fun x hx => ?_⟩
    · rw [List.pairwise_map]
      exact hS.up.up.imp_of_mem (fun hx hy h => dn_mono (hne _ hx) (hne _ hy) h)
    · obtain ⟨y, hy, rfl⟩ := List.mem_map.1 hx
      exact dn_lt (hS.up.lt y hy) hd (hne y hy)
  have hdom : Dom (less F d) (S.map (dn d)) := fun a ha b hb => by
    obtain ⟨x, hx, rfl⟩ := List.mem_map.1 ha
    have hb' : ups d b < F.n := ups_lt hb
    rcases hS.dom x hx _ hb' with h | h
    · exact .inl (List.mem_map.2 ⟨_, h, dn_ups d b⟩)
    · refine .inr ?_
      unfold beats at h ⊢
      rw [less_prs, less_prs, ups_dn (hne x hx)]
      exact h
  refine ⟨hup, fun e => hS.ne (List.map_eq_nil_iff.1 e), hdom, fun T hT hTn hTd => ?_⟩
  rcases dom_chain hup hT hdom hTd with h | h
  · exact su_le hup.up hT.up h
  · rw [List.length_map]
    have hin : ∀ x ∈ T, ups d x ∈ S := fun x hx => by
      obtain ⟨y, hy, e⟩ := List.mem_map.1 (h x hx)
      rw [← e, ups_dn (hne y hy)]
      exact hy
    have := hS.min (T.map (ups d)) ⟨by
      rw [List.pairwise_map]
      refine hT.up.imp (fun h => ?_)
      unfold ups
      split <;> split <;> omega, fun x hx => by
      obtain ⟨y, hy, rfl⟩ := List.mem_map.1 hx
      exact ups_lt (hT.lt y hy)⟩ (fun e => hTn (List.map_eq_nil_iff.1 e)) (fun a ha b hb => by
      obtain ⟨x, hx, rfl⟩ := List.mem_map.1 ha
      by_cases hbd : b = d
      · subst hbd
        exact .inr ((hS.dom _ (hin x hx) b hb).resolve_left hdS)
      · rcases hTd x hx (dn d b) (dn_lt hb hd hbd) with h3 | h3
        · exact .inl (List.mem_map.2 ⟨_, h3, ups_dn hbd⟩)
        · refine .inr ?_
          unfold beats at h3 ⊢
          rw [less_prs, less_prs, ups_dn hbd] at h3
          exact h3)
    rw [List.length_map] at this
    exact this

/-- Strengths of paths: by options below b. -/
def fw0 (F : Pf) (i k : Nat) : Nat := if prs F k i < prs F i k then prs F i k else 0
def fwK (F : Pf) : Nat → Nat → Nat → Nat
  | 0, i, k => fw0 F i k
  | b + 1, i, k => if i = k then fwK F b i k else max (fwK F b i k) (min (fwK F b i b) (fwK F b b k))
def st (F : Pf) : Nat → Nat → Nat := fwK F F.n
theorem fw_diag (F : Pf) (i : Nat) : ∀ b, fwK F b i i = 0
  | 0 => by unfold fwK fw0; rw [if_neg (by omega)]
  | b + 1 => by unfold fwK; rw [if_pos rfl]; exact fw_diag F i b
theorem fw_le {F : Pf} (h : F.Ok) : ∀ b i k, fwK F b i k ≤ 12000
  | 0, i, k => by
    unfold fwK fw0
    have := prs_le h i k
    split <;> omega
  | b + 1, i, k => by
    unfold fwK
    have h1 := fw_le h b i k
    have h2 := fw_le h b i b
    split <;> omega
theorem fw_zero {F : Pf} {S : List Nat} (hS : IsSm F S) {i k : Nat} (hi : i ∉ S) (hin : i < F.n) (hk : k ∈ S) : ∀ b, b ≤ F.n → fwK F b i k = 0
  | 0, _ => by
    have := (hS.dom k hk i hin).resolve_left hi
    unfold beats at this
    unfold fwK fw0
    rw [if_neg (by omega)]
  | b + 1, hb => by
    have ih := fun {x y : Nat} (hx : x ∉ S) (hxn : x < F.n) (hy : y ∈ S) => fw_zero hS hx hxn hy b (by omega)
    unfold fwK
    rw [if_neg (show ¬ i = k from fun e => hi (e ▸ hk)), ih hi hin hk]
    by_cases hbS : b ∈ S
    · rw [ih hi hin hbS]; omega
    · rw [ih hbS (by omega) hk]; omega
theorem fw_up {F : Pf} (i k : Nat) : ∀ b, fw0 F i k ≤ fwK F b i k
  | 0 => Nat.le_refl _
  | b + 1 => by
    have := fw_up (F := F) i k b
    unfold fwK
    split <;> omega
theorem st_out {F : Pf} {S : List Nat} (hS : IsSm F S) {i k : Nat} (hi : i ∈ S) (hk : k ∉ S) (hkn : k < F.n) : st F k i = 0 ∧ 0 < st F i k := by
  refine ⟨fw_zero hS hk hkn hi _ (Nat.le_refl _), ?_⟩
  have h1 := fw_up (F := F) i k F.n
  have h2 := (hS.dom i hi k hkn).resolve_left hk
  unfold beats at h2
  unfold fw0 at h1
  rw [if_pos h2] at h1
  unfold st
  omega
theorem dn_inj {d x y : Nat} (hx : x ≠ d) (hy : y ≠ d) (h : dn d x = dn d y) : x = y := by
  rw [← ups_dn hx, ← ups_dn hy, h]
theorem fw_less {F : Pf} {S : List Nat} (hS : IsSm F S) {d : Nat} (hd : d < F.n) (hdS : d ∉ S) : ∀ b, b ≤ F.n → ∀ i ∈ S, ∀ k ∈ S, fwK F b i k = fwK (less F d) (if d < b then b - 1 else b) (dn d i) (dn d k)
  | 0, _, i, hi, k, hk => by
    have h1 : i ≠ d := fun e => hdS (e ▸ hi)
    have h2 : k ≠ d := fun e => hdS (e ▸ hk)
    rw [if_neg (by omega)]
    unfold fwK fw0
    rw [less_prs' h1 h2, less_prs' h2 h1]
  | b + 1, hb, i, hi, k, hk => by
    have ih := fw_less hS hd hdS b (by omega)
    have h1 : i ≠ d := fun e => hdS (e ▸ hi)
    have h2 : k ≠ d := fun e => hdS (e ▸ hk)
    have hS' := sm_less hS hd hdS
    by_cases hbd : b = d
    · subst hbd
      have e : fwK F (b + 1) i k = fwK F b i k := by
        rw [fwK]
        split
        · rfl
        · rw [fw_zero hS hdS (by omega) hk b (by omega)]; omega
      rw [e, ih i hi k hk, if_neg (by omega), if_pos (by omega), Nat.add_sub_cancel]
    · have e2 : (if d < b + 1 then b + 1 - 1 else b + 1) = (if d < b then b - 1 else b) + 1 := by
        split <;> split <;> omega
      have e3 : (if d < b then b - 1 else b) = dn d b := rfl
      rw [e2, fwK, fwK, ← ih i hi k hk]
      by_cases hik : i = k
      · rw [if_pos hik, if_pos (by rw [hik])]
      · rw [if_neg hik, if_neg (fun e => hik (dn_inj h1 h2 e))]
        by_cases hbS : b ∈ S
        · rw [ih i hi b hbS, ih b hbS k hk, e3]
        · have hbn : dn d b < (less F d).n := dn_lt (by omega) hd hbd
          have hb' : dn d b ∉ S.map (dn d) := fun h => by
            obtain ⟨z, hz, e⟩ := List.mem_map.1 h
            exact hbS (dn_inj (show z ≠ d from fun e => hdS (e ▸ hz)) hbd e ▸ hz)
          rw [fw_zero hS hbS (by omega) hk b (by omega), e3, fw_zero hS' hb' hbn (List.mem_map.2 ⟨k, hk, rfl⟩) _ (by omega)]
          omega
theorem st_less {F : Pf} {S : List Nat} (hS : IsSm F S) {d : Nat} (hd : d < F.n) (hdS : d ∉ S) {i k : Nat} (hi : i ∈ S) (hk : k ∈ S) : st F i k = st (less F d) (dn d i) (dn d k) := by
  unfold st
  rw [fw_less hS hd hdS F.n (Nat.le_refl _) i hi k hk, if_pos hd]
  rfl
/-- The winners. -/
def winB (F : Pf) (i : Nat) : Bool := (List.range F.n).all (fun k => decide (st F k i ≤ st F i k))
def wins (F : Pf) : List Nat := (List.range F.n).filter (winB F)
theorem winB_iff {F : Pf} {i : Nat} : winB F i = true ↔ ∀ k, k < F.n → st F k i ≤ st F i k := by
  unfold winB
  rw [List.all_eq_true]
  exact ⟨fun h k hk => of_decide_eq_true (h k (List.mem_range.2 hk)), fun h k hk => decide_eq_true (h k (List.mem_range.1 hk))⟩
theorem wins_up (F : Pf) : UpL F.n (wins F) := by
  refine ⟨List.Pairwise.filter _ List.pairwise_lt_range, fun x hx => ?_⟩
  unfold wins at hx
  rw [List.mem_filter, List.mem_range] at hx
  exact hx.1
theorem wins_mem {F : Pf} {S : List Nat} (hS : IsSm F S) {i : Nat} : i ∈ wins F ↔ i ∈ S ∧ ∀ k ∈ S, st F k i ≤ st F i k := by
  unfold wins
  rw [List.mem_filter, List.mem_range, winB_iff]
  constructor
  · rintro ⟨hi, h⟩
    have hiS : i ∈ S := Classical.byContradiction fun hn => by
      obtain ⟨s, hs⟩ := List.exists_mem_of_ne_nil _ hS.ne
      have h1 := st_out hS hs hn hi
      have h2 := h s (hS.up.lt s hs)
      omega
    exact ⟨hiS, fun k hk => h k (hS.up.lt k hk)⟩
  · rintro ⟨hi, h⟩
    refine ⟨hS.up.lt i hi, fun k hk => ?_⟩
    by_cases hkS : k ∈ S
    · exact h k hkS
    · rw [(st_out hS hi hkS hk).1]; exact Nat.zero_le _
theorem wins_less {F : Pf} {S : List Nat} (hS : IsSm F S) {d : Nat} (hd : d < F.n) (hdS : d ∉ S) : wins (less F d) = (wins F).map (dn d) := by
  have hw : ∀ x ∈ wins F, x ≠ d := fun x hx e => hdS (e ▸ ((wins_mem hS).1 hx).1)
  refine up_ext _ _ (wins_up _).up ?_ fun x => ?_
  · rw [List.pairwise_map]
    exact (wins_up F).up.imp_of_mem (fun hx hy h => dn_mono (hw _ hx) (hw _ hy) h)
  · rw [wins_mem (sm_less hS hd hdS)]
    refine ⟨fun ⟨h1, h2⟩ => ?_, fun h => ?_⟩
    · obtain ⟨i, hi, rfl⟩ := List.mem_map.1 h1
      refine List.mem_map.2 ⟨i, (wins_mem hS).2 ⟨hi, fun k hk => ?_⟩, rfl⟩
      rw [st_less hS hd hdS hi hk, st_less hS hd hdS hk hi]
      exact h2 _ (List.mem_map.2 ⟨k, hk, rfl⟩)
    · obtain ⟨i, hi, rfl⟩ := List.mem_map.1 h
      obtain ⟨h1, h2⟩ := (wins_mem hS).1 hi
      refine ⟨List.mem_map.2 ⟨i, h1, rfl⟩, fun k hk => ?_⟩
      obtain ⟨z, hz, rfl⟩ := List.mem_map.1 hk
      rw [← st_less hS hd hdS h1 hz, ← st_less hS hd hdS hz h1]
      exact h2 z hz

/-- Walks whose steps are at least x, through options below b. -/
inductive Wk (F : Pf) (x b : Nat) : Nat → Nat → Prop where
  | one {i k : Nat} : x ≤ fw0 F i k → Wk F x b i k
  | more {i j k : Nat} : Wk F x b i j → j < b → x ≤ fw0 F j k → Wk F x b i k
theorem Wk.app {F : Pf} {x b i j k : Nat} (h1 : Wk F x b i j) (hj : j < b) (h2 : Wk F x b j k) : Wk F x b i k := by
  induction h2 with
  | one h => exact .more h1 hj h
  | more _ hj2 h ih => exact .more ih hj2 h
theorem Wk.up {F : Pf} {x b i k : Nat} (h : Wk F x b i k) : Wk F x (b + 1) i k := by
  induction h with
  | one h => exact .one h
  | more _ hj h ih => exact .more ih (by omega) h
theorem fw_wk {F : Pf} {x : Nat} (hx : 0 < x) : ∀ b i k, x ≤ fwK F b i k → Wk F x b i k
  | 0, i, k, h => .one h
  | b + 1, i, k, h => by
    rw [fwK] at h
    by_cases e : i = k
    · rw [if_pos e] at h; exact (fw_wk hx b i k h).up
    · rw [if_neg e] at h
      rcases Nat.le_total x (fwK F b i k) with h1 | h1
      · exact (fw_wk hx b i k h1).up
      · by_cases h2 : x ≤ fwK F b i k
        · exact (fw_wk hx b i k h2).up
        · exact (fw_wk hx b i b (by omega)).up.app (by omega) (fw_wk hx b b k (by omega)).up
theorem Wk.split {F : Pf} {x b i k : Nat} (h : Wk F x (b + 1) i k) : Wk F x b i k ∨ (i = b ∨ Wk F x b i b) ∧ Wk F x b b k := by
  induction h with
  | one h => exact .inl (.one h)
  | @more j k _ hj h ih =>
    rcases ih with ih | ⟨h1, h2⟩
    · by_cases e : j = b
      · subst e; exact .inr ⟨.inr ih, .one h⟩
      · exact .inl (.more ih (by omega) h)
    · refine .inr ⟨h1, ?_⟩
      by_cases e : j = b
      · subst e; exact .one h
      · exact .more h2 (by omega) h
theorem wk_fw {F : Pf} {x : Nat} : ∀ b i k, i ≠ k → Wk F x b i k → x ≤ fwK F b i k
  | 0, i, k, _, h => by
    cases h with
    | one h => exact h
    | more _ hj _ => omega
  | b + 1, i, k, hne, h => by
    rw [fwK, if_neg hne]
    rcases h.split with h | ⟨h1, h2⟩
    · have := wk_fw b i k hne h; omega
    · by_cases e : b = k
      · subst e
        rcases h1 with h1 | h1
        · exact absurd h1 hne
        · have := wk_fw b i b hne h1; omega
      · have q2 := wk_fw b b k e h2
        rcases h1 with h1 | h1
        · subst h1; omega
        · by_cases e2 : i = b
          · subst e2; omega
          · have q1 := wk_fw b i b e2 h1; omega
theorem st_tri {F : Pf} {i j k : Nat} (hj : j < F.n) (hik : i ≠ k) : min (st F i j) (st F j k) ≤ st F i k := by
  by_cases h0 : 0 < min (st F i j) (st F j k)
  · unfold st at h0 ⊢
    exact wk_fw F.n i k hik ((fw_wk h0 F.n i j (by omega)).app hj (fw_wk h0 F.n j k (by omega)))
  · omega
theorem st_trans {F : Pf} {a b c : Nat} (ha : a < F.n) (hb : b < F.n) (hc : c < F.n) (h1 : st F b a < st F a b) (h2 : st F c b < st F b c) : st F c a < st F a c := by
  have nab : a ≠ b := fun e => by subst e; omega
  have nbc : b ≠ c := fun e => by subst e; omega
  have nac : a ≠ c := fun e => by subst e; omega
  have t1 := st_tri (F := F) hb nac
  have t2 := st_tri (F := F) (i := c) (j := a) (k := b) ha (fun e => nbc e.symm)
  have t3 := st_tri (F := F) (i := b) (j := c) (k := a) hc (fun e => nab e.symm)
  omega
theorem top_ex {r : Nat → Nat → Prop} {n : Nat} (ht : ∀ a b c, a < n → b < n → c < n → r a b → r b c → r a c) (hi : ∀ a, ¬ r a a) : ∀ m, 1 ≤ m → m ≤ n → ∃ i, i < m ∧ ∀ k, k < m → ¬ r k i
  | 0, h, _ => by omega
  | 1, _, _ => ⟨0, by omega, fun k hk => by
      have : k = 0 := by omega
      subst this
      exact hi 0⟩
  | m + 2, _, hm => by
    obtain ⟨i, h1, h2⟩ := top_ex ht hi (m + 1) (by omega) (by omega)
    by_cases h : r (m + 1) i
    · refine ⟨m + 1, by omega, fun k hk hr => ?_⟩
      by_cases e : k = m + 1
      · subst e; exact hi _ hr
      · exact h2 k (by omega) (ht k (m + 1) i (by omega) (by omega) (by omega) hr h)
    · refine ⟨i, by omega, fun k hk hr => ?_⟩
      by_cases e : k = m + 1
      · subst e; exact h hr
      · exact h2 k (by omega) hr
theorem wins_ne {F : Pf} (h : F.Ok) : wins F ≠ [] := by
  obtain ⟨i, h1, h2⟩ := top_ex (r := fun a b => st F b a < st F a b) (n := F.n) (fun a b c ha hb hc => st_trans ha hb hc) (fun a => by omega) F.n h.n1 (Nat.le_refl _)
  have : i ∈ wins F := by
    unfold wins
    rw [List.mem_filter, List.mem_range, winB_iff]
    exact ⟨h1, fun k hk => by have := h2 k hk; omega⟩
  intro e
  rw [e] at this
  cases this
end Go.Proofs.Ytlbnebmdolnagaa

namespace Go.Proofs.Ytlbnebmdolnagaa
open Go.RowKit Go.Lib

/-- A path of different options below n, from f by steps. -/
inductive Pth (n : Nat) (s : Nat → Nat → Bool) (f : Nat) : List Nat → Nat → Prop where
  | one : f < n → Pth n s f [f] f
  | more {p : List Nat} {a b : Nat} : Pth n s f p a → b < n → b ∉ p → s a b = true → Pth n s f (p ++ [b]) b
section
variable {n f : Nat} {s : Nat → Nat → Bool}
theorem Pth.ne {p : List Nat} {a : Nat} (h : Pth n s f p a) : p ≠ [] := by
  cases h with
  | one => simp
  | more => simp
theorem Pth.last {p : List Nat} {a : Nat} (h : Pth n s f p a) : p.getLast? = some a := by
  cases h with
  | one => simp
  | more => simp
theorem Pth.lt {p : List Nat} {a : Nat} (h : Pth n s f p a) : ∀ x ∈ p, x < n := by
  induction h with
  | one hf => intro x hx; rw [List.mem_singleton.1 hx]; exact hf
  | more _ hb _ _ ih =>
    intro x hx
    rcases List.mem_append.1 hx with hx | hx
    · exact ih x hx
    · rw [List.mem_singleton.1 hx]; exact hb
theorem Pth.mem {p : List Nat} {a : Nat} (h : Pth n s f p a) : a ∈ p := by
  cases h with
  | one => simp
  | more => simp
theorem Pth.fst {p : List Nat} {a : Nat} (h : Pth n s f p a) : p[0]? = some f := by
  induction h with
  | one => rfl
  | @more p a b h _ _ _ ih =>
    have := List.length_pos_iff.2 h.ne
    rw [List.getElem?_append_left this]
    exact ih
theorem Pth.nodup {p : List Nat} {a : Nat} (h : Pth n s f p a) : p.Nodup := by
  induction h with
  | one => simp
  | more _ _ hb _ ih =>
    rw [List.nodup_append]
    refine ⟨ih, by simp, fun x hx y hy => ?_⟩
    rw [List.mem_singleton.1 hy]
    intro e
    exact hb (e ▸ hx)
theorem Pth.len {p : List Nat} {a : Nat} (h : Pth n s f p a) : p.length ≤ n := nodup_le n p h.nodup h.lt
theorem Pth.steps {p : List Nat} {a : Nat} (h : Pth n s f p a) : ∀ i x y, p[i]? = some x → p[i + 1]? = some y → s x y = true := by
  induction h with
  | one => intro i x y h1 h2; simp at h2
  | @more p a b h _ _ hs ih =>
    intro i x y h1 h2
    by_cases hi : i + 1 < p.length
    · rw [List.getElem?_append_left (by omega)] at h1
      rw [List.getElem?_append_left hi] at h2
      exact ih i x y h1 h2
    · have hl : i + 1 < (p ++ [b]).length := (List.getElem?_eq_some_iff.1 h2).1
      rw [List.length_append] at hl
      have hl : i + 1 < p.length + 1 := hl
      have e : i + 1 = p.length := by omega
      rw [List.getElem?_append_right (by omega), e, Nat.sub_self] at h2
      injection h2 with h2
      rw [List.getElem?_append_left (by omega)] at h1
      have h3 := h.last
      rw [List.getLast?_eq_getElem?, ← e, Nat.add_sub_cancel, h1] at h3
      injection h3 with h3
      rw [h3, ← h2]
      exact hs
theorem Pth.lone {p : List Nat} {a : Nat} (h : Pth n s f p a) (hl : p.length = 1) : p = [f] ∧ a = f := by
  cases h with
  | one => exact ⟨rfl, rfl⟩
  | more h _ _ _ =>
    rw [List.length_append] at hl
    have := List.length_pos_iff.2 h.ne
    have hl : _ + 1 = 1 := hl
    omega

/-- The search after r rounds. -/
structure Sh (n : Nat) (s : Nat → Nat → Bool) (f t r : Nat) (Ls : List (List Nat)) : Prop where
  ok : ∀ p ∈ Ls, (∃ a, Pth n s f p a) ∧ t ∉ p ∧ p.length = r + 1
  all : ∀ p a, Pth n s f p a → t ∉ p → p.length = r + 1 → p ∈ Ls
  none : ∀ p a, Pth n s f p a → t ∉ p → p.length ≤ r → s a t = false
theorem Sh.start {t : Nat} (hf : f < n) (hft : f ≠ t) : Sh n s f t 0 [[f]] := by
  refine ⟨fun p hp => ?_, fun p a h _ hl => ?_, fun p a h _ hl => ?_⟩
  · rw [List.mem_singleton.1 hp]
    exact ⟨⟨f, .one hf⟩, fun h => hft (List.mem_singleton.1 h).symm, rfl⟩
  · rw [(h.lone hl).1]; simp
  · have := List.length_pos_iff.2 h.ne
    omega
/-- Within a round: of the lists before i all options, of list i those below b. -/
structure ShIn (n : Nat) (s : Nat → Nat → Bool) (f t r : Nat) (Ls : List (List Nat)) (i b : Nat) (N : List (List Nat)) : Prop where
  ok : ∀ p ∈ N, (∃ a, Pth n s f p a) ∧ t ∉ p ∧ p.length = r + 2
  all : ∀ k p a c, Ls[k]? = some p → p.getLast? = some a → c < n → (k < i ∨ k = i ∧ c < b) → c ∉ p → s a c = true → c ≠ t ∧ p ++ [c] ∈ N
theorem ShIn.start {t r : Nat} (Ls : List (List Nat)) : ShIn n s f t r Ls 0 0 [] :=
  ⟨(fun p hp => by cases hp), fun k p a c _ _ _ h => by omega⟩
theorem ShIn.skip {t r i b : Nat} {Ls N : List (List Nat)} (h : ShIn n s f t r Ls i b N) {p : List Nat} {a : Nat} (hp : Ls[i]? = some p) (ha : p.getLast? = some a) (hn : b ∈ p ∨ s a b = false) : ShIn n s f t r Ls i (b + 1) N := by
  refine ⟨h.ok, fun k q a' c hk ha' hc hlt hcq hs => ?_⟩
  by_cases e : k = i ∧ c = b
  · obtain ⟨rfl, rfl⟩ := e
    rw [hp] at hk
    injection hk with hk
    subst hk
    rw [ha] at ha'
    injection ha' with ha'
    subst ha'
    rcases hn with hn | hn
    · exact absurd hn hcq
    · rw [hn] at hs; cases hs
  · exact h.all k q a' c hk ha' hc (by omega) hcq hs
theorem ShIn.push {t r i b : Nat} {Ls N : List (List Nat)} (h : ShIn n s f t r Ls i b N) (hL : Sh n s f t r Ls) {p : List Nat} {a : Nat} (hp : Ls[i]? = some p) (ha : p.getLast? = some a) (hb : b < n) (hbp : b ∉ p) (hs : s a b = true) (hbt : b ≠ t) : ShIn n s f t r Ls i (b + 1) (N ++ [p ++ [b]]) := by
  obtain ⟨⟨a', hpa⟩, htp, hlen⟩ := hL.ok p (List.mem_of_getElem? hp)
  have ea : a' = a := by
    have := hpa.last
    rw [ha] at this
    injection this with this
    exact this.symm
  subst ea
  refine ⟨fun q hq => ?_, fun k q a2 c hk ha' hc hlt hcq hs2 => ?_⟩
  · rcases List.mem_append.1 hq with hq | hq
    · exact h.ok q hq
    · rw [List.mem_singleton.1 hq]
      refine ⟨⟨b, .more hpa hb hbp hs⟩, fun h1 => ?_, by rw [List.length_append, hlen]; rfl⟩
      rcases List.mem_append.1 h1 with h1 | h1
      · exact htp h1
      · exact hbt (List.mem_singleton.1 h1).symm
  · by_cases e : k = i ∧ c = b
    · obtain ⟨rfl, rfl⟩ := e
      rw [hp] at hk
      injection hk with hk
      subst hk
      exact ⟨hbt, by simp⟩
    · obtain ⟨h1, h2⟩ := h.all k q a2 c hk ha' hc (by omega) hcq hs2
      exact ⟨h1, List.mem_append.2 (.inl h2)⟩
theorem ShIn.next {t r i : Nat} {Ls N : List (List Nat)} (h : ShIn n s f t r Ls i n N) : ShIn n s f t r Ls (i + 1) 0 N :=
  ⟨h.ok, fun k q a c hk ha hc hlt hcq hs => h.all k q a c hk ha hc (by omega) hcq hs⟩
theorem Sh.next {t r : Nat} {Ls N : List (List Nat)} (hL : Sh n s f t r Ls) (ht : t < n) (h : ShIn n s f t r Ls Ls.length 0 N) : Sh n s f t (r + 1) N := by
  have hk : ∀ p ∈ Ls, ∃ k, Ls[k]? = some p ∧ k < Ls.length := fun p hp => by
    obtain ⟨k, hk, e⟩ := List.mem_iff_getElem.1 hp
    exact ⟨k, by rw [List.getElem?_eq_getElem hk, e], hk⟩
  refine ⟨h.ok, fun p a hp htp hl => ?_, fun p a hp htp hl => ?_⟩
  · cases hp with
    | one =>
      have hl : 1 = r + 1 + 1 := hl
      omega
    | @more q a' b hq hb hbq hs =>
      rw [List.length_append] at hl
      have hl : q.length + 1 = r + 1 + 1 := hl
      have hm := hL.all q a' hq (fun h => htp (List.mem_append.2 (.inl h))) (by omega)
      obtain ⟨k, hk1, hk2⟩ := hk q hm
      exact (h.all k q a' a hk1 hq.last hb (.inl hk2) hbq hs).2
  · by_cases e : p.length ≤ r
    · exact hL.none p a hp htp e
    · have hm := hL.all p a hp htp (by omega)
      obtain ⟨k, hk1, hk2⟩ := hk p hm
      cases hst : s a t with
      | false => rfl
      | true => exact absurd rfl (h.all k p a t hk1 hp.last ht (.inl hk2) htp hst).1
/-- What is reached without t; it is closed where none is found. -/
def Rch (n : Nat) (s : Nat → Nat → Bool) (f t x : Nat) : Prop := ∃ p, Pth n s f p x ∧ t ∉ p
theorem Pth.cut {p : List Nat} {a : Nat} (h : Pth n s f p a) : ∀ b ∈ p, ∃ q, Pth n s f q b ∧ ∀ x ∈ q, x ∈ p := by
  induction h with
  | one hf => intro b hb; rw [List.mem_singleton.1 hb]; exact ⟨[f], .one hf, fun x hx => hx⟩
  | @more p a c h hc hcp hs ih =>
    intro b hb
    rcases List.mem_append.1 hb with hb | hb
    · obtain ⟨q, h1, h2⟩ := ih b hb
      exact ⟨q, h1, fun x hx => List.mem_append.2 (.inl (h2 x hx))⟩
    · rw [List.mem_singleton.1 hb]
      exact ⟨_, .more h hc hcp hs, fun x hx => hx⟩
/-- A wall: f is in it, t is not, and no step leads out of it. -/
structure Wall (n : Nat) (s : Nat → Nat → Bool) (f t : Nat) (X : Nat → Prop) : Prop where
  fst : X f
  out : ¬ X t
  shut : ∀ a b, X a → b < n → s a b = true → X b
theorem Sh.wall {t : Nat} {Ls : List (List Nat)} (hf : f < n) (hft : f ≠ t) (h : Sh n s f t n Ls) : Wall n s f t (Rch n s f t) := by
  refine ⟨⟨[f], .one hf, fun h => hft (List.mem_singleton.1 h).symm⟩, fun ⟨p, h1, h2⟩ => h2 h1.mem, fun a b ⟨p, h1, h2⟩ hb hs => ?_⟩
  by_cases e : b ∈ p
  · obtain ⟨q, h3, h4⟩ := h1.cut b e
    exact ⟨q, h3, fun h => h2 (h4 _ h)⟩
  · refine ⟨p ++ [b], .more h1 hb e hs, fun h5 => ?_⟩
    rcases List.mem_append.1 h5 with h5 | h5
    · exact h2 h5
    · have hbt : t = b := List.mem_singleton.1 h5
      subst hbt
      rw [h.none p a h1 h2 h1.len] at hs
      cases hs
end

/-- Locked duels have no circle: there is a height that rises along each. -/
def NoC (Q : List (Nat × Nat)) : Prop := ∃ g : Nat → Nat, ∀ p ∈ Q, g p.1 < g p.2
theorem NoC.nil : NoC [] := ⟨fun _ => 0, fun p hp => by cases hp⟩
theorem NoC.add {n : Nat} {s : Nat → Nat → Bool} {X : Nat → Prop} {Q : List (Nat × Nat)} {a b : Nat} (h : NoC Q) (hw : Wall n s b a X) (hs : ∀ p ∈ Q, s p.1 p.2 = true ∧ p.2 < n) : NoC (Q ++ [(a, b)]) := by
  obtain ⟨g, hg⟩ := h
  refine ⟨fun x => @ite Nat (X x) (Classical.propDecidable _) (g x + (g a + 1)) (g x), fun p hp => ?_⟩
  rcases List.mem_append.1 hp with hp | hp
  · have h1 := hg p hp
    obtain ⟨h2, h3⟩ := hs p hp
    show @ite Nat (X p.1) (Classical.propDecidable _) _ _ < @ite Nat (X p.2) (Classical.propDecidable _) _ _
    by_cases e1 : X p.1
    · rw [if_pos e1, if_pos (hw.shut _ _ e1 h3 h2)]; omega
    · rw [if_neg e1]
      by_cases e2 : X p.2
      · rw [if_pos e2]; omega
      · rw [if_neg e2]; exact h1
  · rw [List.mem_singleton.1 hp]
    show @ite Nat (X a) (Classical.propDecidable _) _ _ < @ite Nat (X b) (Classical.propDecidable _) _ _
    rw [if_neg hw.out, if_pos hw.fst]
    show g a < g b + (g a + 1)
    omega
/-- An order that is under way: what is before something stands before it. -/
structure OrdL (n : Nat) (Q : List (Nat × Nat)) (o : List Nat) : Prop where
  nodup : o.Nodup
  lt : ∀ x ∈ o, x < n
  pre : ∀ p ∈ Q, ∀ k : Nat, o[k]? = some p.2 → ∃ j : Nat, j < k ∧ o[j]? = some p.1
theorem OrdL.nil (n : Nat) (Q : List (Nat × Nat)) : OrdL n Q [] where
  nodup := List.nodup_nil
  lt := fun x hx => by cases hx
  pre := fun p _ k hk => by cases hk
theorem OrdL.push {n : Nat} {Q : List (Nat × Nat)} {o : List Nat} {x : Nat} (h : OrdL n Q o) (hx : x < n) (hxo : x ∉ o) (hw : ∀ p ∈ Q, p.2 = x → p.1 ∈ o) : OrdL n Q (o ++ [x]) := by
  refine ⟨?_, fun y hy => ?_, fun p hp k hk => ?_⟩
  · rw [List.nodup_append]
    refine ⟨h.nodup, by simp, fun y hy z hz => ?_⟩
    rw [List.mem_singleton.1 hz]
    intro e
    exact hxo (e ▸ hy)
  · rcases List.mem_append.1 hy with hy | hy
    · exact h.lt y hy
    · rw [List.mem_singleton.1 hy]; exact hx
  · by_cases hkl : k < o.length
    · rw [List.getElem?_append_left hkl] at hk
      obtain ⟨j, h1, h2⟩ := h.pre p hp k hk
      exact ⟨j, h1, by rw [List.getElem?_append_left (by omega)]; exact h2⟩
    · have hl : k < (o ++ [x]).length := (List.getElem?_eq_some_iff.1 hk).1
      rw [List.length_append] at hl
      have hl : k < o.length + 1 := hl
      have e : k = o.length := by omega
      subst e
      rw [List.getElem?_append_right (Nat.le_refl _), Nat.sub_self] at hk
      injection hk with hk
      obtain ⟨j, hj, e⟩ := List.mem_iff_getElem.1 (hw p hp hk.symm)
      exact ⟨j, hj, by rw [List.getElem?_append_left hj, List.getElem?_eq_getElem hj, e]⟩
/-- Where some option is not placed, one of them waits for none. -/
theorem OrdL.free {n : Nat} {Q : List (Nat × Nat)} {o : List Nat} (h : OrdL n Q o) (hc : NoC Q) (hq : ∀ p ∈ Q, p.1 < n) (hl : o.length < n) : ∃ x, x < n ∧ x ∉ o ∧ ∀ p ∈ Q, p.2 = x → p.1 ∈ o := by
  obtain ⟨g, hg⟩ := hc
  have hex : ∃ x, x < n ∧ x ∉ o := by
    refine Classical.byContradiction fun hn => ?_
    have hall : ∀ x, x < n → x ∈ o := fun x hx => Classical.byContradiction fun hxo => hn ⟨x, hx, hxo⟩
    have hp : o.Perm (List.range n) := by
      rw [List.perm_iff_count]
      intro x
      rw [h.nodup.count, List.nodup_range.count]
      by_cases hx : x < n
      · rw [if_pos (hall x hx), if_pos (List.mem_range.2 hx)]
      · rw [if_neg (fun hm => hx (h.lt x hm)), if_neg (fun hm => hx (List.mem_range.1 hm))]
    have := hp.length_eq
    rw [List.length_range] at this
    omega
  have : ∀ m x, x < n → x ∉ o → g x ≤ m → ∃ x, x < n ∧ x ∉ o ∧ ∀ p ∈ Q, p.2 = x → p.1 ∈ o := by
    intro m
    induction m with
    | zero =>
      intro x hx hxo hm
      refine ⟨x, hx, hxo, fun p hp e => ?_⟩
      have := hg p hp
      rw [e] at this
      omega
    | succ m ih =>
      intro x hx hxo hm
      by_cases hw : ∀ p ∈ Q, p.2 = x → p.1 ∈ o
      · exact ⟨x, hx, hxo, hw⟩
      · have : ∃ p, p ∈ Q ∧ p.2 = x ∧ p.1 ∉ o := Classical.byContradiction fun hn => hw fun p hp e => Classical.byContradiction fun h1 => hn ⟨p, hp, e, h1⟩
        obtain ⟨p, hp, e, h1⟩ := this
        have := hg p hp
        rw [e] at this
        exact ih p.1 (hq p hp) h1 (by omega)
  obtain ⟨x, hx, hxo⟩ := hex
  exact this (g x) x hx hxo (Nat.le_refl _)
end Go.Proofs.Ytlbnebmdolnagaa

namespace Go.Proofs.Ytlbnebmdolnagaa
open Go.RowKit Go.Lib

theorem sub_many {α : Type} [BEq α] [LawfulBEq α] : ∀ (l m : List α), l.Nodup → (∀ x ∈ l, x ∈ m) → l.length ≤ m.length
  | [], m, _, _ => Nat.zero_le _
  | a :: l, m, hd, h => by
    obtain ⟨h1, h2⟩ := List.nodup_cons.1 hd
    have ha : a ∈ m := h a (by simp)
    have := sub_many l (m.erase a) h2 (fun x hx => (List.mem_erase_of_ne (show x ≠ a from fun e => h1 (e ▸ hx))).2 (h x (List.mem_cons_of_mem _ hx)))
    rw [List.length_erase_of_mem ha] at this
    have := List.length_pos_of_mem ha
    rw [List.length_cons]
    omega
theorem Pth.inn {n f a : Nat} {s : Nat → Nat → Bool} {p : List Nat} (h : Pth n s f p a) {X : Nat → Prop} (h1 : X f) (h2 : ∀ a b, X a → b < n → s a b = true → X b) : X a := by
  induction h with
  | one => exact h1
  | more _ hb _ hs ih => exact h2 _ _ ih hb hs
theorem Pth.wall {n f t : Nat} {s : Nat → Nat → Bool} {p : List Nat} (h : Pth n s f p t) {X : Nat → Prop} (hw : Wall n s f t X) : False := hw.out (h.inn hw.fst hw.shut)
/-- What of the first k duels is locked. -/
def lkL (D : List (Nat × Nat)) (lk : List Bool) (k : Nat) : List (Nat × Nat) := (((D.take k).zip (lk.take k)).filter (fun q => q.2)).map (fun q => q.1)
def stp (D : List (Nat × Nat)) (lk : List Bool) (k a b : Nat) : Bool := (lkL D lk k).contains (a, b)
theorem lkL_mem {D : List (Nat × Nat)} {lk : List Bool} {k : Nat} {p : Nat × Nat} : p ∈ lkL D lk k ↔ ∃ i : Nat, i < k ∧ D[i]? = some p ∧ lk[i]? = some true := by
  unfold lkL
  rw [List.mem_map]
  constructor
  · rintro ⟨⟨q, b⟩, h, rfl⟩
    rw [List.mem_filter] at h
    obtain ⟨h1, h2⟩ := h
    have h2 : b = true := h2
    subst h2
    obtain ⟨i, hi⟩ := List.mem_iff_getElem?.1 h1
    rw [List.getElem?_zip_eq_some] at hi
    obtain ⟨h3, h4⟩ := hi
    rw [List.getElem?_take] at h3 h4
    by_cases hk : i < k
    · rw [if_pos hk] at h3 h4
      exact ⟨i, hk, h3, h4⟩
    · rw [if_neg hk] at h3; cases h3
  · rintro ⟨i, hk, h1, h2⟩
    refine ⟨(p, true), List.mem_filter.2 ⟨List.mem_iff_getElem?.2 ⟨i, ?_⟩, rfl⟩, rfl⟩
    rw [List.getElem?_zip_eq_some, List.getElem?_take, List.getElem?_take, if_pos hk, if_pos hk]
    exact ⟨h1, h2⟩
theorem stp_iff {D : List (Nat × Nat)} {lk : List Bool} {k a b : Nat} : stp D lk k a b = true ↔ ∃ i : Nat, i < k ∧ D[i]? = some (a, b) ∧ lk[i]? = some true := by
  unfold stp
  rw [List.contains_iff_mem, lkL_mem]
theorem stp_take {D : List (Nat × Nat)} {lk lk' : List Bool} {k : Nat} (h : lk.take k = lk'.take k) : stp D lk k = stp D lk' k := by
  funext a b
  unfold stp lkL
  rw [h]
/-- Each of the first m duels is locked where a wall stands, and not where a path leads back. -/
structure IsLk (n : Nat) (D : List (Nat × Nat)) (lk : List Bool) : Prop where
  le : lk.length ≤ D.length
  yes : ∀ (k : Nat) (p : Nat × Nat), D[k]? = some p → lk[k]? = some true → ∃ X, Wall n (stp D lk k) p.2 p.1 X
  no : ∀ (k : Nat) (p : Nat × Nat), D[k]? = some p → lk[k]? = some false → ∃ q, Pth n (stp D lk k) p.2 q p.1
theorem IsLk.nil (n : Nat) (D : List (Nat × Nat)) : IsLk n D [] where
  le := Nat.zero_le _
  yes := fun k p _ h => by simp at h
  no := fun k p _ h => by simp at h
theorem take_snoc {α : Type} {l : List α} {x : α} {k : Nat} (h : k ≤ l.length) : (l ++ [x]).take k = l.take k := List.take_append_of_le_length h
theorem IsLk.push {n : Nat} {D : List (Nat × Nat)} {lk : List Bool} (h : IsLk n D lk) {p : Nat × Nat} (hp : D[lk.length]? = some p) {r : Bool} (h1 : r = true → ∃ X, Wall n (stp D lk lk.length) p.2 p.1 X) (h2 : r = false → ∃ q, Pth n (stp D lk lk.length) p.2 q p.1) : IsLk n D (lk ++ [r]) := by
  have hlt := (List.getElem?_eq_some_iff.1 hp).1
  have hs : ∀ k, k ≤ lk.length → stp D (lk ++ [r]) k = stp D lk k := fun k hk => stp_take (take_snoc hk)
  refine ⟨by rw [List.length_append]; exact hlt, fun k q hq hk => ?_, fun k q hq hk => ?_⟩
  · have hkl : k < (lk ++ [r]).length := (List.getElem?_eq_some_iff.1 hk).1
    rw [List.length_append] at hkl
    have hkl : k < lk.length + 1 := hkl
    rw [hs k (by omega)]
    by_cases e : k < lk.length
    · rw [List.getElem?_append_left e] at hk
      exact h.yes k q hq hk
    · obtain rfl : k = lk.length := by omega
      rw [List.getElem?_append_right (Nat.le_refl _), Nat.sub_self] at hk
      injection hk with hk
      rw [hp] at hq
      injection hq with hq
      subst hq
      exact h1 hk
  · have hkl : k < (lk ++ [r]).length := (List.getElem?_eq_some_iff.1 hk).1
    rw [List.length_append] at hkl
    have hkl : k < lk.length + 1 := hkl
    rw [hs k (by omega)]
    by_cases e : k < lk.length
    · rw [List.getElem?_append_left e] at hk
      exact h.no k q hq hk
    · obtain rfl : k = lk.length := by omega
      rw [List.getElem?_append_right (Nat.le_refl _), Nat.sub_self] at hk
      injection hk with hk
      rw [hp] at hq
      injection hq with hq
      subst hq
      exact h2 hk
theorem IsLk.one {n : Nat} {D : List (Nat × Nat)} {lk lk' : List Bool} (h : IsLk n D lk) (h' : IsLk n D lk') (hl : lk.length = D.length) (hl' : lk'.length = D.length) : lk = lk' := by
  have : ∀ k, k ≤ D.length → lk.take k = lk'.take k := fun k => by
    induction k with
    | zero => intro _; rfl
    | succ k ih =>
      intro hk
      have e := ih (by omega)
      rw [List.take_succ_eq_append_getElem (by omega : k < lk.length), List.take_succ_eq_append_getElem (by omega : k < lk'.length), e]
      have hs := stp_take (D := D) e
      have hp : D[k]? = some D[k] := List.getElem?_eq_getElem (by omega)
      have g1 : lk[k]? = some lk[k] := List.getElem?_eq_getElem (by omega)
      have g2 : lk'[k]? = some lk'[k] := List.getElem?_eq_getElem (by omega)
      congr 2
      generalize lk[k] = a at *
      generalize lk'[k] = b at *
      cases a <;> cases b
      · rfl
      · obtain ⟨q, hq⟩ := h.no k _ hp g1
        obtain ⟨X, hX⟩ := h'.yes k _ hp g2
        rw [hs] at hq
        exact (hq.wall hX).elim
      · obtain ⟨q, hq⟩ := h'.no k _ hp g2
        obtain ⟨X, hX⟩ := h.yes k _ hp g1
        rw [hs] at hX
        exact (hq.wall hX).elim
      · rfl
  have h1 := this D.length (Nat.le_refl _)
  rwa [List.take_of_length_le (by omega), List.take_of_length_le (by omega)] at h1
theorem lkL_succ {D : List (Nat × Nat)} {lk : List Bool} {k : Nat} (hk : k < D.length) (hl : k < lk.length) : lkL D lk (k + 1) = if lk[k] then lkL D lk k ++ [D[k]] else lkL D lk k := by
  unfold lkL
  rw [List.take_succ_eq_append_getElem hk, List.take_succ_eq_append_getElem hl, List.zip_append (by rw [List.length_take, List.length_take]; omega), List.filter_append, List.map_append]
  cases lk[k] <;> simp
theorem IsLk.noc {n : Nat} {D : List (Nat × Nat)} {lk : List Bool} (h : IsLk n D lk) (hD : ∀ p ∈ D, p.2 < n) : ∀ k, k ≤ lk.length → NoC (lkL D lk k)
  | 0, _ => NoC.nil
  | k + 1, hk => by
    have hkD : k < D.length := by have := h.le; omega
    rw [lkL_succ hkD (by omega)]
    have ih := h.noc hD k (by omega)
    cases hb : lk[k] with
    | false => exact ih
    | true =>
      obtain ⟨X, hX⟩ := h.yes k _ (List.getElem?_eq_getElem hkD) (by rw [List.getElem?_eq_getElem (by omega), hb])
      refine NoC.add (n := n) (s := stp D lk k) (X := X) ih hX (fun p hp => ⟨?_, ?_⟩)
      · unfold stp
        exact List.contains_iff_mem.2 hp
      · obtain ⟨i, _, hi, _⟩ := lkL_mem.1 hp
        exact hD p (List.mem_of_getElem? hi)

/-- The duels of a profile, in whatever order. -/
structure DuL (F : Pf) (D : List (Nat × Nat)) : Prop where
  mem : ∀ p, p ∈ D ↔ p.1 < F.n ∧ p.2 < F.n ∧ beats F p.1 p.2
  nodup : D.Nodup
theorem DuL.few {F : Pf} {D : List (Nat × Nat)} (h : DuL F D) (hn : F.n ≤ 6) : D.length ≤ 15 := by
  have inj : ∀ a b c d : Nat, a < 6 → b < 6 → c < 6 → d < 6 → 6 * a + b = 6 * c + d → a = c ∧ b = d := by omega
  have hlt : ∀ p ∈ D, p.1 < 6 ∧ p.2 < 6 ∧ beats F p.1 p.2 := fun p hp => by
    obtain ⟨h1, h2, h3⟩ := (h.mem p).1 hp
    exact ⟨by omega, by omega, h3⟩
  have nd : ((D.map (fun p : Nat × Nat => 6 * p.1 + p.2)) ++ ((D.map (fun p : Nat × Nat => 6 * p.2 + p.1)) ++ ((List.range 6).map (fun a => 6 * a + a)))).Nodup := by
    rw [List.nodup_append, List.nodup_append]
    refine ⟨?_, ⟨?_, by decide, ?_⟩, ?_⟩
    · refine List.pairwise_map.2 (h.nodup.imp_of_mem (fun {p q} hp hq hne e => hne ?_))
      obtain ⟨h1, h2, _⟩ := hlt p hp
      obtain ⟨h3, h4, _⟩ := hlt q hq
      obtain ⟨e1, e2⟩ := inj _ _ _ _ h1 h2 h3 h4 e
      exact Prod.ext e1 e2
    · refine List.pairwise_map.2 (h.nodup.imp_of_mem (fun {p q} hp hq hne e => hne ?_))
      obtain ⟨h1, h2, _⟩ := hlt p hp
      obtain ⟨h3, h4, _⟩ := hlt q hq
      obtain ⟨e1, e2⟩ := inj _ _ _ _ h2 h1 h4 h3 e
      exact Prod.ext e2 e1
    · intro x hx y hy e
      obtain ⟨p, hp, rfl⟩ := List.mem_map.1 hx
      obtain ⟨a, ha, rfl⟩ := List.mem_map.1 hy
      obtain ⟨h1, h2, h3⟩ := hlt p hp
      have := List.mem_range.1 ha
      obtain ⟨e1, e2⟩ := inj _ _ _ _ h2 h1 this this e
      unfold beats at h3
      rw [e1, e2] at h3
      omega
    · intro x hx y hy e
      obtain ⟨p, hp, rfl⟩ := List.mem_map.1 hx
      obtain ⟨h1, h2, h3⟩ := hlt p hp
      rcases List.mem_append.1 hy with hy | hy
      · obtain ⟨q, hq, rfl⟩ := List.mem_map.1 hy
        obtain ⟨h4, h5, h6⟩ := hlt q hq
        obtain ⟨e1, e2⟩ := inj _ _ _ _ h1 h2 h5 h4 e
        unfold beats at h3 h6
        rw [e1, e2] at h3
        omega
      · obtain ⟨a, ha, rfl⟩ := List.mem_map.1 hy
        have := List.mem_range.1 ha
        obtain ⟨e1, e2⟩ := inj _ _ _ _ h1 h2 this this e
        unfold beats at h3
        rw [e1, e2] at h3
        omega
  have := nodup_le 36 _ nd (fun x hx => by
    rcases List.mem_append.1 hx with hx | hx
    · obtain ⟨p, hp, rfl⟩ := List.mem_map.1 hx
      have := hlt p hp
      omega
    · rcases List.mem_append.1 hx with hx | hx
      · obtain ⟨p, hp, rfl⟩ := List.mem_map.1 hx
        have := hlt p hp
        omega
      · obtain ⟨a, ha, rfl⟩ := List.mem_map.1 hx
        have := List.mem_range.1 ha
        omega)
  simp only [List.length_append, List.length_map, List.length_range] at this
  omega
/-- A list whose neighbours never lead from outside of a set into it begins with the set. -/
theorem leads {n : Nat} {r S : List Nat} (hp : r.Perm (List.range n)) (hS : UpL n S) (h : ∀ (i t s : Nat), r[i]? = some t → r[i + 1]? = some s → s ∈ S → t ∈ S) : ∀ i : Nat, i < S.length → ∃ x, r[i]? = some x ∧ x ∈ S := by
  have hnd : S.Nodup := hS.up.imp (fun {a b} h => Nat.ne_of_lt h)
  have hlen : r.length = n := by rw [hp.length_eq, List.length_range]
  have hback : ∀ (d i s : Nat), r[i + d]? = some s → s ∈ S → ∀ x, r[i]? = some x → x ∈ S := by
    intro d
    induction d with
    | zero =>
      intro i s h1 h2 x hx
      rw [Nat.add_zero, hx] at h1
      injection h1 with h1
      exact h1 ▸ h2
    | succ d ih =>
      intro i s h1 h2 x hx
      have hlt : i + (d + 1) < r.length := (List.getElem?_eq_some_iff.1 h1).1
      have hg : r[i + d]? = some r[i + d] := List.getElem?_eq_getElem (by omega)
      exact ih i _ hg (h (i + d) _ s hg h1 h2) x hx
  intro i hi
  have hSn := hS.len
  have hir : i < r.length := by omega
  refine ⟨r[i], List.getElem?_eq_getElem hir, Classical.byContradiction fun hno => ?_⟩
  have hin : ∀ x ∈ S, x ∈ r.take i := fun x hx => by
    have hxr : x ∈ r := hp.mem_iff.2 (List.mem_range.2 (hS.lt x hx))
    obtain ⟨j, hj⟩ := List.mem_iff_getElem?.1 hxr
    by_cases hji : j < i
    · exact List.mem_iff_getElem?.2 ⟨j, by rw [List.getElem?_take, if_pos hji]; exact hj⟩
    · exact absurd (hback (j - i) i x (by rw [show i + (j - i) = j by omega]; exact hj) hx _ (List.getElem?_eq_getElem hir)) hno
  have := sub_many S (r.take i) hnd hin
  rw [List.length_take] at this
  omega
theorem Pth.enter {n f t : Nat} {s : Nat → Nat → Bool} {p : List Nat} (h : Pth n s f p t) {S : List Nat} (hf : f ∉ S) (ht : t ∈ S) : ∃ a b, a ∉ S ∧ b ∈ S ∧ a < n ∧ b < n ∧ s a b = true := by
  induction h with
  | one => exact absurd ht hf
  | @more p a b h hb _ hs ih =>
    by_cases e : a ∈ S
    · exact ih e
    · exact ⟨a, b, e, ht, h.lt a h.mem, hb, hs⟩
/-- The ranked order begins with the least dominating set. -/
theorem ranked_leads {F : Pf} {S : List Nat} (hS : IsSm F S) {D : List (Nat × Nat)} (hD : DuL F D) {lk : List Bool} (hl : IsLk F.n D lk) (hll : lk.length = D.length) {o : List Nat} (ho : OrdL F.n (lkL D lk D.length) o) (hp : o.Perm (List.range F.n)) : ∀ i : Nat, i < S.length → ∃ x, o[i]? = some x ∧ x ∈ S := by
  refine leads hp hS.up fun i t s ht hs hsS => Classical.byContradiction fun htS => ?_
  have htn := ho.lt t (List.mem_of_getElem? ht)
  have hsn := ho.lt s (List.mem_of_getElem? hs)
  have hbt := (hS.dom s hsS t htn).resolve_left htS
  obtain ⟨k, hk⟩ := List.mem_iff_getElem?.1 ((hD.mem (s, t)).2 ⟨hsn, htn, hbt⟩)
  have hkD := (List.getElem?_eq_some_iff.1 hk).1
  have hg : lk[k]? = some lk[k] := List.getElem?_eq_getElem (by omega)
  have hlk : lk[k]? = some true := by
    cases hb : lk[k] with
    | true => rw [hg, hb]
    | false =>
      rw [hb] at hg
      obtain ⟨q, hq⟩ := hl.no k _ hk hg
      obtain ⟨a, b, ha, hb, han, hbn, hst⟩ := hq.enter htS hsS
      obtain ⟨j, _, hj, _⟩ := stp_iff.1 hst
      have h1 : beats F a b := ((hD.mem (a, b)).1 (List.mem_of_getElem? hj)).2.2
      have h2 := (hS.dom b hb a han).resolve_left ha
      unfold beats at h1 h2
      omega
  obtain ⟨j, hj, hjo⟩ := ho.pre (s, t) (lkL_mem.2 ⟨k, hkD, hk, hlk⟩) i ht
  have := (List.getElem?_inj (by have := (List.getElem?_eq_some_iff.1 hs).1; omega) ho.nodup).1 (hjo.trans hs.symm)
  omega

/-- How much a ranking disagrees with a profile. -/
def disR (F : Pf) (a : Nat) (t : List Nat) : Nat := (t.map (fun b => prs F b a)).sum
def dis (F : Pf) : List Nat → Nat
  | [] => 0
  | a :: t => disR F a t + dis F t
theorem dis_swap (F : Pf) (t s : Nat) (v : List Nat) : ∀ u : List Nat, dis F (u ++ t :: s :: v) + prs F t s = dis F (u ++ s :: t :: v) + prs F s t
  | [] => by simp only [List.nil_append, dis, disR, List.map_cons, List.sum_cons]; omega
  | a :: u => by
    have ih := dis_swap F t s v u
    have : disR F a (u ++ t :: s :: v) = disR F a (u ++ s :: t :: v) := by
      unfold disR
      simp only [List.map_append, List.map_cons, List.sum_append, List.sum_cons]
      omega
    simp only [List.cons_append, dis]
    omega
theorem kemeny_leads {F : Pf} {S : List Nat} (hS : IsSm F S) {r : List Nat} (hp : r.Perm (List.range F.n)) (hm : ∀ r' : List Nat, r'.Perm (List.range F.n) → dis F r ≤ dis F r') : ∀ i : Nat, i < S.length → ∃ x, r[i]? = some x ∧ x ∈ S := by
  refine leads hp hS.up fun i t s ht hs hsS => Classical.byContradiction fun htS => ?_
  have htn : t < F.n := List.mem_range.1 (hp.mem_iff.1 (List.mem_of_getElem? ht))
  have hbt := (hS.dom s hsS t htn).resolve_left htS
  have hi := (List.getElem?_eq_some_iff.1 hs).1
  have e : r = r.take i ++ t :: s :: r.drop (i + 2) := by
    have h1 := (List.getElem?_eq_some_iff.1 ht).2
    have h2 := (List.getElem?_eq_some_iff.1 hs).2
    conv => lhs; rw [← List.take_append_drop i r]
    rw [List.drop_eq_getElem_cons (by omega : i < r.length), List.drop_eq_getElem_cons hi, h1, h2]
  have h3 := dis_swap F t s (r.drop (i + 2)) (r.take i)
  rw [← e] at h3
  have h4 := hm (r.take i ++ s :: t :: r.drop (i + 2)) (List.Perm.trans (by
    conv => rhs; rw [e]
    exact List.Perm.append_left _ (List.Perm.swap _ _ _)) hp)
  unfold beats at hbt
  omega
end Go.Proofs.Ytlbnebmdolnagaa

namespace Go.Proofs.Ytlbnebmdolnagaa
open Go.RowKit Go.Lib

theorem range_sort {l : List Nat} {n : Nat} (h : l.Perm (List.range n)) : (barL l).mergeSort (fun x y => decide (x ≤ y)) = barL (List.range n) := by
  have hs : ((barL l).mergeSort (fun x y => decide (x ≤ y))).Pairwise (· ≤ ·) := by
    have := List.pairwise_mergeSort (le := fun x y : Int => decide (x ≤ y)) (fun a b c h1 h2 => by simp at *; omega) (fun a b => by simp; omega) (barL l)
    exact this.imp (fun h => by simpa using h)
  refine List.Perm.eq_of_pairwise (le := fun a b : Int => a ≤ b) (fun a b _ _ h1 h2 => by omega) hs ?_ ?_
  · unfold barL
    rw [List.pairwise_map]
    exact List.pairwise_lt_range.imp (fun h => Int.ofNat_le.2 (Nat.le_of_lt h))
  · refine (List.mergeSort_perm _ _).trans ?_
    unfold barL
    exact h.map _
set_option maxRecDepth 100000 in
set_option maxHeartbeats 4000000 in
theorem isRank_any (n : Nat) (l : List Nat) (hp : l.Perm (List.range n)) (h1 : 1 ≤ n) (h6 : n ≤ 6) (v : Value) (w : World) (h : Ints w w.heap.size v (barL l)) :
    Calls Try.prog 106 #[v, .int .i64 (n : Int)] w (RetB (.bool true) w) := by
  obtain ⟨A, c, rfl, hc, hm⟩ := h.sl
  have hlen : l.length = n := by rw [hp.length_eq, List.length_range]
  have hget : (barL l)[0]? = some (l[0]'(by omega) : Int) := barL_get (List.getElem?_eq_getElem (by omega))
  obtain ⟨b0, o0, rfl, hb0, hu0⟩ := ints_get h hget
  have HC := Lib.hid (clone_some (barL l) ⟨b0, o0, none⟩ c w h (by rw [barL_len]; omega))
  have HSO := Lib.hid (range_sort hp)
  have hbl : (barL l).length = n := by rw [barL_len]; exact hlen
  have hne : barL l ≠ [] := fun e => by rw [e] at hbl; simp at hbl; omega
  have HNE := Lib.hid hne
  have hi1 : (1 : Int) ≤ (n : Int) := by omega
  have hi6 : (n : Int) ≤ 6 := by omega
  unfold ClonePost at HC
  generalize barL l = Z at *
  clear h hget hb0 hu0 hp hlen hne
  rw [hbl] at HC ⊢
  go_enter Try.func106, Try.ntmps106
  go_wp2_with (fail)
  refine HC.out.mono ?_
  rintro e w1 ⟨v', rfl, hown, hb⟩
  obtain ⟨g, cap, rfl, hcc, hcm⟩ := own_some hown (fun e => by
    rw [e] at hown
    obtain ⟨_, h | ⟨_, _, _, h, _⟩⟩ := hown
    · have := h.2; omega
    · cases h)
  have HB := Lib.hid hb
  have hg := hown.lt g rfl
  rw [← hbl] at hown
  have hHo := holds_own hown
  have hso := sort64_any Z g cap w1 hHo hg.2 (by omega)
  rw [HSO.out, hbl] at hso
  have HS := Lib.hid hso
  have HHO := Lib.hid hHo
  clear hown hb hso hHo
  go_wp2_with (fail)
  refine HS.out.mono ?_
  rintro e w2 ⟨rfl, q, os, rfl⟩
  have hrl : (barL (List.range n)).length = n := by rw [barL_len, List.length_range]
  have hH1 : Go.Sort.Holds (Value.int .i64) (Go.Sort.grow (Go.Sort.putRow (Value.int .i64) (Go.Sort.ahead w1 q) g 0 (barL (List.range n)).toArray) os) g 0 (barL (List.range n)).toArray :=
    Go.Sort.holds_grow _ _ _ _ _ _ (by rw [Go.Sort.size_putRow]; exact hg.2) (Go.Sort.holds_putRow _ (Go.Sort.ahead w1 q) g 0 Z.toArray (barL (List.range n)).toArray HHO.out (by simp [hrl, hbl]))
  have hO1 := only_grow (only_sorted (w := w1) (g := g) (barL (List.range n)) q) os
  generalize Go.Sort.grow (Go.Sort.putRow (Value.int .i64) (Go.Sort.ahead w1 q) g 0 (barL (List.range n)).toArray) os = w2 at hH1 hO1 ⊢
  have hb2 := HB.out.trans (only_below hO1 hg.1 HB.out.size)
  have hrow := holds_row (L := barL (List.range n)) (T := []) (by rw [List.append_nil]; exact hH1)
  have hint : Ints w2 w2.heap.size (.slice (some ⟨g, 0, none⟩) n cap) (barL (List.range n)) := by
    have := SlR.of_row (xs := barL (List.range n)) intCells (size := 1) (fun _ => rfl) hrow (Nat.lt_of_lt_of_le hg.2 hO1.size) (c := cap) (by rw [hrl]; exact hcc) hcm
    rwa [hrl] at this
  have HIS := Lib.hid (isSet_any n (List.range n) ⟨List.pairwise_lt_range, fun x hx => List.mem_range.1 hx⟩ (by omega) _ w2 hint)
  have HB2 := Lib.hid hb2
  clear hH1 hO1 hb2 hrow hint HHO HS HC
  obtain ⟨x2, hx2⟩ : ∃ y : Aft w2, y.val = w2 := ⟨⟨w2, Below.refl _ _⟩, rfl⟩
  have HISX : Hid (∀ y : Aft w2, y.val = w2 → Calls Try.prog 114 #[.slice (some ⟨g, 0, none⟩) n cap, .int .i64 (n : Int)] y.val (RetB (.bool true) y.val)) := Lib.hid (fun y hy => by rw [hy]; exact HIS.out)
  have HIS2 := Lib.hid (HISX.out x2 hx2)
  have HBX : Hid (∀ y : Aft w2, Below w.heap.size w y.val) := Lib.hid (fun y => HB2.out.trans (y.ok.mono HB2.out.size))
  rw [← hx2]
  clear HIS HISX hx2
  go_wp2_with (fail)
  refine (aft_b (HIS2.out)).mono ?_
  rintro e _ ⟨rfl, y, rfl⟩
  go_wp2
  go_ret
  exact ⟨rfl, HBX.out y⟩

/-- A profile in memory. -/
structure PfR (w : World) (B : Nat) (F : Pf) (A1 : Option Addr) (c1 : Nat) (A2 : Option Addr) (c2 : Nat) : Prop where
  rows : RowsR w B (.slice A1 F.L.length c1) (F.L.map barL)
  wts : Ints w B (.slice A2 F.L.length c2) (barL F.W)
def pfV (F : Pf) (A1 : Option Addr) (c1 : Nat) (A2 : Option Addr) (c2 : Nat) : Value := .agg #[.slice A1 F.L.length c1, .slice A2 F.L.length c2]
section
variable {w : World} {F : Pf} {A1 A2 : Option Addr} {c1 c2 : Nat}
theorem PfR.on {w' : World} {B B' : Nat} (h : PfR w B F A1 c1 A2 c2) (hb : Below B w w') (hB : B ≤ B') : PfR w' B' F A1 c1 A2 c2 := ⟨RowsR.on h.rows hb hB, SlR.on h.wts (Pl.stays _) hb hB⟩
/-- What lies in a profile's memory, at each later world. -/
structure PfC (w : World) (F : Pf) (A1 : Option Addr) (A2 : Option Addr) (b1 o1 b2 o2 : Nat) : Prop where
  e1 : A1 = some ⟨b1, o1, none⟩
  e2 : A2 = some ⟨b2, o2, none⟩
  row : ∀ (k : Nat) (l : List Nat), F.L[k]? = some l → ∃ b o c, (∀ y, Below w.heap.size w y → y.cell? ⟨b1, o1 + k, none⟩ = some (.slice (some ⟨b, o, none⟩) F.n c)) ∧ F.n ≤ c ∧ c ≤ maxLen ∧ (∀ y, Below w.heap.size w y → Ints y y.heap.size (.slice (some ⟨b, o, none⟩) F.n c) (barL l)) ∧ ∀ (j x : Nat), l[j]? = some x → ∀ y, Below w.heap.size w y → y.cell? ⟨b, o + j, none⟩ = some (.int .i64 (x : Int))
  wt : ∀ (k x : Nat), F.W[k]? = some x → ∀ y, Below w.heap.size w y → y.cell? ⟨b2, o2 + k, none⟩ = some (.int .i64 (x : Int))
theorem PfR.cells (h : PfR w w.heap.size F A1 c1 A2 c2) (hF : F.Ok) : F.L.length ≤ c1 ∧ c1 ≤ maxLen ∧ F.L.length ≤ c2 ∧ c2 ≤ maxLen ∧ ∃ b1 o1 b2 o2, PfC w F A1 A2 b1 o1 b2 o2 := by
  obtain ⟨A, c, e, q1, q2, q3⟩ := rows_at h.rows
  rw [List.length_map] at e q1 q3
  injection e with e3 e4 e5
  subst e3
  subst e5
  obtain ⟨b1, o1, rfl, hb1, hk1⟩ := q3 (by have := hF.l1; omega)
  have hW := hF.wl
  have h1 := hF.l1
  have hw0 : (barL F.W)[0]? = some ((F.W[0]'(by omega) : Nat) : Int) := barL_get (List.getElem?_eq_getElem (by omega))
  obtain ⟨b2, o2, rfl, hb2, _⟩ := ints_get h.wts hw0
  obtain ⟨_, _, e6, q4, q5⟩ := h.wts.sl
  rw [barL_len, hW] at e6 q4
  injection e6 with _ _ e7
  subst e7
  refine ⟨q1, q2, q4, q5, b1, o1, b2, o2, rfl, rfl, fun k l hl => ?_, fun k x hx y hy => ?_⟩
  · have hlm : l ∈ F.L := List.mem_of_getElem? hl
    have hp := hF.perm l hlm
    have hll : l.length = F.n := by rw [hp.length_eq, List.length_range]
    obtain ⟨A7, c7, u0, hc7, i7⟩ := hk1 k (barL l) (by rw [List.getElem?_map, hl]; rfl)
    rw [barL_len, hll] at u0 i7
    have hl0 : (barL l)[0]? = some ((l[0]'(by have := hF.n1; omega) : Nat) : Int) := barL_get (List.getElem?_eq_getElem (by have := hF.n1; omega))
    obtain ⟨b, o, rfl, hbb, _⟩ := ints_get i7 hl0
    have hcc : F.n ≤ c7 := by
      obtain ⟨_, _, e8, q6, _⟩ := i7.sl
      rw [barL_len, hll] at e8 q6
      injection e8 with _ _ e9
      subst e9
      exact q6
    refine ⟨b, o, c7, fun y hy => (hy.cell (p := ⟨b1, o1 + k, none⟩) hb1).trans u0, hcc, hc7, fun y hy => SlR.on i7 (Pl.stays _) hy hy.size, fun j x hx y hy => ?_⟩
    obtain ⟨b', o', e', _, u1⟩ := ints_get i7 (barL_get hx)
    injection e' with e'
    injection e' with e8 e9 _
    subst e8
    subst e9
    exact (hy.cell (p := ⟨b, o + j, none⟩) hbb).trans u1
  · obtain ⟨b', o', e', _, u1⟩ := ints_get h.wts (barL_get hx)
    injection e' with e'
    injection e' with e8 e9 _
    subst e8
    subst e9
    exact (hy.cell (p := ⟨b2, o2 + k, none⟩) hb2).trans u1
/-- The profile in a box of the callee's own. -/
theorem pbox_at (h : PfR w w.heap.size F A1 c1 A2 c2) : ∃ w1, w1 = w.alloc (.cells #[.slice A1 F.L.length c1, .slice A2 F.L.length c2] 27) ∧ w1.heap.size = w.heap.size + 1 ∧ Below w.heap.size w w1 ∧
    (∀ y : Aft w1, y.val.cell? ⟨w.heap.size, 0, none⟩ = some (.slice A1 F.L.length c1)) ∧ (∀ y : Aft w1, y.val.cell? ⟨w.heap.size, 1, none⟩ = some (.slice A2 F.L.length c2)) ∧ (∀ y : Aft w1, PfR y.val y.val.heap.size F A1 c1 A2 c2) ∧ (∀ y : Aft w1, Below w.heap.size w y.val) := by
  have b1 := (Below.refl w.heap.size w).alloc (Nat.le_refl _) (.cells #[.slice A1 F.L.length c1, .slice A2 F.L.length c2] 27)
  have hb : ∀ y : Aft (w.alloc (.cells #[.slice A1 F.L.length c1, .slice A2 F.L.length c2] 27)), Below w.heap.size w y.val := fun y => b1.trans (y.ok.mono b1.size)
  exact ⟨_, rfl, by simp, b1, fun y => y.cell (new_at (j := 0) rfl), fun y => y.cell (new_at (j := 1) rfl), fun y => h.on (hb y) (hb y).size, hb⟩
end
set_option maxRecDepth 100000 in
set_option maxHeartbeats 2000000 in
theorem options_any (F : Pf) (hF : F.Ok) (A1 : Option Addr) (c1 : Nat) (A2 : Option Addr) (c2 : Nat) (w : World) (h : PfR w w.heap.size F A1 c1 A2 c2) :
    Calls Try.prog 62 #[pfV F A1 c1 A2 c2] w (RetB (.int .i64 (F.n : Int)) w) := by
  obtain ⟨q1, q2, q3, q4, b1, o1, b2, o2, hc⟩ := h.cells hF
  obtain ⟨rfl, rfl, hrow, _⟩ := hc
  have hl1 := hF.l1
  have hl12 := hF.l12
  obtain ⟨b, o, c, u0, _⟩ := hrow 0 _ (List.getElem?_eq_getElem hl1)
  obtain ⟨w1, hw1, hs1, b1, z0, z1, fr, bw⟩ := pbox_at h
  have y0 := fun y : Aft w1 => u0 y.val (bw y)
  have BW := Lib.hid bw
  have hli : (0 : Int) < (F.L.length : Int) := by omega
  clear hF h fr bw b1 hrow u0
  simp only [Nat.add_zero] at y0
  unfold pfV
  go_enter Try.func62, Try.ntmps62
  go_upto_region 1 with (fail)
  rw [← hw1]
  obtain ⟨x0, hx0⟩ : ∃ y : Aft w1, y.val = w1 := ⟨⟨w1, Below.refl _ _⟩, rfl⟩
  rw [← hx0]
  clear hx0 hw1
  go_wp2
  go_ret
  exact ⟨rfl, BW.out x0⟩
set_option maxRecDepth 100000 in
set_option maxHeartbeats 4000000 in
theorem validP_any (F : Pf) (hF : F.Ok) (A1 : Option Addr) (c1 : Nat) (A2 : Option Addr) (c2 : Nat) (w : World) (h : PfR w w.heap.size F A1 c1 A2 c2) :
    Calls Try.prog 58 #[pfV F A1 c1 A2 c2] w (RetB (.bool true) w) := by
  obtain ⟨q1, q2, q3, q4, b1, o1, b2, o2, hc⟩ := h.cells hF
  obtain ⟨rfl, rfl, hrow, hwt⟩ := hc
  have hl1 := hF.l1
  have hl12 := hF.l12
  obtain ⟨b, o, c, u0, _⟩ := hrow 0 _ (List.getElem?_eq_getElem hl1)
  obtain ⟨w1, hw1, hs1, b1, z0, z1, fr, bw⟩ := pbox_at h
  have y0 := fun y : Aft w1 => u0 y.val (bw y)
  have BW := Lib.hid bw
  have HF := Lib.hid hF
  have HROW := Lib.hid hrow
  have HWT := Lib.hid hwt
  have hn1 := hF.n1
  have hn6 := hF.n6
  have HWL := Lib.hid hF.wl
  have hli : (0 : Int) < (F.L.length : Int) := by omega
  have hnb : ((F.L.length : Int) != (F.L.length : Int)) = false := by simp
  clear hF h fr bw b1 hrow u0 hwt
  simp only [Nat.add_zero] at y0
  unfold pfV
  go_enter Try.func58, Try.ntmps58
  go_upto_region 1 with (fail)
  rw [← hw1]
  obtain ⟨x0, hx0⟩ : ∃ y : Aft w1, y.val = w1 := ⟨⟨w1, Below.refl _ _⟩, rfl⟩
  rw [← hx0]
  clear hx0 hw1
  go_wp2_with (fail)
  refine (aft_q (in2_yes _ _ _ x0.val (by omega) (by omega))).mono ?_
  rintro e _ ⟨rfl, x1, rfl⟩
  go_wp2
  go_loopw [3, 4, 22] (fun _ _ i wr => ∃ (k : Nat) (x : Aft w1), k ≤ F.L.length ∧ i = .int .i64 (k : Int) ∧ wr = x.val) (fun _ _ i _ => F.L.length - (RowKit.intOf i).toNat)
  case atStart => exact ⟨0, x1, Nat.zero_le _, rfl, rfl⟩
  case round =>
    obtain ⟨k, x, hk, rfl, rfl⟩ := hrel
    by_cases hlt : k < F.L.length
    · have hget : F.L[k]? = some F.L[k] := List.getElem?_eq_getElem hlt
      have hkw : k < F.W.length := by rw [HWL.out]; exact hlt
      obtain ⟨b3, o3, c3, v0, _, _, vi, _⟩ := HROW.out k _ hget
      have v0 := fun y : Aft w1 => v0 y.val (BW.out y)
      have v1 := fun y : Aft w1 => HWT.out k _ (List.getElem?_eq_getElem hkw) y.val (BW.out y)
      have hwk := HF.out.wt _ (List.getElem_mem hkw)
      have HRK := Lib.hid (fun y : Aft w1 => isRank_any F.n _ (HF.out.perm _ (List.getElem_mem hlt)) hn1 hn6 _ y.val (vi y.val (BW.out y)))
      have hki : (k : Int) < (F.L.length : Int) := by omega
      have hk0 : (0 : Int) ≤ (k : Int) := by omega
      generalize F.L[k] = l at *
      generalize F.W[k] = wk at *
      clear hget vi
      go_wp2_with (fail)
      refine (aft_b (HRK.out x)).mono ?_
      rintro e _ ⟨rfl, x2, rfl⟩
      go_wp2_with (fail)
      refine (aft_q (in2_yes _ _ _ x2.val (by omega) (by omega))).mono ?_
      rintro e _ ⟨rfl, y, rfl⟩
      go_wp2
      go_roundw
      case rel => exact ⟨k + 1, y, by omega, by go_num, rfl⟩
      case measure => simp [RowKit.intOf]; omega
    · have hge : ¬ (k : Int) < (F.L.length : Int) := by omega
      go_wp2
      go_ret
      exact ⟨rfl, BW.out x⟩
end Go.Proofs.Ytlbnebmdolnagaa
