/- Duels in order, plain: insertion, and that it sorts. Duels in memory, compared and put in order, walked. -/
import Derived.Test.YtlbnebmdolnagaaBA
import Derived.Test.YtlbnebmdolnagaaBC
namespace Go.Proofs.Ytlbnebmdolnagaa
open Go.RowKit Go.Lib

section
variable {α : Type} (lt : α → α → Bool)
/-- What stands at j goes down as long as it is less than what stands below it. -/
def downL : Nat → List α → List α
  | 0, L => L
  | j + 1, L => match L[j + 1]?, L[j]? with
    | some x, some y => if lt x y = true then downL j ((L.set (j + 1) y).set j x) else L
    | _, _ => L
def insK (L : List α) : Nat → List α
  | 0 => L
  | k + 1 => downL lt (k + 1) (insK L k)
theorem downL_len : ∀ (j : Nat) (L : List α), (downL lt j L).length = L.length
  | 0, _ => rfl
  | j + 1, L => by
    unfold downL
    split
    · split
      · rw [downL_len j, List.length_set, List.length_set]
      · rfl
    · rfl
theorem insK_len (L : List α) : ∀ k, (insK lt L k).length = L.length
  | 0 => rfl
  | k + 1 => by
    show (downL lt (k + 1) (insK lt L k)).length = _
    rw [downL_len, insK_len L k]
theorem down_go {j : Nat} {L : List α} {x y : α} (hx : L[j + 1]? = some x) (hy : L[j]? = some y) (h : lt x y = true) : downL lt (j + 1) L = downL lt j ((L.set (j + 1) y).set j x) := by
  rw [downL, hx, hy]
  simp only [h, if_true]
theorem down_stop {j : Nat} {L : List α} {x y : α} (hx : L[j + 1]? = some x) (hy : L[j]? = some y) (h : lt x y = false) : downL lt (j + 1) L = L := by
  rw [downL, hx, hy]
  simp [h]
end
theorem swapP {α : Type} [BEq α] [LawfulBEq α] {l : List α} {i j : Nat} {x y : α} (hi : l[i]? = some x) (hj : l[j]? = some y) : ((l.set i y).set j x).Perm l := by
  obtain ⟨h1, rfl⟩ := List.getElem?_eq_some_iff.1 hi
  obtain ⟨h2, rfl⟩ := List.getElem?_eq_some_iff.1 hj
  rw [List.perm_iff_count]
  intro a
  have hj' : j < (l.set i l[j]).length := by rw [List.length_set]; exact h2
  rw [List.count_set hj', List.count_set h1]
  have e : (l.set i l[j])[j] = l[j] := by
    rw [List.getElem_set]
    split <;> rfl
  rw [e]
  by_cases e1 : l[i] = a
  · have : 0 < l.count a := List.count_pos_iff.2 (e1 ▸ List.getElem_mem h1)
    by_cases e2 : l[j] = a
    · simp [e1, e2]; omega
    · simp [e1, e2]; omega
  · by_cases e2 : l[j] = a
    · simp [e1, e2]
    · simp [e1, e2]
section
variable {α : Type} {lt : α → α → Bool}
theorem downL_perm [BEq α] [LawfulBEq α] : ∀ (j : Nat) (L : List α), (downL lt j L).Perm L
  | 0, _ => List.Perm.refl _
  | j + 1, L => by
    cases hx : L[j + 1]? with
    | none => rw [downL, hx]
    | some x =>
      cases hy : L[j]? with
      | none => rw [downL, hx, hy]
      | some y =>
        cases h : lt x y
        · rw [down_stop lt hx hy h]
        · rw [down_go lt hx hy h]
          exact (downL_perm j _).trans (swapP hx hy)
theorem insK_perm [BEq α] [LawfulBEq α] (L : List α) : ∀ k, (insK lt L k).Perm L
  | 0 => List.Perm.refl _
  | k + 1 => (downL_perm (k + 1) _).trans (insK_perm L k)
structure SWO' (lt : α → α → Bool) : Prop where
  asy : ∀ x y, lt x y = true → lt y x = false
  neg : ∀ x y z, lt x y = false → lt y z = false → lt x z = false
/-- The first k stand in order. -/
def SrtTo (lt : α → α → Bool) (k : Nat) (L : List α) : Prop := ∀ (a b : Nat) (x y : α), a < b → b < k → L[a]? = some x → L[b]? = some y → lt y x = false
theorem down_srt (ho : SWO' lt) {i : Nat} : ∀ (j : Nat) (L : List α), j ≤ i → i < L.length → (∀ (a b : Nat) (x y : α), a < b → b ≤ i → b ≠ j → L[a]? = some x → L[b]? = some y → lt y x = false) → SrtTo lt (i + 1) (downL lt j L)
  | 0, L, _, _, h => fun a b x y hab hb hx hy => h a b x y hab (by omega) (by omega) hx hy
  | j + 1, L, hj, hi, h => by
    have hx : L[j + 1]? = some (L[j + 1]'(by omega)) := List.getElem?_eq_getElem (by omega)
    have hy : L[j]? = some (L[j]'(by omega)) := List.getElem?_eq_getElem (by omega)
    generalize L[j + 1]'(by omega) = x at *
    generalize L[j]'(by omega) = y at *
    cases hl : lt x y with
    | false =>
      rw [down_stop lt hx hy hl]
      intro a b u v hab hb hu hv
      by_cases e : b = j + 1
      · subst e
        rw [hx] at hv
        injection hv with hv
        subst hv
        by_cases e2 : a = j
        · subst e2
          rw [hy] at hu
          injection hu with hu
          subst hu
          exact hl
        · exact ho.neg _ _ _ hl (h a j u y (by omega) (by omega) (by omega) hu hy)
      · exact h a b u v hab (by omega) e hu hv
    | true =>
      rw [down_go lt hx hy hl]
      refine down_srt ho j _ (by omega) (by rw [List.length_set, List.length_set]; exact hi) fun a b u v hab hb hbj hu hv => ?_
      rw [List.getElem?_set, List.getElem?_set] at hu hv
      simp only [List.length_set] at hu hv
      rw [if_neg (fun e => hbj e.symm)] at hv
      by_cases e1 : b = j + 1
      · subst e1
        rw [if_pos rfl, if_pos (by omega)] at hv
        injection hv with hv
        subst hv
        by_cases e2 : j = a
        · subst e2
          rw [if_pos rfl, if_pos (by omega)] at hu
          injection hu with hu
          subst hu
          exact ho.asy _ _ hl
        · rw [if_neg e2, if_neg (by omega)] at hu
          exact h a j u y (by omega) (by omega) (by omega) hu hy
      · rw [if_neg (fun e => e1 e.symm)] at hv
        by_cases e2 : j = a
        · subst e2
          rw [if_pos rfl, if_pos (by omega)] at hu
          injection hu with hu
          subst hu
          exact h (j + 1) b x v (by omega) hb e1 hx hv
        · rw [if_neg e2] at hu
          by_cases e3 : j + 1 = a
          · subst e3
            rw [if_pos rfl, if_pos (by omega)] at hu
            injection hu with hu
            subst hu
            exact h j b y v (by omega) hb e1 hy hv
          · rw [if_neg e3] at hu
            exact h a b u v hab hb e1 hu hv
theorem insK_srt (ho : SWO' lt) (L : List α) : ∀ k, k < L.length → SrtTo lt (k + 1) (insK lt L k)
  | 0, _ => fun a b x y hab hb => by omega
  | k + 1, hk => by
    refine down_srt ho (k + 1) _ (Nat.le_refl _) (by rw [insK_len]; exact hk) fun a b x y hab hb hne hx hy => ?_
    exact insK_srt ho L k (by omega) a b x y hab (by omega) hx hy
end
/-- The duels of a profile as they are found, and in order. -/
def duLt (F : Pf) (p q : Nat × Nat) : Bool := decide (prs F q.1 q.2 < prs F p.1 p.2) || decide (prs F p.1 p.2 = prs F q.1 q.2) && decide (prs F p.2 p.1 < prs F q.2 q.1)
theorem duLt_iff {F : Pf} {p q : Nat × Nat} : duLt F p q = true ↔ prs F q.1 q.2 < prs F p.1 p.2 ∨ prs F p.1 p.2 = prs F q.1 q.2 ∧ prs F p.2 p.1 < prs F q.2 q.1 := by
  unfold duLt
  rw [Bool.or_eq_true, Bool.and_eq_true, decide_eq_true_eq, decide_eq_true_eq, decide_eq_true_eq]
theorem duLt_swo (F : Pf) : SWO' (duLt F) where
  asy x y h := by
    rw [duLt_iff] at h
    rw [Bool.eq_false_iff, ne_eq, duLt_iff]
    omega
  neg x y z h1 h2 := by
    rw [Bool.eq_false_iff, ne_eq, duLt_iff] at *
    omega
def rawIn (F : Pf) (i k : Nat) : List (Nat × Nat) := ((List.range k).filter (fun k => decide (prs F k i < prs F i k))).map (fun k => (i, k))
def rawTo (F : Pf) (i : Nat) : List (Nat × Nat) := (List.range i).flatMap (fun i => rawIn F i F.n)
theorem rawIn_snoc {F : Pf} {i k : Nat} : rawIn F i (k + 1) = if prs F k i < prs F i k then rawIn F i k ++ [(i, k)] else rawIn F i k := by
  unfold rawIn
  rw [List.range_succ, List.filter_append, List.map_append]
  by_cases h : prs F k i < prs F i k <;> simp [h]
theorem rawTo_snoc {F : Pf} {i : Nat} : rawTo F (i + 1) = rawTo F i ++ rawIn F i F.n := by
  unfold rawTo
  rw [List.range_succ, List.flatMap_append]
  simp
theorem raw_mem {F : Pf} {p : Nat × Nat} : p ∈ rawTo F F.n ↔ p.1 < F.n ∧ p.2 < F.n ∧ beats F p.1 p.2 := by
  unfold rawTo rawIn beats
  simp only [List.mem_flatMap, List.mem_range, List.mem_map, List.mem_filter, decide_eq_true_eq]
  constructor
  · rintro ⟨i, hi, k, ⟨hk, hb⟩, rfl⟩; exact ⟨hi, hk, hb⟩
  · rintro ⟨h1, h2, h3⟩; exact ⟨p.1, h1, p.2, ⟨h2, h3⟩, rfl⟩
theorem rawIn_one {F : Pf} {i k : Nat} {p : Nat × Nat} (h : p ∈ rawIn F i k) : p.1 = i := by
  unfold rawIn at h
  obtain ⟨a, _, rfl⟩ := List.mem_map.1 h
  rfl
theorem raw_nodup (F : Pf) : ∀ i, (rawTo F i).Nodup ∧ ∀ p ∈ rawTo F i, p.1 < i
  | 0 => ⟨List.nodup_nil, fun p hp => by cases hp⟩
  | i + 1 => by
    obtain ⟨h1, h2⟩ := raw_nodup F i
    rw [rawTo_snoc]
    refine ⟨?_, fun p hp => ?_⟩
    · rw [List.nodup_append]
      refine ⟨h1, ?_, fun p hp q hq e => ?_⟩
      · unfold rawIn
        refine List.pairwise_map.2 ((List.nodup_range.filter _).imp (fun {a b} h e => h ?_))
        injection e
      · have := h2 p hp
        have := rawIn_one hq
        rw [e] at *
        omega
    · rcases List.mem_append.1 hp with hp | hp
      · have := h2 p hp; omega
      · have := rawIn_one hp; omega
def duels (F : Pf) : List (Nat × Nat) := insK (duLt F) (rawTo F F.n) ((rawTo F F.n).length - 1)
theorem duels_dul (F : Pf) : DuL F (duels F) := by
  have hp : (duels F).Perm (rawTo F F.n) := insK_perm _ _
  exact ⟨fun p => by rw [hp.mem_iff, raw_mem], hp.nodup_iff.2 (raw_nodup F F.n).1⟩
theorem duels_srt (F : Pf) : ∀ (k : Nat) (p q : Nat × Nat), (duels F)[k]? = some p → (duels F)[k + 1]? = some q → duLt F q p = false := fun k p q hp hq => by
  have hl : (duels F).length = (rawTo F F.n).length := insK_len _ _ _
  have hk := (List.getElem?_eq_some_iff.1 hq).1
  exact insK_srt (duLt_swo F) (rawTo F F.n) ((rawTo F F.n).length - 1) (by omega) k (k + 1) p q (by omega) (by omega) hp hq
end Go.Proofs.Ytlbnebmdolnagaa

namespace Go.Proofs.Ytlbnebmdolnagaa
open Go.RowKit Go.Lib

def cmpZ : List Int → List Int → Int
  | [], [] => 0
  | [], _ :: _ => -1
  | _ :: _, [] => 1
  | a :: p, b :: q => if a < b then -1 else if b < a then 1 else cmpZ p q
theorem cmpZ_drop {p q : List Int} {k : Nat} {x y : Int} (hp : p[k]? = some x) (hq : q[k]? = some y) : cmpZ (p.drop k) (q.drop k) = if x < y then -1 else if y < x then 1 else cmpZ (p.drop (k + 1)) (q.drop (k + 1)) := by
  obtain ⟨h1, e1⟩ := List.getElem?_eq_some_iff.1 hp
  obtain ⟨h2, e2⟩ := List.getElem?_eq_some_iff.1 hq
  rw [List.drop_eq_getElem_cons h1, List.drop_eq_getElem_cons h2, e1, e2, cmpZ]
set_option maxRecDepth 100000 in
set_option maxHeartbeats 4000000 in
theorem cmpZ_any (p q : List Int) (v1 v2 : Value) (w : World) (h1 : Ints w w.heap.size v1 p) (h2 : Ints w w.heap.size v2 q) : Calls Try.prog 109 #[v1, v2] w (RetQ (.int .i64 (cmpZ p q)) w) := by
  obtain ⟨A1, c1, rfl, _, m1⟩ := h1.sl
  obtain ⟨A2, c2, rfl, _, m2⟩ := h2.sl
  unfold maxLen at m1 m2
  have hp : p.length ≤ 9223372036854775807 := by
    obtain ⟨_, _, e, g1, g2, _⟩ := h1
    unfold maxLen at g2
    injection e with _ _ e3
    omega
  have hq : q.length ≤ 9223372036854775807 := by
    obtain ⟨_, _, e, g1, g2, _⟩ := h2
    unfold maxLen at g2
    injection e with _ _ e3
    omega
  have H1 := Lib.hid h1
  have H2 := Lib.hid h2
  clear h1 h2
  obtain ⟨r, hr⟩ : ∃ r, cmpZ p q = r := ⟨_, rfl⟩
  rw [hr]
  have HR0 := Lib.hid hr.symm
  clear hr
  go_enter Try.func109, Try.ntmps109
  go_wp2
  go_loopw [4, 5, 6, 7, 8, 11] (fun _ _ _ _ _ i wr => ∃ (k d : Nat), k ≤ p.length ∧ k ≤ q.length ∧ i = .int .i64 (k : Int) ∧ r = cmpZ (p.drop k) (q.drop k) ∧ wr = w.drewN d) (fun _ _ _ _ _ i _ => p.length - (RowKit.intOf i).toNat)
  case atStart => exact ⟨0, 0, Nat.zero_le _, Nat.zero_le _, rfl, HR0.out, rfl⟩
  case round =>
    obtain ⟨k, d, hk, hk2, rfl, heq, rfl⟩ := hrel
    by_cases hlt : k < p.length
    · have hpk : p[k]? = some p[k] := List.getElem?_eq_getElem hlt
      obtain ⟨b, o, rfl, hb, e0⟩ := ints_get H1.out hpk
      by_cases hl2 : k < q.length
      · have hqk : q[k]? = some q[k] := List.getElem?_eq_getElem hl2
        obtain ⟨b2, o2, rfl, hb2, e1⟩ := ints_get H2.out hqk
        have hge : ¬ ((q.length : Int) ≤ (k : Int)) := by omega
        have hged : decide ((q.length : Int) ≤ (k : Int)) = false := decide_eq_false hge
        rw [cmpZ_drop hpk hqk] at heq
        clear hpk hqk
        generalize p[k] = a at *
        generalize q[k] = b' at *
        have HC := Lib.hid (fun W : World => cmp1q_any a b' W)
        by_cases h1 : a < b'
        · rw [if_pos h1] at heq
          rw [if_pos h1] at HC
          subst heq
          go_wp2_with (fail)
          refine (HC.out _).mono ?_
          rintro e _ ⟨rfl, d2, rfl⟩
          go_wp2
          go_ret
          exact ⟨rfl, d + d2, by simp⟩
        · rw [if_neg h1] at heq
          rw [if_neg h1] at HC
          by_cases h3 : b' < a
          · rw [if_pos h3] at heq
            rw [if_pos h3] at HC
            subst heq
            go_wp2_with (fail)
            refine (HC.out _).mono ?_
            rintro e _ ⟨rfl, d2, rfl⟩
            go_wp2
            go_ret
            exact ⟨rfl, d + d2, by simp⟩
          · rw [if_neg h3] at heq
            rw [if_neg h3] at HC
            have HEQ := Lib.hid heq
            clear heq
            go_wp2_with (fail)
            refine (HC.out _).mono ?_
            rintro e _ ⟨rfl, d2, rfl⟩
            go_wp2
            go_roundw
            case rel => exact ⟨k + 1, d + d2, by omega, by omega, by go_num, HEQ.out, by simp⟩
            case measure => simp [RowKit.intOf]; omega
      · have hge : (q.length : Int) ≤ (k : Int) := by omega
        have hged : decide ((q.length : Int) ≤ (k : Int)) = true := decide_eq_true hge
        have hR : r = 1 := by rw [heq, List.drop_eq_nil_of_le (by omega : q.length ≤ k), List.drop_eq_getElem_cons hlt, cmpZ]
        clear heq
        subst hR
        clear hpk
        generalize p[k] = a at *
        go_wp2
        go_ret
        exact ⟨rfl, d, rfl⟩
    · have hge : ¬ ((k : Int) < (p.length : Int)) := by omega
      by_cases hl2 : k < q.length
      · have hlt2 : (p.length : Int) < (q.length : Int) := by omega
        have hltd : decide ((p.length : Int) < (q.length : Int)) = true := decide_eq_true hlt2
        have hR : r = -1 := by rw [heq, List.drop_eq_nil_of_le (by omega : p.length ≤ k), List.drop_eq_getElem_cons hl2, cmpZ]
        clear heq
        subst hR
        go_wp2
        go_ret
        exact ⟨rfl, d, rfl⟩
      · have hlt2 : ¬ ((p.length : Int) < (q.length : Int)) := by omega
        have hltd : decide ((p.length : Int) < (q.length : Int)) = false := decide_eq_false hlt2
        have hR : r = 0 := by rw [heq, List.drop_eq_nil_of_le (by omega : p.length ≤ k), List.drop_eq_nil_of_le (by omega : q.length ≤ k), cmpZ]
        clear heq
        subst hR
        go_wp2
        go_ret
        exact ⟨rfl, d, rfl⟩
def duC (F : Pf) (p : Nat × Nat) : List Value := [.int .i64 (p.1 : Int), .int .i64 (p.2 : Int), .int .i64 (prs F p.1 p.2 : Int), .int .i64 (prs F p.2 p.1 : Int)]
theorem duC_len (F : Pf) (p : Nat × Nat) : (duC F p).length = 4 := rfl
def dCmp (F : Pf) (p q : Nat × Nat) : Int := cmpZ [-(prs F p.1 p.2 : Int), (prs F p.2 p.1 : Int)] [-(prs F q.1 q.2 : Int), (prs F q.2 q.1 : Int)]
theorem dCmp_lt (F : Pf) (p q : Nat × Nat) : decide (dCmp F p q < 0) = duLt F p q := by
  rw [Bool.eq_iff_iff, decide_eq_true_eq, duLt_iff]
  unfold dCmp
  simp only [cmpZ]
  generalize prs F p.1 p.2 = a
  generalize prs F p.2 p.1 = b
  generalize prs F q.1 q.2 = c
  generalize prs F q.2 q.1 = d
  by_cases h1 : -(a : Int) < -(c : Int)
  · rw [if_pos h1]; omega
  · rw [if_neg h1]
    by_cases h2 : -(c : Int) < -(a : Int)
    · rw [if_pos h2]; omega
    · rw [if_neg h2]
      by_cases h3 : (b : Int) < (d : Int)
      · rw [if_pos h3]; omega
      · rw [if_neg h3]
        by_cases h4 : (d : Int) < (b : Int)
        · rw [if_pos h4]; omega
        · rw [if_neg h4]; omega
theorem pair_ints (x y : Int) (w : World) : Ints (w.alloc (.cells #[.int .i64 x, .int .i64 y] 2)) (w.heap.size + 1) (.slice (some ⟨w.heap.size, 0, none⟩) 2 2) [x, y] := by
  have h := SlR.of_row (xs := [x, y]) intCells (size := 1) (fun _ => rfl) (Row.new w #[.int .i64 x, .int .i64 y] 2) (by simp) (c := 2) (Nat.le_refl _) (by unfold maxLen; decide)
  have e : (w.alloc (.cells #[.int .i64 x, .int .i64 y] 2)).heap.size = w.heap.size + 1 := by simp
  rw [e] at h
  exact h
set_option maxRecDepth 100000 in
set_option maxHeartbeats 4000000 in
theorem du1_any (a b f g a' b' f' g' : Nat) (hf : f ≤ 12000) (hf' : f' ≤ 12000) (w : World) :
    Calls Try.prog 108 #[.agg #[.int .i64 (a : Int), .int .i64 (b : Int), .int .i64 (f : Int), .int .i64 (g : Int)], .agg #[.int .i64 (a' : Int), .int .i64 (b' : Int), .int .i64 (f' : Int), .int .i64 (g' : Int)]] w
      (RetB (.int .i64 (cmpZ [-(f : Int), (g : Int)] [-(f' : Int), (g' : Int)])) w) := by
  have hn : IntKind.i64.wrap (-(f : Int)) = -(f : Int) := by rw [IntKind.wrap_i64]; omega
  have hn' : IntKind.i64.wrap (-(f' : Int)) = -(f' : Int) := by rw [IntKind.wrap_i64]; omega
  go_enter Try.func108, Try.ntmps108
  go_wp2_with (fail)
  obtain ⟨w2, hw2⟩ : ∃ X, X = (w.alloc (.cells #[.int .i64 (a : Int), .int .i64 (b : Int), .int .i64 (f : Int), .int .i64 (g : Int)] 43)).alloc (.cells #[.int .i64 (a' : Int), .int .i64 (b' : Int), .int .i64 (f' : Int), .int .i64 (g' : Int)] 43) := ⟨_, rfl⟩
  have hs2 : w2.heap.size = w.heap.size + 1 + 1 := by rw [hw2]; simp
  have hb2 : Below w.heap.size w w2 := by rw [hw2]; exact ((Below.refl _ _).alloc (Nat.le_refl _) _).alloc (by simp) _
  have h1 := pair_ints (-(f : Int)) (g : Int) w2
  have hs3 : (w2.alloc (.cells #[.int .i64 (-(f : Int)), .int .i64 (g : Int)] 2)).heap.size = w.heap.size + 1 + 1 + 1 := by simp [hs2]
  have h2 := pair_ints (-(f' : Int)) (g' : Int) (w2.alloc (.cells #[.int .i64 (-(f : Int)), .int .i64 (g : Int)] 2))
  have hb4 : Below (w2.heap.size + 1) (w2.alloc (.cells #[.int .i64 (-(f : Int)), .int .i64 (g : Int)] 2)) ((w2.alloc (.cells #[.int .i64 (-(f : Int)), .int .i64 (g : Int)] 2)).alloc (.cells #[.int .i64 (-(f' : Int)), .int .i64 (g' : Int)] 2)) := (Below.refl _ _).alloc (by simp) _
  have h1' : Ints ((w2.alloc (.cells #[.int .i64 (-(f : Int)), .int .i64 (g : Int)] 2)).alloc (.cells #[.int .i64 (-(f' : Int)), .int .i64 (g' : Int)] 2)) ((w2.alloc (.cells #[.int .i64 (-(f : Int)), .int .i64 (g : Int)] 2)).alloc (.cells #[.int .i64 (-(f' : Int)), .int .i64 (g' : Int)] 2)).heap.size (.slice (some ⟨w2.heap.size, 0, none⟩) 2 2) [-(f : Int), (g : Int)] := SlR.on h1 (Pl.stays _) hb4 (by simp)
  have h2' : Ints ((w2.alloc (.cells #[.int .i64 (-(f : Int)), .int .i64 (g : Int)] 2)).alloc (.cells #[.int .i64 (-(f' : Int)), .int .i64 (g' : Int)] 2)) ((w2.alloc (.cells #[.int .i64 (-(f : Int)), .int .i64 (g : Int)] 2)).alloc (.cells #[.int .i64 (-(f' : Int)), .int .i64 (g' : Int)] 2)).heap.size (.slice (some ⟨(w2.alloc (.cells #[.int .i64 (-(f : Int)), .int .i64 (g : Int)] 2)).heap.size, 0, none⟩) 2 2) [-(f' : Int), (g' : Int)] := by
    have e : (w2.alloc (.cells #[.int .i64 (-(f : Int)), .int .i64 (g : Int)] 2)).heap.size + 1 = ((w2.alloc (.cells #[.int .i64 (-(f : Int)), .int .i64 (g : Int)] 2)).alloc (.cells #[.int .i64 (-(f' : Int)), .int .i64 (g' : Int)] 2)).heap.size := by simp
    rw [e] at h2
    exact h2
  have HBE : Hid (Below w.heap.size w ((w2.alloc (.cells #[.int .i64 (-(f : Int)), .int .i64 (g : Int)] 2)).alloc (.cells #[.int .i64 (-(f' : Int)), .int .i64 (g' : Int)] 2))) := Lib.hid ((hb2.alloc (by omega) _).alloc (by simp; omega) _)
  have hcc := cmpZ_any _ _ _ _ _ h1' h2'
  rw [hs3, hs2] at hcc
  have HCC := Lib.hid hcc
  rw [← hw2]
  generalize (w2.alloc (.cells #[.int .i64 (-(f : Int)), .int .i64 (g : Int)] 2)).alloc (.cells #[.int .i64 (-(f' : Int)), .int .i64 (g' : Int)] 2) = w4 at *
  clear h1 h2 h1' h2' hcc hb4 hb2 hw2 hs2 hs3
  generalize cmpZ [-(f : Int), (g : Int)] [-(f' : Int), (g' : Int)] = r at *
  refine HCC.out.mono ?_
  rintro e _ ⟨rfl, d, rfl⟩
  go_wp2
  go_ret
  exact ⟨rfl, below_drewN HBE.out d⟩
theorem enters_du : ∀ args w, (callFunc 108 args).run Try.prog w = .ok (.enter 108 args) w := enters_of Try.func108 (by kernel_rfl) rfl
def duV (F : Pf) (p : Nat × Nat) : Value := .agg #[.int .i64 (p.1 : Int), .int .i64 (p.2 : Int), .int .i64 (prs F p.1 p.2 : Int), .int .i64 (prs F p.2 p.1 : Int)]
theorem du_any (F : Pf) (hF : F.Ok) (p q : Nat × Nat) (w : World) : Calls Try.prog 108 #[duV F p, duV F q] w (RetB (.int .i64 (dCmp F p q)) w) :=
  du1_any _ _ _ _ _ _ _ _ (prs_le hF _ _) (prs_le hF _ _) w
/-- A row of duels. -/
theorem duels_len (F : Pf) (L : List (Nat × Nat)) : (L.flatMap (duC F)).length = L.length * 4 := by
  induction L with
  | nil => rfl
  | cons p L ih => rw [List.flatMap_cons, List.length_append, ih, duC_len, List.length_cons]; omega
theorem duels_at (F : Pf) {L : List (Nat × Nat)} {j : Nat} {p : Nat × Nat} (h : L[j]? = some p) {i : Nat} (hi : i < 4) : (L.flatMap (duC F))[j * 4 + i]? = (duC F p)[i]? := by
  obtain ⟨u, hu⟩ : ∃ u, (duC F p)[i]? = some u := ⟨_, List.getElem?_eq_getElem (by rw [duC_len]; exact hi)⟩
  rw [hu]
  exact flat_at (duC F) (fun _ => rfl) L j p i u h hu hi
theorem row_du {F : Pf} {w : World} {g : Nat} {L : List (Nat × Nat)} (h : Row w g (L.flatMap (duC F))) {j : Nat} {p : Nat × Nat} (hp : L[j]? = some p) :
    w.cell? ⟨g, j * 4, none⟩ = some (.int .i64 (p.1 : Int)) ∧ w.cell? ⟨g, j * 4 + 1, none⟩ = some (.int .i64 (p.2 : Int)) ∧ w.cell? ⟨g, j * 4 + 2, none⟩ = some (.int .i64 (prs F p.1 p.2 : Int)) ∧ w.cell? ⟨g, j * 4 + 3, none⟩ = some (.int .i64 (prs F p.2 p.1 : Int)) :=
  ⟨h.cell _ _ (by have := duels_at F hp (i := 0) (by omega); rw [Nat.add_zero] at this; exact this), h.cell _ _ (duels_at F hp (i := 1) (by omega)), h.cell _ _ (duels_at F hp (i := 2) (by omega)), h.cell _ _ (duels_at F hp (i := 3) (by omega))⟩
/-- A duel is stored in place. -/
def setDu (F : Pf) (w : World) (g j : Nat) (p : Nat × Nat) : World := (((w.setCell ⟨g, j * 4, none⟩ (.int .i64 (p.1 : Int))).setCell ⟨g, j * 4 + 1, none⟩ (.int .i64 (p.2 : Int))).setCell ⟨g, j * 4 + 2, none⟩ (.int .i64 (prs F p.1 p.2 : Int))).setCell ⟨g, j * 4 + 3, none⟩ (.int .i64 (prs F p.2 p.1 : Int))
theorem set_flat (F : Pf) : ∀ (L : List (Nat × Nat)) (j : Nat) (p : Nat × Nat), j < L.length → ((((L.flatMap (duC F)).set (j * 4) (.int .i64 (p.1 : Int))).set (j * 4 + 1) (.int .i64 (p.2 : Int))).set (j * 4 + 2) (.int .i64 (prs F p.1 p.2 : Int))).set (j * 4 + 3) (.int .i64 (prs F p.2 p.1 : Int)) = (L.set j p).flatMap (duC F)
  | [], _, _, h => by simp at h
  | q :: L, 0, p, _ => by simp [duC]
  | q :: L, j + 1, p, h => by
    have ih := set_flat F L j p (by simpa using h)
    rw [List.set_cons_succ, List.flatMap_cons, List.flatMap_cons, ← ih]
    rw [show (j + 1) * 4 = (j * 4) + 1 + 1 + 1 + 1 by omega]
    simp [duC]
theorem row_setDu {F : Pf} {w : World} {g : Nat} {L : List (Nat × Nat)} (h : Row w g (L.flatMap (duC F))) {j : Nat} (p : Nat × Nat) (hj : j < L.length) : Row (setDu F w g j p) g ((L.set j p).flatMap (duC F)) := by
  have hl := duels_len F L
  rw [← set_flat F L j p hj]
  exact (((h.set (j * 4) _ (by omega)).set (j * 4 + 1) _ (by rw [List.length_set]; omega)).set (j * 4 + 2) _ (by rw [List.length_set, List.length_set]; omega)).set (j * 4 + 3) _ (by rw [List.length_set, List.length_set, List.length_set]; omega)
theorem setDu_touch (F : Pf) (w : World) (g j : Nat) (p : Nat × Nat) : Touch (fun c => c = g) w (setDu F w g j p) := by
  unfold setDu
  iterate 4 refine Touch.setCell (F := fun b => b = g) ?_ rfl _
  exact Touch.refl _ _
end Go.Proofs.Ytlbnebmdolnagaa
