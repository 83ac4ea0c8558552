/- Rows of numbers sorted, walked. The sets of masks in order; the preferred sets, walked. The defence of an argument, walked. -/
import Derived.Test.YteljpodjjeoddaaKD
import Derived.Test.YteljpodjjeoddaaShelfV
namespace Go.Proofs.Yteljpodjjeoddaa
open Go.RowKit Go.Lib

set_option maxHeartbeats 1000000 in
theorem cmp1q_any (a b : Int) (w : World) : Calls Try.prog 46 #[.int .i64 a, .int .i64 b] w (RetQ (.int .i64 (if a < b then -1 else if b < a then 1 else 0)) w) := by
  obtain ⟨r, hr⟩ : ∃ r : Int, r = if a < b then -1 else if b < a then 1 else 0 := ⟨_, rfl⟩
  rw [← hr]
  have HRR := Lib.hid hr
  clear hr
  go_enter Try.func46, Try.ntmps46
  go_wp2_with (fail)
  refine (nan64_any a w).mono ?_
  rintro e _ ⟨rfl, m, rfl⟩
  go_wp2_with (fail)
  refine (nan64_any b _).mono ?_
  rintro e _ ⟨rfl, m2, rfl⟩
  by_cases h1 : a < b
  · have h1d : decide (a < b) = true := decide_eq_true h1
    have hr := HRR.out
    rw [if_pos h1] at hr
    subst hr
    clear HRR
    go_wp2
    go_ret
    exact ⟨rfl, m + m2, by simp⟩
  · have h1d : decide (a < b) = false := decide_eq_false h1
    by_cases h2 : b < a
    · have h2d : decide (b < a) = true := decide_eq_true h2
      have hr := HRR.out
      rw [if_neg h1, if_pos h2] at hr
      subst hr
      clear HRR
      go_wp2
      go_ret
      exact ⟨rfl, m + m2, by simp⟩
    · have h2d : decide (b < a) = false := decide_eq_false h2
      have hr := HRR.out
      rw [if_neg h1, if_neg h2] at hr
      subst hr
      clear HRR
      go_wp2
      go_ret
      exact ⟨rfl, m + m2, by simp⟩
set_option maxRecDepth 100000 in
set_option maxHeartbeats 4000000 in
theorem cmp64q_any (p q : List Nat) (v1 v2 : Value) (w : World) (h1 : Ints w w.heap.size v1 (barL p)) (h2 : Ints w w.heap.size v2 (barL q)) : Calls Try.prog 31 #[v1, v2] w (RetQ (.int .i64 (cmpN p q)) w) := by
  obtain ⟨A1, c1, rfl, _, m1⟩ := h1.sl
  obtain ⟨A2, c2, rfl, _, m2⟩ := h2.sl
  unfold maxLen at m1 m2
  have hp : p.length ≤ 9223372036854775807 := by
    obtain ⟨_, _, e, g1, g2, _⟩ := h1
    unfold maxLen at g2
    rw [barL_len] at g1
    injection e with _ _ e3
    omega
  have hq : q.length ≤ 9223372036854775807 := by
    obtain ⟨_, _, e, g1, g2, _⟩ := h2
    unfold maxLen at g2
    rw [barL_len] at g1
    injection e with _ _ e3
    omega
  rw [barL_len] at h1 h2 ⊢
  rw [barL_len]
  have H1 := Lib.hid h1
  have H2 := Lib.hid h2
  clear h1 h2
  obtain ⟨r, hr⟩ : ∃ r, cmpN p q = r := ⟨_, rfl⟩
  rw [hr]
  have HR0 := Lib.hid hr.symm
  clear hr
  go_enter Try.func31, Try.ntmps31
  go_wp2
  go_loopw [4, 5, 6, 7, 8, 11] (fun _ _ _ _ _ i wr => ∃ (k d : Nat), k ≤ p.length ∧ k ≤ q.length ∧ i = .int .i64 (k : Int) ∧ r = cmpN (p.drop k) (q.drop k) ∧ wr = w.drewN d) (fun _ _ _ _ _ i _ => p.length - (RowKit.intOf i).toNat)
  case atStart => exact ⟨0, 0, Nat.zero_le _, Nat.zero_le _, rfl, HR0.out, rfl⟩
  case round =>
    obtain ⟨k, d, hk, hk2, rfl, heq, rfl⟩ := hrel
    by_cases hlt : k < p.length
    · have hpk : p[k]? = some p[k] := List.getElem?_eq_getElem hlt
      obtain ⟨b, o, rfl, hb, e0⟩ := ints_get H1.out (barL_get hpk)
      by_cases hl2 : k < q.length
      · have hqk : q[k]? = some q[k] := List.getElem?_eq_getElem hl2
        obtain ⟨b2, o2, rfl, hb2, e1⟩ := ints_get H2.out (barL_get hqk)
        have hge : ¬ ((q.length : Int) ≤ (k : Int)) := by omega
        have hged : decide ((q.length : Int) ≤ (k : Int)) = false := decide_eq_false hge
        rw [cmpN_drop hpk hqk] at heq
        clear hpk hqk
        generalize p[k] = a at *
        generalize q[k] = b' at *
        have HC := Lib.hid (fun W : World => cmp1q_any (a : Int) (b' : Int) W)
        by_cases h1 : a < b'
        · rw [if_pos h1] at heq
          rw [if_pos (by omega : (a : Int) < (b' : Int))] at HC
          subst heq
          go_wp2_with (fail)
          refine (HC.out _).mono ?_
          rintro e _ ⟨rfl, d2, rfl⟩
          go_wp2
          go_ret
          exact ⟨rfl, d + d2, by simp⟩
        · rw [if_neg h1] at heq
          rw [if_neg (by omega : ¬ (a : Int) < (b' : Int))] at HC
          by_cases h3 : b' < a
          · rw [if_pos h3] at heq
            rw [if_pos (by omega : (b' : Int) < (a : Int))] at HC
            subst heq
            go_wp2_with (fail)
            refine (HC.out _).mono ?_
            rintro e _ ⟨rfl, d2, rfl⟩
            go_wp2
            go_ret
            exact ⟨rfl, d + d2, by simp⟩
          · rw [if_neg h3] at heq
            rw [if_neg (by omega : ¬ (b' : Int) < (a : Int))] at HC
            have HEQ := Lib.hid heq
            clear heq
            go_wp2_with (fail)
            refine (HC.out _).mono ?_
            rintro e _ ⟨rfl, d2, rfl⟩
            go_wp2
            go_roundw
            case rel => exact ⟨k + 1, d + d2, by omega, by omega, by go_num, HEQ.out, by simp⟩
            case measure => simp [RowKit.intOf]; omega
      · have hge : (q.length : Int) ≤ (k : Int) := by omega
        have hged : decide ((q.length : Int) ≤ (k : Int)) = true := decide_eq_true hge
        have hR : r = 1 := by rw [heq, List.drop_eq_nil_of_le (by omega : q.length ≤ k), List.drop_eq_getElem_cons hlt, cmpN]
        clear heq
        subst hR
        clear hpk
        generalize p[k] = a at *
        go_wp2
        go_ret
        exact ⟨rfl, d, rfl⟩
    · have hge : ¬ ((k : Int) < (p.length : Int)) := by omega
      by_cases hl2 : k < q.length
      · have hlt2 : (p.length : Int) < (q.length : Int) := by omega
        have hltd : decide ((p.length : Int) < (q.length : Int)) = true := decide_eq_true hlt2
        have hR : r = -1 := by rw [heq, List.drop_eq_nil_of_le (by omega : p.length ≤ k), List.drop_eq_getElem_cons hl2, cmpN]
        clear heq
        subst hR
        go_wp2
        go_ret
        exact ⟨rfl, d, rfl⟩
      · have hlt2 : ¬ ((p.length : Int) < (q.length : Int)) := by omega
        have hltd : decide ((p.length : Int) < (q.length : Int)) = false := decide_eq_false hlt2
        have hR : r = 0 := by rw [heq, List.drop_eq_nil_of_le (by omega : p.length ≤ k), List.drop_eq_nil_of_le (by omega : q.length ≤ k), cmpN]
        clear heq
        subst hR
        go_wp2
        go_ret
        exact ⟨rfl, d, rfl⟩
set_option maxHeartbeats 1000000 in
theorem srt1_any (p q : List Nat) (v1 v2 : Value) (w : World) (h1 : Ints w w.heap.size v1 (barL p)) (h2 : Ints w w.heap.size v2 (barL q)) : Calls Try.prog 34 #[v1, v2] w (RetQ (.int .i64 (cmpN p q)) w) := by
  have H := Lib.hid (cmp64q_any p q v1 v2 w h1 h2)
  obtain ⟨A1, c1, rfl, _, m1⟩ := h1.sl
  obtain ⟨A2, c2, rfl, _, m2⟩ := h2.sl
  clear h1 h2
  generalize cmpN p q = r at *
  go_enter Try.func34, Try.ntmps34
  go_wp2_with (fail)
  refine H.out.mono ?_
  rintro e _ ⟨rfl, d, rfl⟩
  go_wp2
  go_ret
  exact ⟨rfl, d, rfl⟩

theorem cmpN_irr : ∀ p : List Nat, cmpN p p = 0
  | [] => rfl
  | a :: p => by unfold cmpN; rw [if_neg (by omega), if_neg (by omega)]; exact cmpN_irr p
theorem cmpN_trans : ∀ p q r : List Nat, cmpN p q < 0 → cmpN q r < 0 → cmpN p r < 0
  | [], [], _, h, _ => by unfold cmpN at h; omega
  | [], _ :: _, [], _, h => by unfold cmpN at h; omega
  | [], _ :: _, _ :: _, _, _ => by unfold cmpN; omega
  | _ :: _, [], _, h, _ => by unfold cmpN at h; omega
  | _ :: _, _ :: _, [], _, h => by unfold cmpN at h; omega
  | a :: p, b :: q, c :: r, h1, h2 => by
    have ih := cmpN_trans p q r
    unfold cmpN at h1 h2 ⊢
    by_cases e1 : a < b
    · by_cases e2 : b < c
      · rw [if_pos (by omega)]; omega
      · rw [if_neg e2] at h2
        by_cases e3 : c < b
        · rw [if_pos e3] at h2; omega
        · rw [if_pos (by omega)]; omega
    · rw [if_neg e1] at h1
      by_cases e2 : b < a
      · rw [if_pos e2] at h1; omega
      · rw [if_neg e2] at h1
        by_cases e3 : b < c
        · rw [if_pos (by omega)]; omega
        · rw [if_neg e3] at h2
          by_cases e4 : c < b
          · rw [if_pos e4] at h2; omega
          · rw [if_neg e4] at h2
            rw [if_neg (by omega), if_neg (by omega)]
            exact ih h1 h2
theorem cmpN_ntrans : ∀ p q r : List Nat, ¬ cmpN p q < 0 → ¬ cmpN q r < 0 → ¬ cmpN p r < 0
  | [], [], _, _, h => h
  | [], _ :: _, _, h, _ => by unfold cmpN at h; omega
  | _ :: _, _, [], _, _ => by unfold cmpN; omega
  | _ :: _, [], _ :: _, _, h => by unfold cmpN at h; omega
  | a :: p, b :: q, c :: r, h1, h2 => by
    have ih := cmpN_ntrans p q r
    unfold cmpN at h1 h2 ⊢
    by_cases e1 : a < b
    · rw [if_pos e1] at h1; omega
    · rw [if_neg e1] at h1
      by_cases e3 : b < c
      · rw [if_pos e3] at h2; omega
      · rw [if_neg e3] at h2
        rw [if_neg (by omega)]
        by_cases e2 : b < a
        · rw [if_pos (by omega)]; omega
        · rw [if_neg e2] at h1
          by_cases e4 : c < b
          · rw [if_pos (by omega)]; omega
          · rw [if_neg e4] at h2
            rw [if_neg (by omega)]
            exact ih h1 h2
def cfT (qs : List (List Nat)) (i k : Nat) : Int := cmpN (qs.getD i []) (qs.getD k [])
theorem cfT_swo (qs : List (List Nat)) : Go.Sort.SWO (Go.Proofs.ltOf (cfT qs)) where
  irrefl x := by unfold ltOf cfT; rw [cmpN_irr]; rfl
  trans x y z h1 h2 := by
    unfold ltOf cfT at *
    rw [decide_eq_true_eq] at *
    exact cmpN_trans _ _ _ h1 h2
  ntrans x y z h1 h2 := by
    unfold ltOf cfT at *
    rw [decide_eq_false_iff_not] at *
    exact cmpN_ntrans _ _ _ h1 h2
def rowT (T : List VRow) (i : Nat) : VRow := T.getD i ⟨[], .slice none 0 0⟩
def encT (T : List VRow) (i : Nat) : Value := (rowT T i).v
theorem sort_touch {α : Type} [Inhabited α] (enc : α → Value) (w : World) (g n : Nat) (d : Array α) (os : Array Obj) : Touch (fun b => b = g) w (sortWorld enc w g 0 n d os) where
  os := rfl
  tape := rfl
  output := rfl
  size := by
    show w.heap.size ≤ ((Go.Sort.putRow enc (Go.Sort.ahead w n) g 0 d).heap ++ os).size
    rw [Array.size_append, Go.Sort.size_putRow]
    exact Nat.le_add_right _ _
  block := fun b hb hne => by
    unfold sortWorld
    rw [Go.Sort.heap_grow_old _ os (by rw [Go.Sort.size_putRow]; exact hb)]
    unfold Go.Sort.putRow Go.Sort.mapBlock
    show (w.heap.modify g _)[b]? = _
    rw [Array.getElem?_modify, if_neg (by omega)]
def SortPost (qs : List (List Nat)) (g n c : Nat) (w : World) (e : Ending) (w' : World) : Prop :=
  e = .returned (.tuple #[]) ∧ Touch (fun b => b = g) w w' ∧ ∃ qs' : List (List Nat), qs'.Perm qs ∧ RowsR w' w'.heap.size (.slice (some ⟨g, 0, none⟩) n c) (qs'.map barL)
theorem enters_srt : ∀ args w, (callFunc 34 args).run Try.prog w = .ok (.enter 34 args) w := enters_of Try.func34 (by kernel_rfl) rfl
theorem map_getD_range {α β : Type} (l : List α) (d : α) (f : α → β) : (List.range l.length).map (fun i => f (l.getD i d)) = l.map f := by
  refine List.ext_getElem? fun k => ?_
  rw [List.getElem?_map, List.getElem?_map]
  by_cases hk : k < l.length
  · rw [List.getElem?_range hk, List.getElem?_eq_getElem hk]
    simp [List.getD_eq_getElem?_getD, hk]
  · rw [List.getElem?_eq_none (by simpa using hk), List.getElem?_eq_none (by omega)]
    rfl
set_option maxHeartbeats 2000000 in
theorem sortT_any (T : List VRow) (qs : List (List Nat)) (hq : T.map (·.a) = qs.map barL) (base g c : Nat) (w : World) (hT : TreeW kRow 28 base w g c T) (hn : T.length < 4611686018427387904) :
    Calls Try.prog 33 #[.slice (some ⟨g, 0, none⟩) T.length c, .func (.func 34) #[] #[]] w (SortPost qs g T.length c w) := by
  have hlen : T.length = qs.length := by
    have := congrArg List.length hq
    rwa [List.length_map, List.length_map] at this
  have hgw := hT.lt
  have hA : ∀ i : Nat, (rowT T i).a = barL (qs.getD i []) := fun i => by
    unfold rowT
    by_cases hi : i < T.length
    · have h1 : (T.map (·.a))[i]? = (qs.map barL)[i]? := by rw [hq]
      rw [List.getElem?_map, List.getElem?_map, List.getElem?_eq_getElem hi, List.getElem?_eq_getElem (by omega : i < qs.length)] at h1
      injection h1 with h1
      have h1 : (T[i]).a = barL qs[i] := h1
      have hg : T.getD i ⟨[], .slice none 0 0⟩ = T[i] := by simp [List.getD_eq_getElem?_getD, hi]
      rw [hg, h1]
      simp [List.getD_eq_getElem?_getD, (by omega : i < qs.length)]
    · have hg : T.getD i ⟨[], .slice none 0 0⟩ = ⟨[], .slice none 0 0⟩ := by simp [List.getD_eq_getElem?_getD, List.getElem?_eq_none (by omega : T.length ≤ i)]
      have hg2 : qs.getD i [] = [] := by simp [List.getD_eq_getElem?_getD, List.getElem?_eq_none (by omega : qs.length ≤ i)]
      rw [hg, hg2]
      rfl
  have hI : ∀ (i : Nat) (W : World), Touch (fun b => b = g) w W → Ints W W.heap.size (encT T i) (barL (qs.getD i [])) := fun i W hW => by
    rw [← hA i]
    unfold encT
    by_cases hi : i < T.length
    · have hg : rowT T i = T[i] := by unfold rowT; simp [List.getD_eq_getElem?_getD, hi]
      have hm := List.getElem_mem hi
      have hin := kRow.touch (hT.inn _ hm) hW (fun b hb e => hT.out _ hm b hb e)
      rw [hg]
      exact OwnL.slR (size := 1) (fun _ => rfl) (show OwnL intCells _ base W _ from hin)
    · have hg : rowT T i = ⟨[], .slice none 0 0⟩ := by unfold rowT; simp [List.getD_eq_getElem?_getD, List.getElem?_eq_none (by omega : T.length ≤ i)]
      rw [hg]
      exact ⟨none, 0, rfl, Nat.le_refl _, by unfold maxLen; decide, fun h => absurd h (by show ¬ 0 < 0; omega)⟩
  obtain ⟨_, cc, he, hcl, hcm, hrw⟩ := OwnL.of_own (xs := T) rCells (size := 1) (fun _ => rfl) hT.row
  injection he with he1 _ he3
  subst he3
  have hone : Go.Proofs.OneCell (encT T) := fun i => by
    obtain ⟨A, c', e, _⟩ := (hI i w (Touch.refl _ _)).sl
    rw [e]
    rfl
  obtain ⟨d, hd⟩ : ∃ d : Array Nat, d = Array.range T.length := ⟨_, rfl⟩
  have hds : d.size = T.length := by rw [hd, Array.size_range]
  have hdj : ∀ j, j < T.length → d[j]! = j := fun j hj => by
    rw [hd, getElem!_pos _ _ (by rw [Array.size_range]; exact hj), Array.getElem_range]
  have hH : Go.Sort.Holds (encT T) w g 0 d := fun j hj => by
    rw [hds] at hj
    obtain ⟨g', hg', _, _, hr⟩ := hrw (fun e => by rw [e] at hj; exact absurd hj (by show ¬ j < 0; omega))
    rw [← he1] at hg'
    injection hg' with hg'
    injection hg' with hg' _ _
    subst hg'
    have hx : T[j]? = some T[j] := List.getElem?_eq_getElem hj
    have hfl : (T.flatMap rCells)[j]? = some (T[j]).v := by
      have := flat_at rCells (size := 1) (fun _ => rfl) T j T[j] 0 (T[j]).v hx rfl (by omega)
      simpa using this
    refine ⟨?_, ?_⟩
    · rw [Nat.zero_add, hdj j hj]
      have hg : encT T j = (T[j]).v := by unfold encT rowT; simp [List.getD_eq_getElem?_getD, hj]
      rw [hg]
      exact hr.cell j _ hfl
    · rw [Nat.zero_add]
      exact hr.free j (List.getElem?_eq_some_iff.1 hfl).1
  have hcmp : CmpReads Try.prog 34 #[] (encT T) (cfT qs) g 0 d.size w := fun m os dk hs x y => by
    have := srt1_any (qs.getD x []) (qs.getD y []) (encT T x) (encT T y) (sortWorld (encT T) w g 0 m dk os) (hI x _ (sort_touch _ _ _ _ _ _)) (hI y _ (sort_touch _ _ _ _ _ _))
    rw [show (#[encT T x, encT T y] ++ (#[] : Array Value)) = #[encT T x, encT T y] by simp]
    exact this
  have hcon := Any.slices_SortFunc Try.sortRows (encT T) hone (cfT qs) (cfT_swo qs) 34 #[] g 0 c d w enters_srt hcmp.lays hH hgw.2 (by rw [hds]; exact hn)
  rw [hds] at hcon
  refine Calls.mono hcon ?_
  rintro e w' ⟨rfl, d', n, os, hp, _, rfl⟩
  obtain ⟨hp1, _, hp3⟩ := hp
  have ht := sort_touch (encT T) w g n d' os
  have SWw : Go.Proofs.SW (encT T) w g 0 d' (sortWorld (encT T) w g 0 n d' os) := ⟨n, os, rfl⟩
  have R1 : Go.Proofs.Row1 (encT T) w g 0 d := ⟨hone, hH, hgw.2⟩
  refine ⟨rfl, ht, d'.toList.map (fun i => qs.getD i []), ?_, d'.toList.map (rowT T), ?_, ?_, ?_⟩
  · have hpr : d'.toList.Perm (List.range T.length) := by
      rw [← hds] at hp3
      have e1 : d'.extract 0 d.size = d' := by rw [← hp1]; exact Array.extract_size
      have e2 : d.extract 0 d.size = d := Array.extract_size
      rw [e1, e2] at hp3
      rw [hd] at hp3
      simpa using hp3
    have := hpr.map (fun i => qs.getD i [])
    rw [hlen, map_getD_range qs [] (fun q => q)] at this
    simpa using this
  · rw [List.map_map, List.map_map]
    exact List.map_congr_left (fun i _ => hA i)
  · have hl' : (d'.toList.map (rowT T)).length = T.length := by rw [List.length_map, Array.length_toList, hp1, hds]
    rw [← hl']
    refine SlR.of_row rCells (size := 1) (fun _ => rfl) ⟨fun j u hj => ?_, fun j hj => ?_⟩ (Nat.lt_of_lt_of_le hgw.2 ht.size) (by rw [hl']; exact hcl) hcm
    · have hjl : j < (d'.toList.map (rowT T)).length := by
        have := (List.getElem?_eq_some_iff.1 hj).1
        rw [flat_len rCells (k := 1) (fun _ => rfl)] at this
        omega
      have hjd : j < d'.size := by rw [List.length_map, Array.length_toList] at hjl; exact hjl
      have hx : (d'.toList.map (rowT T))[j]? = some (rowT T d'[j]!) := by
        rw [List.getElem?_map, Array.getElem?_toList, Array.getElem?_eq_getElem hjd, getElem!_pos d' j hjd]
        rfl
      have h1 := flat_at rCells (size := 1) (fun _ => rfl) _ j _ 0 (rowT T d'[j]!).v hx rfl (by omega)
      rw [Nat.mul_one, Nat.add_zero, hj] at h1
      injection h1 with h1
      subst h1
      have := SWw.c1 R1 hp1 j hjd
      rwa [Nat.zero_add] at this
    · rw [flat_len rCells (k := 1) (fun _ => rfl), Nat.mul_one] at hj
      have hjd : j < d'.size := by rw [List.length_map, Array.length_toList] at hj; exact hj
      have := SWw.f1 R1 hp1 j hjd
      rwa [Nat.zero_add] at this
  · intro x hx
    obtain ⟨i, _, rfl⟩ := List.mem_map.1 hx
    rw [hA i]
    exact hI i _ ht
end Go.Proofs.Yteljpodjjeoddaa

namespace Go.Proofs.Yteljpodjjeoddaa
open Go.RowKit Go.Lib

def SortedPost (L : List Nat) (w : World) (e : Ending) (w' : World) : Prop :=
  ∃ (qs : List (List Nat)) (g c : Nat), e = .returned (.slice (some ⟨g, 0, none⟩) qs.length c) ∧ qs.Perm (L.map setL) ∧ RowsR w' w'.heap.size (.slice (some ⟨g, 0, none⟩) qs.length c) (qs.map barL) ∧ Below w.heap.size w w'
set_option maxRecDepth 100000 in
set_option maxHeartbeats 8000000 in
theorem sorted_any (L : List Nat) (hL : ∀ k ∈ L, k < 1024) (hn : L.length ≤ 1024) (A : Option Addr) (c : Nat) (w : World) (hI : Ints w w.heap.size (.slice A L.length c) (barL L)) :
    Calls Try.prog 20 #[.slice A L.length c] w (SortedPost L w) := by
  have HI := Lib.hid (fun (W : World) (h : Below w.heap.size w W) => (SlR.on hI (Pl.stays _) h h.size : Ints W W.heap.size _ _))
  have HL := Lib.hid hL
  obtain ⟨r0, hri, hr0, hr1, hr2⟩ := info_parts Try.infoFr
  have hown0 : (w.alloc (.cells #[] 28)).ownsRow w.heap.size 28 1 (.slice (some ⟨w.heap.size, 0, none⟩) 0 0) 0 [] := by simpa using World.ownsRow_made w #[] 0 (Nat.le_refl _) (Nat.zero_le _) rfl
  have HT0 := Lib.hid (TreeW.start (base := w.heap.size) kRow 28 hown0)
  have HB0 : Hid (Below w.heap.size w (w.alloc (.cells #[] 28))) := Lib.hid ((Below.refl _ _).alloc (Nat.le_refl _) _)
  have HSO := Lib.hid (fun (m : Nat) (hm : m < 1024) (W : World) => setOf_any m hm W)
  unfold SortedPost
  unfold SetPost at HSO
  clear hI hL hown0
  go_enter Try.func20, Try.ntmps20
  go_wp2
  go_loopw [3, 5, 9] (fun o _ i wr => ∃ (k g cap : Nat) (T : List VRow), k ≤ L.length ∧ T.length = k ∧ i = .int .i64 (k : Int) ∧ o = .slice (some ⟨g, 0, none⟩) k cap ∧ T.map (·.a) = ((L.take k).map setL).map barL ∧ TreeW kRow 28 w.heap.size wr g cap T ∧ Below w.heap.size w wr) (fun _ _ i _ => L.length - (RowKit.intOf i).toNat)
  case atStart => exact ⟨0, w.heap.size, 0, [], Nat.zero_le _, rfl, rfl, rfl, rfl, HT0.out, HB0.out⟩
  case round =>
    obtain ⟨k, g, cap, T, hk, hTk, rfl, rfl, hmap, hT, hb⟩ := hrel
    have HMAP := Lib.hid hmap
    have HT := Lib.hid hT
    have HB := Lib.hid hb
    have HTK := Lib.hid hTk
    clear hmap hT
    by_cases hlt : k < L.length
    · have hget : L[k]? = some L[k] := List.getElem?_eq_getElem hlt
      obtain ⟨b, off, rfl, hbb, u0⟩ := ints_get (HI.out wr hb) (barL_get hget)
      have hm := HL.out _ (List.getElem_mem hlt)
      have HTS := Lib.hid (List.take_succ_eq_append_getElem hlt)
      have hki : (k : Int) < (L.length : Int) := by omega
      have hk0 : (0 : Int) ≤ (k : Int) := by omega
      generalize L[k] = m at *
      clear hget hTk
      go_wp2_with (fail)
      refine (HSO.out m hm wr).mono ?_
      rintro e w2 ⟨g2, c2, rfl, hn2, hb2⟩
      have hq := hn2.own
      rw [barL_len] at hq
      have hqn := hn2.ints
      have HT2 := HT.out.below hb2
      have hwr := hb.size
      have hb2s := hb2.size
      have hbA : Below w2.heap.size w2 (w2.alloc (.cells #[.slice (some ⟨g2, 0, none⟩) (setL m).length c2] 28)) := (Below.refl _ _).alloc (Nat.le_refl _) _
      have HTA := Lib.hid (HT2.below hbA)
      have HRL := Lib.hid HTA.out.row
      rw [HTK.out] at HRL
      have HOX : Hid (OwnL intCells (barL (setL m)) wr.heap.size (w2.alloc (.cells #[.slice (some ⟨g2, 0, none⟩) (setL m).length c2] 28)) (.slice (some ⟨g2, 0, none⟩) (setL m).length c2)) := Lib.hid (hq.on hbA)
      have HHLT := Lib.hid (fun z (hz : z ∈ T) c (hc : kRow.blk z c) => (kRow.lt (HT.out.inn z hz) hc).2)
      have hgw := HT.out.lt
      have hb3 : Below w.heap.size w (w2.alloc (.cells #[.slice (some ⟨g2, 0, none⟩) (setL m).length c2] 28)) := (hb.trans (hb2.mono hwr)).trans (hbA.mono (Nat.le_trans hwr hb2s))
      have HB3 := Lib.hid hb3
      have hww2 := hb3.size
      have hwr2 : w.heap.size ≤ wr.heap.size := hwr
      clear hn2 hb2 hq hqn HT2 hbA hb3 u0 hb
      go_wp2_with (at_builtin; refine wpList_append_own_at _ rfl _ _ 24 rfl w.heap.size 28 r0 (.slice none 0 0) 1 24 Try.underlying24 hri hr0 hr1 hr2 rfl (by decide) _ _ _ rfl HRL.out ⟨w2.heap.size, 0, none⟩ 1 1 (rCells ⟨barL (setL m), .slice (some ⟨g2, 0, none⟩) (setL m).length c2⟩) rfl rfl (fun j u hj => new_at hj) (fun u hu => by simp [rCells] at hu; subst hu; rfl) ?c3 ?c4 hww2 ?_)
      case c3 => unfold maxLen; omega
      case c4 => omega
      intro v' w9 hown' hgrow hiff hor
      obtain ⟨g', cap', rfl, hdc', hcm'⟩ := own_some hown' (by simpa using hiff)
      have HP9 := Lib.hid (TreeW.push (x := ⟨barL (setL m), .slice (some ⟨g2, 0, none⟩) (setL m).length c2⟩) HTA.out hgrow (by rcases hor with h | h <;> injection h with h; exact .inl h; exact .inr (by simpa using h)) (by rw [HTK.out]; exact hown') (kRow.less (x := ⟨barL (setL m), .slice (some ⟨g2, 0, none⟩) (setL m).length c2⟩) HOX.out hwr2) (fun b hb => by
        have q1 : wr.heap.size ≤ b := (OwnL.sblk HOX.out hb).1
        exact ⟨by omega, fun z hz hzb => by have q2 := HHLT.out z hz b hzb; omega⟩))
      have HB9 := Lib.hid (HB3.out.grown hgrow HB3.out.size (fun j hj => (HRL.out.lt j hj).1))
      have HM9 : Hid ((T ++ [(⟨barL (setL m), .slice (some ⟨g2, 0, none⟩) (setL m).length c2⟩ : VRow)]).map (·.a) = ((L.take (k + 1)).map setL).map barL) := Lib.hid (by
        rw [List.map_append, HMAP.out, HTS.out, List.map_append, List.map_append]
        rfl)
      clear hown' hgrow hiff hor
      go_wp2
      go_roundw
      case rel => exact ⟨k + 1, g', cap', _, by omega, by rw [List.length_append, HTK.out]; rfl, by go_num, rfl, HM9.out, HP9.out, HB9.out⟩
      case measure => simp [RowKit.intOf]; omega
    · have hge : ¬ (k : Int) < (L.length : Int) := by omega
      have hkL : k = L.length := by omega
      have HKL := Lib.hid hkL
      have hcs := sortT_any T (L.map setL) (by rw [HMAP.out, List.take_of_length_le (by omega)]) w.heap.size g cap wr HT.out (by omega)
      rw [HTK.out] at hcs
      have HCS := Lib.hid hcs
      have hgw := HT.out.lt
      unfold SortPost at HCS
      clear hcs hTk hlt hkL
      go_wp2_with (fail)
      refine HCS.out.mono ?_
      rintro e w2 ⟨rfl, ht, qs, hperm, hrows⟩
      have hlq : qs.length = k := by
        have := hperm.length_eq
        rw [List.length_map] at this
        have := HKL.out
        omega
      have HPM := Lib.hid hperm
      rw [← hlq] at hrows
      have HRW := Lib.hid hrows
      have HBE := Lib.hid (hb.trans (ht.below hb.size (fun b h => by omega)))
      have HLQ := Lib.hid hlq
      clear hperm hrows ht hlq hb
      go_wp2
      go_ret
      exact ⟨qs, g, cap, by rw [HLQ.out]; rfl, HPM.out, HRW.out, HBE.out⟩
def PSetPost (F : Fr) (w : World) (e : Ending) (w' : World) : Prop :=
  ∃ (qs : List (List Nat)) (g c : Nat), e = .returned (.tuple #[.slice (some ⟨g, 0, none⟩) qs.length c, .bool true]) ∧ qs.Perm ((prefs F).map setL) ∧ RowsR w' w'.heap.size (.slice (some ⟨g, 0, none⟩) qs.length c) (qs.map barL) ∧ Below w.heap.size w w'
set_option maxRecDepth 100000 in
set_option maxHeartbeats 4000000 in
theorem pset_any (F : Fr) (hF : F.Ok) (A : Option Addr) (c : Nat) (w : World) (h : FrR w w.heap.size F A c) :
    Calls Try.prog 7 #[frV F A c] w (PSetPost F w) := by
  obtain ⟨w1, hw1, hs1, b1, z0, z1, fr, bw⟩ := box_at F A c w h
  have HV := Lib.hid (fun y => validF_any F hF A c y.val (fr y))
  have HPR := Lib.hid (fun y => pref_any F hF A c y.val (fr y))
  have BW := Lib.hid bw
  have HPL := Lib.hid (fun k (hk : k ∈ prefs F) => goods_lt hF k (goods_mem.2 (prefs_mem.1 hk).1))
  have hpn := prefs_len hF
  unfold PSetPost
  unfold PrefPost at HPR
  clear hF h fr bw b1
  unfold frV at *
  have z0w := z0
  have z1w := z1
  go_enter Try.func7, Try.ntmps7
  go_upto_region 1 with (fail)
  rw [← hw1]
  obtain ⟨x0, hx0⟩ : ∃ y : Aft w1, y.val = w1 := ⟨⟨w1, Below.refl _ _⟩, rfl⟩
  rw [← hx0]
  clear hx0 hw1
  go_wp2_with (fail)
  refine (aft_b (HV.out x0)).mono ?_
  rintro e _ ⟨rfl, x1, rfl⟩
  go_wp2_with (fail)
  refine (HPR.out x1).mono ?_
  rintro e w3 ⟨g3, c3, rfl, hr3, hc31, hc32, hg31, hg32, hb3⟩
  have HSR := Lib.hid (sorted_any (prefs F) HPL.out hpn _ c3 w3 (row_ints hr3 hg32 hc31 hc32))
  have HB3 := Lib.hid (below_then (BW.out x1) (BW.out x1).size hb3)
  unfold SortedPost at HSR
  clear hr3 hb3 z0 z1 z0w z1w HV HPR
  go_wp2_with (fail)
  refine HSR.out.mono ?_
  rintro e w4 ⟨qs, g4, c4, rfl, hperm, hrows, hb4⟩
  have HPM := Lib.hid hperm
  have HRW := Lib.hid hrows
  have HBE := Lib.hid (below_then HB3.out HB3.out.size hb4)
  clear hperm hrows hb4
  go_wp2
  go_ret2
  exact ⟨qs, g4, c4, rfl, HPM.out, HRW.out, HBE.out⟩
end Go.Proofs.Yteljpodjjeoddaa

namespace Go.Proofs.Yteljpodjjeoddaa
open Go.RowKit Go.Lib

set_option maxRecDepth 100000 in
set_option maxHeartbeats 4000000 in
/-- The closure: is a mask admissible, with an argument in it? -/
theorem dfn_any (F : Fr) (hF : F.Ok) (x : Nat) (hx : x < F.n) (m : Nat) (hm : m < 1024) (A : Option Addr) (c bx bf : Nat) (w : World) (h : FrR w w.heap.size F A c)
    (c0 : w.cell? ⟨bx, 0, none⟩ = some (.int .i64 (x : Int))) (c1 : w.cell? ⟨bf, 0, none⟩ = some (.int .i64 (F.n : Int))) (c2 : w.cell? ⟨bf, 1, none⟩ = some (.slice A F.R.length c)) :
    Calls Try.prog 29 #[.int .i64 (m : Int), .pointer (some ⟨bx, 0, none⟩), .pointer (some ⟨bf, 0, none⟩)] w (RetB (.bool (m.testBit x && goodB F m)) w) := by
  have HG := Lib.hid (fun y : Aft w => good_any F hF m hm A c y.val (h.on y.ok y.ok.size))
  have y0 := fun y : Aft w => y.cell c0
  have y1 := fun y : Aft w => y.cell c1
  have y2 := fun y : Aft w => y.cell c2
  have htb := tb_one m x (by omega)
  have hx10 : x < 10 := by have := hF.n10; omega
  clear hF h c0 c1 c2
  unfold frV at *
  generalize goodB F m = r at *
  refine calls_aft fun x0 => ?_
  cases hb : m.testBit x with
  | true =>
    rw [hb] at htb
    clear hb
    go_enter Try.func29, Try.ntmps29
    go_wp2_with (fail)
    refine (aft_b (HG.out x0)).mono ?_
    rintro e _ ⟨rfl, x1, rfl⟩
    go_wp2
    go_ret
    exact ⟨rfl, x1.ok⟩
  | false =>
    rw [hb] at htb
    clear hb
    go_enter Try.func29, Try.ntmps29
    go_wp2
    go_ret
    exact ⟨rfl, x0.ok⟩
def withX (F : Fr) (x m : Nat) : Bool := m.testBit x && goodB F m
theorem withX_iff {F : Fr} {x m : Nat} : m ∈ fltK (withX F x) (2 ^ F.n) ↔ Good F m ∧ m.testBit x = true := by
  unfold fltK withX
  rw [List.mem_filter, List.mem_range, Bool.and_eq_true, good_iff]
  exact ⟨fun h => ⟨h.2.2, h.2.1⟩, fun h => ⟨h.1.lt, h.2, h.1⟩⟩
def DefPost (F : Fr) (x : Nat) (w : World) (e : Ending) (w' : World) : Prop :=
  Below w.heap.size w w' ∧ ((e = .returned (.tuple #[.slice none 0 0, .bool false]) ∧ ∀ m, Good F m → m.testBit x = false) ∨
    ∃ (m : Nat) (A : Option Addr) (c : Nat), e = .returned (.tuple #[.slice A (setL m).length c, .bool true]) ∧ Good F m ∧ m.testBit x = true ∧ (∀ m', Good F m' → m'.testBit x = true → (setL m).length ≤ (setL m').length) ∧ Ints w' w'.heap.size (.slice A (setL m).length c) (barL (setL m)))
set_option maxRecDepth 100000 in
set_option maxHeartbeats 8000000 in
theorem defence_any (F : Fr) (hF : F.Ok) (x : Nat) (hx : x < F.n) (A : Option Addr) (c : Nat) (w : World) (h : FrR w w.heap.size F A c) :
    Calls Try.prog 13 #[frV F A c, .int .i64 (x : Int)] w (DefPost F x w) := by
  obtain ⟨w1, hw1, hs1, b1, z0, z1, fr, bw⟩ := box_at F A c w h
  have b2 : Below w1.heap.size w1 (w1.alloc (.cells #[.int .i64 (x : Int)] 2)) := (Below.refl _ _).alloc (Nat.le_refl _) _
  have u0 : (w1.alloc (.cells #[.int .i64 (x : Int)] 2)).cell? ⟨w1.heap.size, 0, none⟩ = some (.int .i64 (x : Int)) := new_at (j := 0) rfl
  obtain ⟨w2, hw2⟩ : ∃ X, X = w1.alloc (.cells #[.int .i64 (x : Int)] 2) := ⟨_, rfl⟩
  rw [← hw2, hs1] at b2
  rw [← hw2, hs1] at u0
  have lift : ∀ y : Aft w2, Below w1.heap.size w1 y.val := fun y => by
    rw [← hs1] at b2
    exact b2.trans (y.ok.mono b2.size)
  have HA := Lib.hid (fun y : Aft w2 => isArg_any F hF x hx A c y.val (fr ⟨y.val, lift y⟩))
  have FRY := fun y : Aft w2 => fr ⟨y.val, lift y⟩
  have BW : Hid (∀ y : Aft w2, Below w.heap.size w y.val) := Lib.hid (fun y : Aft w2 => bw ⟨y.val, lift y⟩)
  have y0 : ∀ y : Aft w2, y.val.cell? ⟨w.heap.size, 0, none⟩ = some (.int .i64 (F.n : Int)) := fun y : Aft w2 => z0 ⟨y.val, lift y⟩
  have y1 : ∀ y : Aft w2, y.val.cell? ⟨w.heap.size, 1, none⟩ = some (.slice A F.R.length c) := fun y : Aft w2 => z1 ⟨y.val, lift y⟩
  have y2 := fun y : Aft w2 => y.cell u0
  have HM := Lib.hid (fun y : Aft w2 => masksD_any F hF A c (withX F x) (.pointer (some ⟨w.heap.size + 1, 0, none⟩)) (.pointer (some ⟨w.heap.size, 0, none⟩)) y.val (FRY y) (fun k hk W hW => dfn_any F hF x hx k hk A c (w.heap.size + 1) w.heap.size W ((FRY y).on hW hW.size) (y2 ⟨W, y.ok.trans (hW.mono y.ok.size)⟩) (y0 ⟨W, y.ok.trans (hW.mono y.ok.size)⟩) (y1 ⟨W, y.ok.trans (hW.mono y.ok.size)⟩)))
  have hn := hF.n10
  have hflen : (fltK (withX F x) (2 ^ F.n)).length ≤ 1024 := by
    have h1 := fltK_len (withX F x) (2 ^ F.n)
    have h2 := Nat.pow_le_pow_right (n := 2) (by omega) hn
    omega
  have HFL := Lib.hid (fun k (hk : k ∈ fltK (withX F x) (2 ^ F.n)) => goods_lt hF k (goods_mem.2 (withX_iff.1 hk).1))
  have HIFF := Lib.hid (fun m => withX_iff (F := F) (x := x) (m := m))
  unfold MaskPost at HM
  unfold DefPost
  generalize fltK (withX F x) (2 ^ F.n) = L at *
  have hnl : ∀ (Aq : Option Addr) (nq cq : Nat) (W : World), (binOp .eql 28 (.slice Aq nq cq) (.slice none 0 0)).run Try.prog W = .ok (.bool Aq.isNone) W := fun Aq nq cq W => Go.Lib.run_eql_slice_nil (P := Try.prog) W 28 2 Aq nq cq 0 0 Try.underlying28
  clear hF h fr bw b1 z0 z1 FRY lift b2 u0
  unfold frV at *
  go_enter Try.func13, Try.ntmps13
  go_upto_region 1 with (fail)
  rw [← hw1]
  have hw2' : w1.alloc (.cells #[.int .i64 (x : Int)] 2) = w2 := hw2.symm
  rw [hw2']
  obtain ⟨x0, hx0⟩ : ∃ y : Aft w2, y.val = w2 := ⟨⟨w2, Below.refl _ _⟩, rfl⟩
  rw [← hx0]
  clear hx0 hw1 hw2 hw2' hs1
  go_wp2_with (fail)
  refine (aft_b (HA.out x0)).mono ?_
  rintro e _ ⟨rfl, x1, rfl⟩
  go_wp2_with (fail)
  refine (HM.out x1).mono ?_
  rintro e w3 ⟨g3, c3, rfl, hn3, hb3⟩
  have HSR := Lib.hid (sorted_any L HFL.out hflen _ c3 w3 hn3.ints)
  have HB3 := Lib.hid (below_then (BW.out x1) (BW.out x1).size hb3)
  unfold SortedPost at HSR
  clear hn3 hb3 y0 y1 y2 HA HM hflen
  go_wp2_with (fail)
  refine HSR.out.mono ?_
  rintro e w4 ⟨qs, g4, c4, rfl, hperm, hrows, hb4⟩
  have HPM := Lib.hid hperm
  have HRW := Lib.hid hrows
  have HBE := Lib.hid (below_then HB3.out HB3.out.size hb4)
  have HMEM : Hid (∀ q ∈ qs, ∃ m, q = setL m ∧ Good F m ∧ m.testBit x = true ∧ 0 < q.length) := Lib.hid (fun q hq => by
    obtain ⟨m, h1, rfl⟩ := List.mem_map.1 (hperm.mem_iff.1 hq)
    obtain ⟨h2, h3⟩ := (HIFF.out m).1 h1
    exact ⟨m, rfl, h2, h3, List.length_pos_iff.2 (fun e => by
      have := (setL_mem (HFL.out m h1)).2 h3
      rw [e] at this
      cases this)⟩)
  have HALL : Hid (∀ m, Good F m → m.testBit x = true → setL m ∈ qs) := Lib.hid (fun m h1 h2 => hperm.mem_iff.2 (List.mem_map.2 ⟨m, (HIFF.out m).2 ⟨h1, h2⟩, rfl⟩))
  have hql : qs.length ≤ 9223372036854775807 := by
    obtain ⟨_, _, e, h1, h2, _⟩ := rows_at hrows
    unfold maxLen at h2
    rw [List.length_map] at h1
    omega
  clear hperm hrows hb4 HSR HFL HIFF HB3
  go_wp2
  go_loopw [6, 8, 18] (fun ba _ i wr => ∃ k : Nat, k ≤ qs.length ∧ i = .int .i64 (k : Int) ∧ wr = w4 ∧ ((k = 0 ∧ ba = .slice none 0 0) ∨ ∃ (q : List Nat) (ad : Addr) (cq : Nat), ba = .slice (some ad) q.length cq ∧ q ∈ qs ∧ Ints w4 w4.heap.size (.slice (some ad) q.length cq) (barL q) ∧ ∀ q' ∈ qs.take k, q.length ≤ q'.length)) (fun _ _ i _ => qs.length - (RowKit.intOf i).toNat)
  case atStart => exact ⟨0, Nat.zero_le _, rfl, rfl, .inl ⟨rfl, rfl⟩⟩
  case round =>
    obtain ⟨k, hk, rfl, rfl, hbest⟩ := hrel
    by_cases hlt : k < qs.length
    · have hget : qs[k]? = some qs[k] := List.getElem?_eq_getElem hlt
      obtain ⟨A5, c5, e, hc5, hm5, hcell⟩ := rows_at HRW.out
      obtain ⟨b5, o5, hA5, hb5, hcell⟩ := hcell (by rw [List.length_map]; omega)
      injection e with e1 e2 e3
      subst e1
      clear e2 e3 hc5 hm5
      injection hA5 with e4
      injection e4 with e4 e5 e6
      subst e4
      subst e5
      obtain ⟨A7, c7, v0, _, i7⟩ := hcell k (barL qs[k]) (by rw [List.getElem?_map, hget]; rfl)
      rw [barL_len] at v0 i7
      rw [Nat.zero_add] at v0
      have hmem := List.getElem_mem hlt
      have hpos : 0 < qs[k].length := by
        obtain ⟨_, _, _, _, h⟩ := HMEM.out _ hmem
        exact h
      have HMM := Lib.hid hmem
      have HTS := Lib.hid (List.take_succ_eq_append_getElem hlt)
      have hki : (k : Int) < (qs.length : Int) := by omega
      have hk0 : (0 : Int) ≤ (k : Int) := by omega
      generalize qs[k] = q at *
      clear hget hcell hmem e6
      obtain ⟨b7, o7, rfl, _, _⟩ := ints_get i7 (barL_get (B := q) (k := 0) (List.getElem?_eq_getElem hpos))
      have HI7 := Lib.hid i7
      clear i7
      rcases hbest with ⟨rfl, rfl⟩ | ⟨q0, ad, cq, rfl, hq0, hi0, hle⟩
      · have hNN : Hid (∀ q' ∈ qs.take (0 + 1), q.length ≤ q'.length) := Lib.hid (fun q' hq' => by
          rw [HTS.out] at hq'
          simp at hq'
          subst hq'
          exact Nat.le_refl _)
        have e1 := hnl none 0 0 wr
        clear HTS
        go_wp2
        go_roundw
        case rel => exact ⟨1, by omega, by go_num, trivial, .inr ⟨q, _, c7, rfl, HMM.out, HI7.out, hNN.out⟩⟩
        case measure => simp [RowKit.intOf]; omega
      · have e1 := hnl (some ad) q0.length cq wr
        have HI0 := Lib.hid hi0
        have HQ0 := Lib.hid hq0
        have HLE := Lib.hid hle
        clear hi0 hq0 hle
        by_cases hll : q.length < q0.length
        · have hNN : Hid (∀ q' ∈ qs.take (k + 1), q.length ≤ q'.length) := Lib.hid (fun q' hq' => by
            rw [HTS.out] at hq'
            rcases List.mem_append.1 hq' with h | h
            · have := HLE.out q' h; omega
            · rw [List.mem_singleton.1 h]; exact Nat.le_refl _)
          have hli : (q.length : Int) < (q0.length : Int) := by omega
          clear hll HTS
          go_wp2
          go_roundw
          case rel => exact ⟨k + 1, by omega, by go_num, trivial, .inr ⟨q, _, c7, rfl, HMM.out, HI7.out, hNN.out⟩⟩
          case measure => simp [RowKit.intOf]; omega
        · have hNN : Hid (∀ q' ∈ qs.take (k + 1), q0.length ≤ q'.length) := Lib.hid (fun q' hq' => by
            rw [HTS.out] at hq'
            rcases List.mem_append.1 hq' with h | h
            · exact HLE.out q' h
            · rw [List.mem_singleton.1 h]; omega)
          have hli : ¬ (q.length : Int) < (q0.length : Int) := by omega
          clear hll HTS
          go_wp2
          go_roundw
          case rel => exact ⟨k + 1, by omega, by go_num, trivial, .inr ⟨q0, ad, cq, rfl, HQ0.out, HI0.out, hNN.out⟩⟩
          case measure => simp [RowKit.intOf]; omega
    · have hge : ¬ (k : Int) < (qs.length : Int) := by omega
      have HE : Hid (qs.take k = qs) := Lib.hid (List.take_of_length_le (by omega))
      rcases hbest with ⟨hk0, rfl⟩ | ⟨q0, ad, cq, rfl, hq0, hi0, hle⟩
      · have hnone : Hid (∀ m, Good F m → m.testBit x = false) := Lib.hid (fun m h1 => by
          cases h2 : m.testBit x with
          | false => rfl
          | true =>
          exfalso
          have := HALL.out m h1 h2
          rw [List.eq_nil_of_length_eq_zero (by omega : qs.length = 0)] at this
          cases this)
        have e1 := run_neq_slice_nil (P := Try.prog) wr 28 2 none 0 0 Try.underlying28
        clear hk0 hlt
        go_wp2
        go_ret2
        exact ⟨HBE.out, .inl ⟨rfl, hnone.out⟩⟩
      · obtain ⟨m, rfl, h1, h2, _⟩ := HMEM.out _ hq0
        have HF := Lib.hid (show Good F m ∧ m.testBit x = true ∧ (∀ m', Good F m' → m'.testBit x = true → (setL m).length ≤ (setL m').length) from ⟨h1, h2, fun m' h3 h4 => hle _ (by rw [HE.out]; exact HALL.out m' h3 h4)⟩)
        have HI0 := Lib.hid hi0
        have e1 := run_neq_slice_nil (P := Try.prog) wr 28 2 (some ad) (setL m).length cq Try.underlying28
        clear hi0 hq0 hle h1 h2 hlt
        go_wp2
        go_ret2
        exact ⟨HBE.out, .inr ⟨m, some ad, cq, rfl, HF.out.1, HF.out.2.1, HF.out.2.2, HI0.out⟩⟩
end Go.Proofs.Yteljpodjjeoddaa
