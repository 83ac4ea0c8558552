/- Rows of numbers sorted, walked. The sets of masks in order; the preferred sets, walked. The defence of an argument, walked. A frame and a set of a law's input; what the laws ask of lists, walked. A set of arguments of a law's input, walked. FnStanding, plain: grounded, preferred and ideal sets agree, and how an argument stands. -/
import Derived.Test.YtlbnebmdolnagaaKA
import Derived.Test.YtlbnebmdolnagaaShelfV
namespace Go.Proofs.Ytlbnebmdolnagaa
open Go.RowKit Go.Lib

set_option maxHeartbeats 1000000 in
theorem cmp1q_any (a b : Int) (w : World) : Calls Try.prog 140 #[.int .i64 a, .int .i64 b] w (RetQ (.int .i64 (if a < b then -1 else if b < a then 1 else 0)) w) := by
  obtain ⟨r, hr⟩ : ∃ r : Int, r = if a < b then -1 else if b < a then 1 else 0 := ⟨_, rfl⟩
  rw [← hr]
  have HRR := Lib.hid hr
  clear hr
  go_enter Try.func140, Try.ntmps140
  go_wp2_with (fail)
  refine (nan64_any a w).mono ?_
  rintro e _ ⟨rfl, m, rfl⟩
  go_wp2_with (fail)
  refine (nan64_any b _).mono ?_
  rintro e _ ⟨rfl, m2, rfl⟩
  by_cases h1 : a < b
  · have h1d : decide (a < b) = true := decide_eq_true h1
    have hr := HRR.out
    rw [if_pos h1] at hr
    subst hr
    clear HRR
    go_wp2
    go_ret
    exact ⟨rfl, m + m2, by simp⟩
  · have h1d : decide (a < b) = false := decide_eq_false h1
    by_cases h2 : b < a
    · have h2d : decide (b < a) = true := decide_eq_true h2
      have hr := HRR.out
      rw [if_neg h1, if_pos h2] at hr
      subst hr
      clear HRR
      go_wp2
      go_ret
      exact ⟨rfl, m + m2, by simp⟩
    · have h2d : decide (b < a) = false := decide_eq_false h2
      have hr := HRR.out
      rw [if_neg h1, if_neg h2] at hr
      subst hr
      clear HRR
      go_wp2
      go_ret
      exact ⟨rfl, m + m2, by simp⟩
set_option maxRecDepth 100000 in
set_option maxHeartbeats 4000000 in
theorem cmp64q_any (p q : List Nat) (v1 v2 : Value) (w : World) (h1 : Ints w w.heap.size v1 (barL p)) (h2 : Ints w w.heap.size v2 (barL q)) : Calls Try.prog 109 #[v1, v2] w (RetQ (.int .i64 (cmpN p q)) w) := by
  obtain ⟨A1, c1, rfl, _, m1⟩ := h1.sl
  obtain ⟨A2, c2, rfl, _, m2⟩ := h2.sl
  unfold maxLen at m1 m2
  have hp : p.length ≤ 9223372036854775807 := by
    obtain ⟨_, _, e, g1, g2, _⟩ := h1
    unfold maxLen at g2
    rw [barL_len] at g1
    injection e with _ _ e3
    omega
  have hq : q.length ≤ 9223372036854775807 := by
    obtain ⟨_, _, e, g1, g2, _⟩ := h2
    unfold maxLen at g2
    rw [barL_len] at g1
    injection e with _ _ e3
    omega
  rw [barL_len] at h1 h2 ⊢
  rw [barL_len]
  have H1 := Lib.hid h1
  have H2 := Lib.hid h2
  clear h1 h2
  obtain ⟨r, hr⟩ : ∃ r, cmpN p q = r := ⟨_, rfl⟩
  rw [hr]
  have HR0 := Lib.hid hr.symm
  clear hr
  go_enter Try.func109, Try.ntmps109
  go_wp2
  go_loopw [4, 5, 6, 7, 8, 11] (fun _ _ _ _ _ i wr => ∃ (k d : Nat), k ≤ p.length ∧ k ≤ q.length ∧ i = .int .i64 (k : Int) ∧ r = cmpN (p.drop k) (q.drop k) ∧ wr = w.drewN d) (fun _ _ _ _ _ i _ => p.length - (RowKit.intOf i).toNat)
  case atStart => exact ⟨0, 0, Nat.zero_le _, Nat.zero_le _, rfl, HR0.out, rfl⟩
  case round =>
    obtain ⟨k, d, hk, hk2, rfl, heq, rfl⟩ := hrel
    by_cases hlt : k < p.length
    · have hpk : p[k]? = some p[k] := List.getElem?_eq_getElem hlt
      obtain ⟨b, o, rfl, hb, e0⟩ := ints_get H1.out (barL_get hpk)
      by_cases hl2 : k < q.length
      · have hqk : q[k]? = some q[k] := List.getElem?_eq_getElem hl2
        obtain ⟨b2, o2, rfl, hb2, e1⟩ := ints_get H2.out (barL_get hqk)
        have hge : ¬ ((q.length : Int) ≤ (k : Int)) := by omega
        have hged : decide ((q.length : Int) ≤ (k : Int)) = false := decide_eq_false hge
        rw [cmpN_drop hpk hqk] at heq
        clear hpk hqk
        generalize p[k] = a at *
        generalize q[k] = b' at *
        have HC := Lib.hid (fun W : World => cmp1q_any (a : Int) (b' : Int) W)
        by_cases h1 : a < b'
        · rw [if_pos h1] at heq
          rw [if_pos (by omega : (a : Int) < (b' : Int))] at HC
          subst heq
          go_wp2_with (fail)
          refine (HC.out _).mono ?_
          rintro e _ ⟨rfl, d2, rfl⟩
          go_wp2
          go_ret
          exact ⟨rfl, d + d2, by simp⟩
        · rw [if_neg h1] at heq
          rw [if_neg (by omega : ¬ (a : Int) < (b' : Int))] at HC
          by_cases h3 : b' < a
          · rw [if_pos h3] at heq
            rw [if_pos (by omega : (b' : Int) < (a : Int))] at HC
            subst heq
            go_wp2_with (fail)
            refine (HC.out _).mono ?_
            rintro e _ ⟨rfl, d2, rfl⟩
            go_wp2
            go_ret
            exact ⟨rfl, d + d2, by simp⟩
          · rw [if_neg h3] at heq
            rw [if_neg (by omega : ¬ (b' : Int) < (a : Int))] at HC
            have HEQ := Lib.hid heq
            clear heq
            go_wp2_with (fail)
            refine (HC.out _).mono ?_
            rintro e _ ⟨rfl, d2, rfl⟩
            go_wp2
            go_roundw
            case rel => exact ⟨k + 1, d + d2, by omega, by omega, by go_num, HEQ.out, by simp⟩
            case measure => simp [RowKit.intOf]; omega
      · have hge : (q.length : Int) ≤ (k : Int) := by omega
        have hged : decide ((q.length : Int) ≤ (k : Int)) = true := decide_eq_true hge
        have hR : r = 1 := by rw [heq, List.drop_eq_nil_of_le (by omega : q.length ≤ k), List.drop_eq_getElem_cons hlt, cmpN]
        clear heq
        subst hR
        clear hpk
        generalize p[k] = a at *
        go_wp2
        go_ret
        exact ⟨rfl, d, rfl⟩
    · have hge : ¬ ((k : Int) < (p.length : Int)) := by omega
      by_cases hl2 : k < q.length
      · have hlt2 : (p.length : Int) < (q.length : Int) := by omega
        have hltd : decide ((p.length : Int) < (q.length : Int)) = true := decide_eq_true hlt2
        have hR : r = -1 := by rw [heq, List.drop_eq_nil_of_le (by omega : p.length ≤ k), List.drop_eq_getElem_cons hl2, cmpN]
        clear heq
        subst hR
        go_wp2
        go_ret
        exact ⟨rfl, d, rfl⟩
      · have hlt2 : ¬ ((p.length : Int) < (q.length : Int)) := by omega
        have hltd : decide ((p.length : Int) < (q.length : Int)) = false := decide_eq_false hlt2
        have hR : r = 0 := by rw [heq, List.drop_eq_nil_of_le (by omega : p.length ≤ k), List.drop_eq_nil_of_le (by omega : q.length ≤ k), cmpN]
        clear heq
        subst hR
        go_wp2
        go_ret
        exact ⟨rfl, d, rfl⟩
theorem cmpN_irr : ∀ p : List Nat, cmpN p p = 0
  | [] => rfl
  | a :: p => by unfold cmpN; rw [if_neg (by omega), if_neg (by omega)]; exact cmpN_irr p
theorem cmpN_trans : ∀ p q r : List Nat, cmpN p q < 0 → cmpN q r < 0 → cmpN p r < 0
  | [], [], _, h, _ => by unfold cmpN at h; omega
  | [], _ :: _, [], _, h => by unfold cmpN at h; omega
  | [], _ :: _, _ :: _, _, _ => by unfold cmpN; omega
  | _ :: _, [], _, h, _ => by unfold cmpN at h; omega
  | _ :: _, _ :: _, [], _, h => by unfold cmpN at h; omega
  | a :: p, b :: q, c :: r, h1, h2 => by
    have ih := cmpN_trans p q r
    unfold cmpN at h1 h2 ⊢
    by_cases e1 : a < b
    · by_cases e2 : b < c
      · rw [if_pos (by omega)]; omega
      · rw [if_neg e2] at h2
        by_cases e3 : c < b
        · rw [if_pos e3] at h2; omega
        · rw [if_pos (by omega)]; omega
    · rw [if_neg e1] at h1
      by_cases e2 : b < a
      · rw [if_pos e2] at h1; omega
      · rw [if_neg e2] at h1
        by_cases e3 : b < c
        · rw [if_pos (by omega)]; omega
        · rw [if_neg e3] at h2
          by_cases e4 : c < b
          · rw [if_pos e4] at h2; omega
          · rw [if_neg e4] at h2
            rw [if_neg (by omega), if_neg (by omega)]
            exact ih h1 h2
theorem cmpN_ntrans : ∀ p q r : List Nat, ¬ cmpN p q < 0 → ¬ cmpN q r < 0 → ¬ cmpN p r < 0
  | [], [], _, _, h => h
  | [], _ :: _, _, h, _ => by unfold cmpN at h; omega
  | _ :: _, _, [], _, _ => by unfold cmpN; omega
  | _ :: _, [], _ :: _, _, h => by unfold cmpN at h; omega
  | a :: p, b :: q, c :: r, h1, h2 => by
    have ih := cmpN_ntrans p q r
    unfold cmpN at h1 h2 ⊢
    by_cases e1 : a < b
    · rw [if_pos e1] at h1; omega
    · rw [if_neg e1] at h1
      by_cases e3 : b < c
      · rw [if_pos e3] at h2; omega
      · rw [if_neg e3] at h2
        rw [if_neg (by omega)]
        by_cases e2 : b < a
        · rw [if_pos (by omega)]; omega
        · rw [if_neg e2] at h1
          by_cases e4 : c < b
          · rw [if_pos (by omega)]; omega
          · rw [if_neg e4] at h2
            rw [if_neg (by omega)]
            exact ih h1 h2
def cfT (qs : List (List Nat)) (i k : Nat) : Int := cmpN (qs.getD i []) (qs.getD k [])
theorem cfT_swo (qs : List (List Nat)) : Go.Sort.SWO (Go.Proofs.ltOf (cfT qs)) where
  irrefl x := by unfold ltOf cfT; rw [cmpN_irr]; rfl
  trans x y z h1 h2 := by
    unfold ltOf cfT at *
    rw [decide_eq_true_eq] at *
    exact cmpN_trans _ _ _ h1 h2
  ntrans x y z h1 h2 := by
    unfold ltOf cfT at *
    rw [decide_eq_false_iff_not] at *
    exact cmpN_ntrans _ _ _ h1 h2
def rowT (T : List VRow) (i : Nat) : VRow := T.getD i ⟨[], .slice none 0 0⟩
def encT (T : List VRow) (i : Nat) : Value := (rowT T i).v
theorem sort_touch {α : Type} [Inhabited α] (enc : α → Value) (w : World) (g n : Nat) (d : Array α) (os : Array Obj) : Touch (fun b => b = g) w (sortWorld enc w g 0 n d os) where
  os := rfl
  tape := rfl
  output := rfl
  size := by
    show w.heap.size ≤ ((Go.Sort.putRow enc (Go.Sort.ahead w n) g 0 d).heap ++ os).size
    rw [Array.size_append, Go.Sort.size_putRow]
    exact Nat.le_add_right _ _
  block := fun b hb hne => by
    unfold sortWorld
    rw [Go.Sort.heap_grow_old _ os (by rw [Go.Sort.size_putRow]; exact hb)]
    unfold Go.Sort.putRow Go.Sort.mapBlock
    show (w.heap.modify g _)[b]? = _
    rw [Array.getElem?_modify, if_neg (by omega)]
def SortPost (qs : List (List Nat)) (g n c : Nat) (w : World) (e : Ending) (w' : World) : Prop :=
  e = .returned (.tuple #[]) ∧ Touch (fun b => b = g) w w' ∧ ∃ qs' : List (List Nat), qs'.Perm qs ∧ RowsR w' w'.heap.size (.slice (some ⟨g, 0, none⟩) n c) (qs'.map barL)
theorem map_getD_range {α β : Type} (l : List α) (d : α) (f : α → β) : (List.range l.length).map (fun i => f (l.getD i d)) = l.map f := by
  refine List.ext_getElem? fun k => ?_
  rw [List.getElem?_map, List.getElem?_map]
  by_cases hk : k < l.length
  · rw [List.getElem?_range hk, List.getElem?_eq_getElem hk]
    simp [List.getD_eq_getElem?_getD, hk]
  · rw [List.getElem?_eq_none (by simpa using hk), List.getElem?_eq_none (by omega)]
    rfl
end Go.Proofs.Ytlbnebmdolnagaa

namespace Go.Proofs.Ytlbnebmdolnagaa
open Go.RowKit Go.Lib

def SortedPost (L : List Nat) (w : World) (e : Ending) (w' : World) : Prop :=
  ∃ (qs : List (List Nat)) (g c : Nat), e = .returned (.slice (some ⟨g, 0, none⟩) qs.length c) ∧ qs.Perm (L.map setL) ∧ RowsR w' w'.heap.size (.slice (some ⟨g, 0, none⟩) qs.length c) (qs.map barL) ∧ Below w.heap.size w w'
def PSetPost (F : Fr) (w : World) (e : Ending) (w' : World) : Prop :=
  ∃ (qs : List (List Nat)) (g c : Nat), e = .returned (.tuple #[.slice (some ⟨g, 0, none⟩) qs.length c, .bool true]) ∧ qs.Perm ((prefs F).map setL) ∧ RowsR w' w'.heap.size (.slice (some ⟨g, 0, none⟩) qs.length c) (qs.map barL) ∧ Below w.heap.size w w'
end Go.Proofs.Ytlbnebmdolnagaa

namespace Go.Proofs.Ytlbnebmdolnagaa
open Go.RowKit Go.Lib

def withX (F : Fr) (x m : Nat) : Bool := m.testBit x && goodB F m
theorem withX_iff {F : Fr} {x m : Nat} : m ∈ fltK (withX F x) (2 ^ F.n) ↔ Good F m ∧ m.testBit x = true := by
  unfold fltK withX
  rw [List.mem_filter, List.mem_range, Bool.and_eq_true, good_iff]
  exact ⟨fun h => ⟨h.2.2, h.2.1⟩, fun h => ⟨h.1.lt, h.2, h.1⟩⟩
def DefPost (F : Fr) (x : Nat) (w : World) (e : Ending) (w' : World) : Prop :=
  Below w.heap.size w w' ∧ ((e = .returned (.tuple #[.slice none 0 0, .bool false]) ∧ ∀ m, Good F m → m.testBit x = false) ∨
    ∃ (m : Nat) (A : Option Addr) (c : Nat), e = .returned (.tuple #[.slice A (setL m).length c, .bool true]) ∧ Good F m ∧ m.testBit x = true ∧ (∀ m', Good F m' → m'.testBit x = true → (setL m).length ≤ (setL m').length) ∧ Ints w' w'.heap.size (.slice A (setL m).length c) (barL (setL m)))
end Go.Proofs.Ytlbnebmdolnagaa

namespace Go.Proofs.Ytlbnebmdolnagaa
open Go.RowKit Go.Lib

set_option maxHeartbeats 1000000 in
theorem long8_any (A1 : Option Addr) (n1 c1 : Nat) (A2 : Option Addr) (n2 c2 : Nat) (w : World) : Calls Try.prog 10 #[.slice A1 n1 c1, .slice A2 n2 c2] w (RetQ (.bool (decide (48 < n1) || decide (48 < n2))) w) := by
  obtain ⟨r, hr⟩ : ∃ r : Bool, r = (decide (48 < n1) || decide (48 < n2)) := ⟨_, rfl⟩
  rw [← hr]
  have HR := Lib.hid hr
  clear hr
  by_cases h1 : 48 < n1
  · have h1i : (48 : Int) < (n1 : Int) := by omega
    have HE : Hid (r = true) := Lib.hid (by rw [HR.out]; simp [h1])
    clear h1
    go_enter Try.func10, Try.ntmps10
    go_wp2
    go_ret
    exact ⟨by rw [HE.out]; rfl, 0, rfl⟩
  · have h1i : ¬ (48 : Int) < (n1 : Int) := by omega
    by_cases h2 : 48 < n2
    · have h2i : (48 : Int) < (n2 : Int) := by omega
      have HE : Hid (r = true) := Lib.hid (by rw [HR.out]; simp [h2])
      clear h1 h2
      go_enter Try.func10, Try.ntmps10
      go_wp2
      go_ret
      exact ⟨by rw [HE.out]; rfl, 0, rfl⟩
    · have h2i : ¬ (48 : Int) < (n2 : Int) := by omega
      have HE : Hid (r = false) := Lib.hid (by rw [HR.out]; simp [h1, h2])
      clear h1 h2
      go_enter Try.func10, Try.ntmps10
      go_wp2
      go_ret
      exact ⟨by rw [HE.out]; rfl, 0, rfl⟩
set_option maxRecDepth 100000 in
set_option maxHeartbeats 4000000 in
theorem has8_any (l : List Nat) (x : Nat) (v : Value) (w : World) (hI : Ints w w.heap.size v (barL l)) : Calls Try.prog 14 #[v, .int .i64 (x : Int)] w (RetQ (.bool (l.contains x)) w) := by
  obtain ⟨A, c, rfl, hc, hm⟩ := hI.sl
  unfold maxLen at hm
  rw [barL_len] at hI hc ⊢
  have HI := Lib.hid hI
  obtain ⟨r, hr⟩ : ∃ r, r = l.contains x := ⟨_, rfl⟩
  rw [← hr]
  have HR := Lib.hid hr
  clear hI hr
  go_enter Try.func14, Try.ntmps14
  go_wp2
  go_loopw [5] (fun i wr => ∃ k : Nat, k ≤ l.length ∧ i = .int .i64 (k : Int) ∧ (l.take k).contains x = false ∧ wr = w) (fun i _ => l.length - (RowKit.intOf i).toNat)
  case atStart => exact ⟨0, Nat.zero_le _, rfl, rfl, rfl⟩
  case round =>
    obtain ⟨k, hk, rfl, hno, rfl⟩ := hrel
    have HNO := Lib.hid hno
    clear hno
    by_cases hlt : k < l.length
    · have hget : l[k]? = some l[k] := List.getElem?_eq_getElem hlt
      obtain ⟨b, off, rfl, hb, u0⟩ := ints_get HI.out (barL_get hget)
      have HT := Lib.hid (List.take_succ_eq_append_getElem hlt)
      have HM := Lib.hid (List.getElem_mem hlt)
      have hki : (k : Int) < (l.length : Int) := by omega
      have hk0 : (0 : Int) ≤ (k : Int) := by omega
      generalize l[k] = a at *
      clear hget
      by_cases hax : a = x
      · have hb2 : ((a : Int) == (x : Int)) = true := by simp [hax]
        have HE : Hid (r = true) := Lib.hid (by rw [HR.out, List.contains_iff_mem, ← hax]; exact HM.out)
        clear hax
        go_wp2
        go_ret
        exact ⟨by rw [HE.out]; rfl, 0, rfl⟩
      · have hb2 : ((a : Int) == (x : Int)) = false := by simp; omega
        have HN : Hid ((l.take (k + 1)).contains x = false) := Lib.hid (by
          have := HNO.out
          rw [HT.out]
          rw [Bool.eq_false_iff, ne_eq, List.contains_iff_mem] at this ⊢
          intro h
          rcases List.mem_append.1 h with h | h
          · exact this h
          · exact hax (List.mem_singleton.1 h).symm)
        clear hax
        go_wp2
        go_roundw
        case rel => exact ⟨k + 1, by omega, by go_num, HN.out, trivial⟩
        case measure => simp [RowKit.intOf]; omega
    · have hge : ¬ (k : Int) < (l.length : Int) := by omega
      have HE : Hid (r = false) := Lib.hid (by have := HNO.out; rw [List.take_of_length_le (by omega)] at this; rw [HR.out]; exact this)
      go_wp2
      go_ret
      exact ⟨by rw [HE.out]; rfl, 0, rfl⟩
def insB (a b : List Nat) : Bool := a.all (fun x => b.contains x)
def FramePost (w : World) (e : Ending) (w' : World) : Prop :=
  ∃ (F : Fr) (A : Option Addr) (c : Nat), e = .returned (frV F A c) ∧ F.Ok ∧ FrR w' w'.heap.size F A c ∧ Below w.heap.size w w'
theorem bytesAt_up {w w' : World} {B : Nat} {A : Option Addr} {n : Nat} (h : BytesAt w B A n) (hb : Below B w w') (hB : B ≤ w'.heap.size) : BytesAt w' w'.heap.size A n := by
  have h' := bytesAt_below h hb
  exact ⟨h'.1, fun hn => by
    obtain ⟨b, off, e, hlt, hc⟩ := h'.2 hn
    exact ⟨b, off, e, Nat.lt_of_lt_of_le hlt hB, hc⟩⟩
end Go.Proofs.Ytlbnebmdolnagaa

namespace Go.Proofs.Ytlbnebmdolnagaa
open Go.RowKit Go.Lib

def Set8Post (n : Nat) (w : World) (e : Ending) (w' : World) : Prop :=
  ∃ (l : List Nat) (g c : Nat), e = .returned (.slice (some ⟨g, 0, none⟩) l.length c) ∧ UpL n l ∧ NumO w' w.heap.size g c (barL l) ∧ Below w.heap.size w w'
end Go.Proofs.Ytlbnebmdolnagaa

namespace Go.Proofs.Ytlbnebmdolnagaa
open Go.RowKit Go.Lib

theorem insB_iff {a b : List Nat} : insB a b = true ↔ ∀ x ∈ a, x ∈ b := by
  unfold insB
  rw [List.all_eq_true]
  exact ⟨fun h x hx => List.contains_iff_mem.1 (h x hx), fun h x hx => List.contains_iff_mem.2 (h x hx)⟩
theorem up_ext : ∀ (a b : List Nat), a.Pairwise (· < ·) → b.Pairwise (· < ·) → (∀ x, x ∈ a ↔ x ∈ b) → a = b
  | [], [], _, _, _ => rfl
  | [], y :: b, _, _, h => by have := (h y).2 (by simp); cases this
  | x :: a, [], _, _, h => by have := (h x).1 (by simp); cases this
  | x :: a, y :: b, ha, hb, h => by
    obtain ⟨h1, h2⟩ := List.pairwise_cons.1 ha
    obtain ⟨h3, h4⟩ := List.pairwise_cons.1 hb
    have e : x = y := by
      have hx : x = y ∨ x ∈ b := by simpa using (h x).1 (by simp)
      have hy : y = x ∨ y ∈ a := by simpa using (h y).2 (by simp)
      rcases hx with hx | hx
      · exact hx
      · rcases hy with hy | hy
        · exact hy.symm
        · have := h3 x hx; have := h1 y hy; omega
    subst e
    congr 1
    refine up_ext a b h2 h4 fun z => ⟨fun hz => ?_, fun hz => ?_⟩
    · have : z = x ∨ z ∈ b := by simpa using (h z).1 (by simp [hz])
      rcases this with e | h5
      · have := h1 z hz; omega
      · exact h5
    · have : z = x ∨ z ∈ a := by simpa using (h z).2 (by simp [hz])
      rcases this with e | h5
      · have := h3 z hz; omega
      · exact h5
theorem setL_setM {n : Nat} {l : List Nat} (h : UpL n l) (hn : n ≤ 10) : setL (setM l) = l := by
  have hm : setM l < 1024 := by
    have h1 := setM_lt (n := n) (l := l) h.lt
    have h2 := Nat.pow_le_pow_right (n := 2) (by omega) hn
    omega
  refine up_ext _ _ (setL_up (n := 10) (by omega) (Nat.le_refl _)).up h.up fun x => ?_
  rw [setL_mem hm, setM_bit]
theorem mask_len {a b : Nat} (ha : a < 1024) (hb : b < 1024) (h : Sub a b) (hl : (setL b).length ≤ (setL a).length) : Sub b a := by
  have e : setL a = (setL b).filter (fun i => a.testBit i) := by
    refine up_ext _ _ (setL_up (n := 10) (by omega) (Nat.le_refl _)).up (List.Pairwise.filter _ (setL_up (n := 10) (by omega) (Nat.le_refl _)).up) fun x => ?_
    rw [List.mem_filter, setL_mem ha, setL_mem hb]
    exact ⟨fun h1 => ⟨h x h1, h1⟩, fun h1 => h1.2⟩
  rw [e] at hl
  have h2 : (setL b).filter (fun i => a.testBit i) = setL b := List.Sublist.eq_of_length_le List.filter_sublist hl
  intro i hi
  have h3 := (setL_mem hb).2 hi
  rw [← h2, List.mem_filter] at h3
  exact h3.2
theorem best_spec {C : Nat} : ∀ (l : List Nat) (b : Nat), anN b C = 0 →
    let r := l.foldl (fun b m => if anN m C == 0 && decide ((setL b).length < (setL m).length) then m else b) b
    anN r C = 0 ∧ (r = b ∨ r ∈ l) ∧ (setL b).length ≤ (setL r).length ∧ ∀ m ∈ l, anN m C = 0 → (setL m).length ≤ (setL r).length
  | [], b, h => ⟨h, .inl rfl, Nat.le_refl _, fun m hm => by cases hm⟩
  | a :: l, b, h => by
    simp only [List.foldl_cons]
    by_cases hc : (anN a C == 0 && decide ((setL b).length < (setL a).length)) = true
    · rw [if_pos hc]
      rw [Bool.and_eq_true, beq_iff_eq, decide_eq_true_eq] at hc
      obtain ⟨h1, h2, h3, h4⟩ := best_spec l a hc.1
      refine ⟨h1, .inr ?_, by have := hc.2; omega, fun m hm hmc => ?_⟩
      · rcases h2 with h2 | h2
        · rw [h2]; simp
        · exact List.mem_cons_of_mem _ h2
      · rcases List.mem_cons.1 hm with rfl | hm
        · exact h3
        · exact h4 m hm hmc
    · rw [if_neg hc]
      obtain ⟨h1, h2, h3, h4⟩ := best_spec l b h
      refine ⟨h1, h2.imp id (List.mem_cons_of_mem _), h3, fun m hm hmc => ?_⟩
      rcases List.mem_cons.1 hm with rfl | hm
      · have : ¬ (setL b).length < (setL m).length := fun hlt => hc (by rw [hmc]; simp [hlt])
        omega
      · exact h4 m hm hmc
theorem com_bit {F : Fr} {i : Nat} : (comM F).testBit i = true ↔ i < F.n ∧ ∀ p ∈ prefs F, p.testBit i = true := by
  unfold comM
  rw [andS_bit, Nat.testBit_two_pow_sub_one, decide_eq_true_eq]
theorem ideal_good (F : Fr) : Good F (idealM F) := by
  obtain ⟨_, h2, _, _⟩ := best_spec (C := comM F) (goods F) 0 (anN_zero.2 (fun i hi => by simp at hi))
  rcases h2 with h2 | h2
  · show Good F (bestS _ _)
    unfold bestS
    rw [h2]
    exact zero_good F
  · exact goods_mem.1 h2
theorem ideal_sub (F : Fr) {p : Nat} (hp : p ∈ prefs F) : Sub (idealM F) p := fun i hi => by
  obtain ⟨h1, _, _, _⟩ := best_spec (C := comM F) (goods F) 0 (anN_zero.2 (fun i hi => by simp at hi))
  exact (com_bit.1 (anN_zero.1 h1 i hi)).2 p hp
theorem ideal_top {F : Fr} (hF : F.Ok) {m : Nat} (hm : Good F m) (h : ∀ p ∈ prefs F, Sub m p) : Sub m (idealM F) := by
  obtain ⟨h1, _, _, h4⟩ := best_spec (C := comM F) (goods F) 0 (anN_zero.2 (fun i hi => by simp at hi))
  obtain ⟨p, hp⟩ := List.exists_mem_of_ne_nil _ (prefs_pos F)
  have hg := good_or (ideal_good F) hm (prefs_mem.1 hp).1 (ideal_sub F hp) (h p hp)
  have hc : anN (idealM F ||| m) (comM F) = 0 := anN_zero.2 (fun i hi => com_bit.2 ⟨(hg.1.dfd i hi).1, fun q hq => by
    rw [Nat.testBit_or, Bool.or_eq_true] at hi
    rcases hi with hi | hi
    · exact ideal_sub F hq i hi
    · exact h q hq i hi⟩)
  have hl := h4 _ (goods_mem.2 hg.1) hc
  have hs := mask_len (a := idealM F) (b := idealM F ||| m) (goods_lt hF _ (goods_mem.2 (ideal_good F))) (goods_lt hF _ (goods_mem.2 hg.1)) (fun i hi => by rw [Nat.testBit_or, hi]; rfl) hl
  exact fun i hi => hs i (by rw [Nat.testBit_or, hi, Bool.or_true])
/-- What the law says of the sets. -/
structure StandOk (F : Fr) (m : Nat) (qs : List (List Nat)) : Prop where
  ne : qs ≠ []
  adm : goodB F (setM (setL (idealM F))) = true
  grd : insB (setL m) (setL (idealM F)) = true
  low : ∀ q ∈ qs, insB (setL (idealM F)) q = true
  top : ∀ l, UpL F.n l → goodB F (setM l) = true → (∀ q ∈ qs, insB l q = true) → insB l (setL (idealM F)) = true
  how : ∀ x, x < F.n → standI F m x = if (setL m).contains x then 3 else if qs.all (fun q => q.contains x) then 2 else if qs.any (fun q => q.contains x) then 1 else 0
  non : ∀ x, (∀ a, Good F a → a.testBit x = false) → qs.any (fun q => q.contains x) = false
  som : ∀ x a, Good F a → a.testBit x = true → qs.any (fun q => q.contains x) = true ∧ goodB F (setM (setL a)) = true ∧ (setL a).contains x = true
  few : ∀ x a l, UpL F.n l → goodB F (setM l) = true → l.contains x = true → (∀ a', Good F a' → a'.testBit x = true → (setL a).length ≤ (setL a').length) → (setL a).length ≤ l.length
theorem stand_ok {F : Fr} (hF : F.Ok) {m j : Nat} (hg : Grd F m j) {qs : List (List Nat)} (hp : qs.Perm ((prefs F).map setL)) : StandOk F m qs := by
  have hm4 : m < 1024 := goods_lt hF _ (goods_mem.2 hg.good)
  have hi4 : idealM F < 1024 := goods_lt hF _ (goods_mem.2 (ideal_good F))
  have hP4 : ∀ p ∈ prefs F, p < 1024 := fun p hp => goods_lt hF _ (goods_mem.2 (prefs_mem.1 hp).1)
  have hq : ∀ q, q ∈ qs ↔ ∃ p ∈ prefs F, setL p = q := fun q => by rw [hp.mem_iff, List.mem_map]
  have hall : ∀ x, qs.all (fun q => q.contains x) = true ↔ ∀ p ∈ prefs F, p.testBit x = true := fun x => by
    rw [List.all_eq_true]
    constructor
    · intro h p hp
      exact (setL_mem (hP4 p hp)).1 (List.contains_iff_mem.1 (h _ ((hq _).2 ⟨p, hp, rfl⟩)))
    · intro h q hqm
      obtain ⟨p, hp, rfl⟩ := (hq q).1 hqm
      exact List.contains_iff_mem.2 ((setL_mem (hP4 p hp)).2 (h p hp))
  have hany : ∀ x, qs.any (fun q => q.contains x) = true ↔ ∃ p ∈ prefs F, p.testBit x = true := fun x => by
    rw [List.any_eq_true]
    constructor
    · rintro ⟨q, hqm, h⟩
      obtain ⟨p, hp, rfl⟩ := (hq q).1 hqm
      exact ⟨p, hp, (setL_mem (hP4 p hp)).1 (List.contains_iff_mem.1 h)⟩
    · rintro ⟨p, hp, h⟩
      exact ⟨_, (hq _).2 ⟨p, hp, rfl⟩, List.contains_iff_mem.2 ((setL_mem (hP4 p hp)).2 h)⟩
  have hne : qs ≠ [] := by
    obtain ⟨p, hp⟩ := List.exists_mem_of_ne_nil _ (prefs_pos F)
    intro e
    have := (hq (setL p)).2 ⟨p, hp, rfl⟩
    rw [e] at this
    cases this
  refine ⟨hne, ?_, ?_, fun q hqm => ?_, fun l hl hgl hin => ?_, fun x hx => ?_, fun x h => ?_, fun x a ha hax => ?_, fun x a l hl hgl hlx hmin => ?_⟩
  · rw [setM_setL hi4, good_iff]
    exact ideal_good F
  · rw [insB_iff]
    intro x hx
    exact (setL_mem hi4).2 (ideal_top hF hg.good (fun p hp => hg.pref hF hp) x ((setL_mem hm4).1 hx))
  · obtain ⟨p, hp, rfl⟩ := (hq q).1 hqm
    rw [insB_iff]
    intro x hx
    exact (setL_mem (hP4 p hp)).2 (ideal_sub F hp x ((setL_mem hi4).1 hx))
  · rw [insB_iff]
    intro x hx
    refine (setL_mem hi4).2 (ideal_top hF (good_iff.1 hgl) (fun p hp i hi => ?_) x (setM_bit.2 hx))
    exact (setL_mem (hP4 p hp)).1 (insB_iff.1 (hin _ ((hq _).2 ⟨p, hp, rfl⟩)) i (setM_bit.1 hi))
  · unfold standI
    have e1 : (setL m).contains x = m.testBit x := by
      rw [Bool.eq_iff_iff, List.contains_iff_mem, setL_mem hm4]
    rw [e1]
    by_cases h1 : m.testBit x = true
    · rw [if_pos h1, if_pos h1]
    · rw [if_neg h1, if_neg h1]
      by_cases h2 : qs.all (fun q => q.contains x) = true
      · rw [if_pos h2]
        have h3 : cntS x (prefs F) = (prefs F).length := by
          unfold cntS
          rw [List.filter_eq_self.2 (fun p hp => (hall x).1 h2 p hp)]
        have h4 : 0 < (prefs F).length := List.length_pos_iff.2 (prefs_pos F)
        rw [if_neg (by omega), if_pos h3]
      · rw [if_neg h2]
        have h3 : cntS x (prefs F) ≠ (prefs F).length := fun e => by
          unfold cntS at e
          refine h2 ((hall x).2 (fun p hp => ?_))
          have := List.Sublist.eq_of_length_le (List.filter_sublist (p := fun m => Nat.testBit m x) (l := prefs F)) (by omega)
          rw [← this, List.mem_filter] at hp
          exact hp.2
        by_cases h4 : qs.any (fun q => q.contains x) = true
        · rw [if_pos h4]
          obtain ⟨p, hp, hpx⟩ := (hany x).1 h4
          have h5 : 0 < cntS x (prefs F) := List.length_pos_iff.2 (fun e => by
            have : p ∈ (prefs F).filter (fun m => m.testBit x) := List.mem_filter.2 ⟨hp, hpx⟩
            rw [e] at this
            cases this)
          rw [if_neg (by omega), if_neg h3]
        · rw [if_neg h4]
          have h5 : cntS x (prefs F) = 0 := by
            unfold cntS
            rw [List.length_eq_zero_iff, List.filter_eq_nil_iff]
            intro p hp hpx
            exact h4 ((hany x).2 ⟨p, hp, hpx⟩)
          rw [if_pos h5]
  · rw [Bool.eq_false_iff]
    intro h1
    obtain ⟨p, hp, hpx⟩ := (hany x).1 h1
    rw [h p (prefs_mem.1 hp).1] at hpx
    cases hpx
  · have ha4 := goods_lt hF _ (goods_mem.2 ha)
    obtain ⟨p, hp, hs⟩ := in_pref (2 ^ F.n) a (by omega) ha
    refine ⟨(hany x).2 ⟨p, hp, hs x hax⟩, ?_, List.contains_iff_mem.2 ((setL_mem ha4).2 hax)⟩
    rw [setM_setL ha4, good_iff]
    exact ha
  · have := hmin (setM l) (good_iff.1 hgl) (setM_bit.2 (List.contains_iff_mem.1 hlx))
    rwa [setL_setM hl hF.n10] at this
end Go.Proofs.Ytlbnebmdolnagaa
