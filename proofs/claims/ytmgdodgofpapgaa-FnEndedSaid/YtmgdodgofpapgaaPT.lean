/- Acts: validity, days in force, statutes of days, ls plain functions; acts in memory. Acts: days in force, the program's; validity, the reference's. Acts: validity, the reference's. Acts: validity, the program's, of valid acts; a base and acts, the reference's. A statute, the reference's test; a base and acts, its test; the statute of a day, the program's. The statute of a day, the program's, walked. A patch applied, the reference's, walked. The statute of a day, the reference's, walked. A patch drawn, with room behind it, walked: the reference's. Patches drawn that may be none, walked: the reference's. A base and acts that are being drawn: what is held. A base and acts drawn, walked: the reference's. Valid acts drawn, walked: the reference's. -/
import Derived.Test.YtmgdodgofpapgaaPF
import Derived.Maps.AppendAt
namespace Go.Proofs.Ytmgdodgofpapgaa
open Go.RowKit Go.Lib

structure Acta where
  beg : Int
  fin : Int
  pat : List Edit
def okActa (a : Acta) : Bool := inB a.beg 0 1000 && inB a.fin 0 1000 && decide (a.beg < a.fin) && okPatch a.pat
def begAt (L : List Acta) (k : Nat) : Int := ((L[k]?).map (·.beg)).getD 0
def actAt (L : List Acta) (k : Nat) : Bool := ((L[k]?).map okActa).getD true && (decide (k = 0) || decide (begAt L (k - 1) ≤ begAt L k))
def okActs (L : List Acta) : Bool := allLt L.length (actAt L) && decide (L.length ≤ 8)
theorem actAt_bad {L : List Acta} {k : Nat} {a : Acta} (h : L[k]? = some a) (ho : okActa a = false) : actAt L k = false := by
  unfold actAt
  rw [h]
  simp [ho]
theorem actAt_zero {L : List Acta} {k : Nat} {a : Acta} (hk : k = 0) (h : L[k]? = some a) (ho : okActa a = true) : actAt L k = true := by
  subst hk
  unfold actAt
  rw [h]
  simp [ho]
theorem actAt_succ {L : List Acta} {m : Nat} {d a : Acta} (hd : L[m]? = some d) (h : L[m + 1]? = some a) (ho : okActa a = true) : actAt L (m + 1) = decide (d.beg ≤ a.beg) := by
  unfold actAt begAt
  rw [h]
  simp [ho, hd]
theorem okActs_bad {L : List Acta} {k : Nat} (hk : k < L.length) (h : actAt L k = false) : okActs L = false := by
  unfold okActs
  rw [allLt_false hk h]
  rfl
theorem okActs_at {L : List Acta} (h : okActs L = true) {k : Nat} {a : Acta} (hk : L[k]? = some a) : okActa a = true := by
  unfold okActs at h
  rw [Bool.and_eq_true, allLt_true] at h
  have := h.1 k (List.getElem?_eq_some_iff.1 hk).1
  unfold actAt at this
  rw [hk, Bool.and_eq_true] at this
  exact this.1
theorem okActs_step {L : List Acta} (h : okActs L = true) {m : Nat} {d a : Acta} (hd : L[m]? = some d) (ha : L[m + 1]? = some a) : d.beg ≤ a.beg := by
  have ho := okActs_at h ha
  unfold okActs at h
  rw [Bool.and_eq_true, allLt_true] at h
  have := h.1 (m + 1) (List.getElem?_eq_some_iff.1 ha).1
  rw [actAt_succ hd ha ho] at this
  exact of_decide_eq_true this
theorem okActs_len {L : List Acta} (h : okActs L = true) : L.length ≤ 8 := by
  unfold okActs at h
  rw [Bool.and_eq_true] at h
  exact of_decide_eq_true h.2
structure ActaOk (a : Acta) : Prop where
  b0 : 0 ≤ a.beg
  b1 : a.beg ≤ 1000
  f0 : 0 ≤ a.fin
  f1 : a.fin ≤ 1000
  lt : a.beg < a.fin
  pat : okPatch a.pat = true
theorem okActa_iff {a : Acta} : okActa a = true ↔ ActaOk a := by
  unfold okActa
  rw [Bool.and_eq_true, Bool.and_eq_true, Bool.and_eq_true, inB_iff, inB_iff]
  constructor
  · rintro ⟨⟨⟨⟨a1, a2⟩, a3, a4⟩, a5⟩, a6⟩
    exact ⟨a1, a2, a3, a4, of_decide_eq_true a5, a6⟩
  · rintro ⟨a1, a2, a3, a4, a5, a6⟩
    exact ⟨⟨⟨⟨a1, a2⟩, a3, a4⟩, decide_eq_true a5⟩, a6⟩

def inF (day : Int) (a : Acta) : Bool := decide (a.beg ≤ day) && decide (day < a.fin)
/-- The first k acts' numbers that are in force on a day. -/
def forceI (L : List Acta) (day : Int) : List Int := ((List.range L.length).filter (fun k => ((L[k]?).map (inF day)).getD false)).map (fun n : Nat => (n : Int))
def forceK (L : List Acta) (day : Int) (k : Nat) : List Int := ((List.range k).filter (fun k => ((L[k]?).map (inF day)).getD false)).map (fun n : Nat => (n : Int))
theorem forceK_yes {L : List Acta} {day : Int} {k : Nat} {a : Acta} (h : L[k]? = some a) (hf : inF day a = true) : forceK L day (k + 1) = forceK L day k ++ [(k : Int)] := by
  unfold forceK
  rw [List.range_succ, List.filter_append, List.map_append]
  simp [h, hf]
theorem forceK_no {L : List Acta} {day : Int} {k : Nat} {a : Acta} (h : L[k]? = some a) (hf : inF day a = false) : forceK L day (k + 1) = forceK L day k := by
  unfold forceK
  rw [List.range_succ, List.filter_append, List.map_append]
  simp [h, hf]
theorem forceK_len (L : List Acta) (day : Int) (k : Nat) : (forceK L day k).length ≤ k := by
  unfold forceK
  rw [List.length_map]
  exact Nat.le_trans (List.length_filter_le _ _) (by simp)
theorem forceI_at {L : List Acta} {day : Int} {j : Nat} {i : Int} (h : (forceI L day)[j]? = some i) : ∃ k : Nat, i = (k : Int) ∧ k < L.length := by
  have hm := List.mem_of_getElem? h
  unfold forceI at hm
  obtain ⟨k, hk, rfl⟩ := List.mem_map.1 hm
  exact ⟨k, rfl, List.mem_range.1 (List.mem_filter.1 hk).1⟩
/-- One step to the statute of a day. -/
def stepO (L : List Acta) (o : Option (List Art)) (i : Int) : Option (List Art) := o.bind (fun S => applyO S (((L[i.toNat]?).map (·.pat)).getD []))
def onK (base : List Art) (L : List Acta) (day : Int) (k : Nat) : Option (List Art) := ((forceI L day).take k).foldl (stepO L) (some base)
/-- The statute of a day. -/
def onO (base : List Art) (L : List Acta) (day : Int) : Option (List Art) := (forceI L day).foldl (stepO L) (some base)
theorem onK_succ {base : List Art} {L : List Acta} {day : Int} {k : Nat} {i : Int} (h : (forceI L day)[k]? = some i) : onK base L day (k + 1) = stepO L (onK base L day k) i := by
  obtain ⟨h1, h2⟩ := List.getElem?_eq_some_iff.1 h
  unfold onK
  rw [List.take_succ_eq_append_getElem h1, List.foldl_append, h2]
  rfl
theorem onK_all {base : List Art} {L : List Acta} {day : Int} {k : Nat} (h : (forceI L day).length ≤ k) : onK base L day k = onO base L day := by
  unfold onK onO
  rw [List.take_of_length_le h]
theorem stepO_none (L : List Acta) (l : List Int) : l.foldl (stepO L) none = none := by
  induction l with
  | nil => rfl
  | cons a l ih => exact ih
theorem onK_none {base : List Art} {L : List Acta} {day : Int} {k : Nat} (h : onK base L day k = none) : onO base L day = none := by
  unfold onO
  rw [← List.take_append_drop k (forceI L day), List.foldl_append]
  have : ((forceI L day).take k).foldl (stepO L) (some base) = none := h
  rw [this, stepO_none]

/-- An act with the value of its patch. -/
structure VAct where
  a : Acta
  v : Value
def vCells (x : VAct) : List Value := [.int .i64 x.a.beg, .int .i64 x.a.fin, x.v]
def Acts (w : World) (B : Nat) (v : Value) (ls : List Acta) : Prop :=
  ∃ L : List VAct, L.map (·.a) = ls ∧ SlR (Pl vCells) 3 w B v L ∧ ∀ x ∈ L, Edits w B x.v x.a.pat
theorem Acts.on {w w' : World} {B B' : Nat} {v : Value} {ls : List Acta} (h : Acts w B v ls) (hb : Below B w w') (hB : B ≤ B') : Acts w' B' v ls := by
  obtain ⟨L, h1, h2, h3⟩ := h
  exact ⟨L, h1, SlR.on h2 (Pl.stays _) hb hB, fun x hx => SlR.on (h3 x hx) (Pl.stays _) hb hB⟩
theorem acts_at {w : World} {B : Nat} {v : Value} {ls : List Acta} (h : Acts w B v ls) : ∃ (A : Option Addr) (c : Nat), v = .slice A ls.length c ∧ ls.length ≤ c ∧ c ≤ maxLen ∧ (0 < ls.length → ∃ b off, A = some ⟨b, off, none⟩ ∧ b < B ∧
    ∀ (k : Nat) (a : Acta), ls[k]? = some a → ∃ pv, w.cell? ⟨b, off + k * 3, none⟩ = some (.int .i64 a.beg) ∧ w.cell? ⟨b, off + k * 3 + 1, none⟩ = some (.int .i64 a.fin) ∧ w.cell? ⟨b, off + k * 3 + 2, none⟩ = some pv ∧ Edits w B pv a.pat) := by
  obtain ⟨L, rfl, ⟨A, c, rfl, h1, h2, h3⟩, h4⟩ := h
  rw [List.length_map]
  refine ⟨A, c, rfl, h1, h2, fun h0 => ?_⟩
  obtain ⟨b, off, rfl, hb, hk⟩ := h3 h0
  refine ⟨b, off, rfl, hb, fun k a ha => ?_⟩
  rw [List.getElem?_map] at ha
  cases hx : L[k]? with
  | none => rw [hx] at ha; cases ha
  | some x =>
    rw [hx] at ha
    injection ha with ha
    subst ha
    obtain ⟨us, hl, hp, hc⟩ := hk k x hx
    have hp : us = vCells x := hp
    subst hp
    exact ⟨x.v, hc 0 _ rfl, hc 1 _ rfl, hc 2 _ rfl, h4 x (List.mem_of_getElem? hx)⟩

theorem day1_any (n : Int) (w : World) : Calls Try.prog 48 #[.int .i64 n] w (RetQ (.bool (inB n 0 999)) w) := by
  have H := Lib.hid (in1_any n 0 999 w)
  generalize inB n 0 999 = r at H ⊢
  go_enter Try.func48, Try.ntmps48
  go_wp2_with (fail)
  refine (H.out).mono ?_
  rintro e w1 ⟨rfl, m, rfl⟩
  go_wp2
  go_ret
  exact ⟨rfl, m, rfl⟩
theorem day2_any (n : Int) (w : World) : Calls Try.prog 45 #[.int .i64 n] w (RetQ (.bool (inB n 0 999)) w) := by
  have H := Lib.hid (in2_any n 0 999 w)
  generalize inB n 0 999 = r at H ⊢
  go_enter Try.func45, Try.ntmps45
  go_wp2_with (fail)
  refine (H.out).mono ?_
  rintro e w1 ⟨rfl, m, rfl⟩
  go_wp2
  go_ret
  exact ⟨rfl, m, rfl⟩

set_option maxRecDepth 100000 in
set_option maxHeartbeats 4000000 in
theorem force1_any (ls : List Acta) (day : Int) (w : World) (v : Value) (h : Acts w w.heap.size v ls) (hl : ls.length ≤ 1000) :
    Calls Try.prog 99 #[v, .int .i64 day] w (RetOwn intCells (forceI ls day) w) := by
  obtain ⟨A, c, rfl, hc, hm, hel⟩ := acts_at h
  have HEL := Lib.hid hel
  clear hel h
  obtain ⟨i0, hi, hz0, hz1, hz2⟩ := info_parts Try.infoI
  have hown0 : (w.alloc (.cells #[] 2)).ownsRow w.heap.size 2 1 (.slice (some ⟨w.heap.size, 0, none⟩) 0 0) 0 [] := by simpa using World.ownsRow_made w #[] 0 (Nat.le_refl _) (Nat.zero_le _) rfl
  have HOWN0 := Lib.hid hown0
  have HB0 : Hid (Below w.heap.size w (w.alloc (.cells #[] 2))) := Lib.hid ((Below.refl _ _).alloc (Nat.le_refl _) _)
  unfold RetOwn
  clear hown0
  go_enter Try.func99, Try.ntmps99
  go_wp2
  go_loopw [5, 6] (fun o i wr => ∃ (k : Nat), i = .int .i64 (k : Int) ∧ k ≤ ls.length ∧ wr.ownsRow w.heap.size 2 1 o (forceK ls day k).length ((forceK ls day k).flatMap intCells) ∧ o ≠ .slice none 0 0 ∧ Below w.heap.size w wr) (fun _ i _ => ls.length - (RowKit.intOf i).toNat)
  case atStart => exact ⟨0, rfl, Nat.zero_le _, HOWN0.out, by simp, HB0.out⟩
  case round =>
    obtain ⟨k, rfl, hk, hown, hnn, hb⟩ := hrel
    obtain ⟨g, cap, rfl, hdc, hcm⟩ := own_some hown hnn
    unfold maxLen at hcm
    have HOWN := Lib.hid hown
    have HB := Lib.hid hb
    have hfl := forceK_len ls day k
    clear hown hnn
    by_cases hlt : k < ls.length
    · obtain ⟨b, off, rfl, hblt, hcell⟩ := HEL.out (by omega)
      have hget : ls[k]? = some ls[k] := List.getElem?_eq_getElem hlt
      obtain ⟨pv, c0, c1, _, _⟩ := hcell k _ hget
      have x0 := (hb.cell (p := ⟨b, off + k * 3, none⟩) hblt).trans c0
      have x1 := (hb.cell (p := ⟨b, off + k * 3 + 1, none⟩) hblt).trans c1
      have HY := Lib.hid (fun h => forceK_yes (day := day) hget h)
      have HN := Lib.hid (fun h => forceK_no (day := day) hget h)
      have HIN : Hid (inF day ls[k] = (decide (ls[k].beg ≤ day) && decide (day < ls[k].fin))) := Lib.hid rfl
      generalize forceK ls day k = Z at *
      clear hcell c0 c1 hget hb
      generalize ls[k] = a at *
      by_cases h1 : a.beg ≤ day
      · by_cases h2 : day < a.fin
        · replace HY := Lib.hid (HY.out (by rw [HIN.out]; simp [h1, h2]))
          clear HN
          go_wp2_with (at_builtin; refine wpList_append_own _ rfl _ _ 28 rfl w.heap.size 2 i0 (.int .i64 0) 1 8 Try.underlying28 hi hz0 hz1 hz2 rfl (by decide) _ _ _ rfl (HOWN.out.alloc _) ⟨wr.heap.size, 0, none⟩ 1 1 (intCells (k : Int)) rfl rfl (cell_one_new _ _ _) (fun u hu => int_one' _ hu) ?c3 ?c4 (by have := HB.out.size; simp; omega) ?_)
          case c3 => unfold maxLen; omega
          case c4 => omega
          · intro v' w9 hown' hgrow hiff
            have hnn' : v' ≠ .slice none 0 0 := by simpa using hiff
            have hb9 := (HB.out.alloc HB.out.size (.cells #[.int .i64 (k : Int)] 2)).grown hgrow (by have := HB.out.size; simp; omega) (fun j hj => (HOWN.out.lt j hj).1)
            clear hgrow hiff
            go_wp2
            go_roundw
            case rel => exact ⟨k + 1, by go_num, by omega, by rw [HY.out, flat_snoc, List.length_append]; exact hown', hnn', hb9⟩
            case measure => simp [RowKit.intOf]; omega
        · replace HN := Lib.hid (HN.out (by rw [HIN.out]; simp [h2]))
          go_wp2
          go_roundw
          case rel => exact ⟨k + 1, by go_num, by omega, by rw [HN.out]; exact HOWN.out, by simp, HB.out⟩
          case measure => simp [RowKit.intOf]; omega
      · replace HN := Lib.hid (HN.out (by rw [HIN.out]; simp [h1]))
        go_wp2
        go_roundw
        case rel => exact ⟨k + 1, by go_num, by omega, by rw [HN.out]; exact HOWN.out, by simp, HB.out⟩
        case measure => simp [RowKit.intOf]; omega
    · have hge : ¬ (k : Int) < (ls.length : Int) := by omega
      have hk' : k = ls.length := by omega
      have HFIN : Hid (forceK ls day k = forceI ls day) := Lib.hid (by rw [hk']; rfl)
      have HOL : Hid (OwnL intCells (forceK ls day k) w.heap.size wr (.slice (some ⟨g, 0, none⟩) (forceK ls day k).length cap)) := Lib.hid (OwnL.of_own intCells (size := 1) (fun _ => rfl) HOWN.out)
      clear hk'
      go_wp2
      go_ret
      exact ⟨_, rfl, by rw [← HFIN.out]; exact HOL.out, HB.out⟩
end Go.Proofs.Ytmgdodgofpapgaa

namespace Go.Proofs.Ytmgdodgofpapgaa
open Go.RowKit Go.Lib

set_option maxRecDepth 100000 in
set_option maxHeartbeats 4000000 in
theorem force2_any (ls : List Acta) (day : Int) (w : World) (v : Value) (h : Acts w w.heap.size v ls) (hl : ls.length ≤ 1000) :
    Calls Try.prog 76 #[v, .int .i64 day] w (RetOwn intCells (forceI ls day) w) := by
  obtain ⟨A, c, rfl, hc, hm, hel⟩ := acts_at h
  have HEL := Lib.hid hel
  clear hel h
  obtain ⟨i0, hi, hz0, hz1, hz2⟩ := info_parts Try.infoI
  have hown0 : (w.alloc (.cells #[] 2)).ownsRow w.heap.size 2 1 (.slice (some ⟨w.heap.size, 0, none⟩) 0 0) 0 [] := by simpa using World.ownsRow_made w #[] 0 (Nat.le_refl _) (Nat.zero_le _) rfl
  have HOWN0 := Lib.hid hown0
  have HB0 : Hid (Below w.heap.size w (w.alloc (.cells #[] 2))) := Lib.hid ((Below.refl _ _).alloc (Nat.le_refl _) _)
  unfold RetOwn
  clear hown0
  go_enter Try.func76, Try.ntmps76
  go_wp2
  go_loopw [5, 11] (fun o i wr => ∃ (k : Nat), i = .int .i64 (k : Int) ∧ k ≤ ls.length ∧ wr.ownsRow w.heap.size 2 1 o (forceK ls day k).length ((forceK ls day k).flatMap intCells) ∧ o ≠ .slice none 0 0 ∧ Below w.heap.size w wr) (fun _ i _ => ls.length - (RowKit.intOf i).toNat)
  case atStart => exact ⟨0, rfl, Nat.zero_le _, HOWN0.out, by simp, HB0.out⟩
  case round =>
    obtain ⟨k, rfl, hk, hown, hnn, hb⟩ := hrel
    obtain ⟨g, cap, rfl, hdc, hcm⟩ := own_some hown hnn
    unfold maxLen at hcm
    have HOWN := Lib.hid hown
    have HB := Lib.hid hb
    have hfl := forceK_len ls day k
    clear hown hnn
    by_cases hlt : k < ls.length
    · obtain ⟨b, off, rfl, hblt, hcell⟩ := HEL.out (by omega)
      have hget : ls[k]? = some ls[k] := List.getElem?_eq_getElem hlt
      obtain ⟨pv, c0, c1, c2, hE⟩ := hcell k _ hget
      obtain ⟨pA, pc, rfl, _⟩ := hE
      have x0 := (hb.cell (p := ⟨b, off + k * 3, none⟩) hblt).trans c0
      have x1 := (hb.cell (p := ⟨b, off + k * 3 + 1, none⟩) hblt).trans c1
      have x2 := (hb.cell (p := ⟨b, off + k * 3 + 2, none⟩) hblt).trans c2
      have HY := Lib.hid (fun h => forceK_yes (day := day) hget h)
      have HN := Lib.hid (fun h => forceK_no (day := day) hget h)
      have HIN : Hid (inF day ls[k] = (decide (ls[k].beg ≤ day) && decide (day < ls[k].fin))) := Lib.hid rfl
      generalize forceK ls day k = Z at *
      clear hcell c0 c1 c2 hget hb
      generalize ls[k] = a at *
      by_cases h1 : a.beg ≤ day
      · by_cases h2 : day < a.fin
        · replace HY := Lib.hid (HY.out (by rw [HIN.out]; simp [h1, h2]))
          clear HN
          go_wp2_with (at_builtin; refine wpList_append_own _ rfl _ _ 28 rfl w.heap.size 2 i0 (.int .i64 0) 1 8 Try.underlying28 hi hz0 hz1 hz2 rfl (by decide) _ _ _ rfl ((HOWN.out.alloc _).alloc _) ⟨wr.heap.size + 1, 0, none⟩ 1 1 (intCells (k : Int)) rfl rfl (fun j u hj => new_at2 hj) (fun u hu => int_one' _ hu) ?c3 ?c4 (base_le (base_le HB.out.size)) ?_)
          case c3 => unfold maxLen; omega
          case c4 => omega
          · intro v' w9 hown' hgrow hiff
            have hnn' : v' ≠ .slice none 0 0 := by simpa using hiff
            have hb9 := ((HB.out.alloc HB.out.size (.cells #[.int .i64 a.beg,   .int .i64 a.fin, .slice pA a.pat.length pc] 49)).alloc (base_le HB.out.size) (.cells #[.int .i64 (k : Int)] 2)).grown hgrow (base_le (base_le HB.out.size)) (fun j hj => (HOWN.out.lt j hj).1)
            clear hgrow hiff
            go_wp2
            go_roundw
            case rel => exact ⟨k + 1, by go_num, by omega, by rw [HY.out, flat_snoc, List.length_append]; exact hown', hnn', hb9⟩
            case measure => simp [RowKit.intOf]; omega
        · replace HN := Lib.hid (HN.out (by rw [HIN.out]; simp [h2]))
          go_wp2
          go_roundw
          case rel => exact ⟨k + 1, by go_num, by omega, by rw [HN.out]; exact HOWN.out.alloc _, by simp, HB.out.alloc HB.out.size _⟩
          case measure => simp [RowKit.intOf]; omega
      · replace HN := Lib.hid (HN.out (by rw [HIN.out]; simp [h1]))
        go_wp2
        go_roundw
        case rel => exact ⟨k + 1, by go_num, by omega, by rw [HN.out]; exact HOWN.out.alloc _, by simp, HB.out.alloc HB.out.size _⟩
        case measure => simp [RowKit.intOf]; omega
    · have hge : ¬ (k : Int) < (ls.length : Int) := by omega
      have hk' : k = ls.length := by omega
      have HFIN : Hid (forceK ls day k = forceI ls day) := Lib.hid (by rw [hk']; rfl)
      have HOL : Hid (OwnL intCells (forceK ls day k) w.heap.size wr (.slice (some ⟨g, 0, none⟩) (forceK ls day k).length cap)) := Lib.hid (OwnL.of_own intCells (size := 1) (fun _ => rfl) HOWN.out)
      clear hk'
      go_wp2
      go_ret
      exact ⟨_, rfl, by rw [← HFIN.out]; exact HOL.out, HB.out⟩

theorem in1_val' (n a b : Int) (w : World) (r : Bool) (h : inB n a b = r) : Calls Try.prog 49 #[.int .i64 n, .int .i64 a, .int .i64 b] w (RetQ (.bool r) w) := h ▸ in1_any n a b w
theorem Edits.aft {w : World} {B : Nat} {v : Value} {es : List Edit} (h : Edits w B v es) (hB : B ≤ w.heap.size) : ∀ y : Aft w, Edits y.val y.val.heap.size v es := SlR.aft h (Pl.stays _) hB
theorem Acts.aft {w : World} {B : Nat} {v : Value} {ls : List Acta} (h : Acts w B v ls) (hB : B ≤ w.heap.size) : ∀ y : Aft w, Acts y.val y.val.heap.size v ls := fun y => h.on (y.ok.mono hB) (Nat.le_trans hB y.ok.size)
end Go.Proofs.Ytmgdodgofpapgaa

namespace Go.Proofs.Ytmgdodgofpapgaa
open Go.RowKit Go.Lib

theorem okActa_1 {a : Acta} (h : inB a.beg 0 1000 = false) : okActa a = false := by unfold okActa; rw [h]; rfl
theorem okActa_2 {a : Acta} (h : inB a.fin 0 1000 = false) : okActa a = false := by unfold okActa; rw [h]; simp
theorem okActa_3 {a : Acta} (h : ¬ a.beg < a.fin) : okActa a = false := by unfold okActa; simp [h]
theorem okActa_4 {a : Acta} (h : okPatch a.pat = false) : okActa a = false := by unfold okActa; simp [h]
theorem okActa_5 {a : Acta} (h1 : inB a.beg 0 1000 = true) (h2 : inB a.fin 0 1000 = true) (h3 : a.beg < a.fin) (h4 : okPatch a.pat = true) : okActa a = true := by unfold okActa; simp [h1, h2, h3, h4]
def ActsSz (ls : List Acta) : Prop := ∀ a ∈ ls, SizesOk a.pat
theorem ActsSz.of {ls : List Acta} (h : okActs ls = true) : ActsSz ls := fun a ha => by
  obtain ⟨k, hk⟩ := List.getElem?_of_mem ha
  exact sizesOk_of (okActa_iff.1 (okActs_at h hk)).pat

set_option maxHeartbeats 4000000 in
theorem acts1_any (ls : List Acta) (w : World) (v : Value) (h : Acts w w.heap.size v ls) (hs : ActsSz ls) :
    Calls Try.prog 73 #[v] w (RetB (.bool (okActs ls)) w) := by
  obtain ⟨A, c, rfl, hc, hm, hel⟩ := acts_at h
  unfold maxLen at hm
  have hlm : ls.length ≤ 9223372036854775807 := by omega
  have HEL := Lib.hid hel
  have HS := Lib.hid hs
  clear hel hs h
  go_enter Try.func73, Try.ntmps73
  go_wp2
  go_loopw [3, 4] (fun i _ wr => ∃ k : Nat, k ≤ ls.length ∧ i = .int .i64 (k : Int) ∧ allLt k (actAt ls) = true ∧ Below w.heap.size w wr) (fun i _ _ => ls.length - (RowKit.intOf i).toNat)
  case atStart => exact ⟨0, Nat.zero_le _, rfl, rfl, Below.refl _ _⟩
  case round =>
    obtain ⟨k, hk, rfl, hall, hb⟩ := hrel
    have HA := Lib.hid hall
    have HB := Lib.hid hb
    clear hall
    by_cases hlt : k < ls.length
    · obtain ⟨b, off, rfl, hblt, hcell⟩ := HEL.out (by omega)
      have hget : ls[k]? = some ls[k] := List.getElem?_eq_getElem hlt
      obtain ⟨pv, c0, c1, c2, hE⟩ := hcell k _ hget
      have HE := Lib.hid hE
      obtain ⟨pA, pc, rfl, _⟩ := hE
      have x0 := (hb.cell (p := ⟨b, off + k * 3, none⟩) hblt).trans c0
      have x1 := (hb.cell (p := ⟨b, off + k * 3 + 1, none⟩) hblt).trans c1
      have x2 := (hb.cell (p := ⟨b, off + k * 3 + 2, none⟩) hblt).trans c2
      have HG := Lib.hid hget
      have HC := Lib.hid hcell
      have hso := HS.out ls[k] (List.getElem_mem hlt)
      clear hget hcell c0 c1 c2 hb
      generalize ls[k] = a at *
      cases ho1 : inB a.beg 0 1000 with
      | false =>
        have HBAD := Lib.hid (okActs_bad hlt (actAt_bad HG.out (okActa_1 ho1)))
        go_upto_region 5 with (fail)
        obtain ⟨W, hW⟩ : ∃ W : World, W = wr.alloc (.cells #[.int .i64 a.beg, .int .i64 a.fin, .slice pA a.pat.length pc] 49) := ⟨_, rfl⟩
        change Code.wp _ _ _ _ (wr.alloc (.cells #[.int .i64 a.beg, .int .i64 a.fin, .slice pA a.pat.length pc] 49))
        have bW : Below w.heap.size w W := by rw [hW]; exact HB.out.alloc HB.out.size _
        have y0 : W.cell? ⟨wr.heap.size, 0, none⟩ = some (.int .i64 a.beg) := by rw [hW]; simp [go_sem]
        have y1 : W.cell? ⟨wr.heap.size, 1, none⟩ = some (.int .i64 a.fin) := by rw [hW]; simp [go_sem]
        have y2 : W.cell? ⟨wr.heap.size, 2, none⟩ = some (.slice pA a.pat.length pc) := by rw [hW]; simp [go_sem]
        have hEW : ∀ y : Aft W, Edits y.val y.val.heap.size (.slice pA a.pat.length pc) a.pat := Edits.aft (SlR.on HE.out (Pl.stays _) bW bW.size) (Nat.le_refl _)
        have HEW := Lib.hid hEW
        rw [← hW]
        clear hW x0 x1 x2 hEW
        have z0 := fun x : Aft W => x.cell y0
        have z1 := fun x : Aft W => x.cell y1
        have z2 := fun x : Aft W => x.cell y2
        clear y0 y1 y2
        refine wp_region_aft (by kernel_rfl) (by kernel_rfl) ?_
        repeat (go_big_quiet_step ((first | (go_at_call 49; exact aft_q (in1_val _ _ _ _ _ (by assumption))) | (go_at_call 96; exact aft_b (patch1_val _ _ _ _ (HEW.out _) hso (by assumption))))))
        refine wpQuiet_nil ?_
        rintro _ ⟨y, rfl⟩
        have bY := bW.trans (y.ok.mono bW.size)
        go_wp2
        go_ret
        exact ⟨by rw [HBAD.out]; rfl, bY⟩
      | true =>
        cases ho2 : inB a.fin 0 1000 with
        | false =>
          have HBAD := Lib.hid (okActs_bad hlt (actAt_bad HG.out (okActa_2 ho2)))
          go_upto_region 5 with (fail)
          obtain ⟨W, hW⟩ : ∃ W : World, W = wr.alloc (.cells #[.int .i64 a.beg, .int .i64 a.fin, .slice pA a.pat.length pc] 49) := ⟨_, rfl⟩
          change Code.wp _ _ _ _ (wr.alloc (.cells #[.int .i64 a.beg, .int .i64 a.fin, .slice pA a.pat.length pc] 49))
          have bW : Below w.heap.size w W := by rw [hW]; exact HB.out.alloc HB.out.size _
          have y0 : W.cell? ⟨wr.heap.size, 0, none⟩ = some (.int .i64 a.beg) := by rw [hW]; simp [go_sem]
          have y1 : W.cell? ⟨wr.heap.size, 1, none⟩ = some (.int .i64 a.fin) := by rw [hW]; simp [go_sem]
          have y2 : W.cell? ⟨wr.heap.size, 2, none⟩ = some (.slice pA a.pat.length pc) := by rw [hW]; simp [go_sem]
          have hEW : ∀ y : Aft W, Edits y.val y.val.heap.size (.slice pA a.pat.length pc) a.pat := Edits.aft (SlR.on HE.out (Pl.stays _) bW bW.size) (Nat.le_refl _)
          have HEW := Lib.hid hEW
          rw [← hW]
          clear hW x0 x1 x2 hEW
          have z0 := fun x : Aft W => x.cell y0
          have z1 := fun x : Aft W => x.cell y1
          have z2 := fun x : Aft W => x.cell y2
          clear y0 y1 y2
          refine wp_region_aft (by kernel_rfl) (by kernel_rfl) ?_
          repeat (go_big_quiet_step ((first | (go_at_call 49; exact aft_q (in1_val _ _ _ _ _ (by assumption))) | (go_at_call 96; exact aft_b (patch1_val _ _ _ _ (HEW.out _) hso (by assumption))))))
          refine wpQuiet_nil ?_
          rintro _ ⟨y, rfl⟩
          have bY := bW.trans (y.ok.mono bW.size)
          go_wp2
          go_ret
          exact ⟨by rw [HBAD.out]; rfl, bY⟩
        | true =>
          by_cases ho3 : a.beg < a.fin
          · have ho3' : ¬ a.fin ≤ a.beg := by omega
            cases ho4 : okPatch a.pat with
            | false =>
              have HBAD := Lib.hid (okActs_bad hlt (actAt_bad HG.out (okActa_4 ho4)))
              go_upto_region 5 with (fail)
              obtain ⟨W, hW⟩ : ∃ W : World, W = wr.alloc (.cells #[.int .i64 a.beg, .int .i64 a.fin, .slice pA a.pat.length pc] 49) := ⟨_, rfl⟩
              change Code.wp _ _ _ _ (wr.alloc (.cells #[.int .i64 a.beg, .int .i64 a.fin, .slice pA a.pat.length pc] 49))
              have bW : Below w.heap.size w W := by rw [hW]; exact HB.out.alloc HB.out.size _
              have y0 : W.cell? ⟨wr.heap.size, 0, none⟩ = some (.int .i64 a.beg) := by rw [hW]; simp [go_sem]
              have y1 : W.cell? ⟨wr.heap.size, 1, none⟩ = some (.int .i64 a.fin) := by rw [hW]; simp [go_sem]
              have y2 : W.cell? ⟨wr.heap.size, 2, none⟩ = some (.slice pA a.pat.length pc) := by rw [hW]; simp [go_sem]
              have hEW : ∀ y : Aft W, Edits y.val y.val.heap.size (.slice pA a.pat.length pc) a.pat := Edits.aft (SlR.on HE.out (Pl.stays _) bW bW.size) (Nat.le_refl _)
              have HEW := Lib.hid hEW
              rw [← hW]
              clear hW x0 x1 x2 hEW
              have z0 := fun x : Aft W => x.cell y0
              have z1 := fun x : Aft W => x.cell y1
              have z2 := fun x : Aft W => x.cell y2
              clear y0 y1 y2
              refine wp_region_aft (by kernel_rfl) (by kernel_rfl) ?_
              repeat (go_big_quiet_step ((first | (go_at_call 49; exact aft_q (in1_val _ _ _ _ _ (by assumption))) | (go_at_call 96; exact aft_b (patch1_val _ _ _ _ (HEW.out _) hso (by assumption))))))
              refine wpQuiet_nil ?_
              rintro _ ⟨y, rfl⟩
              have bY := bW.trans (y.ok.mono bW.size)
              go_wp2
              go_ret
              exact ⟨by rw [HBAD.out]; rfl, bY⟩
            | true =>
              have HO := Lib.hid (okActa_5 ho1 ho2 ho3 ho4)
              have HSU := allLt_succ k (actAt ls)
              rw [HA.out, Bool.true_and] at HSU
              have HSU := Lib.hid HSU
              by_cases hk0 : k = 0
              · have HN : Hid (allLt (k + 1) (actAt ls) = true) := HSU.out.trans (actAt_zero hk0 HG.out HO.out)
                have hk1 : decide ((0 : Int) < (k : Int)) = false := by simp; omega
                have hk2 : decide (0 < k) = false := by simp; omega
                clear hk0
                go_upto_region 5 with (fail)
                obtain ⟨W, hW⟩ : ∃ W : World, W = wr.alloc (.cells #[.int .i64 a.beg, .int .i64 a.fin, .slice pA a.pat.length pc] 49) := ⟨_, rfl⟩
                change Code.wp _ _ _ _ (wr.alloc (.cells #[.int .i64 a.beg, .int .i64 a.fin, .slice pA a.pat.length pc] 49))
                have bW : Below w.heap.size w W := by rw [hW]; exact HB.out.alloc HB.out.size _
                have y0 : W.cell? ⟨wr.heap.size, 0, none⟩ = some (.int .i64 a.beg) := by rw [hW]; simp [go_sem]
                have y1 : W.cell? ⟨wr.heap.size, 1, none⟩ = some (.int .i64 a.fin) := by rw [hW]; simp [go_sem]
                have y2 : W.cell? ⟨wr.heap.size, 2, none⟩ = some (.slice pA a.pat.length pc) := by rw [hW]; simp [go_sem]
                have hEW : ∀ y : Aft W, Edits y.val y.val.heap.size (.slice pA a.pat.length pc) a.pat := Edits.aft (SlR.on HE.out (Pl.stays _) bW bW.size) (Nat.le_refl _)
                have HEW := Lib.hid hEW
                rw [← hW]
                clear hW x0 x1 x2 hEW
                have z0 := fun x : Aft W => x.cell y0
                have z1 := fun x : Aft W => x.cell y1
                have z2 := fun x : Aft W => x.cell y2
                clear y0 y1 y2
                refine wp_region_aft (by kernel_rfl) (by kernel_rfl) ?_
                repeat (go_big_quiet_step ((first | (go_at_call 49; exact aft_q (in1_val _ _ _ _ _ (by assumption))) | (go_at_call 96; exact aft_b (patch1_val _ _ _ _ (HEW.out _) hso (by assumption))))))
                refine wpQuiet_nil ?_
                rintro _ ⟨y, rfl⟩
                have bY := bW.trans (y.ok.mono bW.size)
                go_wp2
                go_roundw
                case rel => exact ⟨k + 1, by omega, by go_num, HN.out, bY⟩
                case measure => simp [RowKit.intOf]; omega
              · obtain ⟨m, rfl⟩ : ∃ m, k = m + 1 := ⟨k - 1, by omega⟩
                have hd : ls[m]? = some (ls[m]'(by omega)) := List.getElem?_eq_getElem (by omega)
                obtain ⟨_, d0, _⟩ := HC.out _ _ hd
                generalize (ls[m]'(by omega)) = d at *
                have HP := Lib.hid (actAt_succ hd HG.out HO.out)
                clear hd hk0
                by_cases hid : d.beg ≤ a.beg
                · have HN : Hid (allLt (m + 1 + 1) (actAt ls) = true) := HSU.out.trans (HP.out.trans (decide_eq_true hid))
                  have hid2 : ¬ (a.beg < d.beg) := by omega
                  go_upto_region 5 with (fail)
                  obtain ⟨W, hW⟩ : ∃ W : World, W = wr.alloc (.cells #[.int .i64 a.beg, .int .i64 a.fin, .slice pA a.pat.length pc] 49) := ⟨_, rfl⟩
                  change Code.wp _ _ _ _ (wr.alloc (.cells #[.int .i64 a.beg, .int .i64 a.fin, .slice pA a.pat.length pc] 49))
                  have bW : Below w.heap.size w W := by rw [hW]; exact HB.out.alloc HB.out.size _
                  have y0 : W.cell? ⟨wr.heap.size, 0, none⟩ = some (.int .i64 a.beg) := by rw [hW]; simp [go_sem]
                  have y1 : W.cell? ⟨wr.heap.size, 1, none⟩ = some (.int .i64 a.fin) := by rw [hW]; simp [go_sem]
                  have y2 : W.cell? ⟨wr.heap.size, 2, none⟩ = some (.slice pA a.pat.length pc) := by rw [hW]; simp [go_sem]
                  have hEW : ∀ y : Aft W, Edits y.val y.val.heap.size (.slice pA a.pat.length pc) a.pat := Edits.aft (SlR.on HE.out (Pl.stays _) bW bW.size) (Nat.le_refl _)
                  have HEW := Lib.hid hEW
                  rw [← hW]
                  clear hW x0 x1 x2 hEW
                  have z0 := fun x : Aft W => x.cell y0
                  have z1 := fun x : Aft W => x.cell y1
                  have z2 := fun x : Aft W => x.cell y2
                  clear y0 y1 y2
                  have y4 : W.cell? ⟨b, off + m * 3, none⟩ = some (.int .i64 d.beg) := (bW.cell (p := ⟨b, off + m * 3, none⟩) hblt).trans d0
                  have z4 := fun x : Aft W => x.cell y4
                  clear d0 y4
                  refine wp_region_aft (by kernel_rfl) (by kernel_rfl) ?_
                  repeat (go_big_quiet_step ((first | (go_at_call 49; exact aft_q (in1_val _ _ _ _ _ (by assumption))) | (go_at_call 96; exact aft_b (patch1_val _ _ _ _ (HEW.out _) hso (by assumption))))))
                  refine wpQuiet_nil ?_
                  rintro _ ⟨y, rfl⟩
                  have bY := bW.trans (y.ok.mono bW.size)
                  go_wp2
                  go_roundw
                  case rel => exact ⟨(m + 1) + 1, by omega, by go_num, HN.out, bY⟩
                  case measure => simp [RowKit.intOf]; omega
                · have HBAD := Lib.hid (okActs_bad hlt (HP.out.trans (decide_eq_false hid)))
                  have hid2 : a.beg < d.beg := by omega
                  go_upto_region 5 with (fail)
                  obtain ⟨W, hW⟩ : ∃ W : World, W = wr.alloc (.cells #[.int .i64 a.beg, .int .i64 a.fin, .slice pA a.pat.length pc] 49) := ⟨_, rfl⟩
                  change Code.wp _ _ _ _ (wr.alloc (.cells #[.int .i64 a.beg, .int .i64 a.fin, .slice pA a.pat.length pc] 49))
                  have bW : Below w.heap.size w W := by rw [hW]; exact HB.out.alloc HB.out.size _
                  have y0 : W.cell? ⟨wr.heap.size, 0, none⟩ = some (.int .i64 a.beg) := by rw [hW]; simp [go_sem]
                  have y1 : W.cell? ⟨wr.heap.size, 1, none⟩ = some (.int .i64 a.fin) := by rw [hW]; simp [go_sem]
                  have y2 : W.cell? ⟨wr.heap.size, 2, none⟩ = some (.slice pA a.pat.length pc) := by rw [hW]; simp [go_sem]
                  have hEW : ∀ y : Aft W, Edits y.val y.val.heap.size (.slice pA a.pat.length pc) a.pat := Edits.aft (SlR.on HE.out (Pl.stays _) bW bW.size) (Nat.le_refl _)
                  have HEW := Lib.hid hEW
                  rw [← hW]
                  clear hW x0 x1 x2 hEW
                  have z0 := fun x : Aft W => x.cell y0
                  have z1 := fun x : Aft W => x.cell y1
                  have z2 := fun x : Aft W => x.cell y2
                  clear y0 y1 y2
                  have y4 : W.cell? ⟨b, off + m * 3, none⟩ = some (.int .i64 d.beg) := (bW.cell (p := ⟨b, off + m * 3, none⟩) hblt).trans d0
                  have z4 := fun x : Aft W => x.cell y4
                  clear d0 y4
                  refine wp_region_aft (by kernel_rfl) (by kernel_rfl) ?_
                  repeat (go_big_quiet_step ((first | (go_at_call 49; exact aft_q (in1_val _ _ _ _ _ (by assumption))) | (go_at_call 96; exact aft_b (patch1_val _ _ _ _ (HEW.out _) hso (by assumption))))))
                  refine wpQuiet_nil ?_
                  rintro _ ⟨y, rfl⟩
                  have bY := bW.trans (y.ok.mono bW.size)
                  go_wp2
                  go_ret
                  exact ⟨by rw [HBAD.out]; rfl, bY⟩
          · have ho3' : a.fin ≤ a.beg := by omega
            have HBAD := Lib.hid (okActs_bad hlt (actAt_bad HG.out (okActa_3 ho3)))
            go_upto_region 5 with (fail)
            obtain ⟨W, hW⟩ : ∃ W : World, W = wr.alloc (.cells #[.int .i64 a.beg, .int .i64 a.fin, .slice pA a.pat.length pc] 49) := ⟨_, rfl⟩
            change Code.wp _ _ _ _ (wr.alloc (.cells #[.int .i64 a.beg, .int .i64 a.fin, .slice pA a.pat.length pc] 49))
            have bW : Below w.heap.size w W := by rw [hW]; exact HB.out.alloc HB.out.size _
            have y0 : W.cell? ⟨wr.heap.size, 0, none⟩ = some (.int .i64 a.beg) := by rw [hW]; simp [go_sem]
            have y1 : W.cell? ⟨wr.heap.size, 1, none⟩ = some (.int .i64 a.fin) := by rw [hW]; simp [go_sem]
            have y2 : W.cell? ⟨wr.heap.size, 2, none⟩ = some (.slice pA a.pat.length pc) := by rw [hW]; simp [go_sem]
            have hEW : ∀ y : Aft W, Edits y.val y.val.heap.size (.slice pA a.pat.length pc) a.pat := Edits.aft (SlR.on HE.out (Pl.stays _) bW bW.size) (Nat.le_refl _)
            have HEW := Lib.hid hEW
            rw [← hW]
            clear hW x0 x1 x2 hEW
            have z0 := fun x : Aft W => x.cell y0
            have z1 := fun x : Aft W => x.cell y1
            have z2 := fun x : Aft W => x.cell y2
            clear y0 y1 y2
            refine wp_region_aft (by kernel_rfl) (by kernel_rfl) ?_
            repeat (go_big_quiet_step ((first | (go_at_call 49; exact aft_q (in1_val _ _ _ _ _ (by assumption))) | (go_at_call 96; exact aft_b (patch1_val _ _ _ _ (HEW.out _) hso (by assumption))))))
            refine wpQuiet_nil ?_
            rintro _ ⟨y, rfl⟩
            have bY := bW.trans (y.ok.mono bW.size)
            go_wp2
            go_ret
            exact ⟨by rw [HBAD.out]; rfl, bY⟩
    · have hk' : k = ls.length := by omega
      have hP : okActs ls = decide (ls.length ≤ 8) := by
        unfold okActs
        rw [← hk', HA.out, Bool.true_and]
      have HP := Lib.hid hP
      have hge : ¬ (k : Int) < (ls.length : Int) := by omega
      clear hP hk' hlt
      by_cases h16 : ls.length ≤ 8
      · have e16 : decide ((ls.length : Int) ≤ 8) = true := by simp; omega
        have H16 := Lib.hid h16
        clear h16
        go_wp2
        go_ret
        exact ⟨by rw [HP.out]; simp [H16.out], hb⟩
      · have e16 : decide ((ls.length : Int) ≤ 8) = false := by simp; omega
        have H16 := Lib.hid h16
        clear h16
        go_wp2
        go_ret
        exact ⟨by rw [HP.out]; simp [H16.out], hb⟩
end Go.Proofs.Ytmgdodgofpapgaa

namespace Go.Proofs.Ytmgdodgofpapgaa
open Go.RowKit Go.Lib

theorem patch2_val (es : List Edit) (w : World) (v : Value) (r : Bool) (h : Edits w w.heap.size v es) (hs : SizesOk es) (hr : okPatch es = r) :
    Calls Try.prog 29 #[v] w (RetB (.bool r) w) := hr ▸ patch2_any es w v h hs
set_option maxHeartbeats 4000000 in
theorem acts2_any (ls : List Acta) (w : World) (v : Value) (h : Acts w w.heap.size v ls) (ho : okActs ls = true) :
    Calls Try.prog 40 #[v] w (RetB (.bool true) w) := by
  obtain ⟨A, c, rfl, hc, hm, hel⟩ := acts_at h
  unfold maxLen at hm
  have hlm : ls.length ≤ 9223372036854775807 := by omega
  have HEL := Lib.hid hel
  have HS := Lib.hid (ActsSz.of ho)
  have HO := Lib.hid ho
  have h8 := okActs_len ho
  clear hel h ho
  go_enter Try.func40, Try.ntmps40
  go_wp2
  go_loopw [3, 4, 7] (fun _ _ i wr => ∃ k : Nat, k ≤ ls.length ∧ i = .int .i64 (k : Int) ∧ Below w.heap.size w wr) (fun _ _ i _ => ls.length - (RowKit.intOf i).toNat)
  case atStart => exact ⟨0, Nat.zero_le _, rfl, Below.refl _ _⟩
  case round =>
    obtain ⟨k, hk, rfl, hb⟩ := hrel
    have HB := Lib.hid hb
    by_cases hlt : k < ls.length
    · obtain ⟨b, off, rfl, hblt, hcell⟩ := HEL.out (by omega)
      have hget : ls[k]? = some ls[k] := List.getElem?_eq_getElem hlt
      obtain ⟨pv, c0, c1, c2, hE⟩ := hcell k _ hget
      have HE := Lib.hid hE
      obtain ⟨pA, pc, rfl, _⟩ := hE
      have x0 := (hb.cell (p := ⟨b, off + k * 3, none⟩) hblt).trans c0
      have x1 := (hb.cell (p := ⟨b, off + k * 3 + 1, none⟩) hblt).trans c1
      have x2 := (hb.cell (p := ⟨b, off + k * 3 + 2, none⟩) hblt).trans c2
      have HC := Lib.hid hcell
      have hso := HS.out ls[k] (List.getElem_mem hlt)
      have hok := okActa_iff.1 (okActs_at HO.out hget)
      have ho1 : inB ls[k].beg 0 1000 = true := inB_true hok.b0 hok.b1
      have ho2 : inB ls[k].fin 0 1000 = true := inB_true hok.f0 hok.f1
      have ho3 := hok.lt
      have ho4 := hok.pat
      have HST : Hid (∀ m, k = m + 1 → ∀ d, ls[m]? = some d → d.beg ≤ ls[k].beg) := Lib.hid (fun m e d hd => okActs_step HO.out hd (by rw [← e]; exact hget))
      clear hget hcell c0 c1 c2 hb hok
      generalize ls[k] = a at *
      have ho3' : ¬ a.fin ≤ a.beg := by omega
      by_cases hk0 : k = 0
      · have hk1 : decide ((0 : Int) < (k : Int)) = false := by simp; omega
        have hk2 : decide (0 < k) = false := by simp; omega
        clear hk0
        go_upto_region 4 with (fail)
        obtain ⟨W, hW⟩ : ∃ W : World, W = wr.alloc (.cells #[.int .i64 a.beg, .int .i64 a.fin, .slice pA a.pat.length pc] 49) := ⟨_, rfl⟩
        change Code.wp _ _ _ _ (wr.alloc (.cells #[.int .i64 a.beg, .int .i64 a.fin, .slice pA a.pat.length pc] 49))
        have bW : Below w.heap.size w W := by rw [hW]; exact HB.out.alloc HB.out.size _
        have y0 : W.cell? ⟨wr.heap.size, 0, none⟩ = some (.int .i64 a.beg) := by rw [hW]; simp [go_sem]
        have y1 : W.cell? ⟨wr.heap.size, 1, none⟩ = some (.int .i64 a.fin) := by rw [hW]; simp [go_sem]
        have y2 : W.cell? ⟨wr.heap.size, 2, none⟩ = some (.slice pA a.pat.length pc) := by rw [hW]; simp [go_sem]
        have hEW : ∀ y : Aft W, Edits y.val y.val.heap.size (.slice pA a.pat.length pc) a.pat := Edits.aft (SlR.on HE.out (Pl.stays _) bW bW.size) (Nat.le_refl _)
        have HEW := Lib.hid hEW
        rw [← hW]
        clear hW x0 x1 x2 hEW
        have z0 := fun x : Aft W => x.cell y0
        have z1 := fun x : Aft W => x.cell y1
        have z2 := fun x : Aft W => x.cell y2
        clear y0 y1 y2
        refine wp_region_aft (by kernel_rfl) (by kernel_rfl) ?_
        repeat (go_big_quiet_step ((first | (go_at_call 46; exact aft_q (in2_val _ _ _ _ _ (by assumption))) | (go_at_call 29; exact aft_b (patch2_val _ _ _ _ (HEW.out _) hso (by assumption))))))
        refine wpQuiet_nil ?_
        rintro _ ⟨y, rfl⟩
        have bY := bW.trans (y.ok.mono bW.size)
        go_wp2
        go_roundw
        case rel => exact ⟨k + 1, by omega, by go_num, bY⟩
        case measure => simp [RowKit.intOf]; omega
      · obtain ⟨m, rfl⟩ : ∃ m, k = m + 1 := ⟨k - 1, by omega⟩
        have hd : ls[m]? = some (ls[m]'(by omega)) := List.getElem?_eq_getElem (by omega)
        obtain ⟨_, d0, _⟩ := HC.out _ _ hd
        have hid := HST.out m rfl _ hd
        generalize (ls[m]'(by omega)) = d at *
        clear hd hk0
        have hid2 : ¬ (a.beg < d.beg) := by omega
        go_upto_region 4 with (fail)
        obtain ⟨W, hW⟩ : ∃ W : World, W = wr.alloc (.cells #[.int .i64 a.beg, .int .i64 a.fin, .slice pA a.pat.length pc] 49) := ⟨_, rfl⟩
        change Code.wp _ _ _ _ (wr.alloc (.cells #[.int .i64 a.beg, .int .i64 a.fin, .slice pA a.pat.length pc] 49))
        have bW : Below w.heap.size w W := by rw [hW]; exact HB.out.alloc HB.out.size _
        have y0 : W.cell? ⟨wr.heap.size, 0, none⟩ = some (.int .i64 a.beg) := by rw [hW]; simp [go_sem]
        have y1 : W.cell? ⟨wr.heap.size, 1, none⟩ = some (.int .i64 a.fin) := by rw [hW]; simp [go_sem]
        have y2 : W.cell? ⟨wr.heap.size, 2, none⟩ = some (.slice pA a.pat.length pc) := by rw [hW]; simp [go_sem]
        have hEW : ∀ y : Aft W, Edits y.val y.val.heap.size (.slice pA a.pat.length pc) a.pat := Edits.aft (SlR.on HE.out (Pl.stays _) bW bW.size) (Nat.le_refl _)
        have HEW := Lib.hid hEW
        rw [← hW]
        clear hW x0 x1 x2 hEW
        have z0 := fun x : Aft W => x.cell y0
        have z1 := fun x : Aft W => x.cell y1
        have z2 := fun x : Aft W => x.cell y2
        clear y0 y1 y2
        have y4 : W.cell? ⟨b, off + m * 3, none⟩ = some (.int .i64 d.beg) := (bW.cell (p := ⟨b, off + m * 3, none⟩) hblt).trans d0
        have z4 := fun x : Aft W => x.cell y4
        clear d0 y4
        refine wp_region_aft (by kernel_rfl) (by kernel_rfl) ?_
        repeat (go_big_quiet_step ((first | (go_at_call 46; exact aft_q (in2_val _ _ _ _ _ (by assumption))) | (go_at_call 29; exact aft_b (patch2_val _ _ _ _ (HEW.out _) hso (by assumption))))))
        refine wpQuiet_nil ?_
        rintro _ ⟨y, rfl⟩
        have bY := bW.trans (y.ok.mono bW.size)
        go_wp2
        go_roundw
        case rel => exact ⟨(m + 1) + 1, by omega, by go_num, bY⟩
        case measure => simp [RowKit.intOf]; omega
    · have hk' : k = ls.length := by omega
      have hge : ¬ (k : Int) < (ls.length : Int) := by omega
      have e16 : decide ((ls.length : Int) ≤ 8) = true := by simp; omega
      clear hk' hlt
      go_wp2
      go_ret
      exact ⟨by simp, hb⟩
end Go.Proofs.Ytmgdodgofpapgaa

namespace Go.Proofs.Ytmgdodgofpapgaa
open Go.RowKit Go.Lib

set_option maxHeartbeats 4000000 in
theorem stat1_ok (S : List Art) (w : World) (v : Value) (h : Arts w w.heap.size v S) (ho : okStat S = true) :
    Calls Try.prog 72 #[v] w (RetB (.bool true) w) := by
  obtain ⟨A, c, rfl, hc, hm, hel⟩ := h
  unfold maxLen at hm
  have hlm : S.length ≤ 9223372036854775807 := by omega
  have HEL := Lib.hid hel
  have HO := Lib.hid ho
  have h8 := okStat_len ho
  clear hel ho
  refine calls_aft fun x0 => ?_
  go_enter Try.func72, Try.ntmps72
  go_wp2
  go_loopw [3] (fun i wr => ∃ (k : Nat) (x : Aft w), k ≤ S.length ∧ i = .int .i64 (k : Int) ∧ wr = x.val) (fun i _ => S.length - (RowKit.intOf i).toNat)
  case atStart => exact ⟨0, x0, Nat.zero_le _, rfl, rfl⟩
  case round =>
    obtain ⟨k, x, hk, rfl, rfl⟩ := hrel
    by_cases hlt : k < S.length
    · obtain ⟨b, off, rfl, hblt, hcell⟩ := HEL.out (by omega)
      have hget : S[k]? = some S[k] := List.getElem?_eq_getElem hlt
      obtain ⟨c0, c1⟩ := arts_at hcell hget
      obtain ⟨h1, h2, h3, h4⟩ := okArt_facts (okStat_at HO.out hget)
      have ho1 : inB S[k].id 1 99 = true := inB_true h1 h2
      have hsz : S[k].text.size ≤ maxLen := by rw [ByteArray.toList_eq] at h4; have e : S[k].text.data.toList.length = S[k].text.size := rfl; unfold maxLen; omega
      have z0 := fun y : Aft w => y.cell c0
      have z1 := fun y : Aft w => y.cell c1
      have HR : Hid (∀ m, k = m + 1 → ∀ d, S[m]? = some d → d.id < S[k].id) := Lib.hid (fun m e d hd => by
        subst e
        obtain ⟨q1, q2⟩ := List.getElem?_eq_some_iff.1 hd
        have := (List.pairwise_iff_getElem.1 ((okStat_iff S).1 HO.out).2.1) m (m + 1) q1 hlt (by omega)
        rw [q2] at this
        exact this)
      have HC := Lib.hid hcell
      clear hget hcell c0 c1 h1 h2 h4
      generalize S[k] = a at *
      by_cases hk0 : k = 0
      · have hk1 : decide ((0 : Int) < (k : Int)) = false := by simp; omega
        have hk2 : decide (0 < k) = false := by simp; omega
        clear hk0
        go_wp2_with (fail)
        refine wp_region_at (by kernel_rfl) (by kernel_rfl) ?_
        repeat (go_big_quiet_step ((first | (go_at_call 49; exact aft_q (in1_val _ _ _ _ _ (by assumption))) | (go_at_call 95; exact aft_q (sent1_val _ _ _ hsz (by assumption))))))
        refine wpQuiet_nil ?_
        rintro _ ⟨y, rfl⟩
        go_wp2
        go_roundw
        case rel => exact ⟨k + 1, y, by omega, by go_num, rfl⟩
        case measure => simp [RowKit.intOf]; omega
      · obtain ⟨m, rfl⟩ : ∃ m, k = m + 1 := ⟨k - 1, by omega⟩
        have hd : S[m]? = some (S[m]'(by omega)) := List.getElem?_eq_getElem (by omega)
        obtain ⟨d0, _⟩ := arts_at HC.out hd
        have hid := HR.out m rfl _ hd
        generalize (S[m]'(by omega)) = d at *
        have z4 := fun y : Aft w => y.cell d0
        have hid2 : ¬ (a.id ≤ d.id) := by omega
        clear hd hk0 d0
        go_wp2_with (fail)
        refine wp_region_at (by kernel_rfl) (by kernel_rfl) ?_
        repeat (go_big_quiet_step ((first | (go_at_call 49; exact aft_q (in1_val _ _ _ _ _ (by assumption))) | (go_at_call 95; exact aft_q (sent1_val _ _ _ hsz (by assumption))))))
        refine wpQuiet_nil ?_
        rintro _ ⟨y, rfl⟩
        go_wp2
        go_roundw
        case rel => exact ⟨(m + 1) + 1, y, by omega, by go_num, rfl⟩
        case measure => simp [RowKit.intOf]; omega
    · have hge : ¬ (k : Int) < (S.length : Int) := by omega
      have e16 : decide ((S.length : Int) ≤ 8) = true := by simp; omega
      clear hlt
      go_wp2
      go_ret
      exact ⟨by simp, x.ok⟩

theorem both1_any (S : List Art) (ls : List Acta) (w : World) (vs va : Value) (hS : Arts w w.heap.size vs S) (hA : Acts w w.heap.size va ls) (hs : ActsSz ls) (ho : okStat S = true) :
    Calls Try.prog 39 #[vs, va] w (RetB (.bool (okActs ls)) w) := by
  have H1 := Lib.hid (stat1_ok S w vs hS ho)
  have H2 := Lib.hid (fun w' (hb : Below w.heap.size w w') => acts1_any ls w' va (hA.on hb hb.size) hs)
  obtain ⟨A, c, rfl, _⟩ := hS
  obtain ⟨A2, c2, rfl, _⟩ := acts_at hA
  clear hA
  generalize okActs ls = r2 at H2 ⊢
  go_enter Try.func39, Try.ntmps39
  go_wp2_with (fail)
  refine (H1.out).mono ?_
  rintro e w1 ⟨rfl, hb1⟩
  replace H2 := Lib.hid (H2.out w1 hb1)
  have HB := Lib.hid hb1
  clear hb1
  go_wp2_with (fail)
  refine (H2.out).mono ?_
  rintro e w2 ⟨rfl, hb2⟩
  go_wp2
  go_ret
  exact ⟨by simp, HB.out.trans (hb2.mono HB.out.size)⟩

theorem stepO_at {ls : List Acta} {j : Nat} {a : Acta} (R : List Art) (h : ls[j]? = some a) : stepO ls (some R) (j : Int) = applyO R a.pat := by simp [stepO, h]
def OnPost (S : List Art) (ls : List Acta) (day : Int) (w : World) (e : Ending) (w' : World) : Prop :=
  ∃ v, e = .returned (.tuple #[v, .bool (onO S ls day).isSome]) ∧ (∀ R, onO S ls day = some R → OwnL artCells R w.heap.size w' v ∧ okStat R = true) ∧ (∃ A n c, v = .slice A n c) ∧ Below w.heap.size w w'
end Go.Proofs.Ytmgdodgofpapgaa

namespace Go.Proofs.Ytmgdodgofpapgaa
open Go.RowKit Go.Lib

theorem apply_step {R T : List Art} {P : List Edit} (hR : okStat R = true) (hP : okPatch P = true) (h : applyO R P = some T) : okStat T = true := (applyO_ok (GoodA.of hR) hP h).1
set_option maxRecDepth 100000 in
set_option maxHeartbeats 4000000 in
theorem textOn2_any (S : List Art) (ls : List Acta) (day : Int) (w : World) (vs va : Value) (hS : Arts w w.heap.size vs S) (hA : Acts w w.heap.size va ls) (hok : okStat S = true) (hp : okActs ls = true) :
    Calls Try.prog 43 #[vs, va, .int .i64 day] w (OnPost S ls day w) := by
  have hl8 := okActs_len hp
  have hS8 := okStat_len hok
  have bW := (Below.refl w.heap.size w).alloc (Nat.le_refl _) (.cells #[] 70)
  have HS0 := Lib.hid (SlR.on hS (Pl.stays _) bW bW.size)
  have HA := Lib.hid (fun w' (hb : Below w.heap.size w w') => hA.on hb hb.size)
  have HOK := Lib.hid hok
  have HP := Lib.hid hp
  have HB0 := Lib.hid bW
  have hown0 : (w.alloc (.cells #[] 70)).ownsRow w.heap.size 70 2 (.slice (some ⟨w.heap.size, 0, none⟩) 0 0) 0 [] := by simpa using World.ownsRow_made w #[] 0 (Nat.le_refl _) (Nat.zero_le _) rfl
  have HOWN0 := Lib.hid hown0
  obtain ⟨A, c, rfl, hc, hm, hel⟩ := acts_at hA
  have HEL := Lib.hid hel
  obtain ⟨T, tc, rfl, _⟩ := hS
  obtain ⟨i0, hi, hz0, hz1, hz2⟩ := info_parts Try.infoA
  clear hel hok hp bW hown0 hA
  go_enter Try.func43, Try.ntmps43
  go_wp2_with (at_builtin; refine wpList_append_slR artCells rfl _ _ 24 rfl w.heap.size 70 i0 (.agg #[.int .i64 0, .string ⟨#[]⟩]) 2 24 Try.underlying24 hi hz0 hz1 hz2 rfl (by decide) _ _ _ rfl HOWN0.out _ S _ rfl HS0.out (fun _ => rfl) (fun y u hu => art_one hu) ?c3 ?c4 HB0.out.size ?_)
  case c3 => unfold maxLen; omega
  case c4 => omega
  intro o1 w1 hown1 hgrow1 hnn1
  have HO1 : Hid (OwnL artCells S w.heap.size w1 o1) := Lib.hid (OwnL.of_own artCells (size := 2) (fun _ => rfl) (by simpa using hown1))
  have HB1 : Hid (Below w.heap.size w w1) := Lib.hid (HB0.out.grown hgrow1 HB0.out.size (fun j hj => (HOWN0.out.lt j hj).1))
  have HF := Lib.hid (force2_any ls day w1 _ (HA.out w1 HB1.out) (by omega))
  obtain ⟨A1, c1, rfl, _⟩ := HO1.out
  clear hown1 hgrow1 hnn1
  go_wp2_with (fail)
  refine (HF.out).mono ?_
  rintro e w2 ⟨v2, rfl, hO2, hb2⟩
  have HB2 : Hid (Below w.heap.size w w2) := Lib.hid (HB1.out.trans (hb2.mono HB1.out.size))
  have HO2 : Hid (OwnL artCells S w.heap.size w2 (.slice A1 S.length c1)) := Lib.hid (HO1.out.on hb2)
  have HFL : Hid (∀ w' : World, Below w2.heap.size w2 w' → SlR (Pl intCells) 1 w' w'.heap.size v2 (forceI ls day)) := Lib.hid (fun w' hb => (hO2.on hb).slR (size := 1) (fun _ => rfl))
  have hfl : (forceI ls day).length ≤ ls.length := forceK_len ls day ls.length
  obtain ⟨A2, c2, rfl, _⟩ := hO2
  clear hb2 HF
  go_wp2
  go_loopw [8, 9, 11, 19] (fun o k _ i wr => ∃ (k : Nat) (R : List Art), i = .int .i64 (k : Int) ∧ k ≤ (forceI ls day).length ∧ onK S ls day k = some R ∧ OwnL artCells R w.heap.size wr o ∧ okStat R = true ∧ Below w2.heap.size w2 wr) (fun _ _ _ i _ => (forceI ls day).length - (RowKit.intOf i).toNat)
  case atStart => exact ⟨0, S, rfl, Nat.zero_le _, rfl, HO2.out, HOK.out, Below.refl _ _⟩
  case round =>
    obtain ⟨k, R, rfl, hk, hon, hown, hokR, hb⟩ := hrel
    have HB := Lib.hid hb
    have HON := Lib.hid hon
    have HOKR := Lib.hid hokR
    have HOWN := Lib.hid hown
    obtain ⟨A3, c3, rfl, _⟩ := hown
    clear hon hokR
    by_cases hlt : k < (forceI ls day).length
    · obtain ⟨A', c', hv, _, _, hel2⟩ := HFL.out wr hb
      injection hv with hv1 hv2 hv3
      subst hv1 hv3
      obtain ⟨b2, off2, rfl, hb2lt, hcell2⟩ := hel2 (by omega)
      have hget2 : (forceI ls day)[k]? = some (forceI ls day)[k] := List.getElem?_eq_getElem hlt
      obtain ⟨us, _, hp, hcc⟩ := hcell2 k _ hget2
      have hp : us = intCells (forceI ls day)[k] := hp
      subst hp
      have x9 : wr.cell? ⟨b2, off2 + k, none⟩ = some (.int .i64 (forceI ls day)[k]) := by have := hcc 0 _ rfl; simpa using this
      obtain ⟨j, hj, hjl⟩ := forceI_at hget2
      rw [hj] at x9 hget2
      obtain ⟨b, off, rfl, hblt, hcell⟩ := HEL.out (by omega)
      have hget : ls[j]? = some ls[j] := List.getElem?_eq_getElem hjl
      obtain ⟨pv, _, _, d2, hE⟩ := hcell j _ hget
      have hbw := HB2.out.trans (hb.mono HB2.out.size)
      have x2 := (hbw.cell (p := ⟨b, off + j * 3 + 2, none⟩) hblt).trans d2
      have hE2 : Edits wr wr.heap.size pv ls[j].pat := SlR.on hE (Pl.stays _) hbw hbw.size
      have HAC := Lib.hid (okActa_iff.1 (okActs_at HP.out hget)).pat
      have HST : Hid (onK S ls day (k + 1) = applyO R ls[j].pat) := Lib.hid (by rw [onK_succ hget2, HON.out, stepO_at R hget])
      have HAP := Lib.hid (applied_any R ls[j].pat wr _ _ (HOWN.out.slR (size := 2) (fun _ => rfl)) hE2 HOKR.out HAC.out)
      have HNX := Lib.hid (fun T => apply_step (T := T) HOKR.out HAC.out)
      generalize ls[j].pat = P at *
      obtain ⟨pA, pc, rfl, _⟩ := hE2
      clear hel2 hcell2 hget2 hcc hj hcell hget d2 hE hb hv2 hbw
      go_wp2_with (fail)
      refine (HAP.out).mono ?_
      rintro e w3 ⟨v3, rfl, hO3, ⟨A4, n4, c4, rfl⟩, hb3⟩
      have HB3 := Lib.hid (HB.out.trans (hb3.mono HB.out.size))
      cases hr : applyO R P with
      | none =>
        have HNO : Hid (onO S ls day = none) := Lib.hid (onK_none (HST.out.trans hr))
        clear hr hO3 hb3
        go_wp2
        go_ret2
        exact ⟨_, by rw [HNO.out]; rfl, (fun R h => by rw [HNO.out] at h; cases h), ⟨_, _, _, rfl⟩, HB2.out.trans (HB3.out.mono HB2.out.size)⟩
      | some T =>
        have HT := Lib.hid ((hO3 T hr).less (HB2.out.trans (HB.out.mono HB2.out.size)).size)
        have HON2 : Hid (onK S ls day (k + 1) = some T) := Lib.hid (HST.out.trans hr)
        have HOK2 := Lib.hid (HNX.out T hr)
        clear hr hO3 hb3
        go_wp2
        go_roundw
        case rel => exact ⟨k + 1, T, by go_num, by omega, HON2.out, HT.out, HOK2.out, HB3.out⟩
        case measure => simp [RowKit.intOf]; omega
    · have hge : ¬ (k : Int) < ((forceI ls day).length : Int) := by omega
      have HFIN : Hid (onO S ls day = some R) := Lib.hid (by rw [← onK_all (k := k) (by omega)]; exact HON.out)
      clear hlt hb
      go_wp2
      go_ret2
      exact ⟨_, by rw [HFIN.out]; rfl, (fun T h => by rw [HFIN.out] at h; injection h with h; subst h; exact ⟨HOWN.out, HOKR.out⟩), ⟨_, _, _, rfl⟩, HB2.out.trans (HB.out.mono HB2.out.size)⟩

set_option maxHeartbeats 2000000 in
theorem TextOn2_any (S : List Art) (ls : List Acta) (day : Int) (w : World) (vs va : Value) (hS : Arts w w.heap.size vs S) (hA : Acts w w.heap.size va ls) (hok : okStat S = true) (hp : okActs ls = true) (hd : inB day 0 999 = true) :
    Calls Try.prog 19 #[vs, va, .int .i64 day] w (OnPost S ls day w) := by
  have h1 := stat2_any S w vs hS (textsOk_of hok)
  rw [hok] at h1
  have H1 := Lib.hid h1
  have H2 := Lib.hid (fun w' (hb : Below w.heap.size w w') => acts2_any ls w' va (hA.on hb hb.size) hp)
  have H3 := Lib.hid (fun w' => day2_any day w')
  have H4 := Lib.hid (fun w' (hb : Below w.heap.size w w') => textOn2_any S ls day w' vs va (SlR.on hS (Pl.stays _) hb hb.size) (hA.on hb hb.size) hok hp)
  rw [hd] at H3
  obtain ⟨A, c, rfl, _⟩ := hS
  obtain ⟨A2, c2, rfl, _⟩ := acts_at hA
  clear hA h1
  go_enter Try.func19, Try.ntmps19
  go_wp2_with (fail)
  refine (H1.out).mono ?_
  rintro e w1 ⟨rfl, hb1⟩
  have HB1 := Lib.hid hb1
  clear hb1
  go_wp2_with (fail)
  refine (H2.out w1 HB1.out).mono ?_
  rintro e w2 ⟨rfl, hb2⟩
  have HB2 := Lib.hid (HB1.out.trans (hb2.mono HB1.out.size))
  clear hb2
  go_wp2_with (fail)
  refine (H3.out w2).mono ?_
  rintro e w3 ⟨rfl, m, rfl⟩
  have HB3 := Lib.hid (below_drewN HB2.out m)
  go_wp2_with (fail)
  refine (H4.out _ HB3.out).mono ?_
  rintro e w4 ⟨v, rfl, hR, ⟨A4, n4, c4, rfl⟩, hb4⟩
  have HB4 := Lib.hid (HB3.out.trans (hb4.mono HB3.out.size))
  have HR := Lib.hid hR
  clear hR hb4
  go_wp2
  go_ret2
  exact ⟨_, rfl, (fun R h => ⟨(HR.out R h).1.less HB3.out.size, (HR.out R h).2⟩), ⟨_, _, _, rfl⟩, HB4.out⟩
end Go.Proofs.Ytmgdodgofpapgaa

namespace Go.Proofs.Ytmgdodgofpapgaa
open Go.RowKit Go.Lib

def applyK (S : List Art) (P : List Edit) (n : Nat) : List Art :=
  (List.range n).filterMap (fun j : Nat => if (target S P ((j : Int) + 1)).toList = [] then none else some ⟨(j : Int) + 1, target S P ((j : Int) + 1)⟩)
theorem applyK_no {S : List Art} {P : List Edit} {n : Nat} (h : (target S P ((n : Int) + 1)).toList = []) : applyK S P (n + 1) = applyK S P n := by
  unfold applyK
  rw [List.range_succ, List.filterMap_append]
  simp [h]
theorem applyK_yes {S : List Art} {P : List Edit} {n : Nat} (h : (target S P ((n : Int) + 1)).toList ≠ []) : applyK S P (n + 1) = applyK S P n ++ [⟨(n : Int) + 1, target S P ((n : Int) + 1)⟩] := by
  unfold applyK
  rw [List.range_succ, List.filterMap_append]
  simp [h]
theorem applyK_len (S : List Art) (P : List Edit) (n : Nat) : (applyK S P n).length ≤ n := by
  unfold applyK
  exact Nat.le_trans (List.length_filterMap_le _ _) (by simp)
def fitAt (S : List Art) (P : List Edit) (i : Int) : Prop := (editOf P i).kind ≠ 0 → (findA S i).toList = (editOf P i).old.toList
theorem fitAt_bad {S : List Art} {P : List Edit} {i : Int} (h1 : (editOf P i).kind ≠ 0) (h2 : (findA S i).toList ≠ (editOf P i).old.toList) : applyO S P = none := by
  apply applyO_no
  rw [Bool.eq_false_iff]
  intro hf
  rcases editOf_cases P i with ⟨hm, hi⟩ | ⟨hn, _⟩
  · have := fits_iff.1 hf _ hm
    rw [hi] at this
    exact h2 (by rw [this])
  · rw [hn] at h1
    exact h1 rfl
theorem fit_all {S : List Art} {P : List Edit} (hP : okPatch P = true) (h : ∀ j : Nat, j < 99 → fitAt S P ((j : Int) + 1)) : fits S P = true := by
  obtain ⟨ha, hr, _⟩ := (okPatch_iff P).1 hP
  rw [fits_iff]
  intro e he
  obtain ⟨h1, h2, hk⟩ := okEdit_kinds (ha e he)
  have hee : editOf P e.id = e := editOf_mem hr he
  have := h (e.id - 1).toNat (by omega)
  have e1 : (((e.id - 1).toNat : Nat) : Int) + 1 = e.id := by omega
  rw [e1] at this
  have := this (by rw [hee]; omega)
  rw [hee] at this
  rw [← mk_toList (findA S e.id), this, mk_toList]

set_option maxRecDepth 100000 in
set_option maxHeartbeats 4000000 in
theorem apply1_any (S : List Art) (P : List Edit) (w : World) (vs vp : Value) (hS : Arts w w.heap.size vs S) (hE : Edits w w.heap.size vp P) (hp : okPatch P = true) :
    Calls Try.prog 69 #[vs, vp] w (AppPost S P w) := by
  have HS := Lib.hid (fun w' (hb : Below w.heap.size w w') (q : Int) => find1_any S q w' vs (SlR.on hS (Pl.stays _) hb hb.size))
  have HE := Lib.hid (fun w' (hb : Below w.heap.size w w') (q : Int) => editOf1_any P q w' vp (SlR.on hE (Pl.stays _) hb hb.size))
  have HP := Lib.hid hp
  have bW := (Below.refl w.heap.size w).alloc (Nat.le_refl _) (.cells #[] 70)
  have HB0 := Lib.hid bW
  have hown0 : (w.alloc (.cells #[] 70)).ownsRow w.heap.size 70 2 (.slice (some ⟨w.heap.size, 0, none⟩) 0 0) 0 [] := by simpa using World.ownsRow_made w #[] 0 (Nat.le_refl _) (Nat.zero_le _) rfl
  have HOWN0 := Lib.hid hown0
  obtain ⟨A, c, rfl, _⟩ := hS
  obtain ⟨A2, c2, rfl, _⟩ := hE
  obtain ⟨i0, hi, hz0, hz1, hz2⟩ := info_parts Try.infoA
  clear hp bW hown0
  go_enter Try.func69, Try.ntmps69
  go_wp2
  go_loopw [6, 7] (fun o i wr => ∃ (j : Nat), i = .int .i64 ((j : Int) + 1) ∧ j ≤ 99 ∧ wr.ownsRow w.heap.size 70 2 o (applyK S P j).length ((applyK S P j).flatMap artCells) ∧ o ≠ .slice none 0 0 ∧ (∀ m : Nat, m < j → fitAt S P ((m : Int) + 1)) ∧ Below w.heap.size w wr) (fun _ i _ => 100 - (RowKit.intOf i).toNat)
  case atStart => exact ⟨0, rfl, Nat.zero_le _, HOWN0.out, by simp, (fun m h => absurd h (Nat.not_lt_zero _)), HB0.out⟩
  case round =>
    obtain ⟨j, rfl, hj, hown, hnn, hfit, hb⟩ := hrel
    obtain ⟨g, cap, rfl, hdc, hcm⟩ := own_some hown hnn
    unfold maxLen at hcm
    have HOWN := Lib.hid hown
    have HFIT0 := Lib.hid hfit
    have HB := Lib.hid hb
    have hkl := applyK_len S P j
    clear hown hnn hfit hb
    by_cases hlt : j < 99
    · have hc : (j : Int) + 1 ≤ 99 := by omega
      have HF := Lib.hid (HS.out wr HB.out ((j : Int) + 1))
      have HT : Hid (target S P ((j : Int) + 1) = if (editOf P ((j : Int) + 1)).kind = 0 then findA S ((j : Int) + 1) else (editOf P ((j : Int) + 1)).new) := Lib.hid rfl
      have HNO := Lib.hid (fun h => applyK_no (S := S) (P := P) (n := j) h)
      have HYES := Lib.hid (fun h => applyK_yes (S := S) (P := P) (n := j) h)
      have HBAD := Lib.hid (fun h1 h2 => fitAt_bad (S := S) (P := P) (i := (j : Int) + 1) h1 h2)
      have HFA : Hid (fitAt S P ((j : Int) + 1) ↔ ((editOf P ((j : Int) + 1)).kind ≠ 0 → (findA S ((j : Int) + 1)).toList = (editOf P ((j : Int) + 1)).old.toList)) := Lib.hid Iff.rfl
      have HFIT : Hid (fitAt S P ((j : Int) + 1) → ∀ m : Nat, m < j + 1 → fitAt S P ((m : Int) + 1)) := Lib.hid (fun h m hm => by
        by_cases e : m = j
        · rw [e]; exact h
        · exact HFIT0.out m (by omega))
      go_wp2_with (fail)
      refine (HF.out).mono ?_
      rintro e' w1 ⟨rfl, m, rfl⟩
      have HB1 := Lib.hid (below_drewN HB.out m)
      have HED := Lib.hid (HE.out _ HB1.out ((j : Int) + 1))
      have HOWN1 := Lib.hid (own_below HOWN.out (below_drewN (Below.refl wr.heap.size wr) m))
      generalize findA S ((j : Int) + 1) = F at *
      generalize editOf P ((j : Int) + 1) = e at *
      generalize applyK S P j = Z at *
      clear HF
      go_wp2_with (fail)
      refine (HED.out).mono ?_
      rintro e' w2 ⟨rfl, hb2⟩
      have HB2 := Lib.hid (HB1.out.trans (hb2.mono HB1.out.size))
      have HOWN2 := Lib.hid (own_below HOWN1.out hb2)
      clear HED hb2
      unfold editV
      by_cases hk0 : e.kind = 0
      · have e0 : (e.kind == 0) = true := by simp [hk0]
        replace HFIT := Lib.hid (HFIT.out (HFA.out.2 (fun h => absurd hk0 h)))
        have hT := HT.out
        rw [if_pos hk0] at hT
        rw [hT] at HNO HYES
        clear hk0 HBAD
        by_cases hn : F.toList = []
        · have en : (F.toList == []) = true := by simp [hn]
          replace HNO := Lib.hid (HNO.out hn)
          clear HYES hn
          go_wp2
          go_roundw
          case rel => exact ⟨j + 1, by go_num, by omega, by rw [HNO.out]; exact HOWN2.out.alloc _, by simp, HFIT.out, HB2.out.alloc HB2.out.size _⟩
          case measure => simp [RowKit.intOf]; omega
        · have en : (F.toList == []) = false := by simp [hn]
          replace HYES := Lib.hid (HYES.out hn)
          clear HNO hn
          have hg2 := (HOWN2.out.lt g rfl).2
          go_wp2_with (at_builtin; refine wpList_append_own _ rfl _ _ 24 rfl w.heap.size 70 i0 (.agg #[.int .i64 0, .string ⟨#[]⟩]) 2 24 Try.underlying24 hi hz0 hz1 hz2 rfl (by decide) _ _ _ rfl ((HOWN2.out.alloc _).alloc _) ⟨w2.heap.size + 1, 0, none⟩ 1 1 (artCells ⟨(j : Int) + 1, F⟩) rfl rfl (fun j u hj => new_at2 hj) (fun u hu => art_one hu) ?c3 ?c4 (base_le (base_le HB2.out.size)) ?_)
          case c3 => unfold maxLen; omega
          case c4 => omega
          · intro v' w9 hown' hgrow hiff
            have hnn' : v' ≠ .slice none 0 0 := by simpa using hiff
            have hb9 := ((HB2.out.alloc HB2.out.size (.cells #[.int .i64 e.kind, .int .i64 e.id, .string e.old, .string e.new] 59)).alloc (base_le HB2.out.size) (.cells #[.int .i64 ((j : Int) + 1), .string F] 70)).grown hgrow (base_le (base_le HB2.out.size)) (fun j hj => (HOWN2.out.lt j hj).1)
            clear hgrow hiff
            go_wp2
            go_roundw
            case rel => exact ⟨j + 1, by go_num, by omega, by rw [HYES.out, List.flatMap_append, List.length_append]; simpa using hown', hnn', HFIT.out, hb9⟩
            case measure => simp [RowKit.intOf]; omega
      · have e0 : (e.kind == 0) = false := by simp [hk0]
        by_cases hf : F.toList = e.old.toList
        · have ef : (F.toList == e.old.toList) = true := by simp [hf]
          replace HFIT := Lib.hid (HFIT.out (HFA.out.2 (fun _ => hf)))
          have hT := HT.out
          rw [if_neg hk0] at hT
          rw [hT] at HNO HYES
          clear hk0 HBAD hf
          by_cases hn : e.new.toList = []
          · have en : (e.new.toList == []) = true := by simp [hn]
            replace HNO := Lib.hid (HNO.out hn)
            clear HYES hn
            go_wp2
            go_roundw
            case rel => exact ⟨j + 1, by go_num, by omega, by rw [HNO.out]; exact HOWN2.out.alloc _, by simp, HFIT.out, HB2.out.alloc HB2.out.size _⟩
            case measure => simp [RowKit.intOf]; omega
          · have en : (e.new.toList == []) = false := by simp [hn]
            replace HYES := Lib.hid (HYES.out hn)
            clear HNO hn
            have hg2 := (HOWN2.out.lt g rfl).2
            go_wp2_with (at_builtin; refine wpList_append_own _ rfl _ _ 24 rfl w.heap.size 70 i0 (.agg #[.int .i64 0, .string ⟨#[]⟩]) 2 24 Try.underlying24 hi hz0 hz1 hz2 rfl (by decide) _ _ _ rfl ((HOWN2.out.alloc _).alloc _) ⟨w2.heap.size + 1, 0, none⟩ 1 1 (artCells ⟨(j : Int) + 1, e.new⟩) rfl rfl (fun j u hj => new_at2 hj) (fun u hu => art_one hu) ?c3 ?c4 (base_le (base_le HB2.out.size)) ?_)
            case c3 => unfold maxLen; omega
            case c4 => omega
            · intro v' w9 hown' hgrow hiff
              have hnn' : v' ≠ .slice none 0 0 := by simpa using hiff
              have hb9 := ((HB2.out.alloc HB2.out.size (.cells #[.int .i64 e.kind, .int .i64 e.id, .string e.old, .string e.new] 59)).alloc (base_le HB2.out.size) (.cells #[.int .i64 ((j : Int) + 1), .string e.new] 70)).grown hgrow (base_le (base_le HB2.out.size)) (fun j hj => (HOWN2.out.lt j hj).1)
              clear hgrow hiff
              go_wp2
              go_roundw
              case rel => exact ⟨j + 1, by go_num, by omega, by rw [HYES.out, List.flatMap_append, List.length_append]; simpa using hown', hnn', HFIT.out, hb9⟩
              case measure => simp [RowKit.intOf]; omega
        · have ef : (F.toList == e.old.toList) = false := by simp [hf]
          replace HBAD := Lib.hid (HBAD.out hk0 hf)
          clear hk0 hf
          go_wp2
          go_ret2
          exact ⟨_, by rw [HBAD.out]; rfl, (fun R h => by rw [HBAD.out] at h; cases h), ⟨_, _, _, rfl⟩, HB2.out.alloc HB2.out.size _⟩
    · have hc : ¬ (j : Int) + 1 ≤ 99 := by omega
      have HFS := Lib.hid (fit_all HP.out (fun m hm => HFIT0.out m (by omega)))
      have HAL : Hid (applyK S P j = applyL S P) := Lib.hid (by rw [show j = 99 from by omega]; rfl)
      have HOL := Lib.hid (OwnL.of_own artCells (size := 2) (fun _ => rfl) HOWN.out)
      have HAO : Hid (applyO S P = if (applyK S P j).length ≤ 8 then some (applyK S P j) else none) := Lib.hid (by
        rw [HAL.out]
        unfold applyO
        rw [HFS.out]
        simp)
      generalize applyK S P j = Z at *
      clear hlt
      by_cases h8 : Z.length ≤ 8
      · have e8 : decide ((Z.length : Int) ≤ 8) = true := by simp; omega
        have HS : Hid (applyO S P = some Z) := Lib.hid (by rw [HAO.out, if_pos h8])
        clear h8
        go_wp2
        go_ret2
        exact ⟨.slice (some ⟨g, 0, none⟩) Z.length cap, by rw [HS.out]; simp, (fun R h => by rw [HS.out] at h; injection h with h; subst h; exact HOL.out), ⟨_, _, _, rfl⟩, HB.out⟩
      · have e8 : decide ((Z.length : Int) ≤ 8) = false := by simp; omega
        have HS : Hid (applyO S P = none) := Lib.hid (by rw [HAO.out, if_neg h8])
        clear h8
        go_wp2
        go_ret2
        exact ⟨.slice (some ⟨g, 0, none⟩) Z.length cap, by rw [HS.out]; simp, (fun R h => by rw [HS.out] at h; cases h), ⟨_, _, _, rfl⟩, HB.out⟩
end Go.Proofs.Ytmgdodgofpapgaa

namespace Go.Proofs.Ytmgdodgofpapgaa
open Go.RowKit Go.Lib

set_option maxRecDepth 100000 in
set_option maxHeartbeats 4000000 in
theorem on1_any (S : List Art) (ls : List Acta) (day : Int) (w : World) (vs va : Value) (hS : Arts w w.heap.size vs S) (hA : Acts w w.heap.size va ls) (hok : okStat S = true) (hp : okActs ls = true) :
    Calls Try.prog 78 #[vs, va, .int .i64 day] w (OnPost S ls day w) := by
  have hl8 := okActs_len hp
  have hS8 := okStat_len hok
  have bW := (Below.refl w.heap.size w).alloc (Nat.le_refl _) (.cells #[] 70)
  have HS0 := Lib.hid (SlR.on hS (Pl.stays _) bW bW.size)
  have HA := Lib.hid (fun w' (hb : Below w.heap.size w w') => hA.on hb hb.size)
  have HOK := Lib.hid hok
  have HP := Lib.hid hp
  have HB0 := Lib.hid bW
  have hown0 : (w.alloc (.cells #[] 70)).ownsRow w.heap.size 70 2 (.slice (some ⟨w.heap.size, 0, none⟩) 0 0) 0 [] := by simpa using World.ownsRow_made w #[] 0 (Nat.le_refl _) (Nat.zero_le _) rfl
  have HOWN0 := Lib.hid hown0
  obtain ⟨A, c, rfl, hc, hm, hel⟩ := acts_at hA
  have HEL := Lib.hid hel
  obtain ⟨T, tc, rfl, _⟩ := hS
  obtain ⟨i0, hi, hz0, hz1, hz2⟩ := info_parts Try.infoA
  clear hel hok hp bW hown0 hA
  go_enter Try.func78, Try.ntmps78
  go_wp2_with (at_builtin; refine wpList_append_slR artCells rfl _ _ 24 rfl w.heap.size 70 i0 (.agg #[.int .i64 0, .string ⟨#[]⟩]) 2 24 Try.underlying24 hi hz0 hz1 hz2 rfl (by decide) _ _ _ rfl HOWN0.out _ S _ rfl HS0.out (fun _ => rfl) (fun y u hu => art_one hu) ?c3 ?c4 HB0.out.size ?_)
  case c3 => unfold maxLen; omega
  case c4 => omega
  intro o1 w1 hown1 hgrow1 hnn1
  have HO1 : Hid (OwnL artCells S w.heap.size w1 o1) := Lib.hid (OwnL.of_own artCells (size := 2) (fun _ => rfl) (by simpa using hown1))
  have HB1 : Hid (Below w.heap.size w w1) := Lib.hid (HB0.out.grown hgrow1 HB0.out.size (fun j hj => (HOWN0.out.lt j hj).1))
  have HF := Lib.hid (force1_any ls day w1 _ (HA.out w1 HB1.out) (by omega))
  obtain ⟨A1, c1, rfl, _⟩ := HO1.out
  clear hown1 hgrow1 hnn1
  go_wp2_with (fail)
  refine (HF.out).mono ?_
  rintro e w2 ⟨v2, rfl, hO2, hb2⟩
  have HB2 : Hid (Below w.heap.size w w2) := Lib.hid (HB1.out.trans (hb2.mono HB1.out.size))
  have HO2 : Hid (OwnL artCells S w.heap.size w2 (.slice A1 S.length c1)) := Lib.hid (HO1.out.on hb2)
  have HFL : Hid (∀ w' : World, Below w2.heap.size w2 w' → SlR (Pl intCells) 1 w' w'.heap.size v2 (forceI ls day)) := Lib.hid (fun w' hb => (hO2.on hb).slR (size := 1) (fun _ => rfl))
  have hfl : (forceI ls day).length ≤ ls.length := forceK_len ls day ls.length
  obtain ⟨A2, c2, rfl, _⟩ := hO2
  clear hb2 HF
  go_wp2
  go_loopw [8, 10] (fun o i wr => ∃ (k : Nat) (R : List Art), i = .int .i64 (k : Int) ∧ k ≤ (forceI ls day).length ∧ onK S ls day k = some R ∧ OwnL artCells R w.heap.size wr o ∧ okStat R = true ∧ Below w2.heap.size w2 wr) (fun _ i _ => (forceI ls day).length - (RowKit.intOf i).toNat)
  case atStart => exact ⟨0, S, rfl, Nat.zero_le _, rfl, HO2.out, HOK.out, Below.refl _ _⟩
  case round =>
    obtain ⟨k, R, rfl, hk, hon, hown, hokR, hb⟩ := hrel
    have HB := Lib.hid hb
    have HON := Lib.hid hon
    have HOKR := Lib.hid hokR
    have HOWN := Lib.hid hown
    obtain ⟨A3, c3, rfl, _⟩ := hown
    clear hon hokR
    by_cases hlt : k < (forceI ls day).length
    · obtain ⟨A', c', hv, _, _, hel2⟩ := HFL.out wr hb
      injection hv with hv1 hv2 hv3
      subst hv1 hv3
      obtain ⟨b2, off2, rfl, hb2lt, hcell2⟩ := hel2 (by omega)
      have hget2 : (forceI ls day)[k]? = some (forceI ls day)[k] := List.getElem?_eq_getElem hlt
      obtain ⟨us, _, hp, hcc⟩ := hcell2 k _ hget2
      have hp : us = intCells (forceI ls day)[k] := hp
      subst hp
      have x9 : wr.cell? ⟨b2, off2 + k, none⟩ = some (.int .i64 (forceI ls day)[k]) := by have := hcc 0 _ rfl; simpa using this
      obtain ⟨j, hj, hjl⟩ := forceI_at hget2
      rw [hj] at x9 hget2
      obtain ⟨b, off, rfl, hblt, hcell⟩ := HEL.out (by omega)
      have hget : ls[j]? = some ls[j] := List.getElem?_eq_getElem hjl
      obtain ⟨pv, _, _, d2, hE⟩ := hcell j _ hget
      have hbw := HB2.out.trans (hb.mono HB2.out.size)
      have x2 := (hbw.cell (p := ⟨b, off + j * 3 + 2, none⟩) hblt).trans d2
      have hE2 : Edits wr wr.heap.size pv ls[j].pat := SlR.on hE (Pl.stays _) hbw hbw.size
      have HAC := Lib.hid (okActa_iff.1 (okActs_at HP.out hget)).pat
      have HST : Hid (onK S ls day (k + 1) = applyO R ls[j].pat) := Lib.hid (by rw [onK_succ hget2, HON.out, stepO_at R hget])
      have HAP := Lib.hid (apply1_any R ls[j].pat wr _ _ (HOWN.out.slR (size := 2) (fun _ => rfl)) hE2 HAC.out)
      have HNX := Lib.hid (fun T => apply_step (T := T) HOKR.out HAC.out)
      generalize ls[j].pat = P at *
      obtain ⟨pA, pc, rfl, _⟩ := hE2
      clear hel2 hcell2 hget2 hcc hj hcell hget d2 hE hb hv2 hbw
      go_wp2_with (fail)
      refine (HAP.out).mono ?_
      rintro e w3 ⟨v3, rfl, hO3, ⟨A4, n4, c4, rfl⟩, hb3⟩
      have HB3 := Lib.hid (HB.out.trans (hb3.mono HB.out.size))
      cases hr : applyO R P with
      | none =>
        have HNO : Hid (onO S ls day = none) := Lib.hid (onK_none (HST.out.trans hr))
        clear hr hO3 hb3
        go_wp2
        go_ret2
        exact ⟨_, by rw [HNO.out]; rfl, (fun R h => by rw [HNO.out] at h; cases h), ⟨_, _, _, rfl⟩, HB2.out.trans (HB3.out.mono HB2.out.size)⟩
      | some T =>
        have HT := Lib.hid ((hO3 T hr).less (HB2.out.trans (HB.out.mono HB2.out.size)).size)
        have HON2 : Hid (onK S ls day (k + 1) = some T) := Lib.hid (HST.out.trans hr)
        have HOK2 := Lib.hid (HNX.out T hr)
        clear hr hO3 hb3
        go_wp2
        go_roundw
        case rel => exact ⟨k + 1, T, by go_num, by omega, HON2.out, HT.out, HOK2.out, HB3.out⟩
        case measure => simp [RowKit.intOf]; omega
    · have hge : ¬ (k : Int) < ((forceI ls day).length : Int) := by omega
      have HFIN : Hid (onO S ls day = some R) := Lib.hid (by rw [← onK_all (k := k) (by omega)]; exact HON.out)
      clear hlt hb
      go_wp2
      go_ret2
      exact ⟨_, by rw [HFIN.out]; rfl, (fun T h => by rw [HFIN.out] at h; injection h with h; subst h; exact ⟨HOWN.out, HOKR.out⟩), ⟨_, _, _, rfl⟩, HB2.out.trans (HB.out.mono HB2.out.size)⟩
end Go.Proofs.Ytmgdodgofpapgaa

namespace Go.Proofs.Ytmgdodgofpapgaa
open Go.RowKit Go.Lib

/-- The same, with room behind it. -/
def PatchRow (B : Nat) (w : World) (b k : Nat) (e : Ending) (w' : World) : Prop :=
  ∃ v P, e = .returned v ∧ w'.ownsRow w.heap.size 59 4 v P.length (P.flatMap editCells) ∧ v ≠ .slice none 0 0 ∧ okPatch P = true ∧ Src B w' b k ∧ Only b w w'

set_option maxRecDepth 100000 in
set_option maxHeartbeats 8000000 in
theorem drawFor_row (B b k base : Nat) (es : List Art) (v : Value) (w : World) (h : Src B w b k) (hk : k ≤ 50000) (hT : OwnL artCells es base w v) (hbb : b < base) (hok : okStat es = true) :
    Calls Try.prog 26 #[.pointer (some ⟨b, 0, none⟩), v] w (PatchRow B w b (k + 220)) := by
  have H := Lib.hid h
  have HB := Lib.hid h.lt.1
  have HT := Lib.hid hT
  have HBB := Lib.hid hbb
  have HOK := Lib.hid hok
  obtain ⟨T, tc, rfl, _⟩ := hT
  clear h hbb hok
  obtain ⟨i0, hi, hz0, hz1, hz2⟩ := info_parts Try.infoE
  go_enter Try.func26, Try.ntmps26
  go_wp2_with (fail)
  refine (pick_pos B b k 3 _ (H.out.alloc _) (by omega) (by omega) (by omega)).mono ?_
  rintro e w1 ⟨n1, hn1, rfl, hs1, ho1⟩
  have hown1 : w1.ownsRow w.heap.size 59 4 (.slice (some ⟨w.heap.size, 0, none⟩) 0 0) 0 [] := own_only (by simpa using World.ownsRow_made w #[] 0 (Nat.le_refl _) (Nat.zero_le _) rfl) HB.out ho1
  have HO1 : Hid (Only b w w1) := Lib.hid (only_trans (only_of_below ((Below.refl w.heap.size w).alloc (Nat.le_refl _) _)) ho1)
  have HS1 := Lib.hid hs1
  have HOWN1 := Lib.hid hown1
  clear hs1 ho1 hown1
  go_wp2
  go_loopw [5, 7] (fun o i wr => ∃ (P : List Edit) (q : Nat), wr.ownsRow w.heap.size 59 4 o P.length (P.flatMap editCells) ∧ i = .int .i64 (q : Int) ∧ 1 ≤ q ∧ q ≤ 17 ∧ DrawnE P q ∧ o ≠ .slice none 0 0 ∧ Src B wr b (k + 2 + 12 * (q - 1)) ∧ Only b w wr) (fun _ i _ => 17 - (RowKit.intOf i).toNat)
  case atStart => exact ⟨[], 1, HOWN1.out, rfl, by omega, by omega, DrawnE.nil, by simp, HS1.out.more (by omega), HO1.out⟩
  case round =>
    obtain ⟨P, q, hown, rfl, hq1, hq17, hD, hnn, hs, ho⟩ := hrel
    obtain ⟨g, cap, rfl, hdc, hcm⟩ := own_some hown hnn
    unfold maxLen at hcm
    have HOWN := Lib.hid hown
    have HD := Lib.hid hD
    have HS := Lib.hid hs
    have HO := Lib.hid ho
    have hlen := hD.len
    clear hown hD hs ho hnn
    by_cases hq : q ≤ 16
    · have hq' : (q : Int) ≤ 16 := by omega
      go_wp2_with (fail)
      refine (one_any B b _ (2 + (n1 : Int)) wr HS.out (by omega) (by omega) (by omega)).mono ?_
      rintro e w2 ⟨x2, rfl, hs2, ho2⟩
      have HOWN2 := Lib.hid (own_only HOWN.out HB.out ho2)
      have HO2 := Lib.hid (only_trans HO.out ho2)
      have HS2 := Lib.hid hs2
      clear hs2 ho2
      cases x2 with
      | false =>
        go_wp2
        go_roundw
        case rel => exact ⟨P, q + 1, HOWN2.out, by go_num, by omega, by omega, HD.out.skip, by simp, HS2.out.more (by omega), HO2.out⟩
        case measure => simp [RowKit.intOf]; omega
      | true =>
        have HF := Lib.hid (find1_any es q w2 _ ((HT.out.only HBB.out HO2.out).slR (size := 2) (fun _ => rfl)))
        have HFO := Lib.hid (find_ok HOK.out q)
        generalize findA es q = old at HF HFO
        go_wp2_with (fail)
        refine (HF.out).mono ?_
        rintro e w3 ⟨rfl, m3, rfl⟩
        have HOWN3 := Lib.hid (own_below HOWN2.out (below_drewN (Below.refl w2.heap.size w2) m3))
        have HO3 := Lib.hid (only_drewN HO2.out m3)
        have HS3 := Lib.hid (HS2.out.drewN m3)
        clear HF
        go_wp2_with (fail)
        refine (drawSent_any B b _ _ HS3.out (by omega)).mono ?_
        rintro e w4 ⟨l4, hl4, rfl, hs4, ho4⟩
        have HOWN4 := Lib.hid (own_only HOWN3.out HB.out ho4)
        have HO4 := Lib.hid (only_trans HO3.out ho4)
        have HS4 := Lib.hid hs4
        have HL4 := Lib.hid hl4
        clear hs4 ho4 hl4
        by_cases h0 : old.toList = []
        · have e0 : (old.toList == []) = true := by simp [h0]
          have e0' : (old.toList != []) = false := by simp [h0]
          clear h0
          go_wp2_with (fail)
          refine (one_any B b _ 3 w4 HS4.out (by omega) (by omega) (by omega)).mono ?_
          rintro e w5 ⟨x5, rfl, hs5, ho5⟩
          have HOWN5 := Lib.hid (own_only HOWN4.out HB.out ho5)
          have HO5 := Lib.hid (only_trans HO4.out ho5)
          have HS5 := Lib.hid hs5
          clear hs5 ho5
          cases x5 with
          | false =>
            go_wp2
            go_roundw
            case rel => exact ⟨P, q + 1, HOWN5.out, by go_num, by omega, by omega, HD.out.skip, by simp, HS5.out.more (by omega), HO5.out⟩
            case measure => simp [RowKit.intOf]; omega
          | true =>
            go_wp2_with (fail)
            refine (one_any B b _ 20 w5 HS5.out (by omega) (by omega) (by omega)).mono ?_
            rintro e w6 ⟨x6, rfl, hs6, ho6⟩
            have HOWN6 := Lib.hid (own_only HOWN5.out HB.out ho6)
            have HO6 := Lib.hid (only_trans HO5.out ho6)
            have HS6 := Lib.hid hs6
            clear hs6 ho6
            cases x6 with
            | false =>
              have HOWN7 := HOWN6
              have HO7 := HO6
              have HS7 := HS6
              have HE : Hid ((stepE q old ⟨l4.toArray⟩).kind = 0 ∨ (okEdit (stepE q old ⟨l4.toArray⟩) = true ∧ (stepE q old ⟨l4.toArray⟩).id = q)) := Lib.hid (by
                rcases stepE_ok (i := q) (by omega) (by omega) HFO.out (sent_txt HL4.out) with h | ⟨h1, h2, _⟩
                · left; rw [h]; rfl
                · exact .inr ⟨h1, h2⟩)
              have HST : Hid (Calls Try.prog 55 #[.int .i64 q, .string old, .string ⟨l4.toArray⟩] w6 (RetB (.agg #[.int .i64 (stepE q old ⟨l4.toArray⟩).kind, .int .i64 (stepE q old ⟨l4.toArray⟩).id, .string (stepE q old ⟨l4.toArray⟩).old, .string (stepE q old ⟨l4.toArray⟩).new]) w6)) := Lib.hid (step1_any q old ⟨l4.toArray⟩ w6)
              generalize stepE q old ⟨l4.toArray⟩ = E at HE HST
              go_wp2_with (fail)
              refine (HST.out).mono ?_
              rintro e w8 ⟨rfl, hb8⟩
              have hown8 := own_below HOWN7.out hb8
              have hO8 := only_below' HO7.out hb8 HO7.out.size
              have hS8 := HS7.out.below hb8 HS7.out.lt.1
              have HOWN8 := Lib.hid hown8
              have HO8 := Lib.hid hO8
              have HS8 := Lib.hid hS8
              have hsz8 := hO8.size
              clear hown8 hO8 hS8 hb8
              by_cases hk0 : E.kind = 0
              · have e0 : (E.kind != 0) = false := by simp [hk0]
                have HO9 := Lib.hid (only_alloc HO8.out (.cells #[.int .i64 E.kind, .int .i64 E.id, .string E.old, .string E.new] 59))
                have HS9 := Lib.hid (HS8.out.alloc (.cells #[.int .i64 E.kind, .int .i64 E.id, .string E.old, .string E.new] 59))
                have HOWN9 := Lib.hid (HOWN8.out.alloc (.cells #[.int .i64 E.kind, .int .i64 E.id, .string E.old, .string E.new] 59))
                clear hk0
                go_wp2
                go_roundw
                case rel => exact ⟨P, q + 1, HOWN9.out, by go_num, by omega, by omega, HD.out.skip, by simp, HS9.out.more (by omega), HO9.out⟩
                case measure => simp [RowKit.intOf]; omega
              · have e0 : (E.kind != 0) = true := by simp [hk0]
                have HE2 := Lib.hid (HE.out.resolve_left hk0)
                clear hk0
                go_wp2_with (at_builtin; refine wpList_append_own _ rfl _ _ 25 rfl w.heap.size 59 i0 (.agg #[.int .i64 0, .int .i64 0, .string ⟨#[]⟩, .string ⟨#[]⟩]) 4 48 Try.underlying25 hi hz0 hz1 hz2 rfl (by decide) _ _ _ rfl ((HOWN8.out.alloc _).alloc _) ⟨w8.heap.size + 1, 0, none⟩ 1 1 (editCells E) rfl rfl (fun j u hj => new_at2 hj) (fun u hu => edit_one hu) ?c3 ?c4 (base_le (base_le hsz8)) ?_)
                case c3 => unfold maxLen; omega
                case c4 => omega
                · intro v' w9 hown' hgrow hiff
                  have hnn' : v' ≠ .slice none 0 0 := by simpa using hiff
                  have hr : ∀ j, (Value.slice (some ⟨g, 0, none⟩) P.length cap).ownBlock = some j → w.heap.size ≤ j := fun j hj => (HOWN8.out.lt j hj).1
                  have HO9 := Lib.hid (only_grown (only_alloc (only_alloc HO8.out _) _) hgrow hr)
                  have HS9 := Lib.hid (((HS8.out.alloc _).alloc _).grown hgrow (fun j hj => Nat.lt_of_lt_of_le HB.out (hr j hj)))
                  clear hgrow hiff hr
                  go_wp2
                  go_roundw
                  case rel => exact ⟨P ++ [E], q + 1, by rw [flat_snoc, List.length_append]; exact hown', by go_num, by omega, by omega, HD.out.snoc HE2.out.1 HE2.out.2, hnn', HS9.out.more (by omega), HO9.out⟩
                  case measure => simp [RowKit.intOf]; omega
            | true =>
              go_wp2_with (fail)
              refine (drawSent_any B b _ w6 HS6.out (by omega)).mono ?_
              rintro e w7 ⟨l7, hl7, rfl, hs7, ho7⟩
              have HOWN7 := Lib.hid (own_only HOWN6.out HB.out ho7)
              have HO7 := Lib.hid (only_trans HO6.out ho7)
              have HS7 := Lib.hid hs7
              have HL7 := Lib.hid hl7
              clear hs7 ho7 hl7
              have HE : Hid ((stepE q ⟨l7.toArray⟩ ⟨l4.toArray⟩).kind = 0 ∨ (okEdit (stepE q ⟨l7.toArray⟩ ⟨l4.toArray⟩) = true ∧ (stepE q ⟨l7.toArray⟩ ⟨l4.toArray⟩).id = q)) := Lib.hid (by
                rcases stepE_ok (i := q) (by omega) (by omega) (sent_txt HL7.out) (sent_txt HL4.out) with h | ⟨h1, h2, _⟩
                · left; rw [h]; rfl
                · exact .inr ⟨h1, h2⟩)
              have HST : Hid (Calls Try.prog 55 #[.int .i64 q, .string ⟨l7.toArray⟩, .string ⟨l4.toArray⟩] w7 (RetB (.agg #[.int .i64 (stepE q ⟨l7.toArray⟩ ⟨l4.toArray⟩).kind, .int .i64 (stepE q ⟨l7.toArray⟩ ⟨l4.toArray⟩).id, .string (stepE q ⟨l7.toArray⟩ ⟨l4.toArray⟩).old, .string (stepE q ⟨l7.toArray⟩ ⟨l4.toArray⟩).new]) w7)) := Lib.hid (step1_any q ⟨l7.toArray⟩ ⟨l4.toArray⟩ w7)
              generalize stepE q ⟨l7.toArray⟩ ⟨l4.toArray⟩ = E at HE HST
              go_wp2_with (fail)
              refine (HST.out).mono ?_
              rintro e w8 ⟨rfl, hb8⟩
              have hown8 := own_below HOWN7.out hb8
              have hO8 := only_below' HO7.out hb8 HO7.out.size
              have hS8 := HS7.out.below hb8 HS7.out.lt.1
              have HOWN8 := Lib.hid hown8
              have HO8 := Lib.hid hO8
              have HS8 := Lib.hid hS8
              have hsz8 := hO8.size
              clear hown8 hO8 hS8 hb8
              by_cases hk0 : E.kind = 0
              · have e0 : (E.kind != 0) = false := by simp [hk0]
                have HO9 := Lib.hid (only_alloc HO8.out (.cells #[.int .i64 E.kind, .int .i64 E.id, .string E.old, .string E.new] 59))
                have HS9 := Lib.hid (HS8.out.alloc (.cells #[.int .i64 E.kind, .int .i64 E.id, .string E.old, .string E.new] 59))
                have HOWN9 := Lib.hid (HOWN8.out.alloc (.cells #[.int .i64 E.kind, .int .i64 E.id, .string E.old, .string E.new] 59))
                clear hk0
                go_wp2
                go_roundw
                case rel => exact ⟨P, q + 1, HOWN9.out, by go_num, by omega, by omega, HD.out.skip, by simp, HS9.out.more (by omega), HO9.out⟩
                case measure => simp [RowKit.intOf]; omega
              · have e0 : (E.kind != 0) = true := by simp [hk0]
                have HE2 := Lib.hid (HE.out.resolve_left hk0)
                clear hk0
                go_wp2_with (at_builtin; refine wpList_append_own _ rfl _ _ 25 rfl w.heap.size 59 i0 (.agg #[.int .i64 0, .int .i64 0, .string ⟨#[]⟩, .string ⟨#[]⟩]) 4 48 Try.underlying25 hi hz0 hz1 hz2 rfl (by decide) _ _ _ rfl ((HOWN8.out.alloc _).alloc _) ⟨w8.heap.size + 1, 0, none⟩ 1 1 (editCells E) rfl rfl (fun j u hj => new_at2 hj) (fun u hu => edit_one hu) ?c3 ?c4 (base_le (base_le hsz8)) ?_)
                case c3 => unfold maxLen; omega
                case c4 => omega
                · intro v' w9 hown' hgrow hiff
                  have hnn' : v' ≠ .slice none 0 0 := by simpa using hiff
                  have hr : ∀ j, (Value.slice (some ⟨g, 0, none⟩) P.length cap).ownBlock = some j → w.heap.size ≤ j := fun j hj => (HOWN8.out.lt j hj).1
                  have HO9 := Lib.hid (only_grown (only_alloc (only_alloc HO8.out _) _) hgrow hr)
                  have HS9 := Lib.hid (((HS8.out.alloc _).alloc _).grown hgrow (fun j hj => Nat.lt_of_lt_of_le HB.out (hr j hj)))
                  clear hgrow hiff hr
                  go_wp2
                  go_roundw
                  case rel => exact ⟨P ++ [E], q + 1, by rw [flat_snoc, List.length_append]; exact hown', by go_num, by omega, by omega, HD.out.snoc HE2.out.1 HE2.out.2, hnn', HS9.out.more (by omega), HO9.out⟩
                  case measure => simp [RowKit.intOf]; omega
        · have e0 : (old.toList == []) = false := by simp [h0]
          have e0' : (old.toList != []) = true := by simp [h0]
          clear h0
          go_wp2_with (fail)
          refine (one_any B b _ 3 w4 HS4.out (by omega) (by omega) (by omega)).mono ?_
          rintro e w5 ⟨x5, rfl, hs5, ho5⟩
          have HOWN5 := Lib.hid (own_only HOWN4.out HB.out ho5)
          have HO5 := Lib.hid (only_trans HO4.out ho5)
          have HS5 := Lib.hid hs5
          clear hs5 ho5
          cases x5 with
          | false =>
            go_wp2_with (fail)
            refine (one_any B b _ 20 w5 HS5.out (by omega) (by omega) (by omega)).mono ?_
            rintro e w6 ⟨x6, rfl, hs6, ho6⟩
            have HOWN6 := Lib.hid (own_only HOWN5.out HB.out ho6)
            have HO6 := Lib.hid (only_trans HO5.out ho6)
            have HS6 := Lib.hid hs6
            clear hs6 ho6
            cases x6 with
            | false =>
              have HOWN7 := HOWN6
              have HO7 := HO6
              have HS7 := HS6
              have HE : Hid ((stepE q old ⟨l4.toArray⟩).kind = 0 ∨ (okEdit (stepE q old ⟨l4.toArray⟩) = true ∧ (stepE q old ⟨l4.toArray⟩).id = q)) := Lib.hid (by
                rcases stepE_ok (i := q) (by omega) (by omega) HFO.out (sent_txt HL4.out) with h | ⟨h1, h2, _⟩
                · left; rw [h]; rfl
                · exact .inr ⟨h1, h2⟩)
              have HST : Hid (Calls Try.prog 55 #[.int .i64 q, .string old, .string ⟨l4.toArray⟩] w6 (RetB (.agg #[.int .i64 (stepE q old ⟨l4.toArray⟩).kind, .int .i64 (stepE q old ⟨l4.toArray⟩).id, .string (stepE q old ⟨l4.toArray⟩).old, .string (stepE q old ⟨l4.toArray⟩).new]) w6)) := Lib.hid (step1_any q old ⟨l4.toArray⟩ w6)
              generalize stepE q old ⟨l4.toArray⟩ = E at HE HST
              go_wp2_with (fail)
              refine (HST.out).mono ?_
              rintro e w8 ⟨rfl, hb8⟩
              have hown8 := own_below HOWN7.out hb8
              have hO8 := only_below' HO7.out hb8 HO7.out.size
              have hS8 := HS7.out.below hb8 HS7.out.lt.1
              have HOWN8 := Lib.hid hown8
              have HO8 := Lib.hid hO8
              have HS8 := Lib.hid hS8
              have hsz8 := hO8.size
              clear hown8 hO8 hS8 hb8
              by_cases hk0 : E.kind = 0
              · have e0 : (E.kind != 0) = false := by simp [hk0]
                have HO9 := Lib.hid (only_alloc HO8.out (.cells #[.int .i64 E.kind, .int .i64 E.id, .string E.old, .string E.new] 59))
                have HS9 := Lib.hid (HS8.out.alloc (.cells #[.int .i64 E.kind, .int .i64 E.id, .string E.old, .string E.new] 59))
                have HOWN9 := Lib.hid (HOWN8.out.alloc (.cells #[.int .i64 E.kind, .int .i64 E.id, .string E.old, .string E.new] 59))
                clear hk0
                go_wp2
                go_roundw
                case rel => exact ⟨P, q + 1, HOWN9.out, by go_num, by omega, by omega, HD.out.skip, by simp, HS9.out.more (by omega), HO9.out⟩
                case measure => simp [RowKit.intOf]; omega
              · have e0 : (E.kind != 0) = true := by simp [hk0]
                have HE2 := Lib.hid (HE.out.resolve_left hk0)
                clear hk0
                go_wp2_with (at_builtin; refine wpList_append_own _ rfl _ _ 25 rfl w.heap.size 59 i0 (.agg #[.int .i64 0, .int .i64 0, .string ⟨#[]⟩, .string ⟨#[]⟩]) 4 48 Try.underlying25 hi hz0 hz1 hz2 rfl (by decide) _ _ _ rfl ((HOWN8.out.alloc _).alloc _) ⟨w8.heap.size + 1, 0, none⟩ 1 1 (editCells E) rfl rfl (fun j u hj => new_at2 hj) (fun u hu => edit_one hu) ?c3 ?c4 (base_le (base_le hsz8)) ?_)
                case c3 => unfold maxLen; omega
                case c4 => omega
                · intro v' w9 hown' hgrow hiff
                  have hnn' : v' ≠ .slice none 0 0 := by simpa using hiff
                  have hr : ∀ j, (Value.slice (some ⟨g, 0, none⟩) P.length cap).ownBlock = some j → w.heap.size ≤ j := fun j hj => (HOWN8.out.lt j hj).1
                  have HO9 := Lib.hid (only_grown (only_alloc (only_alloc HO8.out _) _) hgrow hr)
                  have HS9 := Lib.hid (((HS8.out.alloc _).alloc _).grown hgrow (fun j hj => Nat.lt_of_lt_of_le HB.out (hr j hj)))
                  clear hgrow hiff hr
                  go_wp2
                  go_roundw
                  case rel => exact ⟨P ++ [E], q + 1, by rw [flat_snoc, List.length_append]; exact hown', by go_num, by omega, by omega, HD.out.snoc HE2.out.1 HE2.out.2, hnn', HS9.out.more (by omega), HO9.out⟩
                  case measure => simp [RowKit.intOf]; omega
            | true =>
              go_wp2_with (fail)
              refine (drawSent_any B b _ w6 HS6.out (by omega)).mono ?_
              rintro e w7 ⟨l7, hl7, rfl, hs7, ho7⟩
              have HOWN7 := Lib.hid (own_only HOWN6.out HB.out ho7)
              have HO7 := Lib.hid (only_trans HO6.out ho7)
              have HS7 := Lib.hid hs7
              have HL7 := Lib.hid hl7
              clear hs7 ho7 hl7
              have HE : Hid ((stepE q ⟨l7.toArray⟩ ⟨l4.toArray⟩).kind = 0 ∨ (okEdit (stepE q ⟨l7.toArray⟩ ⟨l4.toArray⟩) = true ∧ (stepE q ⟨l7.toArray⟩ ⟨l4.toArray⟩).id = q)) := Lib.hid (by
                rcases stepE_ok (i := q) (by omega) (by omega) (sent_txt HL7.out) (sent_txt HL4.out) with h | ⟨h1, h2, _⟩
                · left; rw [h]; rfl
                · exact .inr ⟨h1, h2⟩)
              have HST : Hid (Calls Try.prog 55 #[.int .i64 q, .string ⟨l7.toArray⟩, .string ⟨l4.toArray⟩] w7 (RetB (.agg #[.int .i64 (stepE q ⟨l7.toArray⟩ ⟨l4.toArray⟩).kind, .int .i64 (stepE q ⟨l7.toArray⟩ ⟨l4.toArray⟩).id, .string (stepE q ⟨l7.toArray⟩ ⟨l4.toArray⟩).old, .string (stepE q ⟨l7.toArray⟩ ⟨l4.toArray⟩).new]) w7)) := Lib.hid (step1_any q ⟨l7.toArray⟩ ⟨l4.toArray⟩ w7)
              generalize stepE q ⟨l7.toArray⟩ ⟨l4.toArray⟩ = E at HE HST
              go_wp2_with (fail)
              refine (HST.out).mono ?_
              rintro e w8 ⟨rfl, hb8⟩
              have hown8 := own_below HOWN7.out hb8
              have hO8 := only_below' HO7.out hb8 HO7.out.size
              have hS8 := HS7.out.below hb8 HS7.out.lt.1
              have HOWN8 := Lib.hid hown8
              have HO8 := Lib.hid hO8
              have HS8 := Lib.hid hS8
              have hsz8 := hO8.size
              clear hown8 hO8 hS8 hb8
              by_cases hk0 : E.kind = 0
              · have e0 : (E.kind != 0) = false := by simp [hk0]
                have HO9 := Lib.hid (only_alloc HO8.out (.cells #[.int .i64 E.kind, .int .i64 E.id, .string E.old, .string E.new] 59))
                have HS9 := Lib.hid (HS8.out.alloc (.cells #[.int .i64 E.kind, .int .i64 E.id, .string E.old, .string E.new] 59))
                have HOWN9 := Lib.hid (HOWN8.out.alloc (.cells #[.int .i64 E.kind, .int .i64 E.id, .string E.old, .string E.new] 59))
                clear hk0
                go_wp2
                go_roundw
                case rel => exact ⟨P, q + 1, HOWN9.out, by go_num, by omega, by omega, HD.out.skip, by simp, HS9.out.more (by omega), HO9.out⟩
                case measure => simp [RowKit.intOf]; omega
              · have e0 : (E.kind != 0) = true := by simp [hk0]
                have HE2 := Lib.hid (HE.out.resolve_left hk0)
                clear hk0
                go_wp2_with (at_builtin; refine wpList_append_own _ rfl _ _ 25 rfl w.heap.size 59 i0 (.agg #[.int .i64 0, .int .i64 0, .string ⟨#[]⟩, .string ⟨#[]⟩]) 4 48 Try.underlying25 hi hz0 hz1 hz2 rfl (by decide) _ _ _ rfl ((HOWN8.out.alloc _).alloc _) ⟨w8.heap.size + 1, 0, none⟩ 1 1 (editCells E) rfl rfl (fun j u hj => new_at2 hj) (fun u hu => edit_one hu) ?c3 ?c4 (base_le (base_le hsz8)) ?_)
                case c3 => unfold maxLen; omega
                case c4 => omega
                · intro v' w9 hown' hgrow hiff
                  have hnn' : v' ≠ .slice none 0 0 := by simpa using hiff
                  have hr : ∀ j, (Value.slice (some ⟨g, 0, none⟩) P.length cap).ownBlock = some j → w.heap.size ≤ j := fun j hj => (HOWN8.out.lt j hj).1
                  have HO9 := Lib.hid (only_grown (only_alloc (only_alloc HO8.out _) _) hgrow hr)
                  have HS9 := Lib.hid (((HS8.out.alloc _).alloc _).grown hgrow (fun j hj => Nat.lt_of_lt_of_le HB.out (hr j hj)))
                  clear hgrow hiff hr
                  go_wp2
                  go_roundw
                  case rel => exact ⟨P ++ [E], q + 1, by rw [flat_snoc, List.length_append]; exact hown', by go_num, by omega, by omega, HD.out.snoc HE2.out.1 HE2.out.2, hnn', HS9.out.more (by omega), HO9.out⟩
                  case measure => simp [RowKit.intOf]; omega
          | true =>
            go_wp2_with (fail)
            refine (one_any B b _ 20 w5 HS5.out (by omega) (by omega) (by omega)).mono ?_
            rintro e w6 ⟨x6, rfl, hs6, ho6⟩
            have HOWN6 := Lib.hid (own_only HOWN5.out HB.out ho6)
            have HO6 := Lib.hid (only_trans HO5.out ho6)
            have HS6 := Lib.hid hs6
            clear hs6 ho6
            cases x6 with
            | false =>
              have HOWN7 := HOWN6
              have HO7 := HO6
              have HS7 := HS6
              have HE : Hid ((stepE q old ⟨#[]⟩).kind = 0 ∨ (okEdit (stepE q old ⟨#[]⟩) = true ∧ (stepE q old ⟨#[]⟩).id = q)) := Lib.hid (by
                rcases stepE_ok (i := q) (by omega) (by omega) HFO.out emp_txt with h | ⟨h1, h2, _⟩
                · left; rw [h]; rfl
                · exact .inr ⟨h1, h2⟩)
              have HST : Hid (Calls Try.prog 55 #[.int .i64 q, .string old, .string ⟨#[]⟩] w6 (RetB (.agg #[.int .i64 (stepE q old ⟨#[]⟩).kind, .int .i64 (stepE q old ⟨#[]⟩).id, .string (stepE q old ⟨#[]⟩).old, .string (stepE q old ⟨#[]⟩).new]) w6)) := Lib.hid (step1_any q old ⟨#[]⟩ w6)
              generalize stepE q old ⟨#[]⟩ = E at HE HST
              go_wp2_with (fail)
              refine (HST.out).mono ?_
              rintro e w8 ⟨rfl, hb8⟩
              have hown8 := own_below HOWN7.out hb8
              have hO8 := only_below' HO7.out hb8 HO7.out.size
              have hS8 := HS7.out.below hb8 HS7.out.lt.1
              have HOWN8 := Lib.hid hown8
              have HO8 := Lib.hid hO8
              have HS8 := Lib.hid hS8
              have hsz8 := hO8.size
              clear hown8 hO8 hS8 hb8
              by_cases hk0 : E.kind = 0
              · have e0 : (E.kind != 0) = false := by simp [hk0]
                have HO9 := Lib.hid (only_alloc HO8.out (.cells #[.int .i64 E.kind, .int .i64 E.id, .string E.old, .string E.new] 59))
                have HS9 := Lib.hid (HS8.out.alloc (.cells #[.int .i64 E.kind, .int .i64 E.id, .string E.old, .string E.new] 59))
                have HOWN9 := Lib.hid (HOWN8.out.alloc (.cells #[.int .i64 E.kind, .int .i64 E.id, .string E.old, .string E.new] 59))
                clear hk0
                go_wp2
                go_roundw
                case rel => exact ⟨P, q + 1, HOWN9.out, by go_num, by omega, by omega, HD.out.skip, by simp, HS9.out.more (by omega), HO9.out⟩
                case measure => simp [RowKit.intOf]; omega
              · have e0 : (E.kind != 0) = true := by simp [hk0]
                have HE2 := Lib.hid (HE.out.resolve_left hk0)
                clear hk0
                go_wp2_with (at_builtin; refine wpList_append_own _ rfl _ _ 25 rfl w.heap.size 59 i0 (.agg #[.int .i64 0, .int .i64 0, .string ⟨#[]⟩, .string ⟨#[]⟩]) 4 48 Try.underlying25 hi hz0 hz1 hz2 rfl (by decide) _ _ _ rfl ((HOWN8.out.alloc _).alloc _) ⟨w8.heap.size + 1, 0, none⟩ 1 1 (editCells E) rfl rfl (fun j u hj => new_at2 hj) (fun u hu => edit_one hu) ?c3 ?c4 (base_le (base_le hsz8)) ?_)
                case c3 => unfold maxLen; omega
                case c4 => omega
                · intro v' w9 hown' hgrow hiff
                  have hnn' : v' ≠ .slice none 0 0 := by simpa using hiff
                  have hr : ∀ j, (Value.slice (some ⟨g, 0, none⟩) P.length cap).ownBlock = some j → w.heap.size ≤ j := fun j hj => (HOWN8.out.lt j hj).1
                  have HO9 := Lib.hid (only_grown (only_alloc (only_alloc HO8.out _) _) hgrow hr)
                  have HS9 := Lib.hid (((HS8.out.alloc _).alloc _).grown hgrow (fun j hj => Nat.lt_of_lt_of_le HB.out (hr j hj)))
                  clear hgrow hiff hr
                  go_wp2
                  go_roundw
                  case rel => exact ⟨P ++ [E], q + 1, by rw [flat_snoc, List.length_append]; exact hown', by go_num, by omega, by omega, HD.out.snoc HE2.out.1 HE2.out.2, hnn', HS9.out.more (by omega), HO9.out⟩
                  case measure => simp [RowKit.intOf]; omega
            | true =>
              go_wp2_with (fail)
              refine (drawSent_any B b _ w6 HS6.out (by omega)).mono ?_
              rintro e w7 ⟨l7, hl7, rfl, hs7, ho7⟩
              have HOWN7 := Lib.hid (own_only HOWN6.out HB.out ho7)
              have HO7 := Lib.hid (only_trans HO6.out ho7)
              have HS7 := Lib.hid hs7
              have HL7 := Lib.hid hl7
              clear hs7 ho7 hl7
              have HE : Hid ((stepE q ⟨l7.toArray⟩ ⟨#[]⟩).kind = 0 ∨ (okEdit (stepE q ⟨l7.toArray⟩ ⟨#[]⟩) = true ∧ (stepE q ⟨l7.toArray⟩ ⟨#[]⟩).id = q)) := Lib.hid (by
                rcases stepE_ok (i := q) (by omega) (by omega) (sent_txt HL7.out) emp_txt with h | ⟨h1, h2, _⟩
                · left; rw [h]; rfl
                · exact .inr ⟨h1, h2⟩)
              have HST : Hid (Calls Try.prog 55 #[.int .i64 q, .string ⟨l7.toArray⟩, .string ⟨#[]⟩] w7 (RetB (.agg #[.int .i64 (stepE q ⟨l7.toArray⟩ ⟨#[]⟩).kind, .int .i64 (stepE q ⟨l7.toArray⟩ ⟨#[]⟩).id, .string (stepE q ⟨l7.toArray⟩ ⟨#[]⟩).old, .string (stepE q ⟨l7.toArray⟩ ⟨#[]⟩).new]) w7)) := Lib.hid (step1_any q ⟨l7.toArray⟩ ⟨#[]⟩ w7)
              generalize stepE q ⟨l7.toArray⟩ ⟨#[]⟩ = E at HE HST
              go_wp2_with (fail)
              refine (HST.out).mono ?_
              rintro e w8 ⟨rfl, hb8⟩
              have hown8 := own_below HOWN7.out hb8
              have hO8 := only_below' HO7.out hb8 HO7.out.size
              have hS8 := HS7.out.below hb8 HS7.out.lt.1
              have HOWN8 := Lib.hid hown8
              have HO8 := Lib.hid hO8
              have HS8 := Lib.hid hS8
              have hsz8 := hO8.size
              clear hown8 hO8 hS8 hb8
              by_cases hk0 : E.kind = 0
              · have e0 : (E.kind != 0) = false := by simp [hk0]
                have HO9 := Lib.hid (only_alloc HO8.out (.cells #[.int .i64 E.kind, .int .i64 E.id, .string E.old, .string E.new] 59))
                have HS9 := Lib.hid (HS8.out.alloc (.cells #[.int .i64 E.kind, .int .i64 E.id, .string E.old, .string E.new] 59))
                have HOWN9 := Lib.hid (HOWN8.out.alloc (.cells #[.int .i64 E.kind, .int .i64 E.id, .string E.old, .string E.new] 59))
                clear hk0
                go_wp2
                go_roundw
                case rel => exact ⟨P, q + 1, HOWN9.out, by go_num, by omega, by omega, HD.out.skip, by simp, HS9.out.more (by omega), HO9.out⟩
                case measure => simp [RowKit.intOf]; omega
              · have e0 : (E.kind != 0) = true := by simp [hk0]
                have HE2 := Lib.hid (HE.out.resolve_left hk0)
                clear hk0
                go_wp2_with (at_builtin; refine wpList_append_own _ rfl _ _ 25 rfl w.heap.size 59 i0 (.agg #[.int .i64 0, .int .i64 0, .string ⟨#[]⟩, .string ⟨#[]⟩]) 4 48 Try.underlying25 hi hz0 hz1 hz2 rfl (by decide) _ _ _ rfl ((HOWN8.out.alloc _).alloc _) ⟨w8.heap.size + 1, 0, none⟩ 1 1 (editCells E) rfl rfl (fun j u hj => new_at2 hj) (fun u hu => edit_one hu) ?c3 ?c4 (base_le (base_le hsz8)) ?_)
                case c3 => unfold maxLen; omega
                case c4 => omega
                · intro v' w9 hown' hgrow hiff
                  have hnn' : v' ≠ .slice none 0 0 := by simpa using hiff
                  have hr : ∀ j, (Value.slice (some ⟨g, 0, none⟩) P.length cap).ownBlock = some j → w.heap.size ≤ j := fun j hj => (HOWN8.out.lt j hj).1
                  have HO9 := Lib.hid (only_grown (only_alloc (only_alloc HO8.out _) _) hgrow hr)
                  have HS9 := Lib.hid (((HS8.out.alloc _).alloc _).grown hgrow (fun j hj => Nat.lt_of_lt_of_le HB.out (hr j hj)))
                  clear hgrow hiff hr
                  go_wp2
                  go_roundw
                  case rel => exact ⟨P ++ [E], q + 1, by rw [flat_snoc, List.length_append]; exact hown', by go_num, by omega, by omega, HD.out.snoc HE2.out.1 HE2.out.2, hnn', HS9.out.more (by omega), HO9.out⟩
                  case measure => simp [RowKit.intOf]; omega
    · have hq2 : ¬ (q : Int) ≤ 16 := by omega
      obtain rfl : q = 17 := by omega
      go_wp2
      go_ret
      exact ⟨_, P, rfl, HOWN.out, by simp, HD.out.ok, HS.out.more (by omega), HO.out⟩
end Go.Proofs.Ytmgdodgofpapgaa

namespace Go.Proofs.Ytmgdodgofpapgaa
open Go.RowKit Go.Lib

theorem lit_str (p : List UInt8 → Prop) (w : World) (t : TypeId) (L : List (List UInt8)) (hL : ∀ l ∈ L, p l) (j : Nat) (hj : j < L.length) : ∃ l, p l ∧ (w.alloc (.cells (L.map (fun l => Value.string ⟨l.toArray⟩)).toArray t)).cell? ⟨w.heap.size, j, none⟩ = some (.string ⟨l.toArray⟩) := by
  refine ⟨L[j], hL _ (List.getElem_mem hj), ?_⟩
  have := (Row.new w (L.map (fun l => Value.string ⟨l.toArray⟩)).toArray t).cell j (.string ⟨L[j].toArray⟩) (by simp [List.getElem?_eq_getElem hj])
  exact this
theorem lit_int (w : World) (t : TypeId) (L : List Int) (j : Nat) (hj : j < L.length) : ∃ x : Int, (w.alloc (.cells (L.map (fun x => Value.int .i64 x)).toArray t)).cell? ⟨w.heap.size, j, none⟩ = some (.int .i64 x) := by
  refine ⟨L[j], ?_⟩
  have := (Row.new w (L.map (fun x => Value.int .i64 x)).toArray t).cell j (.int .i64 L[j]) (by simp [List.getElem?_eq_getElem hj])
  exact this
def AmongPost (B : Nat) (w : World) (b k : Nat) (e : Ending) (w' : World) : Prop :=
  ∃ x : Int, e = .returned (.int .i64 x) ∧ Src B w' b k ∧ Only b w w'
set_option maxHeartbeats 400000 in
theorem among_any (B b k g n c : Nat) (w : World) (h : Src B w b k) (hk : k ≤ 58000) (hn : 1 ≤ n) (hn' : n ≤ 60000) (hg : g < w.heap.size) (hgb : g ≠ b)
    (hc : ∀ j, j < n → ∃ x : Int, w.cell? ⟨g, j, none⟩ = some (.int .i64 x)) :
    Calls Try.prog 70 #[.pointer (some ⟨b, 0, none⟩), .slice (some ⟨g, 0, none⟩) n c] w (AmongPost B w b (k + 2)) := by
  have H := Lib.hid h
  have HC := Lib.hid hc
  clear h hc
  go_enter Try.func70, Try.ntmps70
  go_wp2_with (fail)
  refine (pick_pos B b k n w H.out (by omega) (by omega) (by omega)).mono ?_
  rintro e w1 ⟨x, hx, rfl, hs, ho⟩
  have Hs := Lib.hid hs
  have hx' : x < n := by omega
  obtain ⟨l, hl⟩ := HC.out x hx'
  have x0 : w1.cell? ⟨g, x, none⟩ = some (.int .i64 l) := (only_cells ho g x hg hgb).1.trans hl
  have HO := Lib.hid ho
  clear hs hl ho
  go_wp2
  go_ret
  exact ⟨l, rfl, Hs.out, HO.out⟩

def LooseDraw (B : Nat) (w : World) (b k : Nat) (e : Ending) (w' : World) : Prop :=
  ∃ v P, e = .returned v ∧ OwnL editCells P w.heap.size w' v ∧ SizesOk P ∧ Src B w' b k ∧ Only b w w'
theorem size_lit {l : List UInt8} (h : l.length ≤ 24) : (⟨l.toArray⟩ : ByteArray).size ≤ maxLen := by
  have : (⟨l.toArray⟩ : ByteArray).size = l.length := by simp [ByteArray.size]
  unfold maxLen
  omega
set_option maxRecDepth 100000 in
set_option maxHeartbeats 4000000 in
theorem drawPatch_any (B b k base : Nat) (es : List Art) (v : Value) (w : World) (h : Src B w b k) (hk : k ≤ 40000) (hT : OwnL artCells es base w v) (hbb : b < base) (hok : okStat es = true) :
    Calls Try.prog 71 #[.pointer (some ⟨b, 0, none⟩), v] w (LooseDraw B w b (k + 240)) := by
  have HD := Lib.hid (drawFor_row B b k base es v w h (by omega) hT hbb hok)
  have hbw := h.lt
  obtain ⟨T, tc, rfl, _⟩ := hT
  obtain ⟨i0, hi, hz0, hz1, hz2⟩ := info_parts Try.infoE
  clear h hbb hok
  go_enter Try.func71, Try.ntmps71
  go_wp2_with (fail)
  refine (HD.out).mono ?_
  rintro e w1 ⟨v1, P, rfl, hP, hnn, hokP, hs1, ho1⟩
  obtain ⟨g, cap, rfl, hdc, hcm⟩ := own_some hP hnn
  unfold maxLen at hcm
  have HP1 := Lib.hid hP
  have HS1 := Lib.hid hs1
  have HO1 := Lib.hid ho1
  have HSZ := Lib.hid (sizesOk_of hokP)
  have hP16 := okPatch_len hokP
  clear hs1 ho1 HD hokP hP hnn
  go_wp2_with (fail)
  refine (one_any B b (k + 220) _ w1 HS1.out (by omega) (by omega) (by omega)).mono ?_
  rintro e w2 ⟨x2, rfl, hs2, ho2⟩
  have HP2 := Lib.hid (own_only HP1.out hbw.1 ho2)
  have HS2 := Lib.hid hs2
  have HO2 := Lib.hid (only_trans HO1.out ho2)
  clear hs2 ho2
  cases x2 with
  | false =>
    have HOL : Hid (OwnL editCells P w.heap.size w2 (.slice (some ⟨g, 0, none⟩) P.length cap)) := Lib.hid (OwnL.of_own editCells (size := 4) (fun _ => rfl) HP2.out)
    go_wp2
    go_ret
    exact ⟨_, P, rfl, HOL.out, HSZ.out, HS2.out.more (by omega), HO2.out⟩
  | true =>
    go_wp2_with (fail)
    refine (pick_pos B b (k + 220 + 2) _ w2 HS2.out (by omega) (by omega) (by omega)).mono ?_
    rintro e w3 ⟨x3, hx3, rfl, hs3, ho3⟩
    have HP3 := Lib.hid (own_only HP2.out hbw.1 ho3)
    have HS3 := Lib.hid hs3
    have HO3 := Lib.hid (only_trans HO2.out ho3)
    clear hs3 ho3
    have hb3 := HS3.out.lt.1
    go_wp2_with (fail)
    refine (among_any B b (k + 220 + 2 + 2) w3.heap.size 5 5 _ (HS3.out.alloc _) (by omega) (by omega) (by omega) (by simp) (by omega) (fun j hj => lit_int w3 _ [0, 1, 17, 99, 100] j hj)).mono ?_
    rintro e w4 ⟨x4, rfl, hs4, ho4⟩
    have HP4 := Lib.hid (own_only (HP3.out.alloc _) hbw.1 ho4)
    have HS4 := Lib.hid hs4
    have HO4 := Lib.hid (only_trans (only_alloc HO3.out _) ho4)
    clear hs4 ho4
    have hb4 := HS4.out.lt.1
    go_wp2_with (fail)
    refine (text_any (fun l => l.length ≤ 24) B b (k + 220 + 2 + 2 + 2) w4.heap.size 4 4 _ (HS4.out.alloc _) (by omega) (by omega) (by omega) (by simp) (by omega) (fun j hj => lit_str _ w4 _ [[], [97], [98], [32, 97]] (by decide) j hj)).mono ?_
    rintro e w5 ⟨l5, hp5, rfl, hs5, ho5⟩
    have HP5 := Lib.hid (own_only (HP4.out.alloc _) hbw.1 ho5)
    have HS5 := Lib.hid hs5
    have HO5 := Lib.hid (only_trans (only_alloc HO4.out _) ho5)
    have HL5 := Lib.hid (size_lit hp5)
    clear hs5 ho5 hp5
    generalize (⟨l5.toArray⟩ : ByteArray) = t5 at *
    have hb5 := HS5.out.lt.1
    go_wp2_with (fail)
    refine (text_any (fun l => l.length ≤ 24) B b (k + 220 + 2 + 2 + 2 + 2) w5.heap.size 4 4 _ (HS5.out.alloc _) (by omega) (by omega) (by omega) (by simp) (by omega) (fun j hj => lit_str _ w5 _ [[], [97], [98], [65]] (by decide) j hj)).mono ?_
    rintro e w6 ⟨l6, hp6, rfl, hs6, ho6⟩
    have HP6 := Lib.hid (own_only (HP5.out.alloc _) hbw.1 ho6)
    have HS6 := Lib.hid hs6
    have HO6 := Lib.hid (only_trans (only_alloc HO5.out _) ho6)
    have HL6 := Lib.hid (size_lit hp6)
    clear hs6 ho6 hp6
    generalize (⟨l6.toArray⟩ : ByteArray) = t6 at *
    have hb6 := HS6.out.lt.1
    have hg6 := (HP6.out.lt g rfl)
    go_wp2_with (at_builtin; refine wpList_append_own _ rfl _ _ 25 rfl w.heap.size 59 i0 (.agg #[.int .i64 0, .int .i64 0, .string ⟨#[]⟩, .string ⟨#[]⟩]) 4 48 Try.underlying25 hi hz0 hz1 hz2 rfl (by decide) _ _ _ rfl ((HP6.out.alloc _).alloc _) ⟨w6.heap.size + 1, 0, none⟩ 1 1 (editCells ⟨(x3 : Int), x4, t5, t6⟩) rfl rfl (fun j u hj => new_at2 hj) (fun u hu => edit_one hu) ?c3 ?c4 (base_le (base_le HO6.out.size)) ?_)
    case c3 => unfold maxLen; omega
    case c4 => omega
    intro v' w9 hown' hgrow hiff
    have hs9 := ((HS6.out.alloc (.cells #[.int .i64 (x3 : Int), .int .i64 x4, .string t5, .string t6] 59)).alloc (.cells #[.int .i64 (x3 : Int), .int .i64 x4, .string t5, .string t6] 59)).grown hgrow (fun j hj => by have := HP6.out.lt j hj; omega)
    have ho9 := only_grown (only_alloc (only_alloc HO6.out (.cells #[.int .i64 (x3 : Int), .int .i64 x4, .string t5, .string t6] 59)) (.cells #[.int .i64 (x3 : Int), .int .i64 x4, .string t5, .string t6] 59)) hgrow (fun j hj => by have := HP6.out.lt j hj; omega)
    have HOL : Hid (OwnL editCells (P ++ [⟨(x3 : Int), x4, t5, t6⟩]) w.heap.size w9 v') := Lib.hid (OwnL.of_own editCells (size := 4) (fun _ => rfl) (by rw [List.length_append, List.flatMap_append]; simpa using hown'))
    have HSZ2 : Hid (SizesOk (P ++ [(⟨(x3 : Int), x4, t5, t6⟩ : Edit)])) := Lib.hid (fun e he => by
      rcases List.mem_append.1 he with he | he
      · exact HSZ.out e he
      · rw [List.mem_singleton.1 he]
        exact ⟨HL5.out, HL6.out⟩)
    have HS9 := Lib.hid hs9
    have HO9 := Lib.hid ho9
    obtain ⟨TA, tp, rfl, _⟩ := HOL.out
    clear hown' hgrow hiff hs9 ho9
    go_wp2
    go_ret
    exact ⟨_, _, rfl, HOL.out, HSZ2.out, HS9.out.more (by omega), HO9.out⟩
end Go.Proofs.Ytmgdodgofpapgaa

namespace Go.Proofs.Ytmgdodgofpapgaa
open Go.RowKit Go.Lib

theorem OwnL.apart {α : Type} {f : α → List Value} {xs : List α} {base b : Nat} {w w' : World} {v : Value} (h : OwnL f xs base w v) (ho : Only b w w') (hne : xs ≠ [] → v.ownBlock ≠ some b) : OwnL f xs base w' v := by
  obtain ⟨A, c, rfl, h1, h2, h3⟩ := h
  refine ⟨A, c, rfl, h1, h2, fun h0 => ?_⟩
  obtain ⟨g, rfl, hg, hlt, hr⟩ := h3 h0
  exact ⟨g, rfl, hg, Nat.lt_of_lt_of_le hlt ho.size, hr.only hlt (fun e => hne h0 (by rw [← e]; rfl)) ho⟩
theorem OwnL.blk {α : Type} {f : α → List Value} {xs : List α} {base : Nat} {w : World} {v : Value} (h : OwnL f xs base w v) (h0 : xs ≠ []) : ∃ g, v.ownBlock = some g ∧ base ≤ g ∧ g < w.heap.size := by
  obtain ⟨A, c, rfl, h1, h2, h3⟩ := h
  obtain ⟨g, rfl, hg, hlt, _⟩ := h3 h0
  exact ⟨g, rfl, hg, hlt⟩
structure DrawSt (base : Nat) (w : World) (S T : List Art) (vs vt : Value) (g cap : Nat) (L : List VAct) : Prop where
  s : OwnL artCells S base w vs
  sn : S ≠ [] → vs.ownBlock ≠ some g
  t : OwnL artCells T base w vt
  tn : T ≠ [] → vt.ownBlock ≠ some g
  row : w.ownsRow base 49 3 (.slice (some ⟨g, 0, none⟩) L.length cap) L.length (L.flatMap vCells)
  pats : ∀ x ∈ L, OwnL editCells x.a.pat base w x.v ∧ (x.a.pat ≠ [] → x.v.ownBlock ≠ some g) ∧ SizesOk x.a.pat
theorem DrawSt.only {base b : Nat} {w w' : World} {S T : List Art} {vs vt : Value} {g cap : Nat} {L : List VAct} (h : DrawSt base w S T vs vt g cap L) (hb : b < base) (ho : Only b w w') : DrawSt base w' S T vs vt g cap L :=
  ⟨h.s.only hb ho, h.sn, h.t.only hb ho, h.tn, own_only h.row hb ho, fun x hx => ⟨(h.pats x hx).1.only hb ho, (h.pats x hx).2⟩⟩
theorem DrawSt.setT {base : Nat} {w : World} {S T U : List Art} {vs vt vu : Value} {g cap : Nat} {L : List VAct} (h : DrawSt base w S T vs vt g cap L) (hu : OwnL artCells U base w vu) (hn : U ≠ [] → vu.ownBlock ≠ some g) : DrawSt base w S U vs vu g cap L :=
  ⟨h.s, h.sn, hu, hn, h.row, h.pats⟩
theorem DrawSt.push {base : Nat} {w w' : World} {S T : List Art} {vs vt : Value} {g cap g' cap' : Nat} {L : List VAct} {x : VAct} (h : DrawSt base w S T vs vt g cap L) (hg : w.grownBy w' (some g))
    (hor : g' = g ∨ g' = w.heap.size) (hrow : w'.ownsRow base 49 3 (.slice (some ⟨g', 0, none⟩) (L.length + 1) cap') (L.length + 1) (L.flatMap vCells ++ vCells x))
    (hx : OwnL editCells x.a.pat base w x.v) (hxn : x.a.pat ≠ [] → x.v.ownBlock ≠ some g) (hxs : SizesOk x.a.pat) : DrawSt base w' S T vs vt g' cap' (L ++ [x]) := by
  have hne : ∀ {α : Type} {f : α → List Value} {xs : List α} {v : Value}, OwnL f xs base w v → (xs ≠ [] → v.ownBlock ≠ some g) → xs ≠ [] → v.ownBlock ≠ some g' := fun ho hn h0 e => by
    rcases hor with e' | e'
    · rw [e'] at e; exact hn h0 e
    · obtain ⟨k, hk, _, hlt⟩ := ho.blk h0
      rw [hk] at e
      injection e with e
      omega
  refine ⟨h.s.apart hg h.sn, hne h.s h.sn, h.t.apart hg h.tn, hne h.t h.tn, by simpa using hrow, fun y hy => ?_⟩
  rcases List.mem_append.1 hy with hy | hy
  · obtain ⟨p1, p2, p3⟩ := h.pats y hy
    exact ⟨p1.apart hg p2, hne p1 p2, p3⟩
  · rw [List.mem_singleton.1 hy]
    exact ⟨hx.apart hg hxn, hne hx hxn, hxs⟩
theorem DrawSt.acts {base : Nat} {w : World} {S T : List Art} {vs vt : Value} {g cap : Nat} {L : List VAct} (h : DrawSt base w S T vs vt g cap L) : Acts w w.heap.size (.slice (some ⟨g, 0, none⟩) L.length cap) (L.map (·.a)) :=
  ⟨L, rfl, SlR.of_own vCells (size := 3) (fun _ => rfl) h.row, fun x hx => (h.pats x hx).1.slR (size := 4) (fun _ => rfl)⟩
theorem DrawSt.sz {base : Nat} {w : World} {S T : List Art} {vs vt : Value} {g cap : Nat} {L : List VAct} (h : DrawSt base w S T vs vt g cap L) : ActsSz (L.map (·.a)) := fun a ha => by
  obtain ⟨x, hx, rfl⟩ := List.mem_map.1 ha
  exact (h.pats x hx).2.2

theorem own_cell {w : World} {base g n cap size : Nat} {e : TypeId} {xs : List Value} (h : w.ownsRow base e size (.slice (some ⟨g, 0, none⟩) n cap) n xs) {j : Nat} {u : Value} (hj : xs[j]? = some u) : w.cell? ⟨g, j, none⟩ = some u ∧ w.frozen? ⟨g, j, none⟩ = false := by
  obtain ⟨T, hB, _⟩ := blk_of_own h
  have hlt := (List.getElem?_eq_some_iff.1 hj).1
  refine ⟨?_, hB.free (by rw [List.length_append]; omega)⟩
  rw [hB.cell, List.getElem?_append_left hlt, hj]
theorem own_store {w : World} {base g n cap size : Nat} {e : TypeId} {xs : List Value} (h : w.ownsRow base e size (.slice (some ⟨g, 0, none⟩) n cap) n xs) (j : Nat) (hj : j < xs.length) (u : Value) (hu : u.oneCell' = true) :
    (w.setCell ⟨g, j, none⟩ u).ownsRow base e size (.slice (some ⟨g, 0, none⟩) n cap) n (xs.set j u) := by
  obtain ⟨T, hB, hC, hnc, hcm, hbg, hxl⟩ := blk_of_own h
  have hs := hB.set Try.prog j [u] (by rw [List.length_append, List.length_singleton]; omega) (fun v hv => by rw [List.mem_singleton] at hv; subst hv; exact hu)
  have e1 : splice (xs ++ T) j [u] = xs.set j u ++ T := by
    unfold splice
    rw [List.take_append_of_le_length (by omega), List.length_singleton, List.drop_append_of_le_length (by omega), List.set_eq_take_append_cons_drop, if_pos hj]
    simp
  rw [e1] at hs
  have hl2 : (xs.set j u).length = n * size := by rw [List.length_set]; exact hxl
  exact own_of_blk hs (by rw [List.length_append, hl2, ← hxl, ← List.length_append]; exact hC) (by rw [List.take_left' hl2]) hl2 hnc hcm hbg
theorem v_set0 : ∀ (L : List VAct) (i : Nat) (y : VAct) (n : Int), L[i]? = some y → (L.flatMap vCells).set (i * 3) (.int .i64 n) = (L.set i ⟨⟨n, y.a.fin, y.a.pat⟩, y.v⟩).flatMap vCells
  | [], _, _, _, h => by simp at h
  | x :: L, 0, y, n, h => by
    rw [List.getElem?_cons_zero] at h
    injection h with h
    subst h
    rfl
  | x :: L, i + 1, y, n, h => by
    rw [List.getElem?_cons_succ] at h
    have := v_set0 L i y n h
    rw [List.set_cons_succ, List.flatMap_cons, List.flatMap_cons, ← this, show (i + 1) * 3 = i * 3 + 1 + 1 + 1 by omega]
    rfl
theorem v_set1 : ∀ (L : List VAct) (i : Nat) (y : VAct) (n : Int), L[i]? = some y → (L.flatMap vCells).set (i * 3 + 1) (.int .i64 n) = (L.set i ⟨⟨y.a.beg, n, y.a.pat⟩, y.v⟩).flatMap vCells
  | [], _, _, _, h => by simp at h
  | x :: L, 0, y, n, h => by
    rw [List.getElem?_cons_zero] at h
    injection h with h
    subst h
    rfl
  | x :: L, i + 1, y, n, h => by
    rw [List.getElem?_cons_succ] at h
    have := v_set1 L i y n h
    rw [List.set_cons_succ, List.flatMap_cons, List.flatMap_cons, ← this, show (i + 1) * 3 + 1 = i * 3 + 1 + 1 + 1 + 1 by omega]
    rfl
theorem v_set2 : ∀ (L : List VAct) (i : Nat) (y : VAct) (v : Value) (P : List Edit), L[i]? = some y → (L.flatMap vCells).set (i * 3 + 2) v = (L.set i ⟨⟨y.a.beg, y.a.fin, P⟩, v⟩).flatMap vCells
  | [], _, _, _, _, h => by simp at h
  | x :: L, 0, y, v, P, h => by
    rw [List.getElem?_cons_zero] at h
    injection h with h
    subst h
    rfl
  | x :: L, i + 1, y, v, P, h => by
    rw [List.getElem?_cons_succ] at h
    have := v_set2 L i y v P h
    rw [List.set_cons_succ, List.flatMap_cons, List.flatMap_cons, ← this, show (i + 1) * 3 + 2 = i * 3 + 2 + 1 + 1 + 1 by omega]
    rfl
theorem mem_set {α : Type} {L : List α} {i : Nat} {y x : α} (h : x ∈ L.set i y) : x = y ∨ x ∈ L := (List.mem_or_eq_of_mem_set h).symm
/-- One cell of one act is set. -/
theorem DrawSt.put {base : Nat} {w : World} {S T : List Art} {vs vt : Value} {g cap : Nat} {L : List VAct} (h : DrawSt base w S T vs vt g cap L) (j i : Nat) (u : Value) (hu : u.oneCell' = true) (y : VAct) (hj : j < L.length * 3) (he : (L.flatMap vCells).set j u = (L.set i y).flatMap vCells)
    (hy : OwnL editCells y.a.pat base w y.v) (hyn : y.a.pat ≠ [] → y.v.ownBlock ≠ some g) (hys : SizesOk y.a.pat) : DrawSt base (w.setCell ⟨g, j, none⟩ u) S T vs vt g cap (L.set i y) := by
  have hg : Only g w (w.setCell ⟨g, j, none⟩ u) := only_setCell (only_refl g w) (.inl rfl) u
  have hl : (L.flatMap vCells).length = L.length * 3 := flat_len (k := 3) vCells (fun _ => rfl) L
  have hr := own_store h.row j (by omega) u hu
  refine ⟨h.s.apart hg h.sn, h.sn, h.t.apart hg h.tn, h.tn, by rw [List.length_set, ← he]; exact hr, fun x hx => ?_⟩
  rcases mem_set hx with rfl | hx
  · exact ⟨hy.apart hg hyn, hyn, hys⟩
  · obtain ⟨p1, p2, p3⟩ := h.pats x hx
    exact ⟨p1.apart hg p2, p2, p3⟩
end Go.Proofs.Ytmgdodgofpapgaa

namespace Go.Proofs.Ytmgdodgofpapgaa
open Go.RowKit Go.Lib

theorem Try.infoAct : (Try.prog.info? 49).map (fun i => (i.zero, i.size, i.bytes)) = some (some (.agg #[.int .i64 0, .int .i64 0, .slice none 0 0]), 3, 40) := by kernel_rfl
theorem vact_one {x : VAct} {A : Option Addr} {n c : Nat} (hv : x.v = .slice A n c) {u : Value} (h : u ∈ vCells x) : u.oneCell' = true := by
  unfold vCells at h
  rcases List.mem_cons.1 h with rfl | h
  · rfl
  · rcases List.mem_cons.1 h with rfl | h
    · rfl
    · rw [List.mem_singleton] at h
      subst h
      rw [hv]
      rfl
def lenV : Value → Nat
  | .slice _ n _ => n
  | _ => 0
def ActsDraw (b : Nat) (w : World) (e : Ending) (w' : World) : Prop :=
  ∃ v1 v2 S ls, e = .returned (.tuple #[v1, v2]) ∧ OwnL artCells S w.heap.size w' v1 ∧ okStat S = true ∧ Acts w' w'.heap.size v2 ls ∧ ActsSz ls ∧ Only b w w'

set_option maxRecDepth 100000 in
set_option maxHeartbeats 8000000 in
theorem drawActs_any (B b k : Nat) (w : World) (h : Src B w b k) (hk : k ≤ 10000) :
    Calls Try.prog 38 #[.pointer (some ⟨b, 0, none⟩)] w (ActsDraw b w) := by
  have H := Lib.hid h
  have hbw := h.lt.1
  obtain ⟨i0, hi, hz0, hz1', hz2⟩ := info_parts Try.infoAct
  clear h
  go_enter Try.func38, Try.ntmps38
  go_wp2_with (fail)
  refine (drawOk_any B b k w H.out (by omega)).mono ?_
  rintro e wa ⟨vs, S, rfl, hS, hokS, hsa, hoa⟩
  have HOKS := Lib.hid hokS
  have HSA := Lib.hid hsa
  have HOA := Lib.hid hoa
  have HSS := Lib.hid hS
  obtain ⟨TA, tc, rfl, _⟩ := hS
  clear hsa hoa hokS
  go_wp2_with (fail)
  have hown0 : (wa.alloc (.cells #[] 49)).ownsRow w.heap.size 49 3 (.slice (some ⟨wa.heap.size, 0, none⟩) 0 0) 0 [] := by simpa using World.ownsRow_made wa #[] 0 HOA.out.size (Nat.zero_le _) rfl
  have hsne : S ≠ [] → (Value.slice TA S.length tc).ownBlock ≠ some wa.heap.size := fun h0 e => by
    obtain ⟨j, hj, _, hlt⟩ := HSS.out.blk h0
    rw [hj] at e
    injection e with e
    omega
  have HD0 : Hid (DrawSt w.heap.size (wa.alloc (.cells #[] 49)) S S (.slice TA S.length tc) (.slice TA S.length tc) wa.heap.size 0 []) := Lib.hid ⟨HSS.out.only hbw (only_alloc (only_refl b wa) _), hsne, HSS.out.only hbw (only_alloc (only_refl b wa) _), hsne, hown0, fun x hx => by cases hx⟩
  have HO0 : Hid (Only b w (wa.alloc (.cells #[] 49))) := Lib.hid (only_alloc HOA.out _)
  refine (pick_pos B b _ 4 _ (HSA.out.alloc _) (by omega) (by omega) (by omega)).mono ?_
  rintro e wb ⟨xb, hxb, rfl, hsb, hob⟩
  have HDB := Lib.hid (HD0.out.only hbw hob)
  have HOB := Lib.hid (only_trans HO0.out hob)
  have HSB := Lib.hid hsb
  clear hsb hob hown0
  go_wp2_with (fail)
  refine (pick_pos B b _ 5 wb HSB.out (by omega) (by omega) (by omega)).mono ?_
  rintro e wc ⟨xc, hxc, rfl, hsc, hoc⟩
  have HDC := Lib.hid (HDB.out.only hbw hoc)
  have HOC := Lib.hid (only_trans HOB.out hoc)
  have HSC := Lib.hid hsc
  clear hsc hoc
  go_wp2
  go_loopw [5, 6, 7, 8] (fun va f vt n wr => ∃ (m : Nat) (F : Int) (T : List Art) (vt' : Value) (g cap : Nat) (L : List VAct), va = .slice (some ⟨g, 0, none⟩) L.length cap ∧ f = .int .i64 F ∧ vt = vt' ∧ n = .int .i64 (m : Int) ∧ 0 ≤ F ∧ F ≤ 20 - 4 * (m : Int) ∧ L.length + m ≤ 4 ∧ okStat T = true ∧ DrawSt w.heap.size wr S T (.slice TA S.length tc) vt' g cap L ∧ Src B wr b (k + 64 + 240 * (4 - m)) ∧ Only b w wr) (fun _ _ _ n _ => (RowKit.intOf n).toNat)
  case atStart => exact ⟨xc, xb, S, (.slice TA S.length tc), wa.heap.size, 0, [], rfl, rfl, rfl, rfl, by omega, by omega, by simp; omega, HOKS.out, HDC.out, HSC.out.more (by omega), HOC.out⟩
  case round =>
    obtain ⟨m, F, T, vt, g, cap, L, rfl, rfl, rfl, rfl, hF0, hF1, hLm, hokT, hD, hs, ho⟩ := hrel
    have HD := Lib.hid hD
    have HS := Lib.hid hs
    have HO := Lib.hid ho
    have HOKT := Lib.hid hokT
    have hwr := ho.size
    have HGL := Lib.hid (hD.row.lt g rfl)
    obtain ⟨hdc, hcm⟩ : L.length ≤ cap ∧ cap ≤ maxLen := by obtain ⟨_, _, _, h1, h2, _⟩ := blk_of_own hD.row; exact ⟨h1, h2⟩
    unfold maxLen at hcm
    obtain ⟨TT, tt, rfl, _⟩ := hD.t
    clear hD hs ho hokT
    rcases m with _ | m
    · have h00 : ¬ (0 : Int) < ((0 : Nat) : Int) := by simp
      have hLm' : L.length ≤ 4 := by omega
      by_cases hl0 : L.length = 0
      · have el : ((L.length : Int) == 0) = true := by simp [hl0]
        clear hl0
        go_wp2
        go_ret2
        exact ⟨_, _, S, _, rfl, HD.out.s, HOKS.out, HD.out.acts, HD.out.sz, HO.out⟩
      · have el : ((L.length : Int) == 0) = false := by simp [hl0]
        go_wp2_with (fail)
        refine (one_any B b _ _ wr HS.out (by omega) (by omega) (by omega)).mono ?_
        rintro e w1 ⟨x1, rfl, hs1, ho1⟩
        have HS1 := Lib.hid hs1
        have HO1 := Lib.hid (only_trans HO.out ho1)
        have HD1 := Lib.hid (HD.out.only hbw ho1)
        clear hs1 ho1
        cases x1 with
        | false =>
          go_wp2
          go_ret2
          exact ⟨_, _, S, _, rfl, HD1.out.s, HOKS.out, HD1.out.acts, HD1.out.sz, HO1.out⟩
        | true =>
          go_wp2_with (fail)
          refine (pick_pos B b _ (L.length : Int) w1 HS1.out (by omega) (by omega) (by omega)).mono ?_
          rintro e w2 ⟨i, hi2, rfl, hs2, ho2⟩
          have hiL : i < L.length := by omega
          have HS2 := Lib.hid hs2
          have HO2 := Lib.hid (only_trans HO1.out ho2)
          have HD2 := Lib.hid (HD1.out.only hbw ho2)
          clear hs2 ho2
          go_wp2_with (fail)
          refine (pick_pos B b _ 4 w2 HS2.out (by omega) (by omega) (by omega)).mono ?_
          rintro e w3 ⟨x3, hx3, rfl, hs3, ho3⟩
          have HS3 := Lib.hid hs3
          have HO3 := Lib.hid (only_trans HO2.out ho3)
          have HD3 := Lib.hid (HD2.out.only hbw ho3)
          clear hs3 ho3
          have hgety : L[i]? = some L[i] := List.getElem?_eq_getElem hiL
          have hpy := HD3.out.pats L[i] (List.getElem_mem hiL)
          have q0 := flat_at vCells (size := 3) (fun _ => rfl) L i L[i] 0 _ hgety rfl (by omega)
          have q1 := flat_at vCells (size := 3) (fun _ => rfl) L i L[i] 1 _ hgety rfl (by omega)
          have q2 := flat_at vCells (size := 3) (fun _ => rfl) L i L[i] 2 _ hgety rfl (by omega)
          have HY := Lib.hid hgety
          have HPY := Lib.hid hpy
          have HQ0 : Hid ((L.flatMap vCells)[i * 3]? = some (.int .i64 L[i].a.beg)) := Lib.hid q0
          have HQ1 := Lib.hid q1
          have HQ2 := Lib.hid q2
          have hb3 := HS3.out.lt.1
          have hg3 := HD3.out.row.lt g rfl
          clear hgety hpy q0 q1 q2
          generalize L[i] = y at *
          by_cases h0 : x3 = 0
          · have e0 : ((x3 : Int) == 0) = true := by simp [h0]
            obtain ⟨c0, _⟩ := own_cell HD3.out.row HQ0.out
            clear h0
            go_wp2_with (fail)
            refine (among_any B b _ w3.heap.size 3 3 _ (HS3.out.alloc _) (by omega) (by omega) (by omega) (by simp) (by omega) (fun j hj => lit_int w3 _ [-1, y.a.beg, 1001] j hj)).mono ?_
            rintro e w4 ⟨x4, rfl, hs4, ho4⟩
            have HO4 := Lib.hid (only_trans (only_alloc HO3.out _) ho4)
            have HD4 := Lib.hid (HD3.out.only hbw (only_trans (only_alloc (only_refl b w3) _) ho4))
            obtain ⟨c1, f1⟩ := own_cell HD4.out.row HQ1.out
            have HP4 := Lib.hid (HD4.out.put (i * 3 + 1) i (.int .i64 x4) rfl ⟨⟨y.a.beg, x4, y.a.pat⟩, y.v⟩ (by omega) (v_set1 L i y x4 HY.out) (HPY.out.1.only hbw (only_trans (only_alloc (only_refl b w3) _) ho4)) HPY.out.2.1 HPY.out.2.2)
            have HPO := Lib.hid (only_setCell HO4.out (p := ⟨g, i * 3 + 1, none⟩) (.inr hg3.1) (.int .i64 x4))
            clear hs4 ho4 c0
            go_wp2
            go_ret2
            exact ⟨_, _, S, _, rfl, HP4.out.s, HOKS.out, by have := HP4.out.acts; rw [List.length_set] at this; exact this, HP4.out.sz, HPO.out⟩
          · have e0 : ((x3 : Int) == 0) = false := by simp [h0]
            by_cases h1 : x3 = 1
            · have e1 : ((x3 : Int) == 1) = true := by simp [h1]
              clear h0 h1
              go_wp2_with (fail)
              refine (among_any B b _ w3.heap.size 4 4 _ (HS3.out.alloc _) (by omega) (by omega) (by omega) (by simp) (by omega) (fun j hj => lit_int w3 _ [-1, 999, 1000, 40] j hj)).mono ?_
              rintro e w4 ⟨x4, rfl, hs4, ho4⟩
              have HO4 := Lib.hid (only_trans (only_alloc HO3.out _) ho4)
              have HD4 := Lib.hid (HD3.out.only hbw (only_trans (only_alloc (only_refl b w3) _) ho4))
              obtain ⟨c0, f0⟩ := own_cell HD4.out.row HQ0.out
              have HP4 := Lib.hid (HD4.out.put (i * 3) i (.int .i64 x4) rfl ⟨⟨x4, y.a.fin, y.a.pat⟩, y.v⟩ (by omega) (v_set0 L i y x4 HY.out) (HPY.out.1.only hbw (only_trans (only_alloc (only_refl b w3) _) ho4)) HPY.out.2.1 HPY.out.2.2)
              have HPO := Lib.hid (only_setCell HO4.out (p := ⟨g, i * 3, none⟩) (.inr hg3.1) (.int .i64 x4))
              clear hs4 ho4
              go_wp2
              go_ret2
              exact ⟨_, _, S, _, rfl, HP4.out.s, HOKS.out, by have := HP4.out.acts; rw [List.length_set] at this; exact this, HP4.out.sz, HPO.out⟩
            · have e1 : ((x3 : Int) == 1) = false := by rw [beq_eq_false_iff_ne]; omega
              by_cases h2 : x3 = 2
              · have e2 : ((x3 : Int) == 2) = true := by simp [h2]
                clear h0 h1 h2
                go_wp2_with (fail)
                refine (drawPatch_any B b _ w.heap.size [] (.slice (some ⟨w3.heap.size, 0, none⟩) 0 0) _ (HS3.out.alloc _) (by omega) ⟨_, 0, rfl, Nat.le_refl _, Nat.zero_le _, fun h => absurd rfl h⟩ hbw (by decide)).mono ?_
                rintro e w4 ⟨v4, P, rfl, hP, hsz, hs4, ho4⟩
                have HO4 := Lib.hid (only_trans (only_alloc HO3.out _) ho4)
                have HD4 := Lib.hid (HD3.out.only hbw (only_trans (only_alloc (only_refl b w3) _) ho4))
                have hz4 : w.heap.size ≤ (w3.alloc (.cells #[] 70)).heap.size := (only_alloc HO3.out _).size
                have hz4' : w3.heap.size ≤ (w3.alloc (.cells #[] 70)).heap.size := by simp
                have HPL := Lib.hid (hP.less (b := w.heap.size) hz4)
                have hpn : P ≠ [] → v4.ownBlock ≠ some g := fun h0 e => by
                  obtain ⟨k, hk, h1, _⟩ := hP.blk h0
                  rw [hk] at e
                  injection e with e
                  omega
                obtain ⟨A4, c4, rfl, _⟩ := hP
                obtain ⟨c2, f2⟩ := own_cell HD4.out.row HQ2.out
                have HP4 := Lib.hid (HD4.out.put (i * 3 + 2) i (.slice A4 P.length c4) rfl ⟨⟨y.a.beg, y.a.fin, P⟩, .slice A4 P.length c4⟩ (by omega) (v_set2 L i y _ P HY.out) HPL.out hpn hsz)
                have HPO := Lib.hid (only_setCell HO4.out (p := ⟨g, i * 3 + 2, none⟩) (.inr hg3.1) (.slice A4 P.length c4))
                clear hs4 ho4 hz4 hz4' hpn hsz
                go_wp2
                go_ret2
                exact ⟨_, _, S, _, rfl, HP4.out.s, HOKS.out, by have := HP4.out.acts; rw [List.length_set] at this; exact this, HP4.out.sz, HPO.out⟩
              · have e2 : ((x3 : Int) == 2) = false := by rw [beq_eq_false_iff_ne]; omega
                have e3 : ((x3 : Int) == 3) = true := by simp; omega
                clear h0 h1 h2
                go_wp2
                go_loopw [5] (fun va wr => ∃ (g cap : Nat) (L : List VAct), va = .slice (some ⟨g, 0, none⟩) L.length cap ∧ L.length ≤ 9 ∧ DrawSt w.heap.size wr S T (.slice TA S.length tc) (.slice TT T.length tt) g cap L ∧ Only b w wr) (fun va _ => 9 - lenV va)
                case atStart => exact ⟨g, cap, L, rfl, by omega, HD3.out, HO3.out⟩
                case round =>
                  obtain ⟨g, cap, L, rfl, hL9, hD, ho⟩ := hrel
                  have HD := Lib.hid hD
                  have HO := Lib.hid ho
                  have hg := hD.row.lt g rfl
                  obtain ⟨hdc, hcm⟩ : L.length ≤ cap ∧ cap ≤ maxLen := by obtain ⟨_, _, _, h1, h2, _⟩ := blk_of_own hD.row; exact ⟨h1, h2⟩
                  unfold maxLen at hcm
                  clear hD ho
                  by_cases hlt : L.length ≤ 8
                  · have hlt' : (L.length : Int) ≤ 8 := by omega
                    go_wp2_with (at_builtin; refine wpList_append_own_at _ rfl _ _ 38 rfl w.heap.size 49 i0 (.agg #[.int .i64 0, .int .i64 0, .slice none 0 0]) 3 40 Try.underlying38 hi hz0 hz1' hz2 rfl (by decide) _ _ _ rfl (HD.out.row.alloc _) ⟨wr.heap.size, 0, none⟩ 1 1 (vCells ⟨⟨500, 501, []⟩, .slice none 0 0⟩) rfl rfl (fun j u hj => by have := (Row.new wr (vCells ⟨⟨500, 501, []⟩, .slice none 0 0⟩).toArray 49).cell j u (by simpa using hj); rw [Addr.add_lit, Nat.zero_add]; exact this) (fun u hu => vact_one rfl hu) ?c3 ?c4 (base_le HO.out.size) ?_)
                    case c3 => unfold maxLen; omega
                    case c4 => omega
                    intro v' w9 hown' hgrow hiff hor
                    obtain ⟨g', cap', rfl, hdc', hcm'⟩ := own_some hown' (by simpa using hiff)
                    have HDA := Lib.hid (HD.out.only hbw (only_alloc (only_refl b wr) (.cells #[.int .i64 500, .int .i64 501, .slice none 0 0] 49)))
                    have HD9 := Lib.hid (HDA.out.push (x := ⟨⟨500, 501, []⟩, .slice none 0 0⟩) hgrow (by rcases hor with h | h <;> injection h with h; exact .inl h; exact .inr (by simpa using h)) hown' ⟨none, 0, rfl, Nat.le_refl _, Nat.zero_le _, fun h => absurd rfl h⟩ (fun h => absurd rfl h) (fun e he => by cases he))
                    have HO9 := Lib.hid (only_grown (only_alloc HO.out (.cells #[.int .i64 500, .int .i64 501, .slice none 0 0] 49)) hgrow (fun j hj => (HDA.out.row.lt j hj).1))
                    clear hown' hgrow hiff hor
                    go_wp2
                    go_roundw
                    case rel => exact ⟨g', cap', _, by rw [List.length_append, List.length_singleton], by rw [List.length_append, List.length_singleton]; omega, HD9.out, HO9.out⟩
                    case measure => simp [lenV]; omega
                  · have hlt' : ¬ (L.length : Int) ≤ 8 := by omega
                    clear hlt
                    go_wp2
                    go_ret2
                    exact ⟨_, _, S, _, rfl, HD.out.s, HOKS.out, HD.out.acts, HD.out.sz, HO.out⟩
    · have hm' : (0 : Int) < ((m + 1 : Nat) : Int) := by omega
      go_wp2_with (fail)
      refine (pick_pos B b _ 12 wr HS.out (by omega) (by omega) (by omega)).mono ?_
      rintro e w1 ⟨x1, hx1, rfl, hs1, ho1⟩
      have HS1 := Lib.hid hs1
      have HO1 := Lib.hid ho1
      have hz1 := ho1.size
      have hgb : w1.heap.size ≠ b := by have := hs1.lt.1; omega
      have hb1 := hs1.lt.1
      clear hs1 ho1
      go_wp2_with (fail)
      refine (one_any B b _ _ _ (HS1.out.alloc _) (by omega) (by omega) (by omega)).mono ?_
      rintro e w2 ⟨x2, rfl, hs2, ho2⟩
      have HR2 := Lib.hid ((Row.new w1 #[.int .i64 F, .int .i64 (F + 1 + x1), .slice none 0 0] 49).only (by simp) hgb ho2)
      have HS2 := Lib.hid hs2
      have HO2 := Lib.hid (only_trans (only_alloc HO1.out _) ho2)
      have hga2 : w1.heap.size < w2.heap.size := by have := ho2.size; simp at this; omega
      clear ho2 hs2
      cases x2 with
      | false =>
        have hu : ¬ (999 : Int) < F + 1 + x1 := by omega
        obtain ⟨V, hV⟩ : ∃ V : World, V = w2 := ⟨_, rfl⟩
        have HSV := hV ▸ HS2
        have HOV := hV ▸ HO2
        have HRV : Hid (Row V w1.heap.size [.int .i64 F, .int .i64 (F + 1 + x1), .slice none 0 0]) := hV ▸ HR2
        have hgaV : w1.heap.size < V.heap.size := hV ▸ hga2
        rw [← hV]
        clear hV
        go_wp2_with (fail)
        refine (one_any B b _ _ V HSV.out (by omega) (by omega) (by omega)).mono ?_
        rintro e w3 ⟨x3, rfl, hs3, ho3⟩
        have HS3 := Lib.hid hs3
        have HO3 := Lib.hid (only_trans HOV.out ho3)
        have HR3 := Lib.hid (HRV.out.only hgaV hgb ho3)
        have hga3 : w1.heap.size < w3.heap.size := by have := ho3.size; omega
        clear hs3 ho3
        cases x3 with
        | false =>
          have HD3 := Lib.hid (HD.out.only hbw HO3.out)
          go_wp2_with (fail)
          refine (drawFor_any B b _ w.heap.size T (.slice TT T.length tt) w3 HS3.out (by omega) HD3.out.t hbw HOKT.out).mono ?_
          rintro e w4 ⟨v4, P, rfl, hP, hokP, hs4, ho4⟩
          have HOKP := Lib.hid hokP
          have HPZ := Lib.hid (sizesOk_of hokP)
          have HR4 := Lib.hid (HR3.out.only hga3 hgb ho4)
          have HO4 := Lib.hid (only_trans HO3.out ho4)
          have HS4 := Lib.hid hs4
          have HP4 := Lib.hid hP
          have hz4 := ho4.size
          obtain ⟨A4, c4, rfl, _⟩ := hP
          have x2c := HR4.out.cell 2 _ rfl
          have x2f := HR4.out.free 2 (by simp)
          clear hs4 ho4 hokP
          go_wp2_with (fail)
          obtain ⟨w5, hw5⟩ : ∃ w5 : World, w5 = w4.setCell ⟨w1.heap.size, 2, none⟩ (.slice A4 P.length c4) := ⟨_, rfl⟩
          rw [← hw5]
          have hse : Only w1.heap.size w4 w5 := by rw [hw5]; exact only_setCell (only_refl _ _) (.inl rfl) _
          have HR5 : Hid (Row w5 w1.heap.size [.int .i64 F, .int .i64 (F + 1 + x1), .slice A4 P.length c4]) := Lib.hid (by rw [hw5]; exact HR4.out.set 2 _ (by simp))
          have HO5 : Hid (Only b wr w5) := Lib.hid (by rw [hw5]; exact only_setCell HO4.out (.inr hz1) _)
          have HP5 : Hid (OwnL editCells P w3.heap.size w5 (.slice A4 P.length c4)) := Lib.hid (HP4.out.apart hse (fun h0 e => by
            obtain ⟨k, hk, h1, _⟩ := HP4.out.blk h0
            rw [hk] at e
            injection e with e
            omega))
          have HS5 := Lib.hid (HS4.out.keep (w' := w5) (hse.block b (by have := HS4.out.lt.1; omega) (fun e => by injection e with e; omega)) (fun i hi => hse.block i (by have := HS4.out.lt; omega) (fun e => by injection e with e; have := HS4.out.lt; omega)))
          have HD5 := Lib.hid (HD.out.only hbw HO5.out)
          have hga5 : w1.heap.size < w5.heap.size := by have := hse.size; omega
          have hz5 : w3.heap.size ≤ w5.heap.size := by have := hse.size; omega
          clear hw5 hse x2c x2f HR4 HS4 HP4 HO4
          refine (apply1_any T P w5 _ _ (HD5.out.t.slR (size := 2) (fun _ => rfl)) (HP5.out.slR (size := 4) (fun _ => rfl)) HOKP.out).mono ?_
          rintro e w6 ⟨v6, rfl, hR6, ⟨A6, n6, c6, rfl⟩, hb6⟩
          have HR6 := Lib.hid (HR5.out.below hb6 hga5)
          have HO6 := Lib.hid (only_below' HO5.out hb6 (by have := HO5.out.size; omega))
          have HO6w := Lib.hid (only_trans HO.out HO6.out)
          have HS6 := Lib.hid (HS5.out.below hb6 HS5.out.lt.1)
          have HP6 := Lib.hid (HP5.out.on hb6)
          have z0 := HR6.out.cell 0 _ rfl
          have z1 := HR6.out.cell 1 _ rfl
          have z2 := HR6.out.cell 2 _ rfl
          have hz6 := hb6.size
          have HD6' := Lib.hid (HD.out.only hbw HO6.out)
          clear hb6
          cases hr : applyO T P with
          | none =>
            rw [show (none : Option (List Art)).isSome = false from rfl]
            clear hr hR6
            have HD6 : Hid (DrawSt w.heap.size w6 S T (.slice TA S.length tc) (.slice TT T.length tt) g cap L) := Lib.hid HD6'.out
            have HPN : Hid (P ≠ [] → (Value.slice A4 P.length c4).ownBlock ≠ some g) := Lib.hid (fun h0 e => by
              obtain ⟨k, hk, h1, _⟩ := HP6.out.blk h0
              rw [hk] at e
              injection e with e
              have := HGL.out.2
              omega)
            have HPB : Hid (OwnL editCells P w.heap.size w6 (.slice A4 P.length c4)) := Lib.hid (HP6.out.less (by omega))
            have hg6 := HD6.out.row.lt g rfl
            go_wp2_with (at_builtin; refine wpList_append_own_at _ rfl _ _ 38 rfl w.heap.size 49 i0 (.agg #[.int .i64 0, .int .i64 0, .slice none 0 0]) 3 40 Try.underlying38 hi hz0 hz1' hz2 rfl (by decide) _ _ _ rfl (HD6.out.row.alloc _) ⟨w6.heap.size, 0, none⟩ 1 1 (vCells ⟨⟨F, F + 1 + x1, P⟩, .slice A4 P.length c4⟩) rfl rfl (fun j u hj => by have := (Row.new w6 (vCells ⟨⟨F, F + 1 + x1, P⟩, .slice A4 P.length c4⟩).toArray 49).cell j u (by simpa using hj); rw [Addr.add_lit, Nat.zero_add]; exact this) (fun u hu => vact_one rfl hu) ?c3 ?c4 (base_le HO6w.out.size) ?_)
            case c3 => unfold maxLen; omega
            case c4 => omega
            intro v' w9 hown' hgrow hiff hor
            obtain ⟨g', cap', rfl, hdc', hcm'⟩ := own_some hown' (by simpa using hiff)
            have HDA := Lib.hid (HD6.out.only hbw (only_alloc (only_refl b w6) (.cells #[.int .i64 F, .int .i64 (F + 1 + x1), .slice A4 P.length c4] 49)))
            have HD9 := Lib.hid (HDA.out.push (x := ⟨⟨F, F + 1 + x1, P⟩, .slice A4 P.length c4⟩) hgrow (by rcases hor with h | h <;> injection h with h; exact .inl h; exact .inr (by simpa using h)) hown' (HPB.out.only hbw (only_alloc (only_refl b w6) _)) HPN.out HPZ.out)
            have HO9 := Lib.hid (only_grown (only_alloc HO6w.out (.cells #[.int .i64 F, .int .i64 (F + 1 + x1), .slice A4 P.length c4] 49)) hgrow (fun j hj => (HDA.out.row.lt j hj).1))
            have HS9 := Lib.hid ((HS6.out.alloc (.cells #[.int .i64 F, .int .i64 (F + 1 + x1), .slice A4 P.length c4] 49)).grown hgrow (fun j hj => by have := HDA.out.row.lt j hj; omega))
            clear hown' hgrow hiff hor
            go_wp2_with (fail)
            refine (pick_pos B b _ 5 w9 HS9.out (by omega) (by omega) (by omega)).mono ?_
            rintro e w10 ⟨x10, hx10, rfl, hs10, ho10⟩
            have HD10 := Lib.hid (HD9.out.only hbw ho10)
            have HO10 := Lib.hid (only_trans HO9.out ho10)
            have HS10 := Lib.hid hs10
            clear hs10 ho10
            go_wp2
            go_roundw
            case rel => exact ⟨m, F + x10, T, (.slice TT T.length tt), g', cap', _, by simp, by go_num, rfl, by go_num, by omega, by omega, by rw [List.length_append, List.length_singleton]; omega, HOKT.out, HD10.out, HS10.out.more (by omega), HO10.out⟩
            case measure => first | (simp [RowKit.intOf]; done) | (simp [RowKit.intOf]; omega)
          | some R =>
            rw [show (some R).isSome = true from rfl]
            have HRN := Lib.hid ((hR6 R hr).less (b := w.heap.size) (by omega))
            have HRB := Lib.hid ((hR6 R hr))
            have HRX : Hid (R ≠ [] → (Value.slice A6 n6 c6).ownBlock ≠ some g) := Lib.hid (fun h0 e => by
              obtain ⟨k, hk, h1, _⟩ := HRB.out.blk h0
              rw [hk] at e
              injection e with e
              have := HGL.out.2
              omega)
            have HOKR := Lib.hid (apply_step HOKT.out HOKP.out hr)
            clear hr hR6
            have HD6 : Hid (DrawSt w.heap.size w6 S T (.slice TA S.length tc) (.slice TT T.length tt) g cap L) := Lib.hid HD6'.out
            have HPN : Hid (P ≠ [] → (Value.slice A4 P.length c4).ownBlock ≠ some g) := Lib.hid (fun h0 e => by
              obtain ⟨k, hk, h1, _⟩ := HP6.out.blk h0
              rw [hk] at e
              injection e with e
              have := HGL.out.2
              omega)
            have HPB : Hid (OwnL editCells P w.heap.size w6 (.slice A4 P.length c4)) := Lib.hid (HP6.out.less (by omega))
            have hg6 := HD6.out.row.lt g rfl
            go_wp2_with (at_builtin; refine wpList_append_own_at _ rfl _ _ 38 rfl w.heap.size 49 i0 (.agg #[.int .i64 0, .int .i64 0, .slice none 0 0]) 3 40 Try.underlying38 hi hz0 hz1' hz2 rfl (by decide) _ _ _ rfl (HD6.out.row.alloc _) ⟨w6.heap.size, 0, none⟩ 1 1 (vCells ⟨⟨F, F + 1 + x1, P⟩, .slice A4 P.length c4⟩) rfl rfl (fun j u hj => by have := (Row.new w6 (vCells ⟨⟨F, F + 1 + x1, P⟩, .slice A4 P.length c4⟩).toArray 49).cell j u (by simpa using hj); rw [Addr.add_lit, Nat.zero_add]; exact this) (fun u hu => vact_one rfl hu) ?c3 ?c4 (base_le HO6w.out.size) ?_)
            case c3 => unfold maxLen; omega
            case c4 => omega
            intro v' w9 hown' hgrow hiff hor
            obtain ⟨g', cap', rfl, hdc', hcm'⟩ := own_some hown' (by simpa using hiff)
            have HDA := Lib.hid (HD6.out.only hbw (only_alloc (only_refl b w6) (.cells #[.int .i64 F, .int .i64 (F + 1 + x1), .slice A4 P.length c4] 49)))
            have HD9 := Lib.hid (HDA.out.push (x := ⟨⟨F, F + 1 + x1, P⟩, .slice A4 P.length c4⟩) hgrow (by rcases hor with h | h <;> injection h with h; exact .inl h; exact .inr (by simpa using h)) hown' (HPB.out.only hbw (only_alloc (only_refl b w6) _)) HPN.out HPZ.out)
            have HO9 := Lib.hid (only_grown (only_alloc HO6w.out (.cells #[.int .i64 F, .int .i64 (F + 1 + x1), .slice A4 P.length c4] 49)) hgrow (fun j hj => (HDA.out.row.lt j hj).1))
            have HS9 := Lib.hid ((HS6.out.alloc (.cells #[.int .i64 F, .int .i64 (F + 1 + x1), .slice A4 P.length c4] 49)).grown hgrow (fun j hj => by have := HDA.out.row.lt j hj; omega))
            clear hown' hgrow hiff hor
            go_wp2_with (fail)
            refine (pick_pos B b _ 5 w9 HS9.out (by omega) (by omega) (by omega)).mono ?_
            rintro e w10 ⟨x10, hx10, rfl, hs10, ho10⟩
            have HD10 := Lib.hid (HD9.out.only hbw ho10)
            have HO10 := Lib.hid (only_trans HO9.out ho10)
            have HS10 := Lib.hid hs10
            clear hs10 ho10
            go_wp2
            go_roundw
            case rel => exact ⟨m, F + x10, T, (.slice TT T.length tt), g', cap', _, by simp, by go_num, rfl, by go_num, by omega, by omega, by rw [List.length_append, List.length_singleton]; omega, HOKT.out, HD10.out, HS10.out.more (by omega), HO10.out⟩
            case measure => first | (simp [RowKit.intOf]; done) | (simp [RowKit.intOf]; omega)
        | true =>
          have HD3 := Lib.hid (HD.out.only hbw HO3.out)
          go_wp2_with (fail)
          refine (drawFor_any B b _ w.heap.size S (.slice TA S.length tc) w3 HS3.out (by omega) HD3.out.s hbw HOKS.out).mono ?_
          rintro e w4 ⟨v4, P, rfl, hP, hokP, hs4, ho4⟩
          have HOKP := Lib.hid hokP
          have HPZ := Lib.hid (sizesOk_of hokP)
          have HR4 := Lib.hid (HR3.out.only hga3 hgb ho4)
          have HO4 := Lib.hid (only_trans HO3.out ho4)
          have HS4 := Lib.hid hs4
          have HP4 := Lib.hid hP
          have hz4 := ho4.size
          obtain ⟨A4, c4, rfl, _⟩ := hP
          have x2c := HR4.out.cell 2 _ rfl
          have x2f := HR4.out.free 2 (by simp)
          clear hs4 ho4 hokP
          go_wp2_with (fail)
          obtain ⟨w5, hw5⟩ : ∃ w5 : World, w5 = w4.setCell ⟨w1.heap.size, 2, none⟩ (.slice A4 P.length c4) := ⟨_, rfl⟩
          rw [← hw5]
          have hse : Only w1.heap.size w4 w5 := by rw [hw5]; exact only_setCell (only_refl _ _) (.inl rfl) _
          have HR5 : Hid (Row w5 w1.heap.size [.int .i64 F, .int .i64 (F + 1 + x1), .slice A4 P.length c4]) := Lib.hid (by rw [hw5]; exact HR4.out.set 2 _ (by simp))
          have HO5 : Hid (Only b wr w5) := Lib.hid (by rw [hw5]; exact only_setCell HO4.out (.inr hz1) _)
          have HP5 : Hid (OwnL editCells P w3.heap.size w5 (.slice A4 P.length c4)) := Lib.hid (HP4.out.apart hse (fun h0 e => by
            obtain ⟨k, hk, h1, _⟩ := HP4.out.blk h0
            rw [hk] at e
            injection e with e
            omega))
          have HS5 := Lib.hid (HS4.out.keep (w' := w5) (hse.block b (by have := HS4.out.lt.1; omega) (fun e => by injection e with e; omega)) (fun i hi => hse.block i (by have := HS4.out.lt; omega) (fun e => by injection e with e; have := HS4.out.lt; omega)))
          have HD5 := Lib.hid (HD.out.only hbw HO5.out)
          have hga5 : w1.heap.size < w5.heap.size := by have := hse.size; omega
          have hz5 : w3.heap.size ≤ w5.heap.size := by have := hse.size; omega
          clear hw5 hse x2c x2f HR4 HS4 HP4 HO4
          refine (apply1_any T P w5 _ _ (HD5.out.t.slR (size := 2) (fun _ => rfl)) (HP5.out.slR (size := 4) (fun _ => rfl)) HOKP.out).mono ?_
          rintro e w6 ⟨v6, rfl, hR6, ⟨A6, n6, c6, rfl⟩, hb6⟩
          have HR6 := Lib.hid (HR5.out.below hb6 hga5)
          have HO6 := Lib.hid (only_below' HO5.out hb6 (by have := HO5.out.size; omega))
          have HO6w := Lib.hid (only_trans HO.out HO6.out)
          have HS6 := Lib.hid (HS5.out.below hb6 HS5.out.lt.1)
          have HP6 := Lib.hid (HP5.out.on hb6)
          have z0 := HR6.out.cell 0 _ rfl
          have z1 := HR6.out.cell 1 _ rfl
          have z2 := HR6.out.cell 2 _ rfl
          have hz6 := hb6.size
          have HD6' := Lib.hid (HD.out.only hbw HO6.out)
          clear hb6
          cases hr : applyO T P with
          | none =>
            rw [show (none : Option (List Art)).isSome = false from rfl]
            clear hr hR6
            have HD6 : Hid (DrawSt w.heap.size w6 S T (.slice TA S.length tc) (.slice TT T.length tt) g cap L) := Lib.hid HD6'.out
            have HPN : Hid (P ≠ [] → (Value.slice A4 P.length c4).ownBlock ≠ some g) := Lib.hid (fun h0 e => by
              obtain ⟨k, hk, h1, _⟩ := HP6.out.blk h0
              rw [hk] at e
              injection e with e
              have := HGL.out.2
              omega)
            have HPB : Hid (OwnL editCells P w.heap.size w6 (.slice A4 P.length c4)) := Lib.hid (HP6.out.less (by omega))
            have hg6 := HD6.out.row.lt g rfl
            go_wp2_with (at_builtin; refine wpList_append_own_at _ rfl _ _ 38 rfl w.heap.size 49 i0 (.agg #[.int .i64 0, .int .i64 0, .slice none 0 0]) 3 40 Try.underlying38 hi hz0 hz1' hz2 rfl (by decide) _ _ _ rfl (HD6.out.row.alloc _) ⟨w6.heap.size, 0, none⟩ 1 1 (vCells ⟨⟨F, F + 1 + x1, P⟩, .slice A4 P.length c4⟩) rfl rfl (fun j u hj => by have := (Row.new w6 (vCells ⟨⟨F, F + 1 + x1, P⟩, .slice A4 P.length c4⟩).toArray 49).cell j u (by simpa using hj); rw [Addr.add_lit, Nat.zero_add]; exact this) (fun u hu => vact_one rfl hu) ?c3 ?c4 (base_le HO6w.out.size) ?_)
            case c3 => unfold maxLen; omega
            case c4 => omega
            intro v' w9 hown' hgrow hiff hor
            obtain ⟨g', cap', rfl, hdc', hcm'⟩ := own_some hown' (by simpa using hiff)
            have HDA := Lib.hid (HD6.out.only hbw (only_alloc (only_refl b w6) (.cells #[.int .i64 F, .int .i64 (F + 1 + x1), .slice A4 P.length c4] 49)))
            have HD9 := Lib.hid (HDA.out.push (x := ⟨⟨F, F + 1 + x1, P⟩, .slice A4 P.length c4⟩) hgrow (by rcases hor with h | h <;> injection h with h; exact .inl h; exact .inr (by simpa using h)) hown' (HPB.out.only hbw (only_alloc (only_refl b w6) _)) HPN.out HPZ.out)
            have HO9 := Lib.hid (only_grown (only_alloc HO6w.out (.cells #[.int .i64 F, .int .i64 (F + 1 + x1), .slice A4 P.length c4] 49)) hgrow (fun j hj => (HDA.out.row.lt j hj).1))
            have HS9 := Lib.hid ((HS6.out.alloc (.cells #[.int .i64 F, .int .i64 (F + 1 + x1), .slice A4 P.length c4] 49)).grown hgrow (fun j hj => by have := HDA.out.row.lt j hj; omega))
            clear hown' hgrow hiff hor
            go_wp2_with (fail)
            refine (pick_pos B b _ 5 w9 HS9.out (by omega) (by omega) (by omega)).mono ?_
            rintro e w10 ⟨x10, hx10, rfl, hs10, ho10⟩
            have HD10 := Lib.hid (HD9.out.only hbw ho10)
            have HO10 := Lib.hid (only_trans HO9.out ho10)
            have HS10 := Lib.hid hs10
            clear hs10 ho10
            go_wp2
            go_roundw
            case rel => exact ⟨m, F + x10, T, (.slice TT T.length tt), g', cap', _, by simp, by go_num, rfl, by go_num, by omega, by omega, by rw [List.length_append, List.length_singleton]; omega, HOKT.out, HD10.out, HS10.out.more (by omega), HO10.out⟩
            case measure => first | (simp [RowKit.intOf]; done) | (simp [RowKit.intOf]; omega)
          | some R =>
            rw [show (some R).isSome = true from rfl]
            have HRN := Lib.hid ((hR6 R hr).less (b := w.heap.size) (by omega))
            have HRB := Lib.hid ((hR6 R hr))
            have HRX : Hid (R ≠ [] → (Value.slice A6 n6 c6).ownBlock ≠ some g) := Lib.hid (fun h0 e => by
              obtain ⟨k, hk, h1, _⟩ := HRB.out.blk h0
              rw [hk] at e
              injection e with e
              have := HGL.out.2
              omega)
            have HOKR := Lib.hid (apply_step HOKT.out HOKP.out hr)
            clear hr hR6
            have HD6 : Hid (DrawSt w.heap.size w6 S T (.slice TA S.length tc) (.slice TT T.length tt) g cap L) := Lib.hid HD6'.out
            have HPN : Hid (P ≠ [] → (Value.slice A4 P.length c4).ownBlock ≠ some g) := Lib.hid (fun h0 e => by
              obtain ⟨k, hk, h1, _⟩ := HP6.out.blk h0
              rw [hk] at e
              injection e with e
              have := HGL.out.2
              omega)
            have HPB : Hid (OwnL editCells P w.heap.size w6 (.slice A4 P.length c4)) := Lib.hid (HP6.out.less (by omega))
            have hg6 := HD6.out.row.lt g rfl
            go_wp2_with (at_builtin; refine wpList_append_own_at _ rfl _ _ 38 rfl w.heap.size 49 i0 (.agg #[.int .i64 0, .int .i64 0, .slice none 0 0]) 3 40 Try.underlying38 hi hz0 hz1' hz2 rfl (by decide) _ _ _ rfl (HD6.out.row.alloc _) ⟨w6.heap.size, 0, none⟩ 1 1 (vCells ⟨⟨F, F + 1 + x1, P⟩, .slice A4 P.length c4⟩) rfl rfl (fun j u hj => by have := (Row.new w6 (vCells ⟨⟨F, F + 1 + x1, P⟩, .slice A4 P.length c4⟩).toArray 49).cell j u (by simpa using hj); rw [Addr.add_lit, Nat.zero_add]; exact this) (fun u hu => vact_one rfl hu) ?c3 ?c4 (base_le HO6w.out.size) ?_)
            case c3 => unfold maxLen; omega
            case c4 => omega
            intro v' w9 hown' hgrow hiff hor
            obtain ⟨g', cap', rfl, hdc', hcm'⟩ := own_some hown' (by simpa using hiff)
            have HDA := Lib.hid (HD6.out.only hbw (only_alloc (only_refl b w6) (.cells #[.int .i64 F, .int .i64 (F + 1 + x1), .slice A4 P.length c4] 49)))
            have HD9 := Lib.hid (HDA.out.push (x := ⟨⟨F, F + 1 + x1, P⟩, .slice A4 P.length c4⟩) hgrow (by rcases hor with h | h <;> injection h with h; exact .inl h; exact .inr (by simpa using h)) hown' (HPB.out.only hbw (only_alloc (only_refl b w6) _)) HPN.out HPZ.out)
            have HO9 := Lib.hid (only_grown (only_alloc HO6w.out (.cells #[.int .i64 F, .int .i64 (F + 1 + x1), .slice A4 P.length c4] 49)) hgrow (fun j hj => (HDA.out.row.lt j hj).1))
            have HS9 := Lib.hid ((HS6.out.alloc (.cells #[.int .i64 F, .int .i64 (F + 1 + x1), .slice A4 P.length c4] 49)).grown hgrow (fun j hj => by have := HDA.out.row.lt j hj; omega))
            clear hown' hgrow hiff hor
            go_wp2_with (fail)
            refine (pick_pos B b _ 5 w9 HS9.out (by omega) (by omega) (by omega)).mono ?_
            rintro e w10 ⟨x10, hx10, rfl, hs10, ho10⟩
            have HD10 := Lib.hid (HD9.out.only hbw ho10)
            have HO10 := Lib.hid (only_trans HO9.out ho10)
            have HS10 := Lib.hid hs10
            clear hs10 ho10
            go_wp2
            go_roundw
            case rel => exact ⟨m, F + x10, T, (.slice TT T.length tt), g', cap', _, by simp, by go_num, rfl, by go_num, by omega, by omega, by rw [List.length_append, List.length_singleton]; omega, HOKT.out, HD10.out, HS10.out.more (by omega), HO10.out⟩
            case measure => first | (simp [RowKit.intOf]; done) | (simp [RowKit.intOf]; omega)
      | true =>
        have x2c := HR2.out.cell 1 _ rfl
        have x2f := HR2.out.free 1 (by simp)
        go_wp2_with (fail)
        obtain ⟨V, hV⟩ : ∃ V : World, V = w2.setCell ⟨w1.heap.size, 1, none⟩ (.int .i64 1000) := ⟨_, rfl⟩
        rw [← hV]
        have hse : Only w1.heap.size w2 V := by rw [hV]; exact only_setCell (only_refl _ _) (.inl rfl) _
        have HRV : Hid (Row V w1.heap.size [.int .i64 F, .int .i64 1000, .slice none 0 0]) := Lib.hid (by rw [hV]; exact HR2.out.set 1 _ (by simp))
        have HOV : Hid (Only b wr V) := Lib.hid (by rw [hV]; exact only_setCell HO2.out (.inr hz1) _)
        have HSV := Lib.hid (HS2.out.keep (w' := V) (hse.block b (by have := HS2.out.lt.1; omega) (fun e => by injection e with e; omega)) (fun i hi => hse.block i (by have := HS2.out.lt; omega) (fun e => by injection e with e; have := HS2.out.lt; omega)))
        have hgaV : w1.heap.size < V.heap.size := by have := hse.size; omega
        have hu : (999 : Int) < 1000 := by omega
        clear hV hse x2c x2f
        refine (one_any B b _ _ V HSV.out (by omega) (by omega) (by omega)).mono ?_
        rintro e w3 ⟨x3, rfl, hs3, ho3⟩
        have HS3 := Lib.hid hs3
        have HO3 := Lib.hid (only_trans HOV.out ho3)
        have HR3 := Lib.hid (HRV.out.only hgaV hgb ho3)
        have hga3 : w1.heap.size < w3.heap.size := by have := ho3.size; omega
        clear hs3 ho3
        cases x3 with
        | false =>
          have HD3 := Lib.hid (HD.out.only hbw HO3.out)
          go_wp2_with (fail)
          refine (drawFor_any B b _ w.heap.size T (.slice TT T.length tt) w3 HS3.out (by omega) HD3.out.t hbw HOKT.out).mono ?_
          rintro e w4 ⟨v4, P, rfl, hP, hokP, hs4, ho4⟩
          have HOKP := Lib.hid hokP
          have HPZ := Lib.hid (sizesOk_of hokP)
          have HR4 := Lib.hid (HR3.out.only hga3 hgb ho4)
          have HO4 := Lib.hid (only_trans HO3.out ho4)
          have HS4 := Lib.hid hs4
          have HP4 := Lib.hid hP
          have hz4 := ho4.size
          obtain ⟨A4, c4, rfl, _⟩ := hP
          have x2c := HR4.out.cell 2 _ rfl
          have x2f := HR4.out.free 2 (by simp)
          clear hs4 ho4 hokP
          go_wp2_with (fail)
          obtain ⟨w5, hw5⟩ : ∃ w5 : World, w5 = w4.setCell ⟨w1.heap.size, 2, none⟩ (.slice A4 P.length c4) := ⟨_, rfl⟩
          rw [← hw5]
          have hse : Only w1.heap.size w4 w5 := by rw [hw5]; exact only_setCell (only_refl _ _) (.inl rfl) _
          have HR5 : Hid (Row w5 w1.heap.size [.int .i64 F, .int .i64 (1000), .slice A4 P.length c4]) := Lib.hid (by rw [hw5]; exact HR4.out.set 2 _ (by simp))
          have HO5 : Hid (Only b wr w5) := Lib.hid (by rw [hw5]; exact only_setCell HO4.out (.inr hz1) _)
          have HP5 : Hid (OwnL editCells P w3.heap.size w5 (.slice A4 P.length c4)) := Lib.hid (HP4.out.apart hse (fun h0 e => by
            obtain ⟨k, hk, h1, _⟩ := HP4.out.blk h0
            rw [hk] at e
            injection e with e
            omega))
          have HS5 := Lib.hid (HS4.out.keep (w' := w5) (hse.block b (by have := HS4.out.lt.1; omega) (fun e => by injection e with e; omega)) (fun i hi => hse.block i (by have := HS4.out.lt; omega) (fun e => by injection e with e; have := HS4.out.lt; omega)))
          have HD5 := Lib.hid (HD.out.only hbw HO5.out)
          have hga5 : w1.heap.size < w5.heap.size := by have := hse.size; omega
          have hz5 : w3.heap.size ≤ w5.heap.size := by have := hse.size; omega
          clear hw5 hse x2c x2f HR4 HS4 HP4 HO4
          refine (apply1_any T P w5 _ _ (HD5.out.t.slR (size := 2) (fun _ => rfl)) (HP5.out.slR (size := 4) (fun _ => rfl)) HOKP.out).mono ?_
          rintro e w6 ⟨v6, rfl, hR6, ⟨A6, n6, c6, rfl⟩, hb6⟩
          have HR6 := Lib.hid (HR5.out.below hb6 hga5)
          have HO6 := Lib.hid (only_below' HO5.out hb6 (by have := HO5.out.size; omega))
          have HO6w := Lib.hid (only_trans HO.out HO6.out)
          have HS6 := Lib.hid (HS5.out.below hb6 HS5.out.lt.1)
          have HP6 := Lib.hid (HP5.out.on hb6)
          have z0 := HR6.out.cell 0 _ rfl
          have z1 := HR6.out.cell 1 _ rfl
          have z2 := HR6.out.cell 2 _ rfl
          have hz6 := hb6.size
          have HD6' := Lib.hid (HD.out.only hbw HO6.out)
          clear hb6
          cases hr : applyO T P with
          | none =>
            rw [show (none : Option (List Art)).isSome = false from rfl]
            clear hr hR6
            have HD6 : Hid (DrawSt w.heap.size w6 S T (.slice TA S.length tc) (.slice TT T.length tt) g cap L) := Lib.hid HD6'.out
            have HPN : Hid (P ≠ [] → (Value.slice A4 P.length c4).ownBlock ≠ some g) := Lib.hid (fun h0 e => by
              obtain ⟨k, hk, h1, _⟩ := HP6.out.blk h0
              rw [hk] at e
              injection e with e
              have := HGL.out.2
              omega)
            have HPB : Hid (OwnL editCells P w.heap.size w6 (.slice A4 P.length c4)) := Lib.hid (HP6.out.less (by omega))
            have hg6 := HD6.out.row.lt g rfl
            go_wp2_with (at_builtin; refine wpList_append_own_at _ rfl _ _ 38 rfl w.heap.size 49 i0 (.agg #[.int .i64 0, .int .i64 0, .slice none 0 0]) 3 40 Try.underlying38 hi hz0 hz1' hz2 rfl (by decide) _ _ _ rfl (HD6.out.row.alloc _) ⟨w6.heap.size, 0, none⟩ 1 1 (vCells ⟨⟨F, 1000, P⟩, .slice A4 P.length c4⟩) rfl rfl (fun j u hj => by have := (Row.new w6 (vCells ⟨⟨F, 1000, P⟩, .slice A4 P.length c4⟩).toArray 49).cell j u (by simpa using hj); rw [Addr.add_lit, Nat.zero_add]; exact this) (fun u hu => vact_one rfl hu) ?c3 ?c4 (base_le HO6w.out.size) ?_)
            case c3 => unfold maxLen; omega
            case c4 => omega
            intro v' w9 hown' hgrow hiff hor
            obtain ⟨g', cap', rfl, hdc', hcm'⟩ := own_some hown' (by simpa using hiff)
            have HDA := Lib.hid (HD6.out.only hbw (only_alloc (only_refl b w6) (.cells #[.int .i64 F, .int .i64 (1000), .slice A4 P.length c4] 49)))
            have HD9 := Lib.hid (HDA.out.push (x := ⟨⟨F, 1000, P⟩, .slice A4 P.length c4⟩) hgrow (by rcases hor with h | h <;> injection h with h; exact .inl h; exact .inr (by simpa using h)) hown' (HPB.out.only hbw (only_alloc (only_refl b w6) _)) HPN.out HPZ.out)
            have HO9 := Lib.hid (only_grown (only_alloc HO6w.out (.cells #[.int .i64 F, .int .i64 (1000), .slice A4 P.length c4] 49)) hgrow (fun j hj => (HDA.out.row.lt j hj).1))
            have HS9 := Lib.hid ((HS6.out.alloc (.cells #[.int .i64 F, .int .i64 (1000), .slice A4 P.length c4] 49)).grown hgrow (fun j hj => by have := HDA.out.row.lt j hj; omega))
            clear hown' hgrow hiff hor
            go_wp2_with (fail)
            refine (pick_pos B b _ 5 w9 HS9.out (by omega) (by omega) (by omega)).mono ?_
            rintro e w10 ⟨x10, hx10, rfl, hs10, ho10⟩
            have HD10 := Lib.hid (HD9.out.only hbw ho10)
            have HO10 := Lib.hid (only_trans HO9.out ho10)
            have HS10 := Lib.hid hs10
            clear hs10 ho10
            go_wp2
            go_roundw
            case rel => exact ⟨m, F + x10, T, (.slice TT T.length tt), g', cap', _, by simp, by go_num, rfl, by go_num, by omega, by omega, by rw [List.length_append, List.length_singleton]; omega, HOKT.out, HD10.out, HS10.out.more (by omega), HO10.out⟩
            case measure => first | (simp [RowKit.intOf]; done) | (simp [RowKit.intOf]; omega)
          | some R =>
            rw [show (some R).isSome = true from rfl]
            have HRN := Lib.hid ((hR6 R hr).less (b := w.heap.size) (by omega))
            have HRB := Lib.hid ((hR6 R hr))
            have HRX : Hid (R ≠ [] → (Value.slice A6 n6 c6).ownBlock ≠ some g) := Lib.hid (fun h0 e => by
              obtain ⟨k, hk, h1, _⟩ := HRB.out.blk h0
              rw [hk] at e
              injection e with e
              have := HGL.out.2
              omega)
            have HOKR := Lib.hid (apply_step HOKT.out HOKP.out hr)
            clear hr hR6
            have HD6 : Hid (DrawSt w.heap.size w6 S R (.slice TA S.length tc) (.slice A6 n6 c6) g cap L) := Lib.hid (HD6'.out.setT HRN.out HRX.out)
            have HPN : Hid (P ≠ [] → (Value.slice A4 P.length c4).ownBlock ≠ some g) := Lib.hid (fun h0 e => by
              obtain ⟨k, hk, h1, _⟩ := HP6.out.blk h0
              rw [hk] at e
              injection e with e
              have := HGL.out.2
              omega)
            have HPB : Hid (OwnL editCells P w.heap.size w6 (.slice A4 P.length c4)) := Lib.hid (HP6.out.less (by omega))
            have hg6 := HD6.out.row.lt g rfl
            go_wp2_with (at_builtin; refine wpList_append_own_at _ rfl _ _ 38 rfl w.heap.size 49 i0 (.agg #[.int .i64 0, .int .i64 0, .slice none 0 0]) 3 40 Try.underlying38 hi hz0 hz1' hz2 rfl (by decide) _ _ _ rfl (HD6.out.row.alloc _) ⟨w6.heap.size, 0, none⟩ 1 1 (vCells ⟨⟨F, 1000, P⟩, .slice A4 P.length c4⟩) rfl rfl (fun j u hj => by have := (Row.new w6 (vCells ⟨⟨F, 1000, P⟩, .slice A4 P.length c4⟩).toArray 49).cell j u (by simpa using hj); rw [Addr.add_lit, Nat.zero_add]; exact this) (fun u hu => vact_one rfl hu) ?c3 ?c4 (base_le HO6w.out.size) ?_)
            case c3 => unfold maxLen; omega
            case c4 => omega
            intro v' w9 hown' hgrow hiff hor
            obtain ⟨g', cap', rfl, hdc', hcm'⟩ := own_some hown' (by simpa using hiff)
            have HDA := Lib.hid (HD6.out.only hbw (only_alloc (only_refl b w6) (.cells #[.int .i64 F, .int .i64 (1000), .slice A4 P.length c4] 49)))
            have HD9 := Lib.hid (HDA.out.push (x := ⟨⟨F, 1000, P⟩, .slice A4 P.length c4⟩) hgrow (by rcases hor with h | h <;> injection h with h; exact .inl h; exact .inr (by simpa using h)) hown' (HPB.out.only hbw (only_alloc (only_refl b w6) _)) HPN.out HPZ.out)
            have HO9 := Lib.hid (only_grown (only_alloc HO6w.out (.cells #[.int .i64 F, .int .i64 (1000), .slice A4 P.length c4] 49)) hgrow (fun j hj => (HDA.out.row.lt j hj).1))
            have HS9 := Lib.hid ((HS6.out.alloc (.cells #[.int .i64 F, .int .i64 (1000), .slice A4 P.length c4] 49)).grown hgrow (fun j hj => by have := HDA.out.row.lt j hj; omega))
            clear hown' hgrow hiff hor
            go_wp2_with (fail)
            refine (pick_pos B b _ 5 w9 HS9.out (by omega) (by omega) (by omega)).mono ?_
            rintro e w10 ⟨x10, hx10, rfl, hs10, ho10⟩
            have HD10 := Lib.hid (HD9.out.only hbw ho10)
            have HO10 := Lib.hid (only_trans HO9.out ho10)
            have HS10 := Lib.hid hs10
            clear hs10 ho10
            go_wp2
            go_roundw
            case rel => exact ⟨m, F + x10, R, (.slice A6 n6 c6), g', cap', _, by simp, by go_num, rfl, by go_num, by omega, by omega, by rw [List.length_append, List.length_singleton]; omega, HOKR.out, HD10.out, HS10.out.more (by omega), HO10.out⟩
            case measure => first | (simp [RowKit.intOf]; done) | (simp [RowKit.intOf]; omega)
        | true =>
          have HD3 := Lib.hid (HD.out.only hbw HO3.out)
          go_wp2_with (fail)
          refine (drawFor_any B b _ w.heap.size S (.slice TA S.length tc) w3 HS3.out (by omega) HD3.out.s hbw HOKS.out).mono ?_
          rintro e w4 ⟨v4, P, rfl, hP, hokP, hs4, ho4⟩
          have HOKP := Lib.hid hokP
          have HPZ := Lib.hid (sizesOk_of hokP)
          have HR4 := Lib.hid (HR3.out.only hga3 hgb ho4)
          have HO4 := Lib.hid (only_trans HO3.out ho4)
          have HS4 := Lib.hid hs4
          have HP4 := Lib.hid hP
          have hz4 := ho4.size
          obtain ⟨A4, c4, rfl, _⟩ := hP
          have x2c := HR4.out.cell 2 _ rfl
          have x2f := HR4.out.free 2 (by simp)
          clear hs4 ho4 hokP
          go_wp2_with (fail)
          obtain ⟨w5, hw5⟩ : ∃ w5 : World, w5 = w4.setCell ⟨w1.heap.size, 2, none⟩ (.slice A4 P.length c4) := ⟨_, rfl⟩
          rw [← hw5]
          have hse : Only w1.heap.size w4 w5 := by rw [hw5]; exact only_setCell (only_refl _ _) (.inl rfl) _
          have HR5 : Hid (Row w5 w1.heap.size [.int .i64 F, .int .i64 (1000), .slice A4 P.length c4]) := Lib.hid (by rw [hw5]; exact HR4.out.set 2 _ (by simp))
          have HO5 : Hid (Only b wr w5) := Lib.hid (by rw [hw5]; exact only_setCell HO4.out (.inr hz1) _)
          have HP5 : Hid (OwnL editCells P w3.heap.size w5 (.slice A4 P.length c4)) := Lib.hid (HP4.out.apart hse (fun h0 e => by
            obtain ⟨k, hk, h1, _⟩ := HP4.out.blk h0
            rw [hk] at e
            injection e with e
            omega))
          have HS5 := Lib.hid (HS4.out.keep (w' := w5) (hse.block b (by have := HS4.out.lt.1; omega) (fun e => by injection e with e; omega)) (fun i hi => hse.block i (by have := HS4.out.lt; omega) (fun e => by injection e with e; have := HS4.out.lt; omega)))
          have HD5 := Lib.hid (HD.out.only hbw HO5.out)
          have hga5 : w1.heap.size < w5.heap.size := by have := hse.size; omega
          have hz5 : w3.heap.size ≤ w5.heap.size := by have := hse.size; omega
          clear hw5 hse x2c x2f HR4 HS4 HP4 HO4
          refine (apply1_any T P w5 _ _ (HD5.out.t.slR (size := 2) (fun _ => rfl)) (HP5.out.slR (size := 4) (fun _ => rfl)) HOKP.out).mono ?_
          rintro e w6 ⟨v6, rfl, hR6, ⟨A6, n6, c6, rfl⟩, hb6⟩
          have HR6 := Lib.hid (HR5.out.below hb6 hga5)
          have HO6 := Lib.hid (only_below' HO5.out hb6 (by have := HO5.out.size; omega))
          have HO6w := Lib.hid (only_trans HO.out HO6.out)
          have HS6 := Lib.hid (HS5.out.below hb6 HS5.out.lt.1)
          have HP6 := Lib.hid (HP5.out.on hb6)
          have z0 := HR6.out.cell 0 _ rfl
          have z1 := HR6.out.cell 1 _ rfl
          have z2 := HR6.out.cell 2 _ rfl
          have hz6 := hb6.size
          have HD6' := Lib.hid (HD.out.only hbw HO6.out)
          clear hb6
          cases hr : applyO T P with
          | none =>
            rw [show (none : Option (List Art)).isSome = false from rfl]
            clear hr hR6
            have HD6 : Hid (DrawSt w.heap.size w6 S T (.slice TA S.length tc) (.slice TT T.length tt) g cap L) := Lib.hid HD6'.out
            have HPN : Hid (P ≠ [] → (Value.slice A4 P.length c4).ownBlock ≠ some g) := Lib.hid (fun h0 e => by
              obtain ⟨k, hk, h1, _⟩ := HP6.out.blk h0
              rw [hk] at e
              injection e with e
              have := HGL.out.2
              omega)
            have HPB : Hid (OwnL editCells P w.heap.size w6 (.slice A4 P.length c4)) := Lib.hid (HP6.out.less (by omega))
            have hg6 := HD6.out.row.lt g rfl
            go_wp2_with (at_builtin; refine wpList_append_own_at _ rfl _ _ 38 rfl w.heap.size 49 i0 (.agg #[.int .i64 0, .int .i64 0, .slice none 0 0]) 3 40 Try.underlying38 hi hz0 hz1' hz2 rfl (by decide) _ _ _ rfl (HD6.out.row.alloc _) ⟨w6.heap.size, 0, none⟩ 1 1 (vCells ⟨⟨F, 1000, P⟩, .slice A4 P.length c4⟩) rfl rfl (fun j u hj => by have := (Row.new w6 (vCells ⟨⟨F, 1000, P⟩, .slice A4 P.length c4⟩).toArray 49).cell j u (by simpa using hj); rw [Addr.add_lit, Nat.zero_add]; exact this) (fun u hu => vact_one rfl hu) ?c3 ?c4 (base_le HO6w.out.size) ?_)
            case c3 => unfold maxLen; omega
            case c4 => omega
            intro v' w9 hown' hgrow hiff hor
            obtain ⟨g', cap', rfl, hdc', hcm'⟩ := own_some hown' (by simpa using hiff)
            have HDA := Lib.hid (HD6.out.only hbw (only_alloc (only_refl b w6) (.cells #[.int .i64 F, .int .i64 (1000), .slice A4 P.length c4] 49)))
            have HD9 := Lib.hid (HDA.out.push (x := ⟨⟨F, 1000, P⟩, .slice A4 P.length c4⟩) hgrow (by rcases hor with h | h <;> injection h with h; exact .inl h; exact .inr (by simpa using h)) hown' (HPB.out.only hbw (only_alloc (only_refl b w6) _)) HPN.out HPZ.out)
            have HO9 := Lib.hid (only_grown (only_alloc HO6w.out (.cells #[.int .i64 F, .int .i64 (1000), .slice A4 P.length c4] 49)) hgrow (fun j hj => (HDA.out.row.lt j hj).1))
            have HS9 := Lib.hid ((HS6.out.alloc (.cells #[.int .i64 F, .int .i64 (1000), .slice A4 P.length c4] 49)).grown hgrow (fun j hj => by have := HDA.out.row.lt j hj; omega))
            clear hown' hgrow hiff hor
            go_wp2_with (fail)
            refine (pick_pos B b _ 5 w9 HS9.out (by omega) (by omega) (by omega)).mono ?_
            rintro e w10 ⟨x10, hx10, rfl, hs10, ho10⟩
            have HD10 := Lib.hid (HD9.out.only hbw ho10)
            have HO10 := Lib.hid (only_trans HO9.out ho10)
            have HS10 := Lib.hid hs10
            clear hs10 ho10
            go_wp2
            go_roundw
            case rel => exact ⟨m, F + x10, T, (.slice TT T.length tt), g', cap', _, by simp, by go_num, rfl, by go_num, by omega, by omega, by rw [List.length_append, List.length_singleton]; omega, HOKT.out, HD10.out, HS10.out.more (by omega), HO10.out⟩
            case measure => first | (simp [RowKit.intOf]; done) | (simp [RowKit.intOf]; omega)
          | some R =>
            rw [show (some R).isSome = true from rfl]
            have HRN := Lib.hid ((hR6 R hr).less (b := w.heap.size) (by omega))
            have HRB := Lib.hid ((hR6 R hr))
            have HRX : Hid (R ≠ [] → (Value.slice A6 n6 c6).ownBlock ≠ some g) := Lib.hid (fun h0 e => by
              obtain ⟨k, hk, h1, _⟩ := HRB.out.blk h0
              rw [hk] at e
              injection e with e
              have := HGL.out.2
              omega)
            have HOKR := Lib.hid (apply_step HOKT.out HOKP.out hr)
            clear hr hR6
            have HD6 : Hid (DrawSt w.heap.size w6 S R (.slice TA S.length tc) (.slice A6 n6 c6) g cap L) := Lib.hid (HD6'.out.setT HRN.out HRX.out)
            have HPN : Hid (P ≠ [] → (Value.slice A4 P.length c4).ownBlock ≠ some g) := Lib.hid (fun h0 e => by
              obtain ⟨k, hk, h1, _⟩ := HP6.out.blk h0
              rw [hk] at e
              injection e with e
              have := HGL.out.2
              omega)
            have HPB : Hid (OwnL editCells P w.heap.size w6 (.slice A4 P.length c4)) := Lib.hid (HP6.out.less (by omega))
            have hg6 := HD6.out.row.lt g rfl
            go_wp2_with (at_builtin; refine wpList_append_own_at _ rfl _ _ 38 rfl w.heap.size 49 i0 (.agg #[.int .i64 0, .int .i64 0, .slice none 0 0]) 3 40 Try.underlying38 hi hz0 hz1' hz2 rfl (by decide) _ _ _ rfl (HD6.out.row.alloc _) ⟨w6.heap.size, 0, none⟩ 1 1 (vCells ⟨⟨F, 1000, P⟩, .slice A4 P.length c4⟩) rfl rfl (fun j u hj => by have := (Row.new w6 (vCells ⟨⟨F, 1000, P⟩, .slice A4 P.length c4⟩).toArray 49).cell j u (by simpa using hj); rw [Addr.add_lit, Nat.zero_add]; exact this) (fun u hu => vact_one rfl hu) ?c3 ?c4 (base_le HO6w.out.size) ?_)
            case c3 => unfold maxLen; omega
            case c4 => omega
            intro v' w9 hown' hgrow hiff hor
            obtain ⟨g', cap', rfl, hdc', hcm'⟩ := own_some hown' (by simpa using hiff)
            have HDA := Lib.hid (HD6.out.only hbw (only_alloc (only_refl b w6) (.cells #[.int .i64 F, .int .i64 (1000), .slice A4 P.length c4] 49)))
            have HD9 := Lib.hid (HDA.out.push (x := ⟨⟨F, 1000, P⟩, .slice A4 P.length c4⟩) hgrow (by rcases hor with h | h <;> injection h with h; exact .inl h; exact .inr (by simpa using h)) hown' (HPB.out.only hbw (only_alloc (only_refl b w6) _)) HPN.out HPZ.out)
            have HO9 := Lib.hid (only_grown (only_alloc HO6w.out (.cells #[.int .i64 F, .int .i64 (1000), .slice A4 P.length c4] 49)) hgrow (fun j hj => (HDA.out.row.lt j hj).1))
            have HS9 := Lib.hid ((HS6.out.alloc (.cells #[.int .i64 F, .int .i64 (1000), .slice A4 P.length c4] 49)).grown hgrow (fun j hj => by have := HDA.out.row.lt j hj; omega))
            clear hown' hgrow hiff hor
            go_wp2_with (fail)
            refine (pick_pos B b _ 5 w9 HS9.out (by omega) (by omega) (by omega)).mono ?_
            rintro e w10 ⟨x10, hx10, rfl, hs10, ho10⟩
            have HD10 := Lib.hid (HD9.out.only hbw ho10)
            have HO10 := Lib.hid (only_trans HO9.out ho10)
            have HS10 := Lib.hid hs10
            clear hs10 ho10
            go_wp2
            go_roundw
            case rel => exact ⟨m, F + x10, R, (.slice A6 n6 c6), g', cap', _, by simp, by go_num, rfl, by go_num, by omega, by omega, by rw [List.length_append, List.length_singleton]; omega, HOKR.out, HD10.out, HS10.out.more (by omega), HO10.out⟩
            case measure => first | (simp [RowKit.intOf]; done) | (simp [RowKit.intOf]; omega)
end Go.Proofs.Ytmgdodgofpapgaa

namespace Go.Proofs.Ytmgdodgofpapgaa
open Go.RowKit Go.Lib

theorem stat_a : okStat [⟨1, ⟨#[97]⟩⟩] = true := by
  rw [okStat_iff]
  refine ⟨fun a ha => ?_, by simp [RiseA], by simp⟩
  rw [List.mem_singleton.1 ha]
  unfold okArt
  rw [ByteArray.toList_eq]
  rfl
def ActsPost (w : World) (e : Ending) (w' : World) : Prop :=
  ∃ v1 v2 S ls, e = .returned (.tuple #[v1, v2]) ∧ OwnL artCells S w.heap.size w' v1 ∧ okStat S = true ∧ Acts w' w'.heap.size v2 ls ∧ okActs ls = true ∧ Below w.heap.size w w'
set_option maxHeartbeats 2000000 in
theorem acts_any (A : Option Addr) (n c : Nat) (w : World) (h : BytesAt w w.heap.size A n) :
    Calls Try.prog 15 #[.slice A n c] w (ActsPost w) := by
  have HF := Lib.hid (from_any A n c w h)
  clear h
  go_enter Try.func15, Try.ntmps15
  go_wp2_with (fail)
  refine (HF.out).mono ?_
  rintro e w1 ⟨rfl, hs1, hb1⟩
  have HS1 := Lib.hid hs1
  have HB1 := Lib.hid hb1
  have hlt1 := hs1.lt.1
  clear hs1 hb1 HF
  go_wp2_with (fail)
  refine (drawActs_any w.heap.size w.heap.size 0 w1 HS1.out (by omega)).mono ?_
  rintro e w2 ⟨v1, v2, S, ls, rfl, hS, hokS, hA, hz, ho⟩
  have HB2 := Lib.hid (HB1.out.trans (only_below ho (Nat.le_refl _) (by omega)))
  have HOKS := Lib.hid hokS
  have HT2 := Lib.hid hS
  have HA2 := Lib.hid hA
  have HBO := Lib.hid (both1_any S ls w2 v1 v2 (hS.slR (size := 2) (fun _ => rfl)) hA hz hokS)
  obtain ⟨TA, tc, rfl, _⟩ := hS
  obtain ⟨A2, c2, rfl, _⟩ := acts_at hA
  have hz1 := HB1.out.size
  clear hokS hA hz ho
  go_wp2_with (fail)
  refine (HBO.out).mono ?_
  rintro e w3 ⟨rfl, hb3⟩
  have HB3 := Lib.hid (HB2.out.trans (hb3.mono HB2.out.size))
  have HT3 := Lib.hid (HT2.out.on hb3)
  have HA3 := Lib.hid (HA2.out.on hb3 hb3.size)
  clear hb3 HBO
  cases hok : okActs ls with
  | true =>
    have HOK := Lib.hid hok
    clear hok
    go_wp2
    go_ret2
    exact ⟨_, _, S, ls, rfl, HT3.out.less hz1, HOKS.out, HA3.out, HOK.out, HB3.out⟩
  | false =>
    have hown : ((w3.alloc (.cells #[.int .i64 1, .string ⟨#[97]⟩] 70)).alloc (.cells #[] 49)).heap.size = w3.heap.size + 2 := by simp
    have HR := Lib.hid ((Row.new w3 #[.int .i64 1, .string ⟨#[97]⟩] 70).below ((Below.refl _ _).alloc (Nat.le_refl _) (.cells #[] 49)) (by simp))
    have hz3 := HB3.out.size
    have HB4 := Lib.hid ((HB3.out.alloc hz3 (.cells #[.int .i64 1, .string ⟨#[97]⟩] 70)).alloc (base_le hz3) (.cells #[] 49))
    clear hok hown
    go_wp2
    go_ret2
    exact ⟨_, _, [⟨1, ⟨#[97]⟩⟩], [], rfl, ⟨_, 1, rfl, Nat.le_refl _, by unfold maxLen; decide, fun _ => ⟨_, rfl, hz3, by simp; omega, HR.out⟩⟩, stat_a, ⟨[], rfl, SlR.nil _ _ _ _ _ _ (Nat.zero_le _), fun x hx => by cases hx⟩, by decide, HB4.out⟩
end Go.Proofs.Ytmgdodgofpapgaa
