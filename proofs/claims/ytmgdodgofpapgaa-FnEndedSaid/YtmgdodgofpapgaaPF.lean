/- slices.IndexFunc at edits, walked; edits found: the program's. Conflicts, and a patch applied to a statute: the program's, walked; numbers compared. Edits contained, and edits deleted by a test: the library's, walked. slices.DeleteFunc at edits, walked. Edits sorted by their numbers: the library's sort at this program. Patches rebased and merged: the program's, walked; numbers compared. What patches merge to, as plain laws. No program is walked here. FnMerged, walked. -/
import Derived.Test.YtmgdodgofpapgaaPD
import Derived.Test.YtmgdodgofpapgaaPC
import Derived.Test.YtmgdodgofpapgaaShelfS
import Derived.OwnWalk
namespace Go.Proofs.Ytmgdodgofpapgaa
open Go.RowKit Go.Lib

/-- A test on edits: it turns nothing. -/
def PredE (g : Nat) (lb : Array Value) (p : Edit → Bool) (w : World) : Prop :=
  ∀ (W : World) (x : Edit), Below w.heap.size w W → Calls Try.prog g (#[.agg #[.int .i64 x.kind, .int .i64 x.id, .string x.old, .string x.new]] ++ lb) W (RetB (.bool (p x)) W)
def idxE (p : Edit → Bool) (L : List Edit) : Int := match L.findIdx? p with | some k => (k : Int) | none => -1
theorem idxE_hit {p : Edit → Bool} {L : List Edit} {k : Nat} (hk : k < L.length) (h : p L[k] = true) (hn : ∀ j (hj : j < k), p (L[j]'(by omega)) = false) : idxE p L = k := by
  have : L.findIdx? p = some k := List.findIdx?_eq_some_iff_getElem.2 ⟨hk, h, fun j hj => by rw [hn j hj]; simp⟩
  unfold idxE
  rw [this]
theorem idxE_none {p : Edit → Bool} {L : List Edit} (hn : ∀ j (hj : j < L.length), p L[j] = false) : idxE p L = -1 := by
  have : L.findIdx? p = none := List.findIdx?_eq_none_iff.2 (fun x hx => by
    obtain ⟨j, hj, rfl⟩ := List.mem_iff_getElem.1 hx
    exact hn j hj)
  unfold idxE
  rw [this]
theorem idxE_cases (p : Edit → Bool) (L : List Edit) : (∃ k, ∃ h : k < L.length, idxE p L = k ∧ p L[k] = true ∧ ∀ j (hj : j < k), p (L[j]'(by omega)) = false) ∨ (idxE p L = -1 ∧ ∀ a ∈ L, p a = false) := by
  rcases hf : L.findIdx? p with _ | k
  · refine .inr ⟨by unfold idxE; rw [hf], fun a ha => ?_⟩
    have := List.findIdx?_eq_none_iff.1 hf a ha
    simpa using this
  · obtain ⟨h1, h2, h3⟩ := List.findIdx?_eq_some_iff_getElem.1 hf
    exact .inl ⟨k, h1, by unfold idxE; rw [hf], h2, fun j hj => by simpa using h3 j hj⟩
theorem edit_first : ∀ {L : List Edit} {q : Int} {k : Nat} (h : k < L.length), L[k].id = q → (∀ j (hj : j < k), (L[j]'(by omega)).id ≠ q) → editOf L q = L[k]
  | a :: L, q, 0, _, hi, _ => by
    show editOf (a :: L) q = a
    rw [editOf, if_pos (show a.id = q from hi)]
  | a :: L, q, k + 1, h, hi, hn => by
    have h0 : a.id ≠ q := hn 0 (by omega)
    show editOf (a :: L) q = _
    rw [editOf, if_neg h0, edit_first (k := k) (by simpa using h) hi (fun j hj => hn (j + 1) (by omega))]
    rfl

set_option maxHeartbeats 2000000 in
theorem indexE_any (L : List Edit) (w : World) (v : Value) (h : Edits w w.heap.size v L) (g : Nat) (lb : Array Value) (p : Edit → Bool) (hp : PredE g lb p w) (eg : ∀ args w, (callFunc g args).run Try.prog w = .ok (.enter g args) w) :
    Calls Try.prog 60 #[v, .func (.func g) #[] lb] w (RetB (.int .i64 (idxE p L)) w) := by
  obtain ⟨A, c, rfl, hc, hm, hel⟩ := h
  unfold maxLen at hm
  have hlm : L.length ≤ 9223372036854775807 := by omega
  have HEL := Lib.hid hel
  have HP := Lib.hid hp
  clear hel hp
  go_enter Try.func60, Try.ntmps60
  go_wp2
  go_loopw [5, 8] (fun _ i wr => ∃ k : Nat, k ≤ L.length ∧ i = .int .i64 (k : Int) ∧ (∀ j (hj : j < L.length), j < k → p L[j] = false) ∧ Below w.heap.size w wr) (fun _ i _ => L.length - (RowKit.intOf i).toNat)
  case atStart => exact ⟨0, Nat.zero_le _, rfl, fun j _ hj => absurd hj (Nat.not_lt_zero _), Below.refl _ _⟩
  case round =>
    obtain ⟨k, hk, rfl, hn, hb⟩ := hrel
    have HN := Lib.hid hn
    have HB := Lib.hid hb
    clear hn
    by_cases hlt : k < L.length
    · obtain ⟨b, off, rfl, hblt, hcell⟩ := HEL.out (by omega)
      have hget : L[k]? = some L[k] := List.getElem?_eq_getElem hlt
      obtain ⟨c0, c1, c2, c3⟩ := edits_at hcell hget
      have x0 := (hb.cell (p := ⟨b, off + k * 4, none⟩) hblt).trans c0
      have x1 := (hb.cell (p := ⟨b, off + k * 4 + 1, none⟩) hblt).trans c1
      have x2 := (hb.cell (p := ⟨b, off + k * 4 + 2, none⟩) hblt).trans c2
      have x3 := (hb.cell (p := ⟨b, off + k * 4 + 3, none⟩) hblt).trans c3
      have hcall := HP.out wr L[k] hb
      clear hget hcell c0 c1 c2 c3 hb
      cases hq : p L[k] with
      | true =>
        have HQ := Lib.hid (idxE_hit hlt hq (fun j hj => HN.out j (by omega) hj))
        rw [hq] at hcall
        have HC := Lib.hid hcall
        generalize L[k] = e at *
        clear hcall hq
        go_wp2_with (go_at_fn g; refine (HC.out).mono ?_; rintro e' w' ⟨rfl, hb'⟩)
        go_ret
        exact ⟨by rw [HQ.out]; rfl, HB.out.trans (hb'.mono HB.out.size)⟩
      | false =>
        have HNN : Hid (∀ j (hj : j < L.length), j < k + 1 → p L[j] = false) := Lib.hid (fun j hj hjk => by
          by_cases e : j = k
          · subst e; exact hq
          · exact HN.out j hj (by omega))
        rw [hq] at hcall
        have HC := Lib.hid hcall
        generalize L[k] = e at hcall x0 x1 x2 x3 hq HC
        clear hcall hq
        go_wp2_with (go_at_fn g; refine (HC.out).mono ?_; rintro e' w' ⟨rfl, hb'⟩)
        go_roundw
        case rel => exact ⟨k + 1, by omega, by go_num, HNN.out, HB.out.trans (hb'.mono HB.out.size)⟩
        case measure => simp [RowKit.intOf]; omega
    · have hge : ¬ (k : Int) < (L.length : Int) := by omega
      have HQ := Lib.hid (idxE_none (p := p) (L := L) (fun j hj => HN.out j hj (by omega)))
      go_wp2
      go_ret
      exact ⟨by rw [HQ.out]; rfl, HB.out⟩

set_option maxHeartbeats 400000 in
/-- The closure of 'editOf': it has captured a number. -/
theorem isIdE_pred (q : Int) (B : Nat) (w : World) (hB : B < w.heap.size) (hc : w.cell? ⟨B, 0, none⟩ = some (.int .i64 q)) : PredE 81 #[.pointer (some ⟨B, 0, none⟩)] (fun a => decide (a.id = q)) w := by
  intro W x hb
  have x0 := (hb.cell (p := ⟨B, 0, none⟩) hB).trans hc
  have hlt := World.block_lt_of_cell? W ⟨B, 0, none⟩ x0
  have y0 := (((Below.refl W.heap.size W).alloc (Nat.le_refl _) (.cells #[.int .i64 x.kind, .int .i64 x.id, .string x.old, .string x.new] 59)).cell (p := ⟨B, 0, none⟩) hlt).trans x0
  obtain ⟨r, hr⟩ : ∃ r, decide (x.id = q) = r := ⟨_, rfl⟩
  have hr2 : (x.id == q) = r := by rw [← hr]; by_cases h : x.id = q <;> simp [h]
  show Calls Try.prog 81 #[.agg #[.int .i64 x.kind, .int .i64 x.id, .string x.old, .string x.new], .pointer (some ⟨B, 0, none⟩)] W (RetB (.bool (decide (x.id = q))) W)
  rw [hr]
  clear hr x0 hb
  go_enter Try.func81, Try.ntmps81
  go_wp2
  go_ret
  exact ⟨rfl, (Below.refl W.heap.size W).alloc (Nat.le_refl _) _⟩
theorem isIdE_enters : ∀ args w, (callFunc 81 args).run Try.prog w = .ok (.enter 81 args) w := enters_of Try.func81 (by kernel_rfl) rfl

/-- There is an edit with a number. -/
def hasE (L : List Edit) (q : Int) : Bool := L.any (fun a => decide (a.id = q))
set_option maxHeartbeats 2000000 in
theorem editOf2_any (L : List Edit) (q : Int) (w : World) (v : Value) (h : Edits w w.heap.size v L) :
    Calls Try.prog 57 #[v, .int .i64 q] w (RetB (.tuple #[.agg #[.int .i64 (editOf L q).kind, .int .i64 (editOf L q).id, .string (editOf L q).old, .string (editOf L q).new], .bool (hasE L q)]) w) := by
  have hmf : ∀ (fn : Fn) (first cap : Array Value) (w : World), (Instr.makeFunc fn first cap).run Try.prog w = .ok (.func fn first cap) w := fun _ _ _ _ => rfl
  obtain ⟨W, hW⟩ : ∃ W : World, W = (w.alloc (.cells #[.int .i64 q] 2)).alloc (.cells #[.int .i64 0, .int .i64 0, .string ⟨#[]⟩, .string ⟨#[]⟩] 59) := ⟨_, rfl⟩
  have bW : Below w.heap.size w W := by rw [hW]; exact ((Below.refl w.heap.size w).alloc (Nat.le_refl _) _).alloc (by simp) _
  have hq0 : W.cell? ⟨w.heap.size, 0, none⟩ = some (.int .i64 q) := by
    rw [hW]
    simp [go_sem]
  have HI := Lib.hid (indexE_any L W v (SlR.on h (Pl.stays _) bW bW.size) 81 #[.pointer (some ⟨w.heap.size, 0, none⟩)] (fun a => decide (a.id = q)) (isIdE_pred q w.heap.size W (by rw [hW]; simp; omega) hq0) isIdE_enters)
  have HB := Lib.hid bW
  have HC := Lib.hid (idxE_cases (fun a => decide (a.id = q)) L)
  rw [hW] at HI HB
  obtain ⟨A, c, rfl, hc, hm, hel⟩ := h
  unfold maxLen at hm
  have HEL := Lib.hid hel
  clear hel bW hq0 hW
  rcases HC.out with ⟨k, hk, hz, hp, hn⟩ | ⟨hz, hn⟩
  · obtain ⟨b, off, rfl, hblt, hcell⟩ := HEL.out (by omega)
    obtain ⟨c0, c1, c2, c3⟩ := edits_at hcell (List.getElem?_eq_getElem hk)
    have HF := Lib.hid (edit_first hk (of_decide_eq_true hp) (fun j hj => of_decide_eq_false (hn j hj)))
    have HH : Hid (hasE L q = true) := Lib.hid (List.any_eq_true.2 ⟨L[k], List.getElem_mem hk, hp⟩)
    have hk0 : ¬ ((k : Int) < 0) := by omega
    rw [hz] at HI
    rw [HF.out]
    have HC0 := Lib.hid c0
    have HC1 := Lib.hid c1
    have HC2 := Lib.hid c2
    have HC3 := Lib.hid c3
    generalize L[k] = e at *
    clear hz hp hn hcell c0 c1 c2 c3 HC
    go_enter Try.func57, Try.ntmps57
    go_wp2_with (fail)
    refine (HI.out).mono ?_
    rintro e' w1 ⟨rfl, hb1⟩
    have hbb := HB.out.trans (hb1.mono HB.out.size)
    have x0 := (hbb.cell (p := ⟨b, off + k * 4, none⟩) hblt).trans HC0.out
    have x1 := (hbb.cell (p := ⟨b, off + k * 4 + 1, none⟩) hblt).trans HC1.out
    have x2 := (hbb.cell (p := ⟨b, off + k * 4 + 2, none⟩) hblt).trans HC2.out
    have x3 := (hbb.cell (p := ⟨b, off + k * 4 + 3, none⟩) hblt).trans HC3.out
    have hsz : w.heap.size + 1 < w1.heap.size := by have := hb1.size; simp at this; omega
    obtain ⟨hcc, hff⟩ := bcell hb1
    have k0 := hcc (w.heap.size + 1) 0 (by simp)
    have k1 := hcc (w.heap.size + 1) 1 (by simp)
    have k2 := hcc (w.heap.size + 1) 2 (by simp)
    have k3 := hcc (w.heap.size + 1) 3 (by simp)
    have g0 := hff (w.heap.size + 1) 0 (by simp)
    have g1 := hff (w.heap.size + 1) 1 (by simp)
    have g2 := hff (w.heap.size + 1) 2 (by simp)
    have g3 := hff (w.heap.size + 1) 3 (by simp)
    simp [go_sem] at k0 k1 k2 k3 g0 g1 g2 g3
    have HBB := Lib.hid hbb
    clear hcc hff hb1 hbb
    go_wp2
    refine bodyPost_ret (v := .tuple #[.agg #[.int .i64 e.kind, .int .i64 e.id, .string e.old, .string e.new], .bool true]) (by simp [results, Try.results57, go_sem, k0, k1, k2, k3]) rfl ⟨by rw [HH.out], ?_⟩
    exact (((HBB.out.setCell (by simp) _).setCell (by simp) _).setCell (by simp) _).setCell (by simp) _
  · have HF := Lib.hid (editOf_none (s := L) (i := q) (fun a ha => of_decide_eq_false (hn a ha)))
    have HH : Hid (hasE L q = false) := Lib.hid (by
      unfold hasE
      rw [List.any_eq_false]
      intro a ha
      rw [hn a ha]
      simp)
    rw [hz] at HI
    rw [HF.out]
    clear hz hn HC
    go_enter Try.func57, Try.ntmps57
    go_wp2_with (fail)
    refine (HI.out).mono ?_
    rintro e' w1 ⟨rfl, hb1⟩
    have hbb := HB.out.trans (hb1.mono HB.out.size)
    have hsz : w.heap.size + 1 < w1.heap.size := by have := hb1.size; simp at this; omega
    obtain ⟨hcc, hff⟩ := bcell hb1
    have k0 := hcc (w.heap.size + 1) 0 (by simp)
    have k1 := hcc (w.heap.size + 1) 1 (by simp)
    have k2 := hcc (w.heap.size + 1) 2 (by simp)
    have k3 := hcc (w.heap.size + 1) 3 (by simp)
    have g0 := hff (w.heap.size + 1) 0 (by simp)
    have g1 := hff (w.heap.size + 1) 1 (by simp)
    have g2 := hff (w.heap.size + 1) 2 (by simp)
    have g3 := hff (w.heap.size + 1) 3 (by simp)
    simp [go_sem] at k0 k1 k2 k3 g0 g1 g2 g3
    have HBB := Lib.hid hbb
    clear hcc hff hb1 hbb
    go_wp2
    refine bodyPost_ret (v := .tuple #[.agg #[.int .i64 0, .int .i64 0, .string ⟨#[]⟩, .string ⟨#[]⟩], .bool false]) (by simp [results, Try.results57, go_sem, k0, k1, k2, k3]) rfl ⟨by rw [HH.out]; rfl, ?_⟩
    exact (((HBB.out.setCell (by simp) _).setCell (by simp) _).setCell (by simp) _).setCell (by simp) _
end Go.Proofs.Ytmgdodgofpapgaa

namespace Go.Proofs.Ytmgdodgofpapgaa
open Go.RowKit Go.Lib

def sameB (x y : Edit) : Bool := x.kind == y.kind && x.id == y.id && x.old.toList == y.old.toList && x.new.toList == y.new.toList
theorem sameB_iff {x y : Edit} : sameB x y = true ↔ x = y := by
  unfold sameB
  constructor
  · intro h
    simp only [Bool.and_eq_true, beq_iff_eq] at h
    exact edit_ext h.1.1.1 h.1.1.2 h.1.2 h.2
  · rintro rfl
    simp
def confB (Q : List Edit) (a : Edit) : Bool := hasE Q a.id && !(sameB a (editOf Q a.id))
def confL (P Q : List Edit) : List Int := (P.filter (confB Q)).map (·.id)
theorem confL_step {P Q : List Edit} {k : Nat} (hk : k < P.length) : confL (P.take (k + 1)) Q = confL (P.take k) Q ++ (if confB Q P[k] = true then [P[k].id] else []) := by
  unfold confL
  rw [List.take_succ_eq_append_getElem hk, List.filter_append, List.map_append]
  congr 1
  by_cases h : confB Q P[k] = true <;> simp [h]
theorem confL_len (P Q : List Edit) : (confL P Q).length ≤ P.length := by
  unfold confL
  rw [List.length_map]
  exact List.length_filter_le _ _
theorem int_one' (z : Int) {u : Value} (h : u ∈ intCells z) : u.oneCell' = true := by
  unfold intCells at h
  rw [List.mem_singleton] at h
  subst h
  rfl

set_option maxRecDepth 100000 in
set_option maxHeartbeats 4000000 in
theorem conflicts_any (P Q : List Edit) (w : World) (vp vq : Value) (hP : Edits w w.heap.size vp P) (hQ : Edits w w.heap.size vq Q) (hl : P.length ≤ 1000) :
    Calls Try.prog 30 #[vp, vq] w (RetOwn intCells (confL P Q) w) := by
  have HQ := Lib.hid hQ
  obtain ⟨QA, qc, rfl, _⟩ := hQ
  obtain ⟨A, c, rfl, hc, hm, hel⟩ := hP
  unfold maxLen at hm
  have HEL := Lib.hid hel
  clear hel
  obtain ⟨i0, hi, hz0, hz1, hz2⟩ := info_parts Try.infoI
  have hown0 : (w.alloc (.cells #[] 2)).ownsRow w.heap.size 2 1 (.slice (some ⟨w.heap.size, 0, none⟩) 0 0) 0 [] := by simpa using World.ownsRow_made w #[] 0 (Nat.le_refl _) (Nat.zero_le _) rfl
  have HOWN0 := Lib.hid hown0
  have HB0 : Hid (Below w.heap.size w (w.alloc (.cells #[] 2))) := Lib.hid ((Below.refl _ _).alloc (Nat.le_refl _) _)
  have HCL := Lib.hid (fun k => confL_len (P.take k) Q)
  have hgu : Try.prog.eqGuardType Try.prog.depth 59 = false := by kernel_rfl
  unfold RetOwn
  clear hown0
  go_enter Try.func30, Try.ntmps30
  go_wp2
  go_loopw [5, 13] (fun o i wr => ∃ (k : Nat), i = .int .i64 (k : Int) ∧ k ≤ P.length ∧ wr.ownsRow w.heap.size 2 1 o (confL (P.take k) Q).length ((confL (P.take k) Q).flatMap intCells) ∧ o ≠ .slice none 0 0 ∧ Below w.heap.size w wr) (fun _ i _ => P.length - (RowKit.intOf i).toNat)
  case atStart => exact ⟨0, rfl, Nat.zero_le _, HOWN0.out, by simp, HB0.out⟩
  case round =>
    obtain ⟨k, rfl, hk, hown, hnn, hb⟩ := hrel
    obtain ⟨g, cap, rfl, hdc, hcm⟩ := own_some hown hnn
    unfold maxLen at hcm
    have HOWN := Lib.hid hown
    have HB := Lib.hid hb
    have hcl := HCL.out k
    rw [List.length_take] at hcl
    clear hown hnn
    by_cases hlt : k < P.length
    · obtain ⟨b, off, rfl, hblt, hcell⟩ := HEL.out (by omega)
      obtain ⟨c0, c1, c2, c3⟩ := edits_at hcell (List.getElem?_eq_getElem hlt)
      have x0 := (hb.cell (p := ⟨b, off + k * 4, none⟩) hblt).trans c0
      have x1 := (hb.cell (p := ⟨b, off + k * 4 + 1, none⟩) hblt).trans c1
      have x2 := (hb.cell (p := ⟨b, off + k * 4 + 2, none⟩) hblt).trans c2
      have x3 := (hb.cell (p := ⟨b, off + k * 4 + 3, none⟩) hblt).trans c3
      have HST := Lib.hid (confL_step (Q := Q) hlt)
      have HCB : Hid (confB Q P[k] = (hasE Q P[k].id && !(sameB P[k] (editOf Q P[k].id)))) := Lib.hid rfl
      clear hcell c0 c1 c2 c3
      generalize P[k] = e at *
      have bW := hb.alloc hb.size (.cells #[.int .i64 e.kind, .int .i64 e.id, .string e.old, .string e.new] 59)
      have HED := Lib.hid (editOf2_any Q e.id (wr.alloc (.cells #[.int .i64 e.kind, .int .i64 e.id, .string e.old, .string e.new] 59)) _ (SlR.on HQ.out (Pl.stays _) bW bW.size))
      have BW := Lib.hid bW
      have y0 : (wr.alloc (.cells #[.int .i64 e.kind, .int .i64 e.id, .string e.old, .string e.new] 59)).cell? ⟨wr.heap.size, 0, none⟩ = some (.int .i64 e.kind) := by simp [go_sem]
      have y1 : (wr.alloc (.cells #[.int .i64 e.kind, .int .i64 e.id, .string e.old, .string e.new] 59)).cell? ⟨wr.heap.size, 1, none⟩ = some (.int .i64 e.id) := by simp [go_sem]
      have y2 : (wr.alloc (.cells #[.int .i64 e.kind, .int .i64 e.id, .string e.old, .string e.new] 59)).cell? ⟨wr.heap.size, 2, none⟩ = some (.string e.old) := by simp [go_sem]
      have y3 : (wr.alloc (.cells #[.int .i64 e.kind, .int .i64 e.id, .string e.old, .string e.new] 59)).cell? ⟨wr.heap.size, 3, none⟩ = some (.string e.new) := by simp [go_sem]
      have Y0 := Lib.hid y0
      have Y1 := Lib.hid y1
      have Y2 := Lib.hid y2
      have Y3 := Lib.hid y3
      have HOWNA := Lib.hid (HOWN.out.alloc (.cells #[.int .i64 e.kind, .int .i64 e.id, .string e.old, .string e.new] 59))
      generalize editOf Q e.id = F at HED HCB
      generalize hasE Q e.id = has at HED HCB
      generalize hZ : confL (P.take k) Q = Z at *
      clear bW y0 y1 y2 y3 hb
      go_wp2_with (fail)
      refine (HED.out).mono ?_
      rintro e' w2 ⟨rfl, hb2⟩
      have HB2 := Lib.hid (BW.out.trans (hb2.mono BW.out.size))
      have HOWN2 := Lib.hid (own_below HOWNA.out hb2)
      have hlt0 : wr.heap.size < (wr.alloc (.cells #[.int .i64 e.kind, .int .i64 e.id, .string e.old, .string e.new] 59)).heap.size := by simp
      have u0 := (hb2.cell (p := ⟨wr.heap.size, 0, none⟩) hlt0).trans Y0.out
      have u1 := (hb2.cell (p := ⟨wr.heap.size, 1, none⟩) hlt0).trans Y1.out
      have u2 := (hb2.cell (p := ⟨wr.heap.size, 2, none⟩) hlt0).trans Y2.out
      have u3 := (hb2.cell (p := ⟨wr.heap.size, 3, none⟩) hlt0).trans Y3.out
      have hal := (Below.refl w2.heap.size w2).alloc (Nat.le_refl _) (.cells #[.int .i64 F.kind, .int .i64 F.id, .string F.old, .string F.new] 59)
      have hl2 := World.block_lt_of_cell? w2 ⟨wr.heap.size, 0, none⟩ u0
      have z0 := (hal.cell (p := ⟨wr.heap.size, 0, none⟩) hl2).trans u0
      have z1 := (hal.cell (p := ⟨wr.heap.size, 1, none⟩) hl2).trans u1
      have z2 := (hal.cell (p := ⟨wr.heap.size, 2, none⟩) hl2).trans u2
      have z3 := (hal.cell (p := ⟨wr.heap.size, 3, none⟩) hl2).trans u3
      have hsz2 := HB2.out.size
      have hown2 := HOWN2.out
      have hb3 := HB2.out.alloc hsz2 (.cells #[.int .i64 F.kind, .int .i64 F.id, .string F.old, .string F.new] 59)
      have HOWN3 := Lib.hid (hown2.alloc (.cells #[.int .i64 F.kind, .int .i64 F.id, .string F.old, .string F.new] 59))
      clear hb2 u0 u1 u2 u3 hal hlt0
      cases hh : has with
      | false =>
        have HN : Hid (confL (P.take (k + 1)) Q = Z) := Lib.hid (by rw [HST.out, HCB.out, hh]; simp)
        clear hh
        go_wp2
        go_roundw
        case rel => exact ⟨k + 1, by go_num, by omega, by rw [HN.out]; exact HOWN3.out, by simp, hb3⟩
        case measure => simp [RowKit.intOf]; omega
      | true =>
        by_cases hs : e = F
        · have heq := equal_edit e F true (by simp [hs])
          have HN : Hid (confL (P.take (k + 1)) Q = Z) := Lib.hid (by rw [HST.out, HCB.out, hh, sameB_iff.2 hs]; simp)
          clear hh hs
          go_wp2
          go_roundw
          case rel => exact ⟨k + 1, by go_num, by omega, by rw [HN.out]; exact HOWN3.out, by simp, hb3⟩
          case measure => simp [RowKit.intOf]; omega
        · have heq := equal_edit e F false (by simp [hs])
          have HN : Hid (confL (P.take (k + 1)) Q = Z ++ [e.id]) := Lib.hid (by
            have : sameB e F = false := by rw [Bool.eq_false_iff]; exact fun h => hs (sameB_iff.1 h)
            rw [HST.out, HCB.out, hh, this]
            simp)
          clear hh hs
          go_wp2_with (at_builtin; refine wpList_append_own _ rfl _ _ 28 rfl w.heap.size 2 i0 (.int .i64 0) 1 8 Try.underlying28 hi hz0 hz1 hz2 rfl (by decide) _ _ _ rfl ((hown2.alloc _).alloc _) ⟨w2.heap.size + 1, 0, none⟩ 1 1 (intCells e.id) rfl rfl (fun j u hj => new_at2 hj) (fun u hu => int_one' _ hu) ?c3 ?c4 (base_le (base_le hsz2)) ?_)
          case c3 => unfold maxLen; omega
          case c4 => omega
          · intro v' w9 hown' hgrow hiff
            have hnn' : v' ≠ .slice none 0 0 := by simpa using hiff
            have hb9 := (hb3.alloc (base_le hsz2) (.cells #[.int .i64 e.id] 2)).grown hgrow (base_le (base_le hsz2)) (fun j hj => (hown2.lt j hj).1)
            clear hgrow hiff hown2
            go_wp2
            go_roundw
            case rel => exact ⟨k + 1, by go_num, by omega, by rw [HN.out, flat_snoc, List.length_append]; exact hown', hnn', hb9⟩
            case measure => simp [RowKit.intOf]; omega
    · have hge : ¬ (k : Int) < (P.length : Int) := by omega
      have HFIN : Hid (confL (P.take k) Q = confL P Q) := Lib.hid (by rw [List.take_of_length_le (by omega)])
      have HOL : Hid (OwnL intCells (confL (P.take k) Q) w.heap.size wr (.slice (some ⟨g, 0, none⟩) (confL (P.take k) Q).length cap)) := Lib.hid (OwnL.of_own intCells (size := 1) (fun _ => rfl) HOWN.out)
      go_wp2
      go_ret
      exact ⟨_, rfl, by rw [← HFIN.out]; exact HOL.out, HB.out⟩

set_option maxHeartbeats 2000000 in
theorem conflictsOf_any (P Q : List Edit) (w : World) (vp vq : Value) (hP : Edits w w.heap.size vp P) (hQ : Edits w w.heap.size vq Q) (hp : okPatch P = true) (hq : okPatch Q = true) :
    Calls Try.prog 8 #[vp, vq] w fun e w' => ∃ v, e = .returned (.tuple #[v, .bool true]) ∧ OwnL intCells (confL P Q) w.heap.size w' v ∧ Below w.heap.size w w' := by
  have h1 := patch2_any P w vp hP (sizesOk_of hp)
  rw [hp] at h1
  have H1 := Lib.hid h1
  have HP := Lib.hid hP
  have HQ := Lib.hid hQ
  have HPO := Lib.hid hp
  have HQO := Lib.hid hq
  obtain ⟨PA, pc, rfl, _⟩ := hP
  obtain ⟨QA, qc, rfl, _⟩ := hQ
  clear h1 hp hq
  go_enter Try.func8, Try.ntmps8
  go_wp2_with (fail)
  refine (H1.out).mono ?_
  rintro e w1 ⟨rfl, hb1⟩
  have h2 := patch2_any Q w1 _ (SlR.on HQ.out (Pl.stays _) hb1 hb1.size) (sizesOk_of HQO.out)
  rw [HQO.out] at h2
  have H2 := Lib.hid h2
  have HB1 := Lib.hid hb1
  clear h2 hb1
  go_wp2_with (fail)
  refine (H2.out).mono ?_
  rintro e w2 ⟨rfl, hb2⟩
  have HB2 := Lib.hid (HB1.out.trans (hb2.mono HB1.out.size))
  have H3 := Lib.hid (conflicts_any P Q w2 _ _ (SlR.on HP.out (Pl.stays _) HB2.out HB2.out.size) (SlR.on HQ.out (Pl.stays _) HB2.out HB2.out.size) (by have := okPatch_len HPO.out; omega))
  clear hb2
  go_wp2_with (fail)
  refine (H3.out).mono ?_
  rintro e w3 ⟨v3, rfl, hO3, hb3⟩
  have HO3 := Lib.hid hO3
  have HB3 := Lib.hid (HB2.out.trans (hb3.mono HB2.out.size))
  clear hO3 hb3
  go_wp2
  go_ret2
  exact ⟨v3, rfl, HO3.out.less HB2.out.size, HB3.out⟩

set_option maxHeartbeats 2000000 in
theorem applyPatch_any (S : List Art) (P : List Edit) (w : World) (vs vp : Value) (hS : Arts w w.heap.size vs S) (hP : Edits w w.heap.size vp P) (hok : okStat S = true) (hp : okPatch P = true) :
    Calls Try.prog 13 #[vs, vp] w fun e w' => ∃ v, e = .returned (.tuple #[v, .bool (applyO S P).isSome]) ∧ OwnL artCells ((applyO S P).getD []) w.heap.size w' v ∧ Below w.heap.size w w' := by
  have h1 := stat2_any S w vs hS (textsOk_of hok)
  rw [hok] at h1
  have H1 := Lib.hid h1
  have HP := Lib.hid hP
  have HS := Lib.hid hS
  have HPO := Lib.hid hp
  have HSO := Lib.hid hok
  obtain ⟨PA, pc, rfl, _⟩ := hP
  obtain ⟨SA, sc, rfl, _⟩ := hS
  clear h1 hp hok
  go_enter Try.func13, Try.ntmps13
  go_wp2_with (fail)
  refine (H1.out).mono ?_
  rintro e w1 ⟨rfl, hb1⟩
  have h2 := patch2_any P w1 _ (SlR.on HP.out (Pl.stays _) hb1 hb1.size) (sizesOk_of HPO.out)
  rw [HPO.out] at h2
  have H2 := Lib.hid h2
  have HB1 := Lib.hid hb1
  clear h2 hb1
  go_wp2_with (fail)
  refine (H2.out).mono ?_
  rintro e w2 ⟨rfl, hb2⟩
  have HB2 := Lib.hid (HB1.out.trans (hb2.mono HB1.out.size))
  have H3 := Lib.hid (applied_any S P w2 _ _ (SlR.on HS.out (Pl.stays _) HB2.out HB2.out.size) (SlR.on HP.out (Pl.stays _) HB2.out HB2.out.size) HSO.out HPO.out)
  clear hb2
  go_wp2_with (fail)
  refine (H3.out).mono ?_
  rintro e w3 ⟨v3, rfl, hO3, ⟨A3, n3, c3, rfl⟩, hb3⟩
  have HB3 := Lib.hid (HB2.out.trans (hb3.mono HB2.out.size))
  cases hr : applyO S P with
  | none =>
    have HR := Lib.hid hr
    simp only [Option.isSome_none]
    clear hO3 hb3 hr
    go_wp2
    go_ret2
    exact ⟨.slice none 0 0, by rw [HR.out]; rfl, by rw [HR.out]; exact OwnL.nil _ _ _, HB3.out⟩
  | some R =>
    have HO3 := Lib.hid ((hO3 R hr).less HB2.out.size)
    have HR := Lib.hid hr
    simp only [Option.isSome_some]
    clear hO3 hb3 hr
    go_wp2
    go_ret2
    exact ⟨_, by rw [HR.out]; rfl, by rw [HR.out]; exact HO3.out, HB3.out⟩
end Go.Proofs.Ytmgdodgofpapgaa

namespace Go.Proofs.Ytmgdodgofpapgaa
open Go.RowKit Go.Lib

def memB (L : List Edit) (x : Edit) : Bool := L.any (sameB x)
theorem memB_iff {L : List Edit} {x : Edit} : memB L x = true ↔ x ∈ L := by
  unfold memB
  rw [List.any_eq_true]
  constructor
  · rintro ⟨y, hy, h⟩
    rw [sameB_iff.1 h]
    exact hy
  · intro h
    exact ⟨x, h, sameB_iff.2 rfl⟩

set_option maxRecDepth 100000 in
set_option maxHeartbeats 4000000 in
theorem indexOfE_any (L : List Edit) (x : Edit) (w : World) (v : Value) (h : Edits w w.heap.size v L) :
    Calls Try.prog 61 #[v, .agg #[.int .i64 x.kind, .int .i64 x.id, .string x.old, .string x.new]] w (RetB (.int .i64 (idxE (sameB x) L)) w) := by
  obtain ⟨A, c, rfl, hc, hm, hel⟩ := h
  unfold maxLen at hm
  have hlm : L.length ≤ 9223372036854775807 := by omega
  have HEL := Lib.hid hel
  have hgu : Try.prog.eqGuardType Try.prog.depth 59 = false := by kernel_rfl
  obtain ⟨W, hW⟩ : ∃ W : World, W = w.alloc (.cells #[.int .i64 x.kind, .int .i64 x.id, .string x.old, .string x.new] 59) := ⟨_, rfl⟩
  have bW : Below w.heap.size w W := by rw [hW]; exact (Below.refl _ _).alloc (Nat.le_refl _) _
  have y0 : W.cell? ⟨w.heap.size, 0, none⟩ = some (.int .i64 x.kind) := by rw [hW]; simp [go_sem]
  have y1 : W.cell? ⟨w.heap.size, 1, none⟩ = some (.int .i64 x.id) := by rw [hW]; simp [go_sem]
  have y2 : W.cell? ⟨w.heap.size, 2, none⟩ = some (.string x.old) := by rw [hW]; simp [go_sem]
  have y3 : W.cell? ⟨w.heap.size, 3, none⟩ = some (.string x.new) := by rw [hW]; simp [go_sem]
  have Y0 := Lib.hid y0
  have Y1 := Lib.hid y1
  have Y2 := Lib.hid y2
  have Y3 := Lib.hid y3
  have BW := Lib.hid bW
  rw [hW] at Y0 Y1 Y2 Y3 BW
  clear hel bW hW y0 y1 y2 y3
  go_enter Try.func61, Try.ntmps61
  go_wp2
  go_loopw [5, 8] (fun _ i wr => ∃ k : Nat, k ≤ L.length ∧ i = .int .i64 (k : Int) ∧ (∀ j (hj : j < L.length), j < k → sameB x L[j] = false) ∧ Below (w.heap.size + 1) (w.alloc (.cells #[.int .i64 x.kind, .int .i64 x.id, .string x.old, .string x.new] 59)) wr) (fun _ i _ => L.length - (RowKit.intOf i).toNat)
  case atStart => exact ⟨0, Nat.zero_le _, rfl, fun j _ hj => absurd hj (Nat.not_lt_zero _), Below.refl _ _⟩
  case round =>
    obtain ⟨k, hk, rfl, hn, hb⟩ := hrel
    have HN := Lib.hid hn
    have HB := Lib.hid hb
    have HBW : Hid (Below w.heap.size w wr) := Lib.hid (BW.out.trans (hb.mono (by omega)))
    clear hn
    by_cases hlt : k < L.length
    · obtain ⟨b, off, rfl, hblt, hcell⟩ := HEL.out (by omega)
      obtain ⟨c0, c1, c2, c3⟩ := edits_at hcell (List.getElem?_eq_getElem hlt)
      have z0 := fun x : Aft wr => x.cell ((HBW.out.cell (p := ⟨b, off + k * 4, none⟩) hblt).trans c0)
      have z1 := fun x : Aft wr => x.cell ((HBW.out.cell (p := ⟨b, off + k * 4 + 1, none⟩) hblt).trans c1)
      have z2 := fun x : Aft wr => x.cell ((HBW.out.cell (p := ⟨b, off + k * 4 + 2, none⟩) hblt).trans c2)
      have z3 := fun x : Aft wr => x.cell ((HBW.out.cell (p := ⟨b, off + k * 4 + 3, none⟩) hblt).trans c3)
      have u0 := fun x : Aft wr => x.cell ((hb.cell (p := ⟨w.heap.size, 0, none⟩) (by simp)).trans Y0.out)
      have u1 := fun x : Aft wr => x.cell ((hb.cell (p := ⟨w.heap.size, 1, none⟩) (by simp)).trans Y1.out)
      have u2 := fun x : Aft wr => x.cell ((hb.cell (p := ⟨w.heap.size, 2, none⟩) (by simp)).trans Y2.out)
      have u3 := fun x : Aft wr => x.cell ((hb.cell (p := ⟨w.heap.size, 3, none⟩) (by simp)).trans Y3.out)
      clear hcell c0 c1 c2 c3
      cases hq : sameB x L[k] with
      | true =>
        have HQ := Lib.hid (idxE_hit hlt hq (fun j hj => HN.out j (by omega) hj))
        have heq := equal_edit x L[k] true (by rw [← sameB_iff, hq])
        generalize L[k] = e at *
        clear hq hb
        go_upto_region 4 with (fail)
        refine wp_region_aft (by kernel_rfl) (by kernel_rfl) ?_
        repeat (go_big_quiet_step (fail))
        refine wpQuiet_nil ?_
        rintro _ ⟨y, rfl⟩
        have bY := HBW.out.trans (y.ok.mono HBW.out.size)
        go_wp2
        go_ret
        exact ⟨by rw [HQ.out]; rfl, bY⟩
      | false =>
        have HNN : Hid (∀ j (hj : j < L.length), j < k + 1 → sameB x L[j] = false) := Lib.hid (fun j hj hjk => by
          by_cases e : j = k
          · subst e; exact hq
          · exact HN.out j hj (by omega))
        have heq := equal_edit x L[k] false (by rw [← sameB_iff, hq])
        generalize L[k] = e at z0 z1 z2 z3 hq heq
        clear hq hb
        go_upto_region 4 with (fail)
        refine wp_region_aft (by kernel_rfl) (by kernel_rfl) ?_
        repeat (go_big_quiet_step (fail))
        refine wpQuiet_nil ?_
        rintro _ ⟨y, rfl⟩
        have hsz : w.heap.size + 1 ≤ wr.heap.size := by have := HB.out.size; simp at this; omega
        have bY := HB.out.trans (y.ok.mono hsz)
        go_wp2
        go_roundw
        case rel => exact ⟨k + 1, by omega, by go_num, HNN.out, bY⟩
        case measure => simp [RowKit.intOf]; omega
    · have hge : ¬ (k : Int) < (L.length : Int) := by omega
      have HQ := Lib.hid (idxE_none (p := sameB x) (L := L) (fun j hj => HN.out j hj (by omega)))
      clear hb
      go_wp2
      go_ret
      exact ⟨by rw [HQ.out]; rfl, HBW.out⟩

set_option maxHeartbeats 1000000 in
theorem containsE_any (L : List Edit) (x : Edit) (w : World) (v : Value) (h : Edits w w.heap.size v L) :
    Calls Try.prog 35 #[v, .agg #[.int .i64 x.kind, .int .i64 x.id, .string x.old, .string x.new]] w (RetB (.bool (memB L x)) w) := by
  have bW := (Below.refl w.heap.size w).alloc (Nat.le_refl _) (.cells #[.int .i64 x.kind, .int .i64 x.id, .string x.old, .string x.new] 59)
  have HI := Lib.hid (indexOfE_any L x (w.alloc (.cells #[.int .i64 x.kind, .int .i64 x.id, .string x.old, .string x.new] 59)) v (SlR.on h (Pl.stays _) bW bW.size))
  have HB := Lib.hid bW
  obtain ⟨A, c, rfl, _⟩ := h
  clear bW
  rcases idxE_cases (sameB x) L with ⟨k, hk, hz, hp, _⟩ | ⟨hz, hn⟩
  · have HM : Hid (memB L x = true) := Lib.hid (List.any_eq_true.2 ⟨L[k], List.getElem_mem hk, hp⟩)
    have hk0 : (0 : Int) ≤ (k : Int) := by omega
    rw [hz] at HI
    clear hz hp
    go_enter Try.func35, Try.ntmps35
    go_wp2_with (fail)
    refine (HI.out).mono ?_
    rintro e' w1 ⟨rfl, hb1⟩
    have HB1 := Lib.hid (HB.out.trans (hb1.mono HB.out.size))
    clear hb1
    go_wp2
    go_ret
    exact ⟨by rw [HM.out]; simp, HB1.out⟩
  · have HM : Hid (memB L x = false) := Lib.hid (by
      unfold memB
      rw [List.any_eq_false]
      intro a ha
      rw [hn a ha]
      simp)
    rw [hz] at HI
    clear hz hn
    go_enter Try.func35, Try.ntmps35
    go_wp2_with (fail)
    refine (HI.out).mono ?_
    rintro e' w1 ⟨rfl, hb1⟩
    have HB1 := Lib.hid (HB.out.trans (hb1.mono HB.out.size))
    clear hb1
    go_wp2
    go_ret
    exact ⟨by rw [HM.out]; simp, HB1.out⟩

/-- A test on edits that holds while a row is rewritten. -/
def PredO (g : Nat) (lb : Array Value) (p : Edit → Bool) (row : Nat) (w : World) : Prop :=
  ∀ (W : World) (x : Edit), Only row w W → Calls Try.prog g (#[.agg #[.int .i64 x.kind, .int .i64 x.id, .string x.old, .string x.new]] ++ lb) W (RetB (.bool (p x)) W)

set_option maxHeartbeats 1000000 in
/-- The closure of 'RebasePatch': it has captured a patch. -/
theorem inP_pred (P : List Edit) (B row : Nat) (w : World) (A : Option Addr) (c : Nat) (hB : B < w.heap.size) (hBr : B ≠ row) (hc : w.cell? ⟨B, 0, none⟩ = some (.slice A P.length c)) (hP : Edits w row (.slice A P.length c) P) (hrow : row ≤ w.heap.size) :
    PredO 34 #[.pointer (some ⟨B, 0, none⟩)] (fun e => memB P e) row w := by
  intro W x ho
  have x0 := (only_cells ho B 0 hB hBr).1.trans hc
  have hE : Edits W W.heap.size (.slice A P.length c) P := by
    have h1 := SlR.only hP hrow (Nat.le_refl _) ho
    obtain ⟨A', c', hv, g1, g2, g3⟩ := h1
    exact ⟨A', c', hv, g1, g2, fun h0 => by
      obtain ⟨b, off, e1, e2, e3⟩ := g3 h0
      exact ⟨b, off, e1, Nat.lt_of_lt_of_le e2 (Nat.le_trans hrow ho.size), e3⟩⟩
  have bW := (Below.refl W.heap.size W).alloc (Nat.le_refl _) (.cells #[.int .i64 x.kind, .int .i64 x.id, .string x.old, .string x.new] 59)
  have hBW := World.block_lt_of_cell? W ⟨B, 0, none⟩ x0
  have y0 := (bW.cell (p := ⟨B, 0, none⟩) hBW).trans x0
  have HC := Lib.hid (containsE_any P x (W.alloc (.cells #[.int .i64 x.kind, .int .i64 x.id, .string x.old, .string x.new] 59)) _ (SlR.on hE (Pl.stays _) bW bW.size))
  have HB := Lib.hid bW
  show Calls Try.prog 34 #[.agg #[.int .i64 x.kind, .int .i64 x.id, .string x.old, .string x.new], .pointer (some ⟨B, 0, none⟩)] W (RetB (.bool (memB P x)) W)
  generalize memB P x = r at HC ⊢
  clear x0 hE bW ho hc hP
  go_enter Try.func34, Try.ntmps34
  go_wp2_with (fail)
  refine (HC.out).mono ?_
  rintro e' w1 ⟨rfl, hb1⟩
  have HB1 := Lib.hid (HB.out.trans (hb1.mono HB.out.size))
  clear hb1
  go_wp2
  go_ret
  exact ⟨rfl, HB1.out⟩
theorem inP_enters : ∀ args w, (callFunc 34 args).run Try.prog w = .ok (.enter 34 args) w := enters_of Try.func34 (by kernel_rfl) rfl
end Go.Proofs.Ytmgdodgofpapgaa

namespace Go.Proofs.Ytmgdodgofpapgaa
open Go.RowKit Go.Lib

/-- A row of edits that is being thinned: its first m are what is kept of the first jj. -/
structure Thin (p : Edit → Bool) (L : List Edit) (jj m : Nat) (M : List Edit) : Prop where
  len : M.length = L.length
  kept : M.take m = (L.take jj).filter (fun x => !p x)
  rest : M.drop jj = L.drop jj
  lt : m < jj
  le : jj ≤ L.length
theorem Thin.start {p : Edit → Bool} {L : List Edit} {k : Nat} (hk : k < L.length) (hp : p L[k] = true) (hn : ∀ j (hj : j < k), p (L[j]'(by omega)) = false) : Thin p L (k + 1) k L where
  len := rfl
  kept := by
    rw [List.take_succ_eq_append_getElem hk, List.filter_append]
    have h1 : (L.take k).filter (fun x => !p x) = L.take k := List.filter_eq_self.2 (fun a ha => by
      obtain ⟨j, hj, rfl⟩ := List.mem_iff_getElem.1 ha
      rw [List.length_take] at hj
      rw [List.getElem_take, hn j (by omega)]
      rfl)
    rw [h1]
    simp [hp]
  rest := rfl
  lt := by omega
  le := hk
theorem Thin.get {p : Edit → Bool} {L M : List Edit} {jj m : Nat} (h : Thin p L jj m M) (hj : jj < L.length) : M[jj]? = some L[jj] := by
  have := congrArg (fun l => l[0]?) h.rest
  simp only [List.getElem?_drop, Nat.add_zero] at this
  rw [this, List.getElem?_eq_getElem hj]
theorem Thin.skip {p : Edit → Bool} {L M : List Edit} {jj m : Nat} (h : Thin p L jj m M) (hj : jj < L.length) (hp : p L[jj] = true) : Thin p L (jj + 1) m M where
  len := h.len
  kept := by rw [List.take_succ_eq_append_getElem hj, List.filter_append, h.kept]; simp [hp]
  rest := by rw [← List.drop_drop, ← List.drop_drop, h.rest]
  lt := by have := h.lt; omega
  le := hj
theorem Thin.put {p : Edit → Bool} {L M : List Edit} {jj m : Nat} (h : Thin p L jj m M) (hj : jj < L.length) (hp : p L[jj] = false) : Thin p L (jj + 1) (m + 1) (M.set m L[jj]) where
  len := by rw [List.length_set]; exact h.len
  kept := by
    have hl := h.lt
    have hM := h.len
    rw [List.take_succ_eq_append_getElem hj, List.filter_append, ← h.kept, List.take_succ_eq_append_getElem (by rw [List.length_set]; omega), List.getElem_set_self, List.take_set_of_le (Nat.le_refl _)]
    simp [hp]
  rest := by
    have hl := h.lt
    rw [List.drop_set_of_lt (by omega), ← List.drop_drop, ← List.drop_drop, h.rest]
  lt := by have := h.lt; omega
  le := hj
/-- One element of a row of the call's own gets four other cells. -/
theorem own_put {w : World} {base g n cap j : Nat} {M : List Edit} (x : Edit) (hn : M.length = n) (hj : j < n) (h : w.ownsRow base 59 4 (.slice (some ⟨g, 0, none⟩) n cap) n (M.flatMap editCells)) :
    ((((w.setCell ⟨g, j * 4, none⟩ (.int .i64 x.kind)).setCell ⟨g, j * 4 + 1, none⟩ (.int .i64 x.id)).setCell ⟨g, j * 4 + 2, none⟩ (.string x.old)).setCell ⟨g, j * 4 + 3, none⟩ (.string x.new)).ownsRow base 59 4 (.slice (some ⟨g, 0, none⟩) n cap) n ((M.set j x).flatMap editCells) := by
  obtain ⟨T, hB, hC, hnc, hcm, hbg, hxl⟩ := blk_of_own h
  have h1 : ∀ v ∈ editCells x, v.oneCell' = true := fun v hv => edit_one hv
  have hs := hB.set Try.prog (j * 4) (editCells x) (by rw [hC]; show j * 4 + 4 ≤ _; omega) h1
  have hjM : j < M.length := by omega
  have eM : M.flatMap editCells = (M.take j).flatMap editCells ++ (editCells M[j] ++ (M.drop (j + 1)).flatMap editCells) := by
    conv => lhs; rw [cut_mid hjM]
    rw [List.flatMap_append, List.flatMap_cons]
  have eS : (M.set j x).flatMap editCells = (M.take j).flatMap editCells ++ (editCells x ++ (M.drop (j + 1)).flatMap editCells) := by
    rw [List.set_eq_take_append_cons_drop, if_pos hjM, List.flatMap_append, List.flatMap_cons]
  have hl : ((M.take j).flatMap editCells).length = j * 4 := by rw [flat_len (k := 4) editCells (fun _ => rfl), List.length_take, Nat.min_eq_left (by omega)]
  have e1 : splice (M.flatMap editCells ++ T) (j * 4) (editCells x) = (M.set j x).flatMap editCells ++ T := by
    have e2 : M.flatMap editCells ++ T = ((M.take j).flatMap editCells ++ editCells M[j]) ++ ((M.drop (j + 1)).flatMap editCells ++ T) := by rw [eM]; simp
    unfold splice
    rw [e2, List.drop_left' (by rw [List.length_append, hl]; rfl), List.append_assoc, List.take_left' hl, eS]
    simp
  rw [e1] at hs
  have hl2 : ((M.set j x).flatMap editCells).length = n * 4 := by rw [flat_len (k := 4) editCells (fun _ => rfl), List.length_set, hn]
  exact own_of_blk hs (by rw [List.length_append, hl2, ← hxl, ← List.length_append]; exact hC) (by rw [List.take_left' hl2]) hl2 hnc hcm hbg
theorem only_put {w0 w : World} {g : Nat} (a b c d : Addr) (u v x y : Value) (h : Only g w0 w) (ha : a.block = g) (hb : b.block = g) (hc : c.block = g) (hd : d.block = g) : Only g w0 ((((w.setCell a u).setCell b v).setCell c x).setCell d y) :=
  only_setCell (only_setCell (only_setCell (only_setCell h (.inl ha) _) (.inl hb) _) (.inl hc) _) (.inl hd) _
theorem own_cells {w : World} {base g n cap j : Nat} {M : List Edit} {x : Edit} (h : w.ownsRow base 59 4 (.slice (some ⟨g, 0, none⟩) n cap) n (M.flatMap editCells)) (hj : M[j]? = some x) :
    w.cell? ⟨g, j * 4, none⟩ = some (.int .i64 x.kind) ∧ w.cell? ⟨g, j * 4 + 1, none⟩ = some (.int .i64 x.id) ∧ w.cell? ⟨g, j * 4 + 2, none⟩ = some (.string x.old) ∧ w.cell? ⟨g, j * 4 + 3, none⟩ = some (.string x.new) ∧
    w.frozen? ⟨g, j * 4, none⟩ = false ∧ w.frozen? ⟨g, j * 4 + 1, none⟩ = false ∧ w.frozen? ⟨g, j * 4 + 2, none⟩ = false ∧ w.frozen? ⟨g, j * 4 + 3, none⟩ = false := by
  obtain ⟨T, hB, hC, hnc, hcm, hbg, hxl⟩ := blk_of_own h
  have hjl := (List.getElem?_eq_some_iff.1 hj).1
  have hML : M.length * 4 = n * 4 := by rw [← hxl, flat_len (k := 4) editCells (fun _ => rfl)]
  have hc : ∀ r u, (editCells x)[r]? = some u → r < 4 → w.cell? ⟨g, j * 4 + r, none⟩ = some u := fun r u hr hr4 => by
    rw [hB.cell, List.getElem?_append_left (by omega)]
    exact flat_at editCells (size := 4) (fun _ => rfl) M j x r u hj hr hr4
  have hf : ∀ r, r < 4 → w.frozen? ⟨g, j * 4 + r, none⟩ = false := fun r hr => hB.free (by rw [hC]; omega)
  exact ⟨hc 0 _ rfl (by omega), hc 1 _ rfl (by omega), hc 2 _ rfl (by omega), hc 3 _ rfl (by omega), hf 0 (by omega), hf 1 (by omega), hf 2 (by omega), hf 3 (by omega)⟩
theorem zero_one {z : Value} (h : ∀ v ∈ z.cells.toList, v.oneCell' = true) (hs : 0 < z.cells.size) (n : Nat) : ∀ v ∈ (Builtin.zeroCells z.cells n).toList, v.oneCell' = true := by
  intro v hv
  unfold Builtin.zeroCells at hv
  rw [Array.toList_map, List.mem_map] at hv
  obtain ⟨i, _, rfl⟩ := hv
  have hm : i % z.cells.size < z.cells.size := Nat.mod_lt _ hs
  rw [getElem!_pos z.cells _ hm]
  exact h _ (by simp)

def DelFPost (p : Edit → Bool) (L : List Edit) (base g cap : Nat) (w : World) (e : Ending) (w' : World) : Prop :=
  ∃ m, m = (L.filter (fun x => !p x)).length ∧ e = .returned (.slice (some ⟨g, 0, none⟩) m cap) ∧ w'.ownsRow base 59 4 (.slice (some ⟨g, 0, none⟩) m cap) m ((L.filter (fun x => !p x)).flatMap editCells) ∧ Only g w w'

set_option maxRecDepth 100000 in
set_option maxHeartbeats 8000000 in
theorem delFE_any (L : List Edit) (base g n cap : Nat) (w : World) (hn : L.length = n) (hn63 : n ≤ 1000000) (hown : w.ownsRow base 59 4 (.slice (some ⟨g, 0, none⟩) n cap) n (L.flatMap editCells))
    (q : Nat) (lb : Array Value) (p : Edit → Bool) (hp : PredO q lb p g w) (eg : ∀ args w, (callFunc q args).run Try.prog w = .ok (.enter q args) w) :
    Calls Try.prog 33 #[.slice (some ⟨g, 0, none⟩) n cap, .func (.func q) #[] lb] w (DelFPost p L base g cap w) := by
  obtain ⟨_, _, _, hnc, hcm, hbg, hxl⟩ := blk_of_own hown
  have hcm' := hcm
  unfold maxLen at hcm
  have hcli : (n : Int) ≤ 1000000 := by omega
  have HE := Lib.hid (show Edits w w.heap.size (.slice (some ⟨g, 0, none⟩) n cap) L by rw [← hn]; exact SlR.of_own editCells (fun _ => rfl) (by rw [hn]; exact hown))
  have HI := Lib.hid (indexE_any L w _ HE.out q lb p (fun W x hb => hp W x (only_of_below hb)) eg)
  have HP := Lib.hid hp
  have HOWN := Lib.hid hown
  have HN := Lib.hid hn
  clear hown hp hxl
  rcases idxE_cases p L with ⟨k, hk, hz, hpk, hnk⟩ | ⟨hz, hnk⟩
  · have HTH := Lib.hid (Thin.start hk hpk hnk)
    have hkn : k < n := by omega
    have hk0 : ((k : Int) == -1) = false := by simp
    rw [hz] at HI
    clear hz hpk hnk hn
    go_enter Try.func33, Try.ntmps33
    go_wp2_with (fail)
    refine (HI.out).mono ?_
    rintro e' w1 ⟨rfl, hb1⟩
    have HO1 : Hid (Only g w w1) := Lib.hid (only_of_below hb1)
    have HOWN1 := Lib.hid (own_below HOWN.out hb1)
    clear hb1
    go_wp2
    go_loopw [5, 6] (fun i jv wr => ∃ (m jj : Nat) (M : List Edit), i = .int .i64 (m : Int) ∧ jv = .int .i64 (jj : Int) ∧ Thin p L jj m M ∧ wr.ownsRow base 59 4 (.slice (some ⟨g, 0, none⟩) n cap) n (M.flatMap editCells) ∧ Only g w wr) (fun _ jv _ => n - (RowKit.intOf jv).toNat)
    case atStart => exact ⟨k, k + 1, L, rfl, by go_num, HTH.out, HOWN1.out, HO1.out⟩
    case round =>
      obtain ⟨m, jj, M, rfl, rfl, hth, hown, ho⟩ := hrel
      have HTH2 := Lib.hid hth
      have HOWN2 := Lib.hid hown
      have HO2 := Lib.hid ho
      have hmj := hth.lt
      have hjl := hth.le
      rw [HN.out] at hjl
      clear hth hown ho
      by_cases hlt : jj < n
      · have hlt' : (jj : Int) < (n : Int) := by omega
        have hltL : jj < L.length := by rw [HN.out]; exact hlt
        obtain ⟨x0, x1, x2, x3, _, _, _, _⟩ := own_cells HOWN2.out (HTH2.out.get hltL)
        have HSK := Lib.hid (fun h => HTH2.out.skip hltL h)
        have HPU := Lib.hid (fun h => HTH2.out.put hltL h)
        have hml : m < M.length := by rw [HTH2.out.len, HN.out]; omega
        obtain ⟨v0, v1, v2, v3, f0, f1, f2, f3⟩ := own_cells HOWN2.out (List.getElem?_eq_getElem hml)
        have HML := Lib.hid (show M.length = n by rw [HTH2.out.len, HN.out])
        generalize L[jj] = e at *
        generalize M[m] = em at *
        have bW := (Below.refl wr.heap.size wr).alloc (Nat.le_refl _) (.cells #[.int .i64 e.kind, .int .i64 e.id, .string e.old, .string e.new] 59)
        have HCALL := Lib.hid (HP.out (wr.alloc (.cells #[.int .i64 e.kind, .int .i64 e.id, .string e.old, .string e.new] 59)) e (only_alloc HO2.out _))
        have HOWNA := Lib.hid (HOWN2.out.alloc (.cells #[.int .i64 e.kind, .int .i64 e.id, .string e.old, .string e.new] 59))
        have HOA := Lib.hid (only_alloc HO2.out (.cells #[.int .i64 e.kind, .int .i64 e.id, .string e.old, .string e.new] 59))
        have hgw : g < wr.heap.size := World.block_lt_of_cell? wr ⟨g, jj * 4, none⟩ x0
        have V0 := Lib.hid ((bW.cell (p := ⟨g, m * 4, none⟩) hgw).trans v0)
        have V1 := Lib.hid ((bW.cell (p := ⟨g, m * 4 + 1, none⟩) hgw).trans v1)
        have V2 := Lib.hid ((bW.cell (p := ⟨g, m * 4 + 2, none⟩) hgw).trans v2)
        have V3 := Lib.hid ((bW.cell (p := ⟨g, m * 4 + 3, none⟩) hgw).trans v3)
        have F0 := Lib.hid ((bW.frozen (p := ⟨g, m * 4, none⟩) hgw).trans f0)
        have F1 := Lib.hid ((bW.frozen (p := ⟨g, m * 4 + 1, none⟩) hgw).trans f1)
        have F2 := Lib.hid ((bW.frozen (p := ⟨g, m * 4 + 2, none⟩) hgw).trans f2)
        have F3 := Lib.hid ((bW.frozen (p := ⟨g, m * 4 + 3, none⟩) hgw).trans f3)
        have Y0 : Hid ((wr.alloc (.cells #[.int .i64 e.kind, .int .i64 e.id, .string e.old, .string e.new] 59)).cell? ⟨wr.heap.size, 0, none⟩ = some (.int .i64 e.kind)) := Lib.hid (by simp [go_sem])
        have Y1 : Hid ((wr.alloc (.cells #[.int .i64 e.kind, .int .i64 e.id, .string e.old, .string e.new] 59)).cell? ⟨wr.heap.size, 1, none⟩ = some (.int .i64 e.id)) := Lib.hid (by simp [go_sem])
        have Y2 : Hid ((wr.alloc (.cells #[.int .i64 e.kind, .int .i64 e.id, .string e.old, .string e.new] 59)).cell? ⟨wr.heap.size, 2, none⟩ = some (.string e.old)) := Lib.hid (by simp [go_sem])
        have Y3 : Hid ((wr.alloc (.cells #[.int .i64 e.kind, .int .i64 e.id, .string e.old, .string e.new] 59)).cell? ⟨wr.heap.size, 3, none⟩ = some (.string e.new)) := Lib.hid (by simp [go_sem])
        have hga : g < (wr.alloc (.cells #[.int .i64 e.kind, .int .i64 e.id, .string e.old, .string e.new] 59)).heap.size := by simp <;> omega
        have hea : wr.heap.size < (wr.alloc (.cells #[.int .i64 e.kind, .int .i64 e.id, .string e.old, .string e.new] 59)).heap.size := by simp
        clear v0 v1 v2 v3 f0 f1 f2 f3 bW
        cases hpe : p e with
        | true =>
          have HS := Lib.hid (HSK.out hpe)
          rw [hpe] at HCALL
          clear hpe
          go_wp2_with (go_at_fn q; refine (HCALL.out).mono ?_; rintro e' w3 ⟨rfl, hb3⟩)
          have hown3 := own_below HOWNA.out hb3
          have ho3 := only_below' HOA.out hb3 HOA.out.size
          go_roundw
          case rel => exact ⟨m, jj + 1, M, rfl, by go_num, HS.out, hown3, ho3⟩
          case measure => simp [RowKit.intOf]; omega
        | false =>
          have HS := Lib.hid (HPU.out hpe)
          rw [hpe] at HCALL
          have hmn : (m : Int) < (n : Int) := by omega
          clear hpe
          go_wp2_with (go_at_fn q; refine (HCALL.out).mono ?_; rintro e' w3 ⟨rfl, hb3⟩; (have s0 := (hb3.cell (p := ⟨g, m * 4, none⟩) hga).trans V0.out); (have s1 := (hb3.cell (p := ⟨g, m * 4 + 1, none⟩) hga).trans V1.out); (have s2 := (hb3.cell (p := ⟨g, m * 4 + 2, none⟩) hga).trans V2.out); (have s3 := (hb3.cell (p := ⟨g, m * 4 + 3, none⟩) hga).trans V3.out); (have t0 := (hb3.frozen (p := ⟨g, m * 4, none⟩) hga).trans F0.out); (have t1 := (hb3.frozen (p := ⟨g, m * 4 + 1, none⟩) hga).trans F1.out); (have t2 := (hb3.frozen (p := ⟨g, m * 4 + 2, none⟩) hga).trans F2.out); (have t3 := (hb3.frozen (p := ⟨g, m * 4 + 3, none⟩) hga).trans F3.out); (have r0 := (hb3.cell (p := ⟨wr.heap.size, 0, none⟩) hea).trans Y0.out); (have r1 := (hb3.cell (p := ⟨wr.heap.size, 1, none⟩) hea).trans Y1.out); (have r2 := (hb3.cell (p := ⟨wr.heap.size, 2, none⟩) hea).trans Y2.out); (have r3 := (hb3.cell (p := ⟨wr.heap.size, 3, none⟩) hea).trans Y3.out))
          have hown3 := own_put e HML.out (by omega : m < n) (own_below HOWNA.out hb3)
          have ho3 := only_put ⟨g, m * 4, none⟩ ⟨g, m * 4 + 1, none⟩ ⟨g, m * 4 + 2, none⟩ ⟨g, m * 4 + 3, none⟩ (.int .i64 e.kind) (.int .i64 e.id) (.string e.old) (.string e.new) (only_below' HOA.out hb3 HOA.out.size) rfl rfl rfl rfl
          go_roundw
          case rel => exact ⟨m + 1, jj + 1, M.set m e, by go_num, by go_num, HS.out, hown3, ho3⟩
          case measure => simp [RowKit.intOf]; omega
      · have hge : ¬ (jj : Int) < (n : Int) := by omega
        have hjj : jj = n := by omega
        have HK : Hid (M.take m = L.filter (fun x => !p x)) := Lib.hid (by rw [HTH2.out.kept, List.take_of_length_le (by rw [HN.out]; omega)])
        have hML : M.length = n := by rw [HTH2.out.len, HN.out]
        have hmn : m < n := by omega
        obtain ⟨T, hB, hC, _, _, _, hxl⟩ := blk_of_own HOWN2.out
        obtain ⟨zs, hzs⟩ : ∃ zs, zs = (Builtin.zeroCells (Value.agg #[.int .i64 0, .int .i64 0, .string ⟨#[]⟩, .string ⟨#[]⟩]).cells (n - m)).toList := ⟨_, rfl⟩
        have hzl : zs.length = (n - m) * 4 := by rw [hzs, Array.length_toList, size_zeroCells]; rfl
        have hz1 : ∀ v ∈ zs, v.oneCell' = true := by
          rw [hzs]
          exact zero_one (fun v hv => edit_one (q := ⟨0, 0, ⟨#[]⟩, ⟨#[]⟩⟩) (by simpa [Value.cells, editCells] using hv)) (by decide) _
        have hclr : ∀ ty, (Builtin.clear_ #[25] ty #[.slice (some ⟨g, m * 4, none⟩) (n - m) (cap - m)]).run Try.prog wr = .ok (.tuple #[]) (wr.setCells g (m * 4) zs) := fun ty =>
          run_clear_k wr _ 59 ty _ zs Try.underlying25 Try.zeroValue59 g _ (n - m) _ (by omega) hzs.symm hz1
            (fun j hj => hB.isSome (by rw [hzl] at hj; rw [hC]; omega)) (fun j hj => hB.free (by rw [hzl] at hj; rw [hC]; omega))
        have hB2 := hB.set Try.prog (m * 4) zs (by rw [hC, hzl]; omega) hz1
        have hg2 := grown_set Try.prog hB (m * 4) zs (by rw [hC, hzl]; omega) hz1
        have hfl : ((M.take m).flatMap editCells).length = m * 4 := by rw [flat_len (k := 4) editCells (fun _ => rfl), List.length_take, Nat.min_eq_left (by omega)]
        have hown3 : (wr.setCells g (m * 4) zs).ownsRow base 59 4 (.slice (some ⟨g, 0, none⟩) m cap) m ((M.take m).flatMap editCells) :=
          own_of_blk hB2 (by rw [length_splice _ _ _ (by rw [hC, hzl]; omega), hC]) (by
            unfold splice
            rw [List.take_append_of_le_length (by rw [List.length_take, hC]; omega), List.take_take, Nat.min_self, flat_split editCells M m, List.append_assoc, List.take_left' hfl]) hfl (by omega) hcm' hbg
        have HFIN : Hid (DelFPost p L base g cap w (.returned (.slice (some ⟨g, 0, none⟩) m cap)) (wr.setCells g (m * 4) zs)) := Lib.hid ⟨m, by rw [← HK.out, List.length_take]; omega, rfl, by rw [← HK.out]; exact hown3, only_trans HO2.out hg2⟩
        have hcapm : ¬ (cap = m) := by omega
        have hmi : (m : Int) ≤ (n : Int) := by omega
        have hmc : m ≤ cap := by omega
        clear hB hC hzl hz1 hzs hB2 hg2 hfl hown3 hML hxl hjj
        go_wp2
        go_ret
        exact HFIN.out
  · have HF : Hid (L.filter (fun x => !p x) = L) := Lib.hid (List.filter_eq_self.2 (fun a ha => by rw [hnk a ha]; rfl))
    rw [hz] at HI
    clear hz hnk hn
    go_enter Try.func33, Try.ntmps33
    go_wp2_with (fail)
    refine (HI.out).mono ?_
    rintro e' w1 ⟨rfl, hb1⟩
    have HO1 : Hid (Only g w w1) := Lib.hid (only_of_below hb1)
    have HOWN1 := Lib.hid (own_below HOWN.out hb1)
    clear hb1
    go_wp2
    go_ret
    exact ⟨n, by rw [HF.out, HN.out], rfl, by rw [HF.out]; exact HOWN1.out, HO1.out⟩
end Go.Proofs.Ytmgdodgofpapgaa

namespace Go.Proofs.Ytmgdodgofpapgaa
open Go.RowKit Go.Lib

/-- Edits whose numbers are few. -/
abbrev EdOk : Type := { e : Edit // 1 ≤ e.id ∧ e.id ≤ 99 }
instance edOk_inh : Inhabited EdOk := ⟨⟨⟨1, 1, ⟨#[]⟩, ⟨#[]⟩⟩, by decide, by decide⟩⟩
def encOk (x : EdOk) : List Value := editCells x.1
def cfOk (x y : EdOk) : Int := x.1.id - y.1.id
theorem ltOk (x y : EdOk) : Go.Proofs.ltOf cfOk x y = decide (x.1.id < y.1.id) := by
  unfold Go.Proofs.ltOf cfOk
  rw [decide_eq_decide]
  omega
theorem swoOk : Go.Sort.SWO (Go.Proofs.ltOf cfOk) where
  irrefl x := by rw [ltOk]; simp
  trans x y z h1 h2 := by rw [ltOk] at *; simp at *; omega
  ntrans x y z h1 h2 := by rw [ltOk] at *; simp at *; omega

set_option maxHeartbeats 1000000 in
/-- The closure of 'MergePatches': in whatever world: two blocks are laid. -/
theorem cmpE_any (x y : EdOk) (W : World) : Calls Try.prog 32 #[.agg (encOk x).toArray, .agg (encOk y).toArray] W fun e w' => e = .returned (.int .i64 (cfOk x y)) ∧ ∃ q os', w' = Go.Sort.grow (W.drewN q) os' := by
  obtain ⟨⟨k1, i1, o1, n1⟩, hx1, hx2⟩ := x
  obtain ⟨⟨k2, i2, o2, n2⟩, hy1, hy2⟩ := y
  simp only at hx1 hx2 hy1 hy2
  show Calls Try.prog 32 #[.agg #[.int .i64 k1, .int .i64 i1, .string o1, .string n1], .agg #[.int .i64 k2, .int .i64 i2, .string o2, .string n2]] W fun e w' => e = .returned (.int .i64 (i1 - i2)) ∧ ∃ q os', w' = Go.Sort.grow (W.drewN q) os'
  go_enter Try.func32, Try.ntmps32
  go_wp2
  go_ret
  exact ⟨rfl, 0, _, by rw [Go.Sort.alloc_eq_grow, Go.Sort.alloc_eq_grow, Go.Sort.grow_grow]; rfl⟩

theorem blk_put {w : World} {g : Nat} {e : TypeId} {C F : List Value} (h : Blk w g e C) (hF : F.length ≤ C.length) : Blk (Go.Sort.putRow id w g 0 F.toArray) g e (F ++ C.drop F.length) := by
  unfold Blk at *
  unfold Go.Sort.putRow Go.Sort.mapBlock
  have hlt : g < w.heap.size := (Array.getElem?_eq_some_iff.1 h).1
  simp only [Array.getElem?_modify, if_true, h, Option.map_some, Go.Sort.onCells]
  congr 2
  apply Array.ext_getElem?
  intro k
  unfold Go.Sort.putCells
  rw [Array.getElem?_mapIdx]
  simp only [List.getElem?_toArray, Nat.zero_le, true_and, Nat.zero_add, Nat.sub_zero, List.size_toArray, id]
  by_cases hk : k < F.length
  · rw [List.getElem?_append_left hk, List.getElem?_eq_getElem (by omega : k < C.length), List.getElem?_eq_getElem hk]
    simp [hk]
  · rw [List.getElem?_append_right (by omega), List.getElem?_drop, show F.length + (k - F.length) = k by omega]
    cases C[k]? <;> simp [hk]
theorem flat_arr (d : Array EdOk) : (Go.Sort.flatK encOk 4 d).toList = (d.toList.map (·.1)).flatMap editCells := by
  apply List.ext_getElem?
  intro t
  have hl : ((d.toList.map (·.1)).flatMap editCells).length = d.size * 4 := by rw [flat_len (k := 4) editCells (fun _ => rfl)]; simp
  by_cases ht : t < d.size * 4
  · have hq : t / 4 < d.size := by omega
    have hm : t % 4 < 4 := by omega
    have hx : (d.toList.map (·.1))[t / 4]? = some d[t / 4].1 := by simp [hq]
    have hr : t % 4 < (editCells d[t / 4].1).length := hm
    have := flat_at editCells (size := 4) (fun _ => rfl) (d.toList.map (·.1)) (t / 4) d[t / 4].1 (t % 4) ((editCells d[t / 4].1)[t % 4]) hx (List.getElem?_eq_getElem hr) hm
    rw [show t / 4 * 4 + t % 4 = t by omega] at this
    rw [this, Array.getElem?_toList, Array.getElem?_eq_getElem (by simpa using ht)]
    congr 1
    have hg := Go.Sort.get_flatK encOk 4 d t ht
    rw [getElem!_pos _ t (by simpa using ht)] at hg
    rw [hg, getElem!_pos d _ hq]
    show (editCells d[t / 4].1)[t % 4]! = _
    rw [getElem!_pos (editCells d[t / 4].1) (t % 4) hr]
  · rw [List.getElem?_eq_none (by simp; omega), List.getElem?_eq_none (by omega)]

def SortPost (L : List Edit) (base g n cap : Nat) (w : World) (e : Ending) (w' : World) : Prop :=
  e = .returned (.tuple #[]) ∧ ∃ L' : List Edit, L'.Perm L ∧ L'.Pairwise (fun a b => a.id ≤ b.id) ∧ w'.ownsRow base 59 4 (.slice (some ⟨g, 0, none⟩) n cap) n (L'.flatMap editCells) ∧ Only g w w'

theorem sortE_any (L : List Edit) (base g n cap : Nat) (w : World) (hn : L.length = n) (hn63 : n ≤ 1000000) (hown : w.ownsRow base 59 4 (.slice (some ⟨g, 0, none⟩) n cap) n (L.flatMap editCells)) (hid : ∀ e ∈ L, 1 ≤ e.id ∧ e.id ≤ 99) :
    Calls Try.prog 31 #[.slice (some ⟨g, 0, none⟩) n cap, .func (.func 32) #[] #[]] w (SortPost L base g n cap w) := by
  obtain ⟨T, hB, hC, hnc, hcm, hbg, hxl⟩ := blk_of_own hown
  obtain ⟨d, hd⟩ : ∃ d : Array EdOk, d.toList.map (·.1) = L := by
    refine ⟨(L.attach.map (fun e => (⟨e.1, hid e.1 e.2⟩ : EdOk))).toArray, ?_⟩
    simp [List.map_map, Function.comp_def]
  have hds : d.size = n := by rw [← hn, ← hd]; simp
  have hfl : (Go.Sort.flatK encOk 4 d).toList = L.flatMap editCells := by rw [flat_arr, hd]
  have hH : Go.Sort.HoldsK encOk 4 w g 0 d := by
    intro j hj
    have hj' : j < (L.flatMap editCells).length := by rw [← hfl]; simpa using hj
    refine ⟨?_, by rw [Nat.zero_add]; exact hB.free (by rw [List.length_append]; omega)⟩
    rw [Nat.zero_add, hB.cell, List.getElem?_append_left hj']
    have e1 : (L.flatMap editCells)[j]? = (Go.Sort.flatK encOk 4 d)[j]? := by rw [← hfl, Array.getElem?_toList]
    rw [e1, Array.getElem?_eq_getElem hj, getElem!_pos (Go.Sort.flatK encOk 4 d) j hj]
    rfl
  have hcon := Go.Proofs.AnyQ.slices_SortFunc Try.sortE 4 Try.isAgg59 Try.sizeOf59 encOk (fun _ => rfl) (fun x v hv => edit_one hv) cfOk swoOk 32 #[] g 0 cap d w (enters_of Try.func32 (by kernel_rfl) rfl) (fun m os dk _ x y => cmpE_any x y _) hH hB.lt (by omega)
  rw [hds] at hcon
  change Calls Try.prog 31 _ _ _ at hcon
  refine hcon.mono ?_
  rintro e w' ⟨rfl, d', m, os, hperm, hsort, rfl⟩
  have hds' : d'.size = n := by rw [hperm.1, hds]
  refine ⟨rfl, d'.toList.map (·.1), ?_, ?_, ?_, ?_⟩
  · rw [← hd]
    have := hperm.2.2
    rw [← hds] at this
    rw [show d'.extract 0 d.size = d' by rw [← hperm.1]; simp, show d.extract 0 d.size = d by simp] at this
    exact this.map _
  · rw [List.pairwise_map, List.pairwise_iff_getElem]
    intro i j hi hj hij
    have := hsort i j (Nat.zero_le _) hij (by simpa [hds'] using hj)
    rw [ltOk, getElem!_pos d' j (by simpa using hj), getElem!_pos d' i (by simpa using hi), decide_eq_false_iff_not] at this
    simp only [Array.getElem_toList]
    omega
  · have hfl' : (Go.Sort.flatK encOk 4 d').toList = (d'.toList.map (·.1)).flatMap editCells := flat_arr d'
    have hll : ((d'.toList.map (·.1)).flatMap editCells).length = n * 4 := by rw [flat_len (k := 4) editCells (fun _ => rfl)]; simp [hds']
    have hBm : Blk (Go.Sort.ahead w m) g 59 (L.flatMap editCells ++ T) := hB
    have hb := blk_put (F := (d'.toList.map (·.1)).flatMap editCells) hBm (by rw [hll, hC]; omega)
    have hb2 : Blk (Go.Proofs.sortWorldK encOk 4 w g 0 m d' os) g 59 ((d'.toList.map (·.1)).flatMap editCells ++ (L.flatMap editCells ++ T).drop ((d'.toList.map (·.1)).flatMap editCells).length) := by
      unfold Go.Proofs.sortWorldK Go.Sort.putRowK Go.Sort.grow
      rw [show Go.Sort.flatK encOk 4 d' = ((d'.toList.map (·.1)).flatMap editCells).toArray by rw [← hfl']]
      unfold Blk at hb ⊢
      show (_ ++ os)[g]? = _
      rw [Array.getElem?_append_left (by rw [Go.Sort.size_putRow]; exact hB.lt)]
      exact hb
    exact own_of_blk hb2 (by rw [List.length_append, List.length_drop, hll, hC]; omega) (by rw [List.take_left' hll]) hll hnc hcm hbg
  · refine ⟨rfl, rfl, rfl, ?_, fun k hk hne => ?_⟩
    · unfold Go.Proofs.sortWorldK Go.Sort.putRowK Go.Sort.grow
      show w.heap.size ≤ (_ ++ os).size
      rw [Array.size_append, Go.Sort.size_putRow]
      exact Nat.le_add_right _ _
    · have hkg : g ≠ k := fun e => hne (by rw [e])
      unfold Go.Proofs.sortWorldK Go.Sort.putRowK Go.Sort.grow
      show (_ ++ os)[k]? = _
      rw [Array.getElem?_append_left (by rw [Go.Sort.size_putRow]; exact hk)]
      unfold Go.Sort.putRow Go.Sort.mapBlock
      simp only [Array.getElem?_modify, if_neg hkg]
      rfl
end Go.Proofs.Ytmgdodgofpapgaa

namespace Go.Proofs.Ytmgdodgofpapgaa
open Go.RowKit Go.Lib

def restL (P Q : List Edit) : List Edit := Q.filter (fun e => !memB P e)
def rebO (P Q : List Edit) : Option (List Edit) := if confL P Q = [] then some (restL P Q) else none

set_option maxRecDepth 100000 in
set_option maxHeartbeats 4000000 in
theorem rebase_any (P Q : List Edit) (w : World) (vp vq : Value) (hP : Edits w w.heap.size vp P) (hQ : Edits w w.heap.size vq Q) (hp : okPatch P = true) (hq : okPatch Q = true) :
    Calls Try.prog 10 #[vp, vq] w fun e w' => ∃ v, e = .returned (.tuple #[v, .bool (rebO P Q).isSome]) ∧ OwnL editCells ((rebO P Q).getD []) w.heap.size w' v ∧ Below w.heap.size w w' := by
  have hmf : ∀ (fn : Fn) (first cap : Array Value) (w : World), (Instr.makeFunc fn first cap).run Try.prog w = .ok (.func fn first cap) w := fun _ _ _ _ => rfl
  have HP := Lib.hid hP
  have HQ := Lib.hid hQ
  have HPO := Lib.hid hp
  have HQO := Lib.hid hq
  obtain ⟨PA, pc, rfl, _⟩ := hP
  obtain ⟨QA, qc, rfl, hqc, hqm, _⟩ := hQ
  have hQ16 := okPatch_len hq
  have bW := (Below.refl w.heap.size w).alloc (Nat.le_refl _) (.cells #[.slice PA P.length pc] 25)
  have h1 := patch2_any P (w.alloc (.cells #[.slice PA P.length pc] 25)) _ (SlR.on HP.out (Pl.stays _) bW bW.size) (sizesOk_of hp)
  rw [hp] at h1
  have H1 := Lib.hid h1
  have HB0 := Lib.hid bW
  have hc0 : (w.alloc (.cells #[.slice PA P.length pc] 25)).cell? ⟨w.heap.size, 0, none⟩ = some (.slice PA P.length pc) := by simp [go_sem]
  have HC0 := Lib.hid hc0
  have hlt0 : w.heap.size < (w.alloc (.cells #[.slice PA P.length pc] 25)).heap.size := by simp
  obtain ⟨i0, hi, hz0, hz1, hz2⟩ := info_parts Try.infoE
  clear h1 hp hq bW hc0
  go_enter Try.func10, Try.ntmps10
  go_wp2_with (fail)
  refine (H1.out).mono ?_
  rintro e w1 ⟨rfl, hb1⟩
  have HB1 := Lib.hid (HB0.out.trans (hb1.mono HB0.out.size))
  have h2 := patch2_any Q w1 _ (SlR.on HQ.out (Pl.stays _) HB1.out HB1.out.size) (sizesOk_of HQO.out)
  rw [HQO.out] at h2
  have H2 := Lib.hid h2
  have c1 := (hb1.cell (p := ⟨w.heap.size, 0, none⟩) hlt0).trans HC0.out
  have hz1s := hb1.size
  clear h2 hb1
  go_wp2_with (fail)
  refine (H2.out).mono ?_
  rintro e w2 ⟨rfl, hb2⟩
  have HB2 := Lib.hid (HB1.out.trans (hb2.mono HB1.out.size))
  have hlt1 : w.heap.size < w1.heap.size := by omega
  have c2 := (hb2.cell (p := ⟨w.heap.size, 0, none⟩) hlt1).trans c1
  have hz2s := hb2.size
  have H3 := Lib.hid (conflicts_any P Q w2 _ _ (SlR.on HP.out (Pl.stays _) HB2.out HB2.out.size) (SlR.on HQ.out (Pl.stays _) HB2.out HB2.out.size) (by have := okPatch_len HPO.out; omega))
  clear hb2 c1
  go_wp2_with (fail)
  refine (H3.out).mono ?_
  rintro e w3 ⟨v3, rfl, hO3, hb3⟩
  have HB3 := Lib.hid (HB2.out.trans (hb3.mono HB2.out.size))
  have hlt2 : w.heap.size < w2.heap.size := by omega
  have C3 := Lib.hid ((hb3.cell (p := ⟨w.heap.size, 0, none⟩) hlt2).trans c2)
  have hz3s := hb3.size
  obtain ⟨T3, t3, rfl, ht3, _⟩ := hO3
  by_cases hcf : confL P Q = []
  · have HR : Hid (rebO P Q = some (restL P Q)) := Lib.hid (if_pos hcf)
    rw [hcf]
    have hown0 : (w3.alloc (.cells #[] 59)).ownsRow w3.heap.size 59 4 (.slice (some ⟨w3.heap.size, 0, none⟩) 0 0) 0 [] := by simpa using World.ownsRow_made w3 #[] 0 (Nat.le_refl _) (Nat.zero_le _) rfl
    have HOWN0 := Lib.hid hown0
    have hb4 := HB3.out.alloc HB3.out.size (.cells #[] 59)
    have HB4 := Lib.hid hb4
    have HSQ := Lib.hid (SlR.on HQ.out (Pl.stays _) hb4 hb4.size)
    clear hcf hb3 c2 hown0 hb4
    go_wp2_with (at_builtin; refine wpList_append_slR editCells rfl _ _ 25 rfl w3.heap.size 59 i0 (.agg #[.int .i64 0, .int .i64 0, .string ⟨#[]⟩, .string ⟨#[]⟩]) 4 48 Try.underlying25 hi hz0 hz1 hz2 rfl (by decide) _ _ _ rfl HOWN0.out _ Q _ rfl HSQ.out (fun _ => rfl) (fun y u hu => edit_one hu) ?c3 ?c4 (by simp) ?_)
    case c3 => unfold maxLen; omega
    case c4 => omega
    intro o5 w5 hown5 hgrow5 hnn5
    have hnn : o5 ≠ .slice none 0 0 := by simpa using hnn5
    have hown : w5.ownsRow w3.heap.size 59 4 o5 Q.length (Q.flatMap editCells) := by simpa using hown5
    obtain ⟨g, cap, rfl, hdc, hcm⟩ := own_some hown hnn
    have hgb := hown.lt g rfl
    have HB5 := Lib.hid (HB4.out.grown hgrow5 HB4.out.size (fun j hj => by have := (HOWN0.out.lt j hj).1; omega))
    have hb5' : Below w3.heap.size w3 w5 := ((Below.refl w3.heap.size w3).alloc (Nat.le_refl _) _).grown hgrow5 (by simp) (fun j hj => (HOWN0.out.lt j hj).1)
    have hlt3 : w.heap.size < w3.heap.size := by omega
    have C5 := (hb5'.cell (p := ⟨w.heap.size, 0, none⟩) hlt3).trans C3.out
    have hPE : Edits w5 g (.slice PA P.length pc) P := SlR.on HP.out (Pl.stays _) HB5.out (by omega)
    have HDEL := Lib.hid (delFE_any Q w3.heap.size g Q.length cap w5 rfl (by omega) hown 34 #[.pointer (some ⟨w.heap.size, 0, none⟩)] (fun e => memB P e) (inP_pred P w.heap.size g w5 PA pc (by have := hb5'.size; omega) (by omega) C5 hPE (by omega)) inP_enters)
    have HGB := Lib.hid hgb.1
    clear hown5 hgrow5 hnn5 hnn hown hb5' C5 hPE hgb
    go_wp2_with (fail)
    refine (HDEL.out).mono ?_
    rintro e w6 ⟨m, hm, rfl, hown6, ho6⟩
    have HB6 := Lib.hid (HB5.out.trans (only_below ho6 (by have := HGB.out; omega) HB5.out.size))
    have HO6 : Hid (OwnL editCells (restL P Q) w3.heap.size w6 (.slice (some ⟨g, 0, none⟩) m cap)) := Lib.hid (by
      have hm' : m = (restL P Q).length := hm
      rw [hm'] at hown6 ⊢
      exact OwnL.of_own editCells (size := 4) (fun _ => rfl) hown6)
    clear hm hown6 ho6
    go_wp2
    go_ret2
    exact ⟨_, by rw [HR.out]; rfl, by rw [HR.out]; exact HO6.out.less (by omega), HB6.out⟩
  · have HR : Hid (rebO P Q = none) := Lib.hid (if_neg hcf)
    have hpos : (0 : Int) < ((confL P Q).length : Int) := by have := List.length_pos_iff.2 hcf; omega
    clear hcf hb3 c2
    go_wp2
    go_ret2
    exact ⟨.slice none 0 0, by rw [HR.out]; rfl, by rw [HR.out]; exact OwnL.nil _ _ _, HB3.out⟩

/-- R is what P and Q merge to. -/
structure Merged (P Q R : List Edit) : Prop where
  rise : RiseE R
  mem : ∀ e, e ∈ R ↔ e ∈ P ∨ e ∈ Q
  len : R.length = P.length + (restL P Q).length
theorem noconf {P Q : List Edit} (hQ : RiseE Q) (h : confL P Q = []) {a b : Edit} (ha : a ∈ P) (hb : b ∈ Q) (hi : a.id = b.id) : a = b := by
  have hf : confB Q a = false := by
    rw [Bool.eq_false_iff]
    intro hc
    have : a.id ∈ confL P Q := List.mem_map.2 ⟨a, List.mem_filter.2 ⟨ha, hc⟩, rfl⟩
    rw [h] at this
    cases this
  unfold confB at hf
  have hh : hasE Q a.id = true := List.any_eq_true.2 ⟨b, hb, by simp [hi]⟩
  have he : editOf Q a.id = b := by rw [hi]; exact editOf_mem hQ hb
  rw [hh, he, Bool.true_and, Bool.not_eq_false'] at hf
  exact sameB_iff.1 hf
theorem Merged.of {P Q R : List Edit} (hP : RiseE P) (hQ : RiseE Q) (hc : confL P Q = []) (hp : R.Perm (P ++ restL P Q)) (hs : R.Pairwise (fun a b => a.id ≤ b.id)) : Merged P Q R where
  rise := by
    have hne : (P ++ restL P Q).Pairwise (fun a b => a.id ≠ b.id) := by
      rw [List.pairwise_append]
      refine ⟨hP.imp (fun h => by omega), (hQ.sublist (List.filter_sublist)).imp (fun h => by omega), fun a ha b hb => ?_⟩
      obtain ⟨hbQ, hbn⟩ := List.mem_filter.1 hb
      intro hi
      have := noconf hQ hc ha hbQ hi
      rw [← this, memB_iff.2 ha] at hbn
      cases hbn
    have hne2 : R.Pairwise (fun a b => a.id ≠ b.id) := (hp.pairwise_iff (fun h => fun e => h e.symm)).2 hne
    exact (hs.and hne2).imp (fun ⟨h1, h2⟩ => by omega)
  mem := fun e => by
    rw [hp.mem_iff, List.mem_append]
    constructor
    · rintro (h | h)
      · exact .inl h
      · exact .inr (List.mem_filter.1 h).1
    · rintro (h | h)
      · exact .inl h
      · by_cases hm : e ∈ P
        · exact .inl hm
        · refine .inr (List.mem_filter.2 ⟨h, ?_⟩)
          have : memB P e = false := by rw [Bool.eq_false_iff]; exact fun k => hm (memB_iff.1 k)
          rw [this]
          rfl
  len := by rw [hp.length_eq, List.length_append]

def MergePost (P Q : List Edit) (w : World) (e : Ending) (w' : World) : Prop :=
  ∃ v, ((confL P Q = [] ∧ P.length + (restL P Q).length ≤ 16 ∧ ∃ R, Merged P Q R ∧ e = .returned (.tuple #[v, .bool true]) ∧ OwnL editCells R w.heap.size w' v) ∨
    (¬ (confL P Q = [] ∧ P.length + (restL P Q).length ≤ 16) ∧ e = .returned (.tuple #[v, .bool false]) ∧ v = .slice none 0 0)) ∧ Below w.heap.size w w'

set_option maxRecDepth 100000 in
set_option maxHeartbeats 4000000 in
theorem merge_any (P Q : List Edit) (w : World) (vp vq : Value) (hP : Edits w w.heap.size vp P) (hQ : Edits w w.heap.size vq Q) (hp : okPatch P = true) (hq : okPatch Q = true) :
    Calls Try.prog 9 #[vp, vq] w (MergePost P Q w) := by
  have HRB := Lib.hid (rebase_any P Q w vp vq hP hQ hp hq)
  have HP := Lib.hid hP
  have HPR := Lib.hid ((okPatch_iff P).1 hp)
  have HQR := Lib.hid ((okPatch_iff Q).1 hq)
  obtain ⟨PA, pc, rfl, _⟩ := hP
  obtain ⟨QA, qc, rfl, _⟩ := hQ
  have hP16 := okPatch_len hp
  obtain ⟨i0, hi, hz0, hz1, hz2⟩ := info_parts Try.infoE
  clear hp hq
  by_cases hcf : confL P Q = []
  · have HR : Hid (rebO P Q = some (restL P Q)) := Lib.hid (if_pos hcf)
    have hrl : (restL P Q).length ≤ 16 := Nat.le_trans (List.length_filter_le _ _) HQR.out.2.2
    have HCF := Lib.hid hcf
    rw [HR.out] at HRB
    simp only [Option.isSome_some, Option.getD_some] at HRB
    clear hcf
    by_cases h16 : P.length + (restL P Q).length ≤ 16
    · have h16i : ¬ (16 : Int) < (P.length : Int) + ((restL P Q).length : Int) := by omega
      have H16 := Lib.hid h16
      have HMG := Lib.hid (fun (R : List Edit) => Merged.of (R := R) HPR.out.2.1 HQR.out.2.1 HCF.out)
      have HIDS : Hid (∀ e ∈ P ++ restL P Q, 1 ≤ e.id ∧ e.id ≤ 99) := Lib.hid (fun e he => by
        have hok : okEdit e = true := by
          rcases List.mem_append.1 he with h | h
          · exact HPR.out.1 e h
          · exact HQR.out.1 e (List.mem_filter.1 h).1
        have := okEdit_kinds hok
        exact ⟨this.1, this.2.1⟩)
      obtain ⟨Z, hZ⟩ : ∃ Z, Z = restL P Q := ⟨_, rfl⟩
      have HZ := Lib.hid hZ
      rw [← hZ] at HRB HIDS hrl h16i h16
      clear hZ
      have h16' := h16
      clear h16
      go_enter Try.func9, Try.ntmps9
      go_wp2_with (fail)
      refine (HRB.out).mono ?_
      rintro e w1 ⟨v1, rfl, hO1, hb1⟩
      have HO1 := Lib.hid hO1
      obtain ⟨ZA, zc, rfl, _⟩ := hO1
      have hown0 : (w1.alloc (.cells #[] 59)).ownsRow w1.heap.size 59 4 (.slice (some ⟨w1.heap.size, 0, none⟩) 0 0) 0 [] := by simpa using World.ownsRow_made w1 #[] 0 (Nat.le_refl _) (Nat.zero_le _) rfl
      have HOWN0 := Lib.hid hown0
      have HB1 := Lib.hid hb1
      have hb2 := hb1.alloc hb1.size (.cells #[] 59)
      have HB2 := Lib.hid hb2
      have HSP := Lib.hid (SlR.on HP.out (Pl.stays _) hb2 hb2.size)
      clear hb1 hb2 hown0
      go_wp2_with (at_builtin; refine wpList_append_slR editCells rfl _ _ 25 rfl w1.heap.size 59 i0 (.agg #[.int .i64 0, .int .i64 0, .string ⟨#[]⟩, .string ⟨#[]⟩]) 4 48 Try.underlying25 hi hz0 hz1 hz2 rfl (by decide) _ _ _ rfl HOWN0.out _ P _ rfl HSP.out (fun _ => rfl) (fun y u hu => edit_one hu) ?c3 ?c4 (by simp) ?_)
      case c3 => unfold maxLen; omega
      case c4 => omega
      intro o3 w3 hown3 hgrow3 hnn3
      have HNN3 : Hid (o3 ≠ .slice none 0 0) := Lib.hid (by simpa using hnn3)
      have HOWN3 : Hid (w3.ownsRow w1.heap.size 59 4 o3 P.length (P.flatMap editCells)) := Lib.hid (by simpa using hown3)
      have hb13 : Below w1.heap.size w1 w3 := ((Below.refl w1.heap.size w1).alloc (Nat.le_refl _) _).grown hgrow3 (by simp) (fun j hj => (HOWN0.out.lt j hj).1)
      have HB3 := Lib.hid (HB1.out.trans (hb13.mono HB1.out.size))
      have HB13 := Lib.hid hb13
      have HSZ := Lib.hid ((HO1.out.on hb13).slR (size := 4) (fun _ => rfl))
      have hsz13 := hb13.size
      clear hown3 hgrow3 hnn3 hb13
      go_wp2_with (at_builtin; refine wpList_append_slR editCells rfl _ _ 25 rfl w1.heap.size 59 i0 (.agg #[.int .i64 0, .int .i64 0, .string ⟨#[]⟩, .string ⟨#[]⟩]) 4 48 Try.underlying25 hi hz0 hz1 hz2 rfl (by decide) _ _ _ rfl HOWN3.out _ Z _ rfl HSZ.out (fun _ => rfl) (fun y u hu => edit_one hu) ?c3 ?c4 hsz13 ?_)
      case c3 => unfold maxLen; omega
      case c4 => omega
      intro o5 w5 hown5 hgrow5 hnn5
      have hnn : o5 ≠ .slice none 0 0 := hnn5 HNN3.out
      have hown : w5.ownsRow w1.heap.size 59 4 o5 (P.length + Z.length) ((P ++ Z).flatMap editCells) := by simpa using hown5
      obtain ⟨g, cap, rfl, hdc, hcm⟩ := own_some hown hnn
      have hgb := hown.lt g rfl
      have hb5 := HB13.out.grown hgrow5 hsz13 (fun j hj => (HOWN3.out.lt j hj).1)
      have HB5 := Lib.hid (HB1.out.trans (hb5.mono HB1.out.size))
      have HSRT := Lib.hid (sortE_any (P ++ Z) w1.heap.size g (P.length + Z.length) cap w5 (by simp) (by omega) hown HIDS.out)
      have HGB := Lib.hid hgb.1
      have hw1 := HB1.out.size
      clear hown5 hgrow5 hnn5 hnn hown hb5 hgb
      go_wp2_with (fail)
      refine (HSRT.out).mono ?_
      rintro e w6 ⟨rfl, L', hperm, hsort, hown6, ho6⟩
      have HM := Lib.hid (HMG.out L' (by rw [← HZ.out]; exact hperm) hsort)
      have HB6 := Lib.hid (HB5.out.trans (only_below ho6 (by have := HGB.out; omega) HB5.out.size))
      have HO6 : Hid (OwnL editCells L' w1.heap.size w6 (.slice (some ⟨g, 0, none⟩) (P.length + Z.length) cap)) := Lib.hid (by
        have hm' : P.length + Z.length = L'.length := by rw [hperm.length_eq, List.length_append]
        rw [hm'] at hown6 ⊢
        exact OwnL.of_own editCells (size := 4) (fun _ => rfl) hown6)
      clear hperm hsort hown6 ho6
      go_wp2
      go_ret2
      exact ⟨_, .inl ⟨HCF.out, H16.out, L', HM.out, rfl, HO6.out.less hw1⟩, HB6.out⟩
    · have h16i : (16 : Int) < (P.length : Int) + ((restL P Q).length : Int) := by omega
      have H16 := Lib.hid h16
      clear h16
      go_enter Try.func9, Try.ntmps9
      go_wp2_with (fail)
      refine (HRB.out).mono ?_
      rintro e w1 ⟨v1, rfl, ⟨ZA, zc, rfl, _⟩, hb1⟩
      have HB1 := Lib.hid hb1
      clear hb1
      go_wp2
      go_ret2
      exact ⟨_, .inr ⟨fun h => H16.out h.2, rfl, rfl⟩, HB1.out⟩
  · have HR : Hid (rebO P Q = none) := Lib.hid (if_neg hcf)
    have HCF := Lib.hid hcf
    rw [HR.out] at HRB
    simp only [Option.isSome_none, Option.getD_none] at HRB
    clear hcf
    go_enter Try.func9, Try.ntmps9
    go_wp2_with (fail)
    refine (HRB.out).mono ?_
    rintro e w1 ⟨v1, rfl, ⟨ZA, zc, rfl, _⟩, hb1⟩
    have HB1 := Lib.hid hb1
    clear hb1
    go_wp2
    go_ret2
    exact ⟨_, .inr ⟨fun h => HCF.out h.1, rfl, rfl⟩, HB1.out⟩
end Go.Proofs.Ytmgdodgofpapgaa

namespace Go.Proofs.Ytmgdodgofpapgaa
open Go.RowKit Go.Lib

theorem rise_ints : ∀ {a b : List Int}, a.Pairwise (· < ·) → b.Pairwise (· < ·) → (∀ i, i ∈ a ↔ i ∈ b) → a = b
  | [], [], _, _, _ => rfl
  | [], y :: b, _, _, h => absurd ((h y).2 List.mem_cons_self) (by simp)
  | x :: a, [], _, _, h => absurd ((h x).1 List.mem_cons_self) (by simp)
  | x :: a, y :: b, ha, hb, h => by
    obtain ⟨ha1, ha2⟩ := List.pairwise_cons.1 ha
    obtain ⟨hb1, hb2⟩ := List.pairwise_cons.1 hb
    have hxy : x = y := by
      rcases List.mem_cons.1 ((h x).1 List.mem_cons_self) with e | hx
      · exact e
      · rcases List.mem_cons.1 ((h y).2 List.mem_cons_self) with e | hy
        · exact e.symm
        · have := hb1 x hx
          have := ha1 y hy
          omega
    subst hxy
    rw [rise_ints ha2 hb2 (fun i => by
      constructor
      · intro hi
        rcases List.mem_cons.1 ((h i).1 (List.mem_cons_of_mem _ hi)) with e | h'
        · subst e; exact absurd (ha1 i hi) (by omega)
        · exact h'
      · intro hi
        rcases List.mem_cons.1 ((h i).2 (List.mem_cons_of_mem _ hi)) with e | h'
        · subst e; exact absurd (hb1 i hi) (by omega)
        · exact h')]
theorem riseE_ext : ∀ {a b : List Edit}, RiseE a → RiseE b → (∀ e, e ∈ a ↔ e ∈ b) → a = b
  | [], [], _, _, _ => rfl
  | [], y :: b, _, _, h => absurd ((h y).2 List.mem_cons_self) (by simp)
  | x :: a, [], _, _, h => absurd ((h x).1 List.mem_cons_self) (by simp)
  | x :: a, y :: b, ha, hb, h => by
    obtain ⟨ha1, ha2⟩ := List.pairwise_cons.1 ha
    obtain ⟨hb1, hb2⟩ := List.pairwise_cons.1 hb
    have hxy : x = y := by
      rcases List.mem_cons.1 ((h x).1 List.mem_cons_self) with e | hx
      · exact e
      · rcases List.mem_cons.1 ((h y).2 List.mem_cons_self) with e | hy
        · exact e.symm
        · have := hb1 x hx
          have := ha1 y hy
          omega
    subst hxy
    rw [riseE_ext ha2 hb2 (fun i => by
      constructor
      · intro hi
        rcases List.mem_cons.1 ((h i).1 (List.mem_cons_of_mem _ hi)) with e | h'
        · subst e; exact absurd (ha1 i hi) (by omega)
        · exact h'
      · intro hi
        rcases List.mem_cons.1 ((h i).2 (List.mem_cons_of_mem _ hi)) with e | h'
        · subst e; exact absurd (hb1 i hi) (by omega)
        · exact h')]
theorem confL_rise {P Q : List Edit} (hP : RiseE P) : (confL P Q).Pairwise (· < ·) := by
  unfold confL
  rw [List.pairwise_map]
  exact hP.sublist List.filter_sublist
theorem confL_mem {P Q : List Edit} (hQ : RiseE Q) (i : Int) : i ∈ confL P Q ↔ ∃ a ∈ P, ∃ b ∈ Q, a.id = i ∧ b.id = i ∧ a ≠ b := by
  unfold confL
  rw [List.mem_map]
  constructor
  · rintro ⟨a, ha, rfl⟩
    obtain ⟨hP, hc⟩ := List.mem_filter.1 ha
    unfold confB hasE at hc
    rw [Bool.and_eq_true, List.any_eq_true] at hc
    obtain ⟨⟨b, hb, hi⟩, hs⟩ := hc
    have hi : b.id = a.id := of_decide_eq_true hi
    have he : editOf Q a.id = b := by rw [← hi]; exact editOf_mem hQ hb
    rw [he] at hs
    exact ⟨a, hP, b, hb, rfl, hi, fun e => by rw [sameB_iff.2 e] at hs; cases hs⟩
  · rintro ⟨a, ha, b, hb, h1, h2, hne⟩
    refine ⟨a, List.mem_filter.2 ⟨ha, ?_⟩, h1⟩
    unfold confB
    have hh : hasE Q a.id = true := List.any_eq_true.2 ⟨b, hb, by simp [h1, h2]⟩
    have he : editOf Q a.id = b := by rw [h1, ← h2]; exact editOf_mem hQ hb
    rw [hh, he]
    have : sameB a b = false := by rw [Bool.eq_false_iff]; exact fun k => hne (sameB_iff.1 k)
    rw [this]
    rfl
theorem confL_comm {P Q : List Edit} (hP : RiseE P) (hQ : RiseE Q) : confL P Q = confL Q P :=
  rise_ints (confL_rise hP) (confL_rise hQ) (fun i => by
    rw [confL_mem hQ, confL_mem hP]
    constructor
    · rintro ⟨a, ha, b, hb, h1, h2, hne⟩
      exact ⟨b, hb, a, ha, h2, h1, fun e => hne e.symm⟩
    · rintro ⟨a, ha, b, hb, h1, h2, hne⟩
      exact ⟨b, hb, a, ha, h2, h1, fun e => hne e.symm⟩)
theorem filter_two {α : Type} (p : α → Bool) (l : List α) : l.length = (l.filter p).length + (l.filter (fun x => !p x)).length := by
  induction l with
  | nil => rfl
  | cons x r ih =>
    rw [List.filter_cons, List.filter_cons]
    cases h : p x
    · simp
      omega
    · simp
      omega
theorem rest_len {P Q : List Edit} (hP : RiseE P) (hQ : RiseE Q) : P.length + (restL P Q).length = Q.length + (restL Q P).length := by
  have h1 : P.filter (fun e => memB Q e) = Q.filter (fun e => memB P e) := riseE_ext (hP.sublist List.filter_sublist) (hQ.sublist List.filter_sublist) (fun e => by
    rw [List.mem_filter, List.mem_filter, memB_iff, memB_iff]
    exact ⟨fun h => ⟨h.2, h.1⟩, fun h => ⟨h.2, h.1⟩⟩)
  have h2 := filter_two (fun e => memB Q e) P
  have h3 := filter_two (fun e => memB P e) Q
  rw [h1] at h2
  have e1 : restL P Q = Q.filter (fun e => !memB P e) := rfl
  have e2 : restL Q P = P.filter (fun e => !memB Q e) := rfl
  rw [e1, e2]
  omega
theorem Merged.symm {P Q R : List Edit} (h : Merged P Q R) (hP : RiseE P) (hQ : RiseE Q) : Merged Q P R := ⟨h.rise, fun e => by rw [h.mem]; exact Or.comm, by rw [h.len, rest_len hP hQ]⟩
theorem Merged.uniq {P Q R T : List Edit} (h : Merged P Q R) (k : Merged P Q T) : R = T := riseE_ext h.rise k.rise (fun e => by rw [h.mem, k.mem])
theorem Merged.ok {P Q R : List Edit} (h : Merged P Q R) (hP : okPatch P = true) (hQ : okPatch Q = true) (h16 : P.length + (restL P Q).length ≤ 16) : okPatch R = true := by
  rw [okPatch_iff]
  refine ⟨fun e he => ?_, h.rise, by rw [h.len]; exact h16⟩
  rcases (h.mem e).1 he with hm | hm
  · exact ((okPatch_iff P).1 hP).1 e hm
  · exact ((okPatch_iff Q).1 hQ).1 e hm
theorem Fits.fits {S : List Art} {P : List Edit} (h : Fits S P) : fits S P = true := fits_iff.2 (fun e he => by
  rw [← mk_toList (findA S e.id), h.old e he, mk_toList])

theorem sub_len {L : List Int} : ∀ {M : List Int}, L.Nodup → (∀ i ∈ L, i ∈ M) → L.length ≤ M.length := by
  induction L with
  | nil => intro M _ _; simp
  | cons x L ih =>
    intro M hn hs
    obtain ⟨h1, h2⟩ := List.nodup_cons.1 hn
    have hx := hs x List.mem_cons_self
    have := ih (M := M.erase x) h2 (fun i hi => (List.mem_erase_of_ne (fun e => h1 (by rw [← e]; exact hi))).2 (hs i (List.mem_cons_of_mem _ hi)))
    rw [List.length_erase_of_mem hx] at this
    have hp : 0 < M.length := List.length_pos_of_mem hx
    simp only [List.length_cons]
    omega
/-- A patch that fits leads to a statute that is not too long. -/
theorem Fits.apply {S : List Art} {P : List Edit} (h : Fits S P) (hS : okStat S = true) : applyO S P = some (applyL S P) := by
  have hG := GoodA.of hS
  have hB := Becomes.applyL hG h.ok
  have hl : (applyL S P).length ≤ 8 := by
    refine Nat.le_trans ?_ h.room
    have hsub : ∀ i ∈ (applyL S P).map (·.id), i ∈ S.map (·.id) ++ (P.filter (fun e => decide (e.kind = 1))).map (·.id) := by
      intro i hi
      obtain ⟨a, ha, rfl⟩ := List.mem_map.1 hi
      rw [List.mem_append]
      have hf := hB.find a.id
      rw [findA_mem hB.good.rise ha] at hf
      have hne := hB.good.text ha
      unfold target at hf
      split at hf
      · left
        rcases findA_cases S a.id with ⟨b, hb, hi, _⟩ | ⟨h0, _⟩
        · exact List.mem_map.2 ⟨b, hb, hi⟩
        · rw [h0] at hf
          exact absurd hf hne
      · rename_i hk
        rcases editOf_cases P a.id with ⟨hm, hi⟩ | ⟨h0, _⟩
        · have hok := ((okPatch_iff P).1 h.ok).1 _ hm
          by_cases h1 : (editOf P a.id).kind = 1
          · right
            exact List.mem_map.2 ⟨_, List.mem_filter.2 ⟨hm, decide_eq_true h1⟩, hi⟩
          · left
            have ho := h.old _ hm
            rw [hi] at ho
            rcases findA_cases S a.id with ⟨b, hb, hi', _⟩ | ⟨h0, _⟩
            · exact List.mem_map.2 ⟨b, hb, hi'⟩
            · rw [h0, ByteArray.toList_eq] at ho
              exact absurd ((kind_old hok).2 ho.symm) h1
        · rw [h0] at hk
          exact absurd rfl hk
    have hnd : ((applyL S P).map (·.id)).Nodup := by
      rw [List.nodup_iff_pairwise_ne, List.pairwise_map]
      exact hB.good.rise.imp (fun h => by omega)
    have := sub_len hnd hsub
    simpa using this
  unfold applyO
  rw [if_pos ⟨h.fits, hl⟩]
/-- What is left of a patch behind the other one leads to the statute of the merged patch. -/
theorem merged_apply {S : List Art} {P Q M : List Edit} (hS : okStat S = true) (hP : Fits S P) (hQ : Fits S Q) (hc : confL P Q = []) (hM : Merged P Q M) (h16 : P.length + (restL P Q).length ≤ 16) :
    okStat (applyL S P) = true ∧ okPatch (restL P Q) = true ∧ applyO (applyL S P) (restL P Q) = applyO S M := by
  have hG := GoodA.of hS
  have hPr := ((okPatch_iff P).1 hP.ok).2.1
  have hQr := ((okPatch_iff Q).1 hQ.ok).2.1
  have hA := (applyO_ok hG hP.ok (hP.apply hS))
  have hX : okPatch (restL P Q) = true := sub_ok hQ.ok List.filter_sublist
  have hXr := ((okPatch_iff _).1 hX).2.1
  have hMok := hM.ok hP.ok hQ.ok h16
  have hX' : ∀ e ∈ restL P Q, e ∈ Q ∧ ∀ a ∈ P, a.id ≠ e.id := fun e he => by
    obtain ⟨h1, h2⟩ := List.mem_filter.1 he
    refine ⟨h1, fun a ha hi => ?_⟩
    have := noconf hQr hc ha h1 hi
    subst this
    rw [memB_iff.2 ha] at h2
    cases h2
  have hfX : fits (applyL S P) (restL P Q) = true := fits_iff.2 (fun e he => by
    obtain ⟨h1, h2⟩ := hX' e he
    rw [hA.2.1.find, target_old h2, ← mk_toList (findA S e.id), hQ.old e h1, mk_toList])
  have hfM : fits S M = true := fits_iff.2 (fun e he => by
    have : (findA S e.id).toList = e.old.toList := by
      rcases (hM.mem e).1 he with h | h
      · exact hP.old e h
      · exact hQ.old e h
    rw [← mk_toList (findA S e.id), this, mk_toList])
  have hB1 := Becomes.applyL (GoodA.of hA.1) hX
  have hB2 := Becomes.applyL hG hMok
  have hE : applyL (applyL S P) (restL P Q) = applyL S M := hB1.good.ext hB2.good (fun i => by
    rw [hB1.find, hB2.find]
    unfold target
    rcases editOf_cases (restL P Q) i with ⟨hm, hi⟩ | ⟨h0, hno⟩
    · have hk := kind_ne (((okPatch_iff _).1 hX).1 _ hm)
      have hmM : editOf (restL P Q) i ∈ M := (hM.mem _).2 (.inr (hX' _ hm).1)
      have e1 := editOf_mem hM.rise hmM
      rw [hi] at e1
      rw [if_neg hk, e1, if_neg hk]
    · rw [h0, if_pos (show noEdit.kind = 0 from rfl), hA.2.1.find]
      unfold target
      rcases editOf_cases P i with ⟨hm, hi⟩ | ⟨h1, hno1⟩
      · have hk := kind_ne (((okPatch_iff P).1 hP.ok).1 _ hm)
        have hmM : editOf P i ∈ M := (hM.mem _).2 (.inl hm)
        have e1 := editOf_mem hM.rise hmM
        rw [hi] at e1
        rw [if_neg hk, e1, if_neg hk]
      · rw [h1, if_pos (show noEdit.kind = 0 from rfl), editOf_none (fun e he hi => by
          rcases (hM.mem e).1 he with h | h
          · exact hno1 e h hi
          · by_cases hm : e ∈ P
            · exact hno1 e hm hi
            · have hb : memB P e = false := by rw [Bool.eq_false_iff]; exact fun k => hm (memB_iff.1 k)
              exact hno e (List.mem_filter.2 ⟨h, by rw [hb]; rfl⟩) hi), if_pos (show noEdit.kind = 0 from rfl)])
  refine ⟨hA.1, hX, ?_⟩
  unfold applyO
  rw [hE, hfX, hfM]
end Go.Proofs.Ytmgdodgofpapgaa

namespace Go.Proofs.Ytmgdodgofpapgaa
open Go.RowKit Go.Lib

theorem int_at {w : World} {B b off : Nat} {xs : List Int} (h : ∀ (k : Nat) (x : Int), xs[k]? = some x → ∃ us, us.length = 1 ∧ Pl intCells w B us x ∧ ∀ (j : Nat) (u : Value), us[j]? = some u → w.cell? ⟨b, off + k * 1 + j, none⟩ = some u) {k : Nat} {x : Int} (hk : xs[k]? = some x) : w.cell? ⟨b, off + k, none⟩ = some (.int .i64 x) := by
  obtain ⟨us, _, hp, hcl⟩ := h k x hk
  have hp : us = intCells x := hp
  subst hp
  have := hcl 0 _ rfl
  rwa [Nat.mul_one, Nat.add_zero] at this

set_option maxHeartbeats 2000000 in
theorem sameNums_any (xs ys : List Int) (w : World) (v1 v2 : Value) (h1 : SlR (Pl intCells) 1 w w.heap.size v1 xs) (h2 : SlR (Pl intCells) 1 w w.heap.size v2 ys) :
    Calls Try.prog 11 #[v1, v2] w (SameLoop xs ys w) := by
  obtain ⟨A1, c1, rfl, hc1, hm1, hel1⟩ := h1
  obtain ⟨A2, c2, rfl, hc2, hm2, hel2⟩ := h2
  unfold maxLen at hm1 hm2
  have HEL1 := Lib.hid hel1
  have HEL2 := Lib.hid hel2
  clear hel1 hel2
  by_cases hl : xs.length = ys.length
  · have hle : ((xs.length : Int) == (ys.length : Int)) = true := by simp [hl]
    have hli : (xs.length : Int) ≤ 9223372036854775807 := by omega
    go_enter Try.func11, Try.ntmps11
    go_wp2
    go_loopw [5] (fun i wr => ∃ k : Nat, k ≤ xs.length ∧ i = .int .i64 (k : Int) ∧ xs.take k = ys.take k ∧ Below w.heap.size w wr) (fun i _ => xs.length - (RowKit.intOf i).toNat)
    case atStart => exact ⟨0, Nat.zero_le _, rfl, rfl, Below.refl _ _⟩
    case round =>
      obtain ⟨k, hk, rfl, ht, hb⟩ := hrel
      have HT := Lib.hid ht
      clear ht
      by_cases hlt : k < xs.length
      · obtain ⟨b1, o1, rfl, hb1, hcell1⟩ := HEL1.out (by omega)
        obtain ⟨b2, o2, rfl, hb2, hcell2⟩ := HEL2.out (by omega)
        have g1 : xs[k]? = some xs[k] := List.getElem?_eq_getElem hlt
        have g2 : ys[k]? = some (ys[k]'(by omega)) := List.getElem?_eq_getElem (by omega)
        have d0 := int_at hcell1 g1
        have e0 := int_at hcell2 g2
        have z0 := fun x : Aft wr => x.cell ((hb.cell (p := ⟨b1, o1 + k, none⟩) hb1).trans d0)
        have z1 := fun x : Aft wr => x.cell ((hb.cell (p := ⟨b2, o2 + k, none⟩) hb2).trans e0)
        have G1 := Lib.hid g1
        have G2 := Lib.hid g2
        clear hcell1 hcell2 d0 e0 g1 g2
        have hk2 : (k : Int) < (ys.length : Int) := by omega
        generalize xs[k] = x at *
        generalize (ys[k]'(by omega)) = y at *
        go_upto_region 6 with (fail)
        by_cases hxy : x = y
        · have heq : (x == y) = true := by simp [hxy]
          have HN := Lib.hid (take_same G1.out G2.out HT.out hxy)
          clear hxy
          refine wp_region_aft (by kernel_rfl) (by kernel_rfl) ?_
          repeat (go_big_quiet_step (fail))
          refine wpQuiet_nil ?_
          rintro _ ⟨y, rfl⟩
          have bY := hb.trans (y.ok.mono hb.size)
          go_wp2
          go_roundw
          case rel => exact ⟨k + 1, by omega, by go_num, HN.out, bY⟩
          case measure => simp [RowKit.intOf]; omega
        · have heq : (x == y) = false := by simp [hxy]
          have HN : Hid (xs ≠ ys) := Lib.hid (fun e => hxy (by
            have a := G1.out
            rw [e, G2.out] at a
            exact (Option.some.inj a).symm))
          clear hxy
          refine wp_region_aft (by kernel_rfl) (by kernel_rfl) ?_
          repeat (go_big_quiet_step (fail))
          refine wpQuiet_nil ?_
          rintro _ ⟨y, rfl⟩
          have bY := hb.trans (y.ok.mono hb.size)
          go_wp2
          go_ret
          exact ⟨false, rfl, by simp [HN.out], bY⟩
      · have hge : ¬ (k : Int) < (xs.length : Int) := by omega
        have HN : Hid (xs = ys) := Lib.hid (by
          have := HT.out
          rw [List.take_of_length_le (by omega), List.take_of_length_le (by omega)] at this
          exact this)
        clear hl hk hlt
        go_wp2
        go_ret
        exact ⟨true, rfl, by simp [HN.out], hb⟩
  · have hle : ((xs.length : Int) == (ys.length : Int)) = false := by simp; omega
    have HN : Hid (xs ≠ ys) := Lib.hid (fun e => hl (by rw [e]))
    clear hl hc1 hc2 hm1 hm2 HEL1 HEL2
    generalize xs.length = n1 at hle ⊢
    generalize ys.length = n2 at hle ⊢
    go_enter Try.func11, Try.ntmps11
    go_wp2
    go_ret
    exact ⟨false, rfl, by simp [HN.out], Below.refl _ _⟩

theorem merge_no {P Q : List Edit} {w : World} {vp vq : Value} (h : Calls Try.prog 9 #[vp, vq] w (MergePost P Q w)) (hn : ¬ (confL P Q = [] ∧ P.length + (restL P Q).length ≤ 16)) :
    Calls Try.prog 9 #[vp, vq] w (RetB (.tuple #[.slice none 0 0, .bool false]) w) :=
  h.mono fun e w' ⟨v, hc, hb⟩ => by
    rcases hc with ⟨h1, h2, _⟩ | ⟨_, he, hv⟩
    · exact absurd ⟨h1, h2⟩ hn
    · subst hv
      exact ⟨he, hb⟩
theorem merge_yes {P Q : List Edit} {w : World} {vp vq : Value} (h : Calls Try.prog 9 #[vp, vq] w (MergePost P Q w)) (hy : confL P Q = [] ∧ P.length + (restL P Q).length ≤ 16) :
    Calls Try.prog 9 #[vp, vq] w fun e w' => ∃ v R, Merged P Q R ∧ e = .returned (.tuple #[v, .bool true]) ∧ OwnL editCells R w.heap.size w' v ∧ Below w.heap.size w w' :=
  h.mono fun e w' ⟨v, hc, hb⟩ => by
    rcases hc with ⟨_, _, R, hM, he, hO⟩ | ⟨hn, _, _⟩
    · exact ⟨v, R, hM, he, hO, hb⟩
    · exact absurd hy hn
theorem rebase_yes {P Q : List Edit} {w : World} {vp vq : Value} (h : Calls Try.prog 10 #[vp, vq] w fun e w' => ∃ v, e = .returned (.tuple #[v, .bool (rebO P Q).isSome]) ∧ OwnL editCells ((rebO P Q).getD []) w.heap.size w' v ∧ Below w.heap.size w w') (hc : confL P Q = []) :
    Calls Try.prog 10 #[vp, vq] w fun e w' => ∃ v, e = .returned (.tuple #[v, .bool true]) ∧ OwnL editCells (restL P Q) w.heap.size w' v ∧ Below w.heap.size w w' := by
  have e : rebO P Q = some (restL P Q) := if_pos hc
  rw [e] at h
  exact h
theorem rebase_no {P Q : List Edit} {w : World} {vp vq : Value} (h : Calls Try.prog 10 #[vp, vq] w fun e w' => ∃ v, e = .returned (.tuple #[v, .bool (rebO P Q).isSome]) ∧ OwnL editCells ((rebO P Q).getD []) w.heap.size w' v ∧ Below w.heap.size w w') (hc : confL P Q ≠ []) :
    Calls Try.prog 10 #[vp, vq] w fun e w' => ∃ v, e = .returned (.tuple #[v, .bool false]) ∧ OwnL editCells [] w.heap.size w' v ∧ Below w.heap.size w w' := by
  have e : rebO P Q = none := if_neg hc
  rw [e] at h
  exact h

set_option maxRecDepth 100000 in
set_option maxHeartbeats 8000000 in
theorem merged_any (A1 : Option Addr) (n1 c1 : Nat) (A2 : Option Addr) (n2 c2 : Nat) (w : World) (hA1 : BytesAt w w.heap.size A1 n1) :
    Calls Try.prog 3 #[.slice A1 n1 c1, .slice A2 n2 c2] w (RetB (.bool true) w) := by
  by_cases hl : n1 ≤ 1048576 ∧ n2 ≤ 1048576
  · have HL := Lib.hid (long_no A1 n1 c1 A2 n2 c2 w hl.1 hl.2)
    have HS := Lib.hid (fun m => statute_any A1 n1 c1 (w.drewN m) hA1)
    clear hl hA1
    go_enter Try.func3, Try.ntmps3
    go_wp2_with (fail)
    refine (HL.out).mono ?_
    rintro e w1 ⟨rfl, m1, rfl⟩
    go_wp2_with (fail)
    refine (HS.out m1).mono ?_
    rintro e w2 ⟨v1, v2, v3, S, P, Q, rfl, hS, hP, hQ, hok, hFP, hFQ, hb⟩
    have HB2 : Hid (Below w.heap.size w w2) := Lib.hid ((below_drewN (Below.refl w.heap.size w) m1).trans hb)
    have HS2 := Lib.hid hS
    have HP2 := Lib.hid hP
    have HQ2 := Lib.hid hQ
    have HOK := Lib.hid hok
    have HFP := Lib.hid hFP
    have HFQ := Lib.hid hFQ
    obtain ⟨T1, t1, rfl, _⟩ := hS
    obtain ⟨T2, t2, rfl, _⟩ := hP
    obtain ⟨T3, t3, rfl, _⟩ := hQ
    have HPR := Lib.hid ((okPatch_iff P).1 hFP.ok).2.1
    have HQR := Lib.hid ((okPatch_iff Q).1 hFQ.ok).2.1
    have HCM := Lib.hid (confL_comm HPR.out HQR.out)
    have HEP : Hid (∀ W, Below w2.heap.size w2 W → Edits W W.heap.size (.slice T2 P.length t2) P) := Lib.hid (fun W h => (HP2.out.on h).slR (size := 4) (fun _ => rfl))
    have HEQ : Hid (∀ W, Below w2.heap.size w2 W → Edits W W.heap.size (.slice T3 Q.length t3) Q) := Lib.hid (fun W h => (HQ2.out.on h).slR (size := 4) (fun _ => rfl))
    have HES : Hid (∀ W, Below w2.heap.size w2 W → Arts W W.heap.size (.slice T1 S.length t1) S) := Lib.hid (fun W h => (HS2.out.on h).slR (size := 2) (fun _ => rfl))
    have H2 : Hid (Below w2.heap.size w2 w2) := Lib.hid (Below.refl _ _)
    clear hok hFP hFQ hb
    go_wp2_with (fail)
    refine (conflictsOf_any P Q w2 _ _ (HEP.out w2 H2.out) (HEQ.out w2 H2.out) HFP.out.ok HFQ.out.ok).mono ?_
    rintro e w3 ⟨v, rfl, hO, hb⟩
    have H3 := Lib.hid (H2.out.trans (hb.mono H2.out.size))
    have O3 := Lib.hid hO
    obtain ⟨A3, c3, rfl, _⟩ := hO
    clear hb
    go_wp2_with (fail)
    refine (conflictsOf_any Q P w3 _ _ (HEQ.out w3 H3.out) (HEP.out w3 H3.out) HFQ.out.ok HFP.out.ok).mono ?_
    rintro e w4 ⟨v, rfl, hO, hb⟩
    have H4 := Lib.hid (H3.out.trans (hb.mono H3.out.size))
    replace O3 := Lib.hid (O3.out.on hb)
    have O4 := Lib.hid hO
    obtain ⟨A4, c4, rfl, _⟩ := hO
    clear hb
    by_cases hcf : confL P Q = []
    · have hcf' : confL Q P = [] := by rw [← HCM.out]; exact hcf
      have hl3 : (((confL P Q).length : Int) == 0) = true := by rw [hcf]; rfl
      have HCF := Lib.hid hcf
      have HCF' := Lib.hid hcf'
      clear hcf hcf'
      by_cases h16 : P.length + (restL P Q).length ≤ 16
      · have h16' : Q.length + (restL Q P).length ≤ 16 := by rw [← rest_len HPR.out HQR.out]; exact h16
        have H16 := Lib.hid h16
        have H16' := Lib.hid h16'
        clear h16 h16'
        go_wp2_with (fail)
        refine (merge_yes (merge_any P Q w4 _ _ (HEP.out w4 H4.out) (HEQ.out w4 H4.out) HFP.out.ok HFQ.out.ok) ⟨HCF.out, H16.out⟩).mono ?_
        rintro e w5 ⟨v, R5, hM, rfl, hO, hb⟩
        have H5 := Lib.hid (H4.out.trans (hb.mono H4.out.size))
        replace O3 := Lib.hid (O3.out.on hb)
        replace O4 := Lib.hid (O4.out.on hb)
        have O5 := Lib.hid hO
        obtain ⟨A5, c5, rfl, _⟩ := hO
        have HM5 := Lib.hid hM
        clear hM
        clear hb
        go_wp2_with (fail)
        refine (merge_yes (merge_any Q P w5 _ _ (HEQ.out w5 H5.out) (HEP.out w5 H5.out) HFQ.out.ok HFP.out.ok) ⟨HCF'.out, H16'.out⟩).mono ?_
        rintro e w6 ⟨v, R6, hM, rfl, hO, hb⟩
        have H6 := Lib.hid (H5.out.trans (hb.mono H5.out.size))
        replace O3 := Lib.hid (O3.out.on hb)
        replace O4 := Lib.hid (O4.out.on hb)
        replace O5 := Lib.hid (O5.out.on hb)
        have O6 := Lib.hid hO
        obtain ⟨A6, c6, rfl, _⟩ := hO
        have HM6 := Lib.hid hM
        clear hM
        clear hb
        obtain rfl : R5 = R6 := HM5.out.uniq (HM6.out.symm HQR.out HPR.out)
        go_wp2_with (fail)
        refine (rebase_yes (rebase_any P Q w6 _ _ (HEP.out w6 H6.out) (HEQ.out w6 H6.out) HFP.out.ok HFQ.out.ok) HCF.out).mono ?_
        rintro e w7 ⟨v, rfl, hO, hb⟩
        have H7 := Lib.hid (H6.out.trans (hb.mono H6.out.size))
        replace O3 := Lib.hid (O3.out.on hb)
        replace O4 := Lib.hid (O4.out.on hb)
        replace O5 := Lib.hid (O5.out.on hb)
        replace O6 := Lib.hid (O6.out.on hb)
        have O7 := Lib.hid hO
        obtain ⟨A7, c7, rfl, _⟩ := hO
        clear hb
        go_wp2_with (fail)
        refine (rebase_yes (rebase_any Q P w7 _ _ (HEQ.out w7 H7.out) (HEP.out w7 H7.out) HFQ.out.ok HFP.out.ok) HCF'.out).mono ?_
        rintro e w8 ⟨v, rfl, hO, hb⟩
        have H8 := Lib.hid (H7.out.trans (hb.mono H7.out.size))
        replace O3 := Lib.hid (O3.out.on hb)
        replace O4 := Lib.hid (O4.out.on hb)
        replace O5 := Lib.hid (O5.out.on hb)
        replace O6 := Lib.hid (O6.out.on hb)
        replace O7 := Lib.hid (O7.out.on hb)
        have O8 := Lib.hid hO
        obtain ⟨A8, c8, rfl, _⟩ := hO
        clear hb
        go_wp2_with (fail)
        refine (sameNums_any _ _ w8 _ _ (O3.out.slR (size := 1) (fun _ => rfl)) (O4.out.slR (size := 1) (fun _ => rfl))).mono ?_
        rintro e w9 ⟨r, rfl, hr, hb⟩
        have H9 := Lib.hid (H8.out.trans (hb.mono H8.out.size))
        replace O3 := Lib.hid (O3.out.on hb)
        replace O4 := Lib.hid (O4.out.on hb)
        replace O5 := Lib.hid (O5.out.on hb)
        replace O6 := Lib.hid (O6.out.on hb)
        replace O7 := Lib.hid (O7.out.on hb)
        replace O8 := Lib.hid (O8.out.on hb)
        obtain rfl := hr.2 HCM.out
        clear hr
        clear hb
        go_wp2_with (fail)
        refine (sameEdits_any R5 R5 w9 _ _ (O5.out.slR (size := 4) (fun _ => rfl)) (O6.out.slR (size := 4) (fun _ => rfl))).mono ?_
        rintro e w10 ⟨r, rfl, hr, hb⟩
        have H10 := Lib.hid (H9.out.trans (hb.mono H9.out.size))
        replace O3 := Lib.hid (O3.out.on hb)
        replace O4 := Lib.hid (O4.out.on hb)
        replace O5 := Lib.hid (O5.out.on hb)
        replace O6 := Lib.hid (O6.out.on hb)
        replace O7 := Lib.hid (O7.out.on hb)
        replace O8 := Lib.hid (O8.out.on hb)
        obtain rfl := hr.2 rfl
        clear hr
        clear hb
        have HM := Lib.hid (HM5.out.ok HFP.out.ok HFQ.out.ok H16.out)
        have HX := Lib.hid (merged_apply HOK.out HFP.out HFQ.out HCF.out HM5.out H16.out)
        have HY := Lib.hid (merged_apply HOK.out HFQ.out HFP.out HCF'.out (HM5.out.symm HPR.out HQR.out) H16'.out)
        have HAP := Lib.hid (HFP.out.apply HOK.out)
        have HAQ := Lib.hid (HFQ.out.apply HOK.out)
        have HA1 := Lib.hid (applyPatch_any S P w10 _ _ (HES.out w10 H10.out) (HEP.out w10 H10.out) HOK.out HFP.out.ok)
        rw [HAP.out] at HA1
        simp only [Option.isSome_some, Option.getD_some] at HA1
        go_wp2_with (fail)
        refine (HA1.out).mono ?_
        rintro e w11 ⟨v, rfl, hO, hb⟩
        have H11 := Lib.hid (H10.out.trans (hb.mono H10.out.size))
        replace O3 := Lib.hid (O3.out.on hb)
        replace O4 := Lib.hid (O4.out.on hb)
        replace O5 := Lib.hid (O5.out.on hb)
        replace O6 := Lib.hid (O6.out.on hb)
        replace O7 := Lib.hid (O7.out.on hb)
        replace O8 := Lib.hid (O8.out.on hb)
        have O11 := Lib.hid hO
        obtain ⟨A11, c11, rfl, _⟩ := hO
        clear hb
        have HA2 := Lib.hid (applyPatch_any S Q w11 _ _ (HES.out w11 H11.out) (HEQ.out w11 H11.out) HOK.out HFQ.out.ok)
        rw [HAQ.out] at HA2
        simp only [Option.isSome_some, Option.getD_some] at HA2
        go_wp2_with (fail)
        refine (HA2.out).mono ?_
        rintro e w12 ⟨v, rfl, hO, hb⟩
        have H12 := Lib.hid (H11.out.trans (hb.mono H11.out.size))
        replace O3 := Lib.hid (O3.out.on hb)
        replace O4 := Lib.hid (O4.out.on hb)
        replace O5 := Lib.hid (O5.out.on hb)
        replace O6 := Lib.hid (O6.out.on hb)
        replace O7 := Lib.hid (O7.out.on hb)
        replace O8 := Lib.hid (O8.out.on hb)
        replace O11 := Lib.hid (O11.out.on hb)
        have O12 := Lib.hid hO
        obtain ⟨A12, c12, rfl, _⟩ := hO
        clear hb
        go_wp2_with (fail)
        refine (applyPatch_any S R5 w12 _ _ (HES.out w12 H12.out) (O5.out.slR (size := 4) (fun _ => rfl)) HOK.out HM.out).mono ?_
        rintro e w13 ⟨v, rfl, hO, hb⟩
        have H13 := Lib.hid (H12.out.trans (hb.mono H12.out.size))
        replace O3 := Lib.hid (O3.out.on hb)
        replace O4 := Lib.hid (O4.out.on hb)
        replace O5 := Lib.hid (O5.out.on hb)
        replace O6 := Lib.hid (O6.out.on hb)
        replace O7 := Lib.hid (O7.out.on hb)
        replace O8 := Lib.hid (O8.out.on hb)
        replace O11 := Lib.hid (O11.out.on hb)
        replace O12 := Lib.hid (O12.out.on hb)
        have O13 := Lib.hid hO
        obtain ⟨A13, c13, rfl, _⟩ := hO
        clear hb
        have HA4 := Lib.hid (applyPatch_any (applyL S P) (restL P Q) w13 _ _ (O11.out.slR (size := 2) (fun _ => rfl)) (O7.out.slR (size := 4) (fun _ => rfl)) HX.out.1 HX.out.2.1)
        rw [HX.out.2.2] at HA4
        go_wp2_with (fail)
        refine (HA4.out).mono ?_
        rintro e w14 ⟨v, rfl, hO, hb⟩
        have H14 := Lib.hid (H13.out.trans (hb.mono H13.out.size))
        replace O3 := Lib.hid (O3.out.on hb)
        replace O4 := Lib.hid (O4.out.on hb)
        replace O5 := Lib.hid (O5.out.on hb)
        replace O6 := Lib.hid (O6.out.on hb)
        replace O7 := Lib.hid (O7.out.on hb)
        replace O8 := Lib.hid (O8.out.on hb)
        replace O11 := Lib.hid (O11.out.on hb)
        replace O12 := Lib.hid (O12.out.on hb)
        replace O13 := Lib.hid (O13.out.on hb)
        have O14 := Lib.hid hO
        obtain ⟨A14, c14, rfl, _⟩ := hO
        clear hb
        have HA5 := Lib.hid (applyPatch_any (applyL S Q) (restL Q P) w14 _ _ (O12.out.slR (size := 2) (fun _ => rfl)) (O8.out.slR (size := 4) (fun _ => rfl)) HY.out.1 HY.out.2.1)
        rw [HY.out.2.2] at HA5
        go_wp2_with (fail)
        refine (HA5.out).mono ?_
        rintro e w15 ⟨v, rfl, hO, hb⟩
        have H15 := Lib.hid (H14.out.trans (hb.mono H14.out.size))
        replace O3 := Lib.hid (O3.out.on hb)
        replace O4 := Lib.hid (O4.out.on hb)
        replace O5 := Lib.hid (O5.out.on hb)
        replace O6 := Lib.hid (O6.out.on hb)
        replace O7 := Lib.hid (O7.out.on hb)
        replace O8 := Lib.hid (O8.out.on hb)
        replace O11 := Lib.hid (O11.out.on hb)
        replace O12 := Lib.hid (O12.out.on hb)
        replace O13 := Lib.hid (O13.out.on hb)
        replace O14 := Lib.hid (O14.out.on hb)
        have O15 := Lib.hid hO
        obtain ⟨A15, c15, rfl, _⟩ := hO
        clear hb
        have hbb : ((applyO S R5).isSome == (applyO S R5).isSome) = true := by simp
        go_wp2_with (fail)
        refine (sameArts_any ((applyO S R5).getD []) ((applyO S R5).getD []) w15 _ _ (O13.out.slR (size := 2) (fun _ => rfl)) (O14.out.slR (size := 2) (fun _ => rfl))).mono ?_
        rintro e w16 ⟨r, rfl, hr, hb⟩
        have H16 := Lib.hid (H15.out.trans (hb.mono H15.out.size))
        replace O3 := Lib.hid (O3.out.on hb)
        replace O4 := Lib.hid (O4.out.on hb)
        replace O5 := Lib.hid (O5.out.on hb)
        replace O6 := Lib.hid (O6.out.on hb)
        replace O7 := Lib.hid (O7.out.on hb)
        replace O8 := Lib.hid (O8.out.on hb)
        replace O11 := Lib.hid (O11.out.on hb)
        replace O12 := Lib.hid (O12.out.on hb)
        replace O13 := Lib.hid (O13.out.on hb)
        replace O14 := Lib.hid (O14.out.on hb)
        replace O15 := Lib.hid (O15.out.on hb)
        obtain rfl := hr.2 rfl
        clear hr
        clear hb
        go_wp2_with (fail)
        refine (sameArts_any ((applyO S R5).getD []) ((applyO S R5).getD []) w16 _ _ (O13.out.slR (size := 2) (fun _ => rfl)) (O15.out.slR (size := 2) (fun _ => rfl))).mono ?_
        rintro e w17 ⟨r, rfl, hr, hb⟩
        have H17 := Lib.hid (H16.out.trans (hb.mono H16.out.size))
        replace O3 := Lib.hid (O3.out.on hb)
        replace O4 := Lib.hid (O4.out.on hb)
        replace O5 := Lib.hid (O5.out.on hb)
        replace O6 := Lib.hid (O6.out.on hb)
        replace O7 := Lib.hid (O7.out.on hb)
        replace O8 := Lib.hid (O8.out.on hb)
        replace O11 := Lib.hid (O11.out.on hb)
        replace O12 := Lib.hid (O12.out.on hb)
        replace O13 := Lib.hid (O13.out.on hb)
        replace O14 := Lib.hid (O14.out.on hb)
        replace O15 := Lib.hid (O15.out.on hb)
        obtain rfl := hr.2 rfl
        clear hr
        clear hb
        go_wp2
        go_ret
        exact ⟨rfl, HB2.out.trans (H17.out.mono HB2.out.size)⟩
      · have H16 := Lib.hid h16
        have H16' : Hid (¬ Q.length + (restL Q P).length ≤ 16) := Lib.hid (by rw [← rest_len HPR.out HQR.out]; exact h16)
        clear h16
        go_wp2_with (fail)
        refine (merge_no (merge_any P Q w4 _ _ (HEP.out w4 H4.out) (HEQ.out w4 H4.out) HFP.out.ok HFQ.out.ok) (fun h => H16.out h.2)).mono ?_
        rintro e w5 ⟨rfl, hb⟩
        have H5 := Lib.hid (H4.out.trans (hb.mono H4.out.size))
        replace O3 := Lib.hid (O3.out.on hb)
        replace O4 := Lib.hid (O4.out.on hb)
        clear hb
        go_wp2_with (fail)
        refine (merge_no (merge_any Q P w5 _ _ (HEQ.out w5 H5.out) (HEP.out w5 H5.out) HFQ.out.ok HFP.out.ok) (fun h => H16'.out h.2)).mono ?_
        rintro e w6 ⟨rfl, hb⟩
        have H6 := Lib.hid (H5.out.trans (hb.mono H5.out.size))
        replace O3 := Lib.hid (O3.out.on hb)
        replace O4 := Lib.hid (O4.out.on hb)
        clear hb
        go_wp2_with (fail)
        refine (rebase_yes (rebase_any P Q w6 _ _ (HEP.out w6 H6.out) (HEQ.out w6 H6.out) HFP.out.ok HFQ.out.ok) HCF.out).mono ?_
        rintro e w7 ⟨v, rfl, hO, hb⟩
        have H7 := Lib.hid (H6.out.trans (hb.mono H6.out.size))
        replace O3 := Lib.hid (O3.out.on hb)
        replace O4 := Lib.hid (O4.out.on hb)
        have O7 := Lib.hid hO
        obtain ⟨A7, c7, rfl, _⟩ := hO
        clear hb
        go_wp2_with (fail)
        refine (rebase_yes (rebase_any Q P w7 _ _ (HEQ.out w7 H7.out) (HEP.out w7 H7.out) HFQ.out.ok HFP.out.ok) HCF'.out).mono ?_
        rintro e w8 ⟨v, rfl, hO, hb⟩
        have H8 := Lib.hid (H7.out.trans (hb.mono H7.out.size))
        replace O3 := Lib.hid (O3.out.on hb)
        replace O4 := Lib.hid (O4.out.on hb)
        replace O7 := Lib.hid (O7.out.on hb)
        have O8 := Lib.hid hO
        obtain ⟨A8, c8, rfl, _⟩ := hO
        clear hb
        go_wp2_with (fail)
        refine (sameNums_any _ _ w8 _ _ (O3.out.slR (size := 1) (fun _ => rfl)) (O4.out.slR (size := 1) (fun _ => rfl))).mono ?_
        rintro e w9 ⟨r, rfl, hr, hb⟩
        have H9 := Lib.hid (H8.out.trans (hb.mono H8.out.size))
        replace O3 := Lib.hid (O3.out.on hb)
        replace O4 := Lib.hid (O4.out.on hb)
        replace O7 := Lib.hid (O7.out.on hb)
        replace O8 := Lib.hid (O8.out.on hb)
        obtain rfl := hr.2 HCM.out
        clear hr
        clear hb
        go_wp2
        go_ret
        exact ⟨rfl, HB2.out.trans (H9.out.mono HB2.out.size)⟩
    · have hcf' : confL Q P ≠ [] := by rw [← HCM.out]; exact hcf
      have hl3 : (((confL P Q).length : Int) == 0) = false := by have := List.length_pos_iff.2 hcf; rw [beq_eq_false_iff_ne]; omega
      have HCF := Lib.hid hcf
      have HCF' := Lib.hid hcf'
      clear hcf hcf'
      go_wp2_with (fail)
      refine (merge_no (merge_any P Q w4 _ _ (HEP.out w4 H4.out) (HEQ.out w4 H4.out) HFP.out.ok HFQ.out.ok) (fun h => HCF.out h.1)).mono ?_
      rintro e w5 ⟨rfl, hb⟩
      have H5 := Lib.hid (H4.out.trans (hb.mono H4.out.size))
      replace O3 := Lib.hid (O3.out.on hb)
      replace O4 := Lib.hid (O4.out.on hb)
      clear hb
      go_wp2_with (fail)
      refine (merge_no (merge_any Q P w5 _ _ (HEQ.out w5 H5.out) (HEP.out w5 H5.out) HFQ.out.ok HFP.out.ok) (fun h => HCF'.out h.1)).mono ?_
      rintro e w6 ⟨rfl, hb⟩
      have H6 := Lib.hid (H5.out.trans (hb.mono H5.out.size))
      replace O3 := Lib.hid (O3.out.on hb)
      replace O4 := Lib.hid (O4.out.on hb)
      clear hb
      go_wp2_with (fail)
      refine (rebase_no (rebase_any P Q w6 _ _ (HEP.out w6 H6.out) (HEQ.out w6 H6.out) HFP.out.ok HFQ.out.ok) HCF.out).mono ?_
      rintro e w7 ⟨v, rfl, hO, hb⟩
      have H7 := Lib.hid (H6.out.trans (hb.mono H6.out.size))
      replace O3 := Lib.hid (O3.out.on hb)
      replace O4 := Lib.hid (O4.out.on hb)
      have O7 := Lib.hid hO
      obtain ⟨A7, c7, rfl, _⟩ := hO
      clear hb
      go_wp2_with (fail)
      refine (rebase_no (rebase_any Q P w7 _ _ (HEQ.out w7 H7.out) (HEP.out w7 H7.out) HFQ.out.ok HFP.out.ok) HCF'.out).mono ?_
      rintro e w8 ⟨v, rfl, hO, hb⟩
      have H8 := Lib.hid (H7.out.trans (hb.mono H7.out.size))
      replace O3 := Lib.hid (O3.out.on hb)
      replace O4 := Lib.hid (O4.out.on hb)
      replace O7 := Lib.hid (O7.out.on hb)
      have O8 := Lib.hid hO
      obtain ⟨A8, c8, rfl, _⟩ := hO
      clear hb
      go_wp2_with (fail)
      refine (sameNums_any _ _ w8 _ _ (O3.out.slR (size := 1) (fun _ => rfl)) (O4.out.slR (size := 1) (fun _ => rfl))).mono ?_
      rintro e w9 ⟨r, rfl, hr, hb⟩
      have H9 := Lib.hid (H8.out.trans (hb.mono H8.out.size))
      replace O3 := Lib.hid (O3.out.on hb)
      replace O4 := Lib.hid (O4.out.on hb)
      replace O7 := Lib.hid (O7.out.on hb)
      replace O8 := Lib.hid (O8.out.on hb)
      obtain rfl := hr.2 HCM.out
      clear hr
      clear hb
      go_wp2
      go_ret
      exact ⟨rfl, HB2.out.trans (H9.out.mono HB2.out.size)⟩
  · have HL := Lib.hid (long_yes A1 n1 c1 A2 n2 c2 w hl)
    clear hl
    go_enter Try.func3, Try.ntmps3
    go_wp2_with (fail)
    refine (HL.out).mono ?_
    rintro e w1 ⟨rfl, m1, rfl⟩
    go_wp2
    go_ret
    exact ⟨rfl, below_drewN (Below.refl w.heap.size w) m1⟩
end Go.Proofs.Ytmgdodgofpapgaa
