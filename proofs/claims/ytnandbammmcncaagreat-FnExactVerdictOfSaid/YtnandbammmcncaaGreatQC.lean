/- Draws: what only turns the source; sentences drawn; texts and edits found. Edits found and made, walked: the reference's. slices.IndexFunc at articles, walked; articles found. slices.IndexFunc at edits, walked; edits found: the program's. slices.Delete at articles, walked: one element goes. slices.Insert at articles, walked: one element comes. A patch applied, walked: the program's. A patch applied, walked: the program's, whole. What the laws compare: articles and edits, walked; and what is too long. A statute drawn, walked: the reference's. A patch drawn for a statute, walked: the reference's. Conflicts, and a patch applied to a statute: the program's, walked; numbers compared. Edits contained, and edits deleted by a test: the library's, walked. slices.DeleteFunc at edits, walked. Empty: this seat needs no shelf here. Empty: this seat does not need it. Patches rebased and merged: the program's, walked; numbers compared. Acts: validity, days in force, statutes of days, ls plain functions; acts in memory. Acts: days in force, the program's; validity, the reference's. Acts: validity, the reference's. Acts: validity, the program's, of valid acts; a base and acts, the reference's. A statute, the reference's test; a base and acts, its test; the statute of a day, the program's. -/
import Derived.Test.YtnandbammmcncaaGreatQB
import Derived.Shelf.Abstract
import Derived.Lib.AppendZerosOnto
import Derived.Lib.Overlaps
import Derived.Laws.Externs
import Derived.Laws.NewBlocks
import Derived.Laws.StructEq
import Derived.Test.YtnandbammmcncaaGreatProg
import Derived.OwnWalk
namespace Go.Proofs.YtnandbammmcncaaGreat
open Go.RowKit Go.Lib

theorem own_only {w w' : World} {base b n size : Nat} {e : TypeId} {v : Value} {xs : List Value} (h : w.ownsRow base e size v n xs) (hb : b < base) (ho : Only b w w') : w'.ownsRow base e size v n xs :=
  h.kept ho (by
    rcases hv : v.ownBlock with _ | g
    · exact .inl rfl
    · right
      intro e
      injection e with e
      have := (h.lt g hv).1
      omega)
theorem Row.only {w w' : World} {g b : Nat} {L : List Value} (h : Row w g L) (hg : g < w.heap.size) (hne : g ≠ b) (ho : Only b w w') : Row w' g L where
  cell := fun j u hj => (only_cells ho g j hg hne).1.trans (h.cell j u hj)
  free := fun j hj => (only_cells ho g j hg hne).2.trans (h.free j hj)
theorem OwnL.only {α : Type} {f : α → List Value} {xs : List α} {base b : Nat} {w w' : World} {v : Value} (h : OwnL f xs base w v) (hb : b < base) (ho : Only b w w') : OwnL f xs base w' v := by
  obtain ⟨A, c, rfl, h1, h2, h3⟩ := h
  refine ⟨A, c, rfl, h1, h2, fun h0 => ?_⟩
  obtain ⟨g, e, hg, hlt, hr⟩ := h3 h0
  exact ⟨g, e, hg, Nat.lt_of_lt_of_le hlt ho.size, hr.only hlt (by omega) ho⟩
theorem SlR.only {α : Type} {f : α → List Value} {size B b : Nat} {w w' : World} {v : Value} {xs : List α} (h : SlR (Pl f) size w B v xs) (hb : B ≤ w.heap.size) (hs : B ≤ b) (ho : Only b w w') : SlR (Pl f) size w' B v xs := by
  obtain ⟨A, c, rfl, h1, h2, h3⟩ := h
  refine ⟨A, c, rfl, h1, h2, fun h0 => ?_⟩
  obtain ⟨g, off, e, hlt, hc⟩ := h3 h0
  refine ⟨g, off, e, hlt, fun k x hx => ?_⟩
  obtain ⟨us, hl, hp, hcell⟩ := hc k x hx
  exact ⟨us, hl, hp, fun j u hj => (only_cells ho g _ (by omega) (by omega)).1.trans (hcell j u hj)⟩

set_option maxHeartbeats 1000000 in
theorem find1_any (es : List Art) (q : Int) (w : World) (v : Value) (h : Arts w w.heap.size v es) :
    Calls Tryz.prog 188 #[v, .int .i64 q] w (RetQ (.string (findA es q)) w) := by
  obtain ⟨A, c, rfl, hc, hm, hel⟩ := h
  unfold maxLen at hm
  have hlm : es.length ≤ 9223372036854775807 := by omega
  have HEL := Lib.hid hel
  clear hel
  go_enter Tryz.func188, Tryz.ntmps188
  go_wp2
  go_loop [5] (fun i => ∃ k : Nat, k ≤ es.length ∧ i = .int .i64 (k : Int) ∧ findA es q = findA (es.drop k) q) (fun i => es.length - (RowKit.intOf i).toNat)
  case atStart => exact ⟨0, Nat.zero_le _, rfl, rfl⟩
  case round =>
    obtain ⟨k, hk, rfl, hf⟩ := hrel
    have HF := Lib.hid hf
    clear hf
    by_cases hlt : k < es.length
    · obtain ⟨b, off, rfl, hblt, hcell⟩ := HEL.out (by omega)
      have hget : es[k]? = some es[k] := List.getElem?_eq_getElem hlt
      obtain ⟨x0, x1⟩ := arts_at hcell hget
      have HG := Lib.hid hget
      clear hget hcell
      generalize es[k] = e at *
      by_cases hq : e.id = q
      · have HR := Lib.hid (findA_hit HG.out hq HF.out)
        have hb : (e.id == q) = true := by simp [hq]
        clear hq
        go_wp2
        go_ret
        exact ⟨by rw [HR.out]; rfl, 0, rfl⟩
      · have HR := Lib.hid (findA_drop HG.out hq HF.out)
        have hb : (e.id == q) = false := by simp [hq]
        clear hq
        go_wp2
        go_round
        case rel => exact ⟨k + 1, by omega, by go_num, HR.out⟩
        case measure => simp [RowKit.intOf]; omega
    · have HR := Lib.hid (findA_end (by omega : es.length ≤ k) HF.out)
      have hge : ¬ (k : Int) < (es.length : Int) := by omega
      go_wp2
      go_ret
      exact ⟨by rw [HR.out]; rfl, 0, rfl⟩
end Go.Proofs.YtnandbammmcncaaGreat

namespace Go.Proofs.YtnandbammmcncaaGreat
open Go.RowKit Go.Lib

set_option maxHeartbeats 2000000 in
theorem editOf1_any (es : List Edit) (q : Int) (w : World) (v : Value) (h : Edits w w.heap.size v es) :
    Calls Tryz.prog 189 #[v, .int .i64 q] w (RetB (editV (editOf es q)) w) := by
  obtain ⟨A, c, rfl, hc, hm, hel⟩ := h
  unfold maxLen at hm
  have hlm : es.length ≤ 9223372036854775807 := by omega
  have HEL := Lib.hid hel
  have HB : Hid (Below w.heap.size w (w.alloc (.cells #[.int .i64 0, .int .i64 0, .string ⟨#[]⟩, .string ⟨#[]⟩] 162))) := Lib.hid ((Below.refl w.heap.size w).alloc (Nat.le_refl _) _)
  clear hel
  go_enter Tryz.func189, Tryz.ntmps189
  go_wp2
  go_loop [5] (fun i => ∃ k : Nat, k ≤ es.length ∧ i = .int .i64 (k : Int) ∧ editOf es q = editOf (es.drop k) q) (fun i => es.length - (RowKit.intOf i).toNat)
  case atStart => exact ⟨0, Nat.zero_le _, rfl, rfl⟩
  case round =>
    obtain ⟨k, hk, rfl, hf⟩ := hrel
    have HF := Lib.hid hf
    clear hf
    by_cases hlt : k < es.length
    · obtain ⟨b, off, rfl, hblt, hcell⟩ := HEL.out (by omega)
      have hget : es[k]? = some es[k] := List.getElem?_eq_getElem hlt
      obtain ⟨c0, c1, c2, c3⟩ := edits_at hcell hget
      have x0 := (HB.out.cell (p := ⟨b, off + k * 4, none⟩) hblt).trans c0
      have x1 := (HB.out.cell (p := ⟨b, off + k * 4 + 1, none⟩) hblt).trans c1
      have x2 := (HB.out.cell (p := ⟨b, off + k * 4 + 2, none⟩) hblt).trans c2
      have x3 := (HB.out.cell (p := ⟨b, off + k * 4 + 3, none⟩) hblt).trans c3
      have HG := Lib.hid hget
      clear hget hcell c0 c1 c2 c3
      generalize es[k] = e at *
      by_cases hq : e.id = q
      · have HR := Lib.hid (editOf_hit HG.out hq HF.out)
        have hb : (e.id == q) = true := by simp [hq]
        clear hq
        go_wp2
        refine bodyPost_ret (v := .agg #[.int .i64 e.kind, .int .i64 e.id, .string e.old, .string e.new]) (by simp [results, Tryz.results189, go_sem]) rfl ⟨by rw [HR.out]; rfl, ?_⟩
        exact (Below.refl _ _).alloc (Nat.le_refl _) _
      · have HR := Lib.hid (editOf_drop HG.out hq HF.out)
        have hb : (e.id == q) = false := by simp [hq]
        clear hq
        go_wp2
        go_round
        case rel => exact ⟨k + 1, by omega, by go_num, HR.out⟩
        case measure => simp [RowKit.intOf]; omega
    · have HR := Lib.hid (editOf_end (by omega : es.length ≤ k) HF.out)
      have hge : ¬ (k : Int) < (es.length : Int) := by omega
      go_wp2
      refine bodyPost_ret (v := .agg #[.int .i64 0, .int .i64 0, .string ⟨#[]⟩, .string ⟨#[]⟩]) (by simp [results, Tryz.results189, go_sem]) rfl ⟨by rw [HR.out]; rfl, ?_⟩
      exact (Below.refl _ _).alloc (Nat.le_refl _) _

end Go.Proofs.YtnandbammmcncaaGreat

namespace Go.Proofs.YtnandbammmcncaaGreat
open Go.RowKit Go.Lib

/-- A test on articles: it turns nothing. -/
def PredA (g : Nat) (lb : Array Value) (p : Art → Bool) (w : World) : Prop :=
  ∀ (W : World) (x : Art), Below w.heap.size w W → Calls Tryz.prog g (#[.agg #[.int .i64 x.id, .string x.text]] ++ lb) W (RetB (.bool (p x)) W)
def idxA (p : Art → Bool) (L : List Art) : Int := match L.findIdx? p with | some k => (k : Int) | none => -1
theorem idxA_hit {p : Art → Bool} {L : List Art} {k : Nat} (hk : k < L.length) (h : p L[k] = true) (hn : ∀ j (hj : j < k), p (L[j]'(by omega)) = false) : idxA p L = k := by
  have : L.findIdx? p = some k := List.findIdx?_eq_some_iff_getElem.2 ⟨hk, h, fun j hj => by rw [hn j hj]; simp⟩
  unfold idxA
  rw [this]
theorem idxA_none {p : Art → Bool} {L : List Art} (hn : ∀ j (hj : j < L.length), p L[j] = false) : idxA p L = -1 := by
  have : L.findIdx? p = none := List.findIdx?_eq_none_iff.2 (fun x hx => by
    obtain ⟨j, hj, rfl⟩ := List.mem_iff_getElem.1 hx
    exact hn j hj)
  unfold idxA
  rw [this]

theorem idx_cases (p : Art → Bool) (L : List Art) : (∃ k, ∃ h : k < L.length, idxA p L = k ∧ p L[k] = true ∧ ∀ j (hj : j < k), p (L[j]'(by omega)) = false) ∨ (idxA p L = -1 ∧ ∀ a ∈ L, p a = false) := by
  rcases hf : L.findIdx? p with _ | k
  · refine .inr ⟨by unfold idxA; rw [hf], fun a ha => ?_⟩
    have := List.findIdx?_eq_none_iff.1 hf a ha
    simpa using this
  · obtain ⟨h1, h2, h3⟩ := List.findIdx?_eq_some_iff_getElem.1 hf
    exact .inl ⟨k, h1, by unfold idxA; rw [hf], h2, fun j hj => by simpa using h3 j hj⟩
theorem find_first : ∀ {L : List Art} {q : Int} {k : Nat} (h : k < L.length), L[k].id = q → (∀ j (hj : j < k), (L[j]'(by omega)).id ≠ q) → findA L q = L[k].text
  | a :: L, q, 0, _, hi, _ => by
    show findA (a :: L) q = a.text
    rw [findA, if_pos (show a.id = q from hi)]
  | a :: L, q, k + 1, h, hi, hn => by
    have h0 : a.id ≠ q := hn 0 (by omega)
    show findA (a :: L) q = _
    rw [findA, if_neg h0, find_first (k := k) (by simpa using h) hi (fun j hj => hn (j + 1) (by omega))]
    rfl

set_option maxHeartbeats 2000000 in
theorem indexA_any (L : List Art) (w : World) (v : Value) (h : Arts w w.heap.size v L) (g : Nat) (lb : Array Value) (p : Art → Bool) (hp : PredA g lb p w) (eg : ∀ args w, (callFunc g args).run Tryz.prog w = .ok (.enter g args) w) :
    Calls Tryz.prog 197 #[v, .func (.func g) #[] lb] w (RetB (.int .i64 (idxA p L)) w) := by
  obtain ⟨A, c, rfl, hc, hm, hel⟩ := h
  unfold maxLen at hm
  have hlm : L.length ≤ 9223372036854775807 := by omega
  have HEL := Lib.hid hel
  have HP := Lib.hid hp
  clear hel hp
  go_enter Tryz.func197, Tryz.ntmps197
  go_wp2
  go_loopw [5, 8] (fun _ i wr => ∃ k : Nat, k ≤ L.length ∧ i = .int .i64 (k : Int) ∧ (∀ j (hj : j < L.length), j < k → p L[j] = false) ∧ Below w.heap.size w wr) (fun _ i _ => L.length - (RowKit.intOf i).toNat)
  case atStart => exact ⟨0, Nat.zero_le _, rfl, fun j _ hj => absurd hj (Nat.not_lt_zero _), Below.refl _ _⟩
  case round =>
    obtain ⟨k, hk, rfl, hn, hb⟩ := hrel
    have HN := Lib.hid hn
    have HB := Lib.hid hb
    clear hn
    by_cases hlt : k < L.length
    · obtain ⟨b, off, rfl, hblt, hcell⟩ := HEL.out (by omega)
      have hget : L[k]? = some L[k] := List.getElem?_eq_getElem hlt
      obtain ⟨c0, c1⟩ := arts_at hcell hget
      have x0 := (hb.cell (p := ⟨b, off + k * 2, none⟩) hblt).trans c0
      have x1 := (hb.cell (p := ⟨b, off + k * 2 + 1, none⟩) hblt).trans c1
      have hcall := HP.out wr L[k] hb
      clear hget hcell c0 c1 hb
      cases hq : p L[k] with
      | true =>
        have HQ := Lib.hid (idxA_hit hlt hq (fun j hj => HN.out j (by omega) hj))
        rw [hq] at hcall
        have HC := Lib.hid hcall
        generalize L[k] = e at *
        clear hcall hq
        go_wp2_with (go_at_fn g; refine (HC.out).mono ?_; rintro e' w' ⟨rfl, hb'⟩)
        go_ret
        exact ⟨by rw [HQ.out]; rfl, HB.out.trans (hb'.mono HB.out.size)⟩
      | false =>
        have HNN : Hid (∀ j (hj : j < L.length), j < k + 1 → p L[j] = false) := Lib.hid (fun j hj hjk => by
          by_cases e : j = k
          · subst e; exact hq
          · exact HN.out j hj (by omega))
        rw [hq] at hcall
        have HC := Lib.hid hcall
        generalize L[k] = e at hcall x0 x1 hq HC
        clear hcall hq
        go_wp2_with (go_at_fn g; refine (HC.out).mono ?_; rintro e' w' ⟨rfl, hb'⟩)
        go_roundw
        case rel => exact ⟨k + 1, by omega, by go_num, HNN.out, HB.out.trans (hb'.mono HB.out.size)⟩
        case measure => simp [RowKit.intOf]; omega
    · have hge : ¬ (k : Int) < (L.length : Int) := by omega
      have HQ := Lib.hid (idxA_none (p := p) (L := L) (fun j hj => HN.out j hj (by omega)))
      go_wp2
      go_ret
      exact ⟨by rw [HQ.out]; rfl, HB.out⟩

set_option maxHeartbeats 400000 in
/-- The closure of 'article': it has captured a number. -/
theorem isId_pred (q : Int) (B : Nat) (w : World) (hB : B < w.heap.size) (hc : w.cell? ⟨B, 0, none⟩ = some (.int .i64 q)) : PredA 212 #[.pointer (some ⟨B, 0, none⟩)] (fun a => decide (a.id = q)) w := by
  intro W x hb
  have x0 := (hb.cell (p := ⟨B, 0, none⟩) hB).trans hc
  have hlt := World.block_lt_of_cell? W ⟨B, 0, none⟩ x0
  have y0 := (((Below.refl W.heap.size W).alloc (Nat.le_refl _) (.cells #[.int .i64 x.id, .string x.text] 141)).cell (p := ⟨B, 0, none⟩) hlt).trans x0
  obtain ⟨r, hr⟩ : ∃ r, decide (x.id = q) = r := ⟨_, rfl⟩
  have hr2 : (x.id == q) = r := by rw [← hr]; by_cases h : x.id = q <;> simp [h]
  show Calls Tryz.prog 212 #[.agg #[.int .i64 x.id, .string x.text], .pointer (some ⟨B, 0, none⟩)] W (RetB (.bool (decide (x.id = q))) W)
  rw [hr]
  clear hr x0 hb
  go_enter Tryz.func212, Tryz.ntmps212
  go_wp2
  go_ret
  exact ⟨rfl, (Below.refl W.heap.size W).alloc (Nat.le_refl _) _⟩

theorem isId_enters : ∀ args w, (callFunc 212 args).run Tryz.prog w = .ok (.enter 212 args) w := enters_of Tryz.func212 (by kernel_rfl) rfl

set_option maxHeartbeats 1000000 in
theorem article_any (L : List Art) (q : Int) (w : World) (v : Value) (h : Arts w w.heap.size v L) :
    Calls Tryz.prog 195 #[v, .int .i64 q] w (RetB (.int .i64 (idxA (fun a => decide (a.id = q)) L)) w) := by
  have hmf : ∀ (fn : Fn) (first cap : Array Value) (w : World), (Instr.makeFunc fn first cap).run Tryz.prog w = .ok (.func fn first cap) w := fun _ _ _ _ => rfl
  have bW := (Below.refl w.heap.size w).alloc (Nat.le_refl _) (.cells #[.int .i64 q] 2)
  have HI := Lib.hid (indexA_any L (w.alloc (.cells #[.int .i64 q] 2)) v (SlR.on h (Pl.stays _) bW bW.size) 212 #[.pointer (some ⟨w.heap.size, 0, none⟩)] (fun a => decide (a.id = q)) (isId_pred q w.heap.size _ (by simp) (by simp [go_sem])) isId_enters)
  have HB := Lib.hid bW
  obtain ⟨A, c, rfl, _⟩ := h
  generalize idxA (fun a => decide (a.id = q)) L = z at HI ⊢
  clear bW
  go_enter Tryz.func195, Tryz.ntmps195
  go_wp2_with (fail)
  refine (HI.out).mono ?_
  rintro e w1 ⟨rfl, hb1⟩
  have HB1 := Lib.hid (HB.out.trans (hb1.mono HB.out.size))
  clear hb1
  go_wp2
  go_ret
  exact ⟨rfl, HB1.out⟩

set_option maxHeartbeats 1000000 in
theorem textOf_any (L : List Art) (q : Int) (w : World) (v : Value) (h : Arts w w.heap.size v L) :
    Calls Tryz.prog 194 #[v, .int .i64 q] w (RetB (.string (findA L q)) w) := by
  have HA := Lib.hid (article_any L q w v h)
  obtain ⟨A, c, rfl, hc, hm, hel⟩ := h
  unfold maxLen at hm
  rcases idx_cases (fun a => decide (a.id = q)) L with ⟨k, hk, hz, hp, hn⟩ | ⟨hz, hn⟩
  · obtain ⟨b, off, rfl, hblt, hcell⟩ := hel (by omega)
    obtain ⟨c0, c1⟩ := arts_at hcell (List.getElem?_eq_getElem hk)
    have HF := Lib.hid (find_first hk (of_decide_eq_true hp) (fun j hj => of_decide_eq_false (hn j hj)))
    have HC1 := Lib.hid c1
    have hk0 : ¬ ((k : Int) < 0) := by omega
    have hk1 : (0 : Int) ≤ (k : Int) := by omega
    rw [hz] at HA
    generalize L[k] = e at *
    clear hz hp hn hcell c0 c1 hel
    go_enter Tryz.func194, Tryz.ntmps194
    go_wp2_with (fail)
    refine (HA.out).mono ?_
    rintro e' w1 ⟨rfl, hb1⟩
    have x1 := (hb1.cell (p := ⟨b, off + k * 2 + 1, none⟩) hblt).trans HC1.out
    have HB1 := Lib.hid hb1
    clear hb1
    go_wp2
    go_ret
    exact ⟨by rw [HF.out]; rfl, HB1.out⟩
  · have HF := Lib.hid (findA_none (s := L) (i := q) (fun a ha => of_decide_eq_false (hn a ha)))
    rw [hz] at HA
    clear hz hn hel
    go_enter Tryz.func194, Tryz.ntmps194
    go_wp2_with (fail)
    refine (HA.out).mono ?_
    rintro e' w1 ⟨rfl, hb1⟩
    have HB1 := Lib.hid hb1
    clear hb1
    go_wp2
    go_ret
    exact ⟨by rw [HF.out]; rfl, HB1.out⟩
end Go.Proofs.YtnandbammmcncaaGreat

namespace Go.Proofs.YtnandbammmcncaaGreat
open Go.RowKit Go.Lib

/-- A test on edits: it turns nothing. -/
def PredE (g : Nat) (lb : Array Value) (p : Edit → Bool) (w : World) : Prop :=
  ∀ (W : World) (x : Edit), Below w.heap.size w W → Calls Tryz.prog g (#[.agg #[.int .i64 x.kind, .int .i64 x.id, .string x.old, .string x.new]] ++ lb) W (RetB (.bool (p x)) W)
def idxE (p : Edit → Bool) (L : List Edit) : Int := match L.findIdx? p with | some k => (k : Int) | none => -1
/-- There is an edit with a number. -/
def hasE (L : List Edit) (q : Int) : Bool := L.any (fun a => decide (a.id = q))
end Go.Proofs.YtnandbammmcncaaGreat

namespace Go.Proofs.YtnandbammmcncaaGreat
open Go.RowKit Go.Lib

def DelPost {α : Type} (f : α → List Value) (e : TypeId) (size base g n cap : Nat) (R : List α) (w : World) (en : Ending) (w' : World) : Prop :=
  en = .returned (.slice (some ⟨g, 0, none⟩) n cap) ∧ w'.ownsRow base e size (.slice (some ⟨g, 0, none⟩) n cap) n (R.flatMap f) ∧ w.grownBy w' (some g)

set_option maxRecDepth 100000 in
set_option maxHeartbeats 4000000 in
theorem delA_any (L : List Art) (i base g n cap : Nat) (w : World) (hn : L.length = n) (hi : i < n) (hn63 : n ≤ 1000000) (hown : w.ownsRow base 141 2 (.slice (some ⟨g, 0, none⟩) n cap) n (L.flatMap artCells)) :
    Calls Tryz.prog 196 #[.slice (some ⟨g, 0, none⟩) n cap, .int .i64 i, .int .i64 ((i : Int) + 1)] w (DelPost artCells 141 2 base g (n - 1) cap (L.take i ++ L.drop (i + 1)) w) := by
  obtain ⟨T, hB, hC, hnc, hcm, hbg, hxl⟩ := blk_of_own hown
  unfold maxLen at hcm
  have hCl : (L.flatMap artCells ++ T).length = cap * 2 := hC
  -- the cells that move to the left
  obtain ⟨news, hnews⟩ : ∃ news, news = (L.drop (i + 1)).flatMap artCells := ⟨_, rfl⟩
  have hnl : news.length = (n - (i + 1)) * 2 := by rw [hnews, flat_len (k := 2) artCells (fun _ => rfl), List.length_drop, hn]
  have hget : ∀ t u, news[t]? = some u → (L.flatMap artCells ++ T)[(i + 1) * 2 + t]? = some u := by
    intro t u ht
    have h1 : (L.flatMap artCells).drop ((i + 1) * 2) = news := by
      rw [hnews, flat_split artCells L (i + 1), List.drop_left']
      rw [flat_len (k := 2) artCells (fun _ => rfl), List.length_take, Nat.min_eq_left (by omega)]
    have htl : t < news.length := (List.getElem?_eq_some_iff.1 ht).1
    rw [List.getElem?_append_left (by rw [hxl]; omega), ← List.getElem?_drop, h1]
    exact ht
  have h1n : ∀ u ∈ news, u.oneCell' = true := by rw [hnews]; exact flat_one artCells (fun x v hv => art_one hv) _
  have hA : ∃ A : Addr, (if cap = i + 1 then some (⟨g, 0, none⟩ : Addr) else some ⟨g, (i + 1) * 2, none⟩) = some A ∧ Hid (∀ t u, news[t]? = some u → w.drew.cell? (A.add t) = some u) := by
    by_cases h : cap = i + 1
    · refine ⟨⟨g, 0, none⟩, by simp [h], fun t u hu => ?_⟩
      have h0 : news.length = 0 := by rw [hnl]; omega
      rw [List.length_eq_zero_iff.1 h0] at hu
      simp at hu
    · refine ⟨⟨g, (i + 1) * 2, none⟩, by simp [h], fun t u hu => ?_⟩
      rw [Addr.add_lit, hB.drew.cell]
      exact hget t u hu
  obtain ⟨A, hA, hsrc⟩ := hA
  have s3 : Hid (∀ t, t < news.length → (w.drew.cell? ⟨g, 0 + i * 2 + t, none⟩).isSome = true ∧ w.drew.frozen? ⟨g, 0 + i * 2 + t, none⟩ = false) := by
    intro t ht
    rw [hnl] at ht
    exact ⟨hB.drew.isSome (by rw [hCl]; omega), hB.drew.free (by rw [hCl]; omega)⟩
  obtain ⟨W1, hW1⟩ : ∃ W1, W1 = w.drew.setCells g (0 + i * 2) news := ⟨_, rfl⟩
  have hB1 : Blk W1 g 141 (splice (L.flatMap artCells ++ T) (i * 2) news) := by
    rw [hW1, Nat.zero_add]
    exact hB.drew.set Tryz.prog (i * 2) news (by rw [hCl, hnl]; omega) h1n
  have hl1 : (splice (L.flatMap artCells ++ T) (i * 2) news).length = cap * 2 := by rw [length_splice _ _ _ (by rw [hCl, hnl]; omega), hCl]
  have hz : ∀ w, (zeroValue 141).run Tryz.prog w = .ok (.agg #[.int .i64 0, .string ⟨#[]⟩]) w := Tryz.zeroValue141
  have hclr : ∀ ty, (Builtin.clear_ #[32] ty #[.slice (some ⟨g, (i + (n - (i + 1))) * 2, none⟩) (n - (i + (n - (i + 1)))) (cap - (i + (n - (i + 1))))]).run Tryz.prog W1 = .ok (.tuple #[]) (W1.setCells g ((i + (n - (i + 1))) * 2) (artCells ⟨0, ⟨#[]⟩⟩)) := fun ty => by
    have e1 : n - (i + (n - (i + 1))) = 1 := by omega
    rw [e1]
    exact run_clear_k W1 _ 141 ty _ (artCells ⟨0, ⟨#[]⟩⟩) Tryz.underlying32 hz g _ 1 _ (by omega) (by simp [Builtin.zeroCells, Value.cells, artCells]; try rfl) (fun v hv => art_one hv)
      (fun j hj => hB1.isSome (by have : j < 2 := hj; rw [hl1]; omega)) (fun j hj => hB1.free (by have : j < 2 := hj; rw [hl1]; omega))
  have hfin : DelPost artCells 141 2 base g (n - 1) cap (L.take i ++ L.drop (i + 1)) w (.returned (.slice (some ⟨g, 0, none⟩) (n - 1) cap)) (W1.setCells g ((i + (n - (i + 1))) * 2) (artCells ⟨0, ⟨#[]⟩⟩)) := by
    have ei : (i + (n - (i + 1))) * 2 = (L.length - 1) * 2 := by omega
    rw [ei]
    have hB2 := hB1.set Tryz.prog ((L.length - 1) * 2) (artCells ⟨0, ⟨#[]⟩⟩) (by rw [hl1]; show (L.length - 1) * 2 + 2 ≤ _; omega) (fun v hv => art_one hv)
    refine ⟨rfl, own_of_blk hB2 (by rw [length_splice _ _ _ (by rw [hl1]; show (L.length - 1) * 2 + 2 ≤ _; omega), hl1]) ?_ ?_ (by omega) (by unfold maxLen; omega) hbg, ?_⟩
    · rw [hnews, ← hn]
      exact cells_del artCells (fun _ => rfl) L T _ i (by omega) rfl (by omega)
    · rw [flat_len (k := 2) artCells (fun _ => rfl), List.length_append, List.length_take, List.length_drop]
      congr 1
      omega
    · have g1 : w.grownBy W1 (some g) := by
        rw [hW1, Nat.zero_add]
        have := grown_set Tryz.prog hB.drew (i * 2) news (by rw [hCl, hnl]; omega) h1n
        exact ⟨this.os, this.tape, this.output, this.size, this.block⟩
      have g2 := grown_set Tryz.prog hB1 ((L.length - 1) * 2) (artCells ⟨0, ⟨#[]⟩⟩) (by rw [hl1]; show (L.length - 1) * 2 + 2 ≤ _; omega) (fun v hv => art_one hv)
      exact only_trans g1 g2
  have HFIN := Lib.hid hfin
  have hW : Hid (W1 = w.drew.setCells g (0 + i * 2) news) := hW1
  have s1 : Hid (news.length = (n - (i + 1)) * 2) := hnl
  have s2 : Hid (∀ u ∈ news, u.oneCell' = true) := h1n
  have hic : i ≤ cap := by omega
  have hb1 : (0 : Int) ≤ (i : Int) + 1 := by omega
  have hb2 : (i : Int) + 1 ≤ (n : Int) := by omega
  have hjc : i + 1 ≤ cap := by omega
  obtain ⟨i0, hinfo, hz0, hz1, hz2⟩ := info_parts Tryz.infoA
  have HN := Lib.hid hn
  clear hW1 hB1 hl1 hfin hB hC hCl hget hnews hnl h1n hown hxl hbg hn
  go_enter Tryz.func196, Tryz.ntmps196
  go_wp2_with (fail)
  go_region_law (refine step_append_room rfl (.tmp 22) (.tmp 25) 32 rfl 141 i0 2 Tryz.underlying32 hinfo hz1 g 0 i cap (by simp [Act.eval, Act.put]) A (n - (i + 1)) (cap - (i + 1)) news (by simp [Act.eval, Act.put]) s1.out hsrc.out s2.out (by omega) s3.out ?_; rw [← hW.out])
  go_wp2
  go_ret
  have e1 : i + (n - (i + 1)) = n - 1 := by omega
  have h := HFIN.out
  rw [e1] at h ⊢
  exact h
end Go.Proofs.YtnandbammmcncaaGreat

namespace Go.Proofs.YtnandbammmcncaaGreat
open Go.RowKit Go.Lib

theorem cells_ins_new {α : Type} (f : α → List Value) {k : Nat} (hf : ∀ x, (f x).length = k) (L : List α) (a : α) (Z : List Value) (i : Nat) (hi : i ≤ L.length) :
    (splice (splice ((L.take i).flatMap f ++ Z) (i * k) (f a)) ((i + 1) * k) ((L.drop i).flatMap f)).take ((L.length + 1) * k) = (L.take i ++ a :: L.drop i).flatMap f := by
  have h1 : ((L.take i).flatMap f).length = i * k := by rw [flat_len f hf, List.length_take, Nat.min_eq_left hi]
  have h2 : splice ((L.take i).flatMap f ++ Z) (i * k) (f a) = ((L.take i).flatMap f ++ f a) ++ ((L.take i).flatMap f ++ Z).drop (i * k + (f a).length) := by
    unfold splice
    rw [List.take_left' h1, List.append_assoc]
  have h3 : ((L.take i).flatMap f ++ f a).length = (i + 1) * k := by rw [List.length_append, h1, hf, Nat.succ_mul]
  have h4 : ((L.take i).flatMap f ++ f a ++ (L.drop i).flatMap f).length = (L.length + 1) * k := by
    rw [List.length_append, h3, flat_len f hf, List.length_drop, ← Nat.add_mul]
    congr 1
    omega
  rw [h2]
  unfold splice
  rw [List.take_left' h3, ← List.append_assoc, List.take_left' h4]
  simp
theorem cells_ins_room {α : Type} (f : α → List Value) {k : Nat} (hf : ∀ x, (f x).length = k) (L : List α) (a : α) (T : List Value) (i : Nat) (hi : i ≤ L.length) (hT : k ≤ T.length) :
    (splice (splice (L.flatMap f ++ T) ((i + 1) * k) ((L.drop i).flatMap f)) (i * k) (f a)).take ((L.length + 1) * k) = (L.take i ++ a :: L.drop i).flatMap f := by
  have h1 : ((L.take i).flatMap f).length = i * k := by rw [flat_len f hf, List.length_take, Nat.min_eq_left hi]
  have hd : ((L.drop i).flatMap f).length = (L.length - i) * k := by rw [flat_len f hf, List.length_drop]
  have hfl : (L.flatMap f ++ T).length = L.length * k + T.length := by rw [List.length_append, flat_len f hf]
  have hk : (i + 1) * k = i * k + k := Nat.succ_mul _ _
  have hs : i * k + (L.length - i) * k = L.length * k := by rw [← Nat.add_mul]; congr 1; omega
  obtain ⟨C, hC⟩ : ∃ C, C = splice (L.flatMap f ++ T) ((i + 1) * k) ((L.drop i).flatMap f) := ⟨_, rfl⟩
  have hCt : C.take (i * k) = (L.take i).flatMap f := by
    rw [hC]
    unfold splice
    rw [List.take_append_of_le_length (by rw [List.length_take]; omega), List.take_take, Nat.min_eq_left (by omega), flat_split f L i, List.append_assoc, List.take_left' h1]
  have hCd : C.drop (i * k + k) = (L.drop i).flatMap f ++ (L.flatMap f ++ T).drop ((i + 1) * k + ((L.drop i).flatMap f).length) := by
    rw [hC]
    unfold splice
    rw [List.drop_left' (by rw [List.length_take]; omega)]
  rw [← hC]
  unfold splice
  rw [hCt, hf, hCd]
  have h4 : ((L.take i).flatMap f ++ f a ++ (L.drop i).flatMap f).length = (L.length + 1) * k := by
    rw [List.length_append, List.length_append, h1, hf, hd, Nat.succ_mul]
    omega
  rw [← List.append_assoc, ← List.append_assoc, List.take_left' h4]
  simp

def InsPost {α : Type} (f : α → List Value) (e : TypeId) (size base g n : Nat) (R : List α) (w : World) (en : Ending) (w' : World) : Prop :=
  ∃ v, en = .returned v ∧ w'.ownsRow base e size v n (R.flatMap f) ∧ v ≠ .slice none 0 0 ∧ Only g w w'

set_option maxRecDepth 100000 in
set_option maxHeartbeats 4000000 in
/-- At the end. -/
theorem insA_end (L : List Art) (a : Art) (base g n cap vb vc : Nat) (w : World) (_hn : L.length = n) (hn63 : n ≤ 1000000) (hown : w.ownsRow base 141 2 (.slice (some ⟨g, 0, none⟩) n cap) n (L.flatMap artCells)) (hv : Blk w vb 141 (artCells a)) (hbw : base ≤ w.heap.size) :
    Calls Tryz.prog 199 #[.slice (some ⟨g, 0, none⟩) n cap, .int .i64 n, .slice (some ⟨vb, 0, none⟩) 1 vc] w (InsPost artCells 141 2 base g (n + 1) (L ++ [a]) w) := by
  obtain ⟨T, hB, hC, hnc, hcm, hbg, hxl⟩ := blk_of_own hown
  unfold maxLen at hcm
  have HV : Hid (∀ j u, (artCells a)[j]? = some u → w.cell? ((⟨vb, 0, none⟩ : Addr).add j) = some u) := Lib.hid (fun j u hj => by rw [Addr.add_lit, hv.cell, Nat.zero_add]; exact hj)
  have HOWN := Lib.hid hown
  obtain ⟨i0, hi, hz0, hz1, hz2⟩ := info_parts Tryz.infoA
  clear hB hC hbg hxl hown hv _hn
  by_cases hcn : cap = n
  · subst hcn
    go_enter Tryz.func199, Tryz.ntmps199
    go_wp2_with (at_builtin; refine wpList_append_own _ rfl _ _ 32 rfl base 141 i0 (.agg #[.int .i64 0, .string ⟨#[]⟩]) 2 24 Tryz.underlying32 hi hz0 hz1 hz2 rfl (by decide) _ _ _ rfl HOWN.out ⟨vb, 0, none⟩ 1 vc (artCells a) rfl rfl HV.out (fun u hu => art_one hu) ?c3 ?c4 hbw ?_)
    case c3 => unfold maxLen; omega
    case c4 => omega
    · intro v' w5 hown' hgrow hiff
      have HO := Lib.hid hown'
      have HNN : Hid (v' ≠ .slice none 0 0) := Lib.hid (by simpa using hiff)
      have HG := Lib.hid hgrow
      clear hown' hgrow hiff
      go_wp2
      go_ret
      exact ⟨v', rfl, by rw [flat_snoc]; exact HO.out, HNN.out, HG.out⟩
  · go_enter Tryz.func199, Tryz.ntmps199
    go_wp2_with (at_builtin; refine wpList_append_own _ rfl _ _ 32 rfl base 141 i0 (.agg #[.int .i64 0, .string ⟨#[]⟩]) 2 24 Tryz.underlying32 hi hz0 hz1 hz2 rfl (by decide) _ _ _ rfl HOWN.out ⟨vb, 0, none⟩ 1 vc (artCells a) rfl rfl HV.out (fun u hu => art_one hu) ?c3 ?c4 hbw ?_)
    case c3 => unfold maxLen; omega
    case c4 => omega
    · intro v' w5 hown' hgrow hiff
      have HO := Lib.hid hown'
      have HNN : Hid (v' ≠ .slice none 0 0) := Lib.hid (by simpa using hiff)
      have HG := Lib.hid hgrow
      clear hown' hgrow hiff
      go_wp2
      go_ret
      exact ⟨v', rfl, by rw [flat_snoc]; exact HO.out, HNN.out, HG.out⟩

set_option maxRecDepth 100000 in
set_option maxHeartbeats 4000000 in
/-- In the midst, where there is no room. -/
theorem insA_new (L : List Art) (a : Art) (i base g n cap vb vc : Nat) (w : World) (hn : L.length = n) (hi : i < n) (hroom : cap < n + 1) (hn63 : n ≤ 1000000) (hown : w.ownsRow base 141 2 (.slice (some ⟨g, 0, none⟩) n cap) n (L.flatMap artCells)) (hv : Blk w vb 141 (artCells a)) (hbw : base ≤ w.heap.size) :
    Calls Tryz.prog 199 #[.slice (some ⟨g, 0, none⟩) n cap, .int .i64 i, .slice (some ⟨vb, 0, none⟩) 1 vc] w (InsPost artCells 141 2 base g (n + 1) (L.take i ++ a :: L.drop i) w) := by
  obtain ⟨T, hB, hC, hnc, hcm, hbg, hxl⟩ := blk_of_own hown
  unfold maxLen at hcm
  have hlf : ∀ x : Art, (artCells x).length = 2 := fun _ => rfl
  have h1c : ∀ x : Art, ∀ v ∈ artCells x, v.oneCell' = true := fun x v hv => art_one hv
  obtain ⟨i0, hi0, hz0, hzs, hzb⟩ := info_parts Tryz.infoA
  have hsz : (Tryz.prog.info? 141).map (·.size) = some 2 := by rw [hi0]; simp [hzs]
  have hold : (Builtin.firstCells i0.size i (.slice (some ⟨g, 0, none⟩) i cap)).run Tryz.prog w.drew = .ok ((L.take i).flatMap artCells).toArray w.drew := by
    rw [hzs]
    exact run_firstCells_some w.drew 2 i ⟨g, 0, none⟩ i cap ((L.take i).flatMap artCells) (by rw [flat_len (k := 2) artCells hlf, List.length_take, Nat.min_eq_left (by omega)]) (fun j v hj => by
      rw [Addr.add_lit, hB.drew.cell, Nat.zero_add, flat_split artCells L i, List.append_assoc, List.getElem?_append_left (List.getElem?_eq_some_iff.1 hj).1]
      exact hj)
  obtain ⟨G, hG⟩ : ∃ G, G = grownCap w (n + 1) cap 141 := ⟨_, rfl⟩
  have hGn : n + 1 ≤ G := by rw [hG]; exact grownCap_ge w _ _ _
  have hG63 : G ≤ maxLen := by rw [hG]; exact grownCap_le_maxLen w (n + 1) cap _ (by unfold maxLen; omega)
  obtain ⟨Z, hZ⟩ : ∃ Z : List Value, Z = (Builtin.zeroCells (Value.agg #[.int .i64 0, .string ⟨#[]⟩]).cells (n + 1 - i) ++ Builtin.zeroCells (Value.agg #[.int .i64 0, .string ⟨#[]⟩]).cells (G - (n + 1))).toList := ⟨_, rfl⟩
  have hZl : Z.length = (G - i) * 2 := by
    rw [hZ]
    simp [Builtin.zeroCells, Value.cells]
    omega
  obtain ⟨W1, hW1⟩ : ∃ W1, W1 = w.drew.alloc (.cells ((L.take i).flatMap artCells ++ Z).toArray 141) := ⟨_, rfl⟩
  have hkk : (n : Int) + 1 - (i : Int) = ((n + 1 - i : Nat) : Int) := by omega
  have hik : i + (n + 1 - i) = n + 1 := by omega
  have hrz : ∀ ty, (Builtin.append_ #[32, 3] ty #[.slice (some ⟨g, 0, none⟩) i cap, .int .i64 ((n : Int) + 1 - (i : Int))]).run Tryz.prog w = .ok (.slice (some ⟨w.heap.size, 0, none⟩) (n + 1) G) W1 := fun ty => by
    have h := Lib.run_append_grow_zeros (P := Tryz.prog) w 32 3 ty 141 i0 _ .i64 .i64 Tryz.underlying32 Tryz.underlying3 hi0 hz0 (some ⟨g, 0, none⟩) i cap ((L.take i).flatMap artCells) hold (n + 1 - i) (by omega) (by omega) (by omega) (by omega) (by rw [hzb]; omega) (by rw [hzb, hik]; exact growslice_fits hroom (by omega))
    rw [hik, ← hG] at h
    rw [hkk, h, hW1, hZ]
    congr 3
    apply Array.ext'
    simp
  have hbl1 : Blk W1 w.heap.size 141 ((L.take i).flatMap artCells ++ Z) := by
    rw [hW1]
    exact alloc_at w.drew _
  have hl1 : ((L.take i).flatMap artCells ++ Z).length = G * 2 := by
    rw [List.length_append, flat_len (k := 2) artCells hlf, List.length_take, Nat.min_eq_left (by omega), hZl]
    omega
  have hg1 : w.grownBy W1 none := by
    rw [hW1]
    exact ⟨rfl, rfl, rfl, by simp, fun k hk _ => heap_alloc_old w.drew _ hk⟩
  have hbN : g ≠ w.heap.size := by have := hB.lt; omega
  have hvN : vb ≠ w.heap.size := by have := hv.lt; omega
  have hv1 : Blk W1 vb 141 (artCells a) := hv.grown hg1 (by simp)
  obtain ⟨W2, hW2⟩ : ∃ W2, W2 = W1.setCells w.heap.size (i * 2) (artCells a) := ⟨_, rfl⟩
  have hcpA : ∀ ty dc, (Builtin.copy_ #[32, 32] ty #[.slice (some ⟨w.heap.size, i * 2, none⟩) (n + 1 - i) dc, .slice (some ⟨vb, 0, none⟩) 1 vc]).run Tryz.prog W1 = .ok (goInt 1) W2 := fun ty dc => by
    have h := run_copy_k (P := Tryz.prog) W1 32 32 ty 141 2 w.heap.size (i * 2) (n + 1 - i) dc ⟨vb, 0, none⟩ 1 vc (artCells a) Tryz.underlying32 hsz (by rw [hlf]; simp only [Nat.min_def]; split <;> omega)
      (fun j v hj => by rw [Addr.add_lit, hv1.cell, Nat.zero_add]; exact hj)
      (fun j hj => hbl1.isSome (by rw [hlf] at hj; rw [hl1]; omega)) (fun j hj => hbl1.free (by rw [hlf] at hj; rw [hl1]; omega)) (h1c a)
    rw [h, hW2, show Nat.min 1 (n + 1 - i) = 1 by simp only [Nat.min_def]; split <;> omega]
    rfl
  have hbl2 := hbl1.set Tryz.prog (i * 2) (artCells a) (by rw [hl1, hlf]; omega) (h1c a)
  have hl2 : (splice ((L.take i).flatMap artCells ++ Z) (i * 2) (artCells a)).length = G * 2 := by rw [length_splice _ _ _ (by rw [hl1, hlf]; omega), hl1]
  have hg2 := grown_set Tryz.prog hbl1 (i * 2) (artCells a) (by rw [hl1, hlf]; omega) (h1c a)
  rw [← hW2] at hbl2 hg2
  have hB2 : Blk W2.drew g 141 (L.flatMap artCells ++ T) := ((hB.grown hg1 (by simp)).grown hg2 (by simpa using fun e => hbN e.symm)).drew
  obtain ⟨W3, hW3⟩ : ∃ W3, W3 = W2.drew.setCells w.heap.size ((i + 1) * 2) ((L.drop i).flatMap artCells) := ⟨_, rfl⟩
  have hdl : ((L.drop i).flatMap artCells).length = (n - i) * 2 := by rw [flat_len (k := 2) artCells hlf, List.length_drop, hn]
  have hcpB : ∀ ty dc sc, (Builtin.copy_ #[32, 32] ty #[.slice (some ⟨w.heap.size, (i + 1) * 2, none⟩) (n + 1 - (i + 1)) dc, .slice (some ⟨g, i * 2, none⟩) (n - i) sc]).run Tryz.prog W2.drew = .ok (goInt ((n - i : Nat) : Int)) W3 := fun ty dc sc => by
    have h := run_copy_k (P := Tryz.prog) W2.drew 32 32 ty 141 2 w.heap.size ((i + 1) * 2) (n + 1 - (i + 1)) dc ⟨g, i * 2, none⟩ (n - i) sc ((L.drop i).flatMap artCells) Tryz.underlying32 hsz (by rw [hdl]; simp only [Nat.min_def]; split <;> omega)
      (fun j v hj => by
        rw [Addr.add_lit, hB2.cell, flat_split artCells L i, List.append_assoc, List.getElem?_append_right (by rw [flat_len (k := 2) artCells hlf, List.length_take, Nat.min_eq_left (by omega)]; omega), flat_len (k := 2) artCells hlf, List.length_take, Nat.min_eq_left (by omega), Nat.add_sub_cancel_left, List.getElem?_append_left (List.getElem?_eq_some_iff.1 hj).1]
        exact hj)
      (fun j hj => hbl2.drew.isSome (by rw [hdl] at hj; rw [hl2]; omega)) (fun j hj => hbl2.drew.free (by rw [hdl] at hj; rw [hl2]; omega)) (flat_one artCells (fun x v hv => h1c x v hv) _)
    rw [h, hW3, show Nat.min (n - i) (n + 1 - (i + 1)) = n - i by simp only [Nat.min_def]; split <;> omega]
  have hfin : InsPost artCells 141 2 base g (n + 1) (L.take i ++ a :: L.drop i) w (.returned (.slice (some ⟨w.heap.size, 0, none⟩) (n + 1) G)) W3 := by
    have hbl3 := hbl2.drew.set Tryz.prog ((i + 1) * 2) ((L.drop i).flatMap artCells) (by rw [hl2, hdl]; omega) (flat_one artCells (fun x v hv => h1c x v hv) _)
    have hg3 := grown_set Tryz.prog hbl2.drew ((i + 1) * 2) ((L.drop i).flatMap artCells) (by rw [hl2, hdl]; omega) (flat_one artCells (fun x v hv => h1c x v hv) _)
    rw [← hW3] at hbl3 hg3
    refine ⟨_, rfl, own_of_blk hbl3 (by rw [length_splice _ _ _ (by rw [hl2, hdl]; omega), hl2]) ?_ ?_ hGn hG63 hbw, by simp, ?_⟩
    · rw [← hn]
      exact cells_ins_new artCells hlf L a Z i (by omega)
    · rw [flat_len (k := 2) artCells hlf, List.length_append, List.length_cons, List.length_take, List.length_drop]
      congr 1
      omega
    · refine ⟨hg3.os.trans (hg2.os.trans hg1.os), hg3.tape.trans (hg2.tape.trans hg1.tape), hg3.output.trans (hg2.output.trans hg1.output), Nat.le_trans hg1.size (Nat.le_trans hg2.size hg3.size), fun k hk hne => ?_⟩
      have hkN : some k ≠ some w.heap.size := fun e => by injection e; omega
      have hz1' := hg1.size
      have hz2' := hg2.size
      have a1 := hg1.block k hk (by simp)
      have a2 := hg2.block k (by omega) hkN
      have a3 := hg3.block k (by show k < W2.heap.size; omega) hkN
      exact a3.trans (a2.trans a1)
  have HFIN := Lib.hid hfin
  unfold maxLen at hG63
  have hw1 : IntKind.i64.wrap ((i : Int) + 1) = (i : Int) + 1 := by rw [IntKind.wrap_i64]; omega
  have hz2' : ¬ ((i : Int) = (n : Int)) := by omega
  have hz3 : (cap : Int) < (n : Int) + 1 := by omega
  have hGi : ¬ (G = i) := by omega
  have hGim : ¬ (G = i + 1) := by omega
  have hci : ¬ (cap = i) := by omega
  have hb1 : (0 : Int) ≤ (i : Int) + 1 := by omega
  have hin : i ≤ n := by omega
  have htn : ((i : Int) + 1).toNat = i + 1 := by omega
  have hb3 : (i : Int) ≤ (n : Int) := by omega
  have hb4 : (i : Int) + 1 ≤ (n : Int) + 1 := by omega
  clear hkk hik hold hG hZ hZl hW1 hbl1 hl1 hg1 hv1 hW2 hbl2 hl2 hg2 hB2 hW3 hdl hfin hB hC hown hv hbg hxl hn hlf h1c hsz hi0 hz0 hzs hzb
  go_enter Tryz.func199, Tryz.ntmps199
  go_wp2_with (first
    | (at_builtin; refine Lib.wpList_append_run _ rfl _ _ _ _ rfl _ _ rfl rfl _ _ (hrz _) ?_)
    | (at_builtin; refine wpList_copy_run2 _ rfl _ _ 32 32 rfl _ _ rfl rfl (hcpA _ _) ?_))
  go_region_law (refine step_copy_run2 rfl _ _ 32 32 rfl (.slice (some ⟨w.heap.size, (i + 1) * 2, none⟩) (n + 1 - (i + 1)) (G - (i + 1))) (.slice (some ⟨g, i * 2, none⟩) (n - i) (cap - i)) (by simp [Act.eval, Act.put]) (by simp [Act.eval, Act.put]) (hcpB _ _ _) ?_)
  go_wp2
  go_ret
  exact HFIN.out

set_option maxRecDepth 100000 in
set_option maxHeartbeats 4000000 in
/-- In the midst, where there is room. -/
theorem insA_room (L : List Art) (a : Art) (i base g n cap vb vc : Nat) (w : World) (hn : L.length = n) (hi : i < n) (hroom : n + 1 ≤ cap) (hn63 : n ≤ 1000000) (hown : w.ownsRow base 141 2 (.slice (some ⟨g, 0, none⟩) n cap) n (L.flatMap artCells)) (hv : Blk w vb 141 (artCells a)) (hvb : vb ≠ g) :
    Calls Tryz.prog 199 #[.slice (some ⟨g, 0, none⟩) n cap, .int .i64 i, .slice (some ⟨vb, 0, none⟩) 1 vc] w (InsPost artCells 141 2 base g (n + 1) (L.take i ++ a :: L.drop i) w) := by
  obtain ⟨T, hB, hC, hnc, hcm, hbg, hxl⟩ := blk_of_own hown
  have hcm' := hcm
  unfold maxLen at hcm
  have hlf : ∀ x : Art, (artCells x).length = 2 := fun _ => rfl
  have h1c : ∀ x : Art, ∀ v ∈ artCells x, v.oneCell' = true := fun x v hv => art_one hv
  obtain ⟨i0, hi0, hz0, hzs, hzb⟩ := info_parts Tryz.infoA
  have hsz : (Tryz.prog.info? 141).map (·.size) = some 2 := by rw [hi0]; simp [hzs]
  have hTl : T.length = (cap - n) * 2 := by rw [List.length_append, hxl] at hC; omega
  have hov : ∀ lb cb, (callFunc 213 #[.slice (some ⟨vb, 0, none⟩) 1 vc, .slice (some ⟨g, (i + 1) * 2, none⟩) lb cb]).run Tryz.prog w = .ok (.value (.bool false)) w := fun lb cb => by
    rw [run_callFunc_extern Tryz.func213 (by kernel_rfl) (by kernel_rfl) (by kernel_rfl) (e := Extern.SlicesOverlaps.overlaps #[32, 32] #[4]) (by kernel_rfl),
      Lib.run_overlaps_apart w 32 4 141 Tryz.underlying32 2 Tryz.sizeOf141 ⟨vb, 0, none⟩ ⟨g, (i + 1) * 2, none⟩ 1 vc lb cb hvb 141 141 2 (cap * 2) (by unfold Blk at hv; simp [World.shape?, hv, artCells]) (by unfold Blk at hB; simp [World.shape?, hB]; simpa using hC) (by omega) (hv.free (by rw [hlf]; omega)) (by unfold Blk at hv; simp [World.frozen?, hv])]
    rfl
  have hdl : ((L.drop i).flatMap artCells).length = (n - i) * 2 := by rw [flat_len (k := 2) artCells hlf, List.length_drop, hn]
  obtain ⟨W1, hW1⟩ : ∃ W1, W1 = w.drew.setCells g ((i + 1) * 2) ((L.drop i).flatMap artCells) := ⟨_, rfl⟩
  have h1d := flat_one artCells (P := fun v => v.oneCell' = true) (fun x v hv => h1c x v hv) (L.drop i)
  have hcp1 : ∀ ty dc sc, (Builtin.copy_ #[32, 32] ty #[.slice (some ⟨g, (i + 1) * 2, none⟩) (n + 1 - (i + 1)) dc, .slice (some ⟨g, i * 2, none⟩) (n + 1 - i) sc]).run Tryz.prog w.drew = .ok (goInt ((n - i : Nat) : Int)) W1 := fun ty dc sc => by
    have h := run_copy_k (P := Tryz.prog) w.drew 32 32 ty 141 2 g ((i + 1) * 2) (n + 1 - (i + 1)) dc ⟨g, i * 2, none⟩ (n + 1 - i) sc ((L.drop i).flatMap artCells) Tryz.underlying32 hsz (by rw [hdl]; simp only [Nat.min_def]; split <;> omega)
      (fun j v hj => by
        rw [Addr.add_lit, hB.drew.cell, flat_split artCells L i, List.append_assoc, List.getElem?_append_right (by rw [flat_len (k := 2) artCells hlf, List.length_take, Nat.min_eq_left (by omega)]; omega), flat_len (k := 2) artCells hlf, List.length_take, Nat.min_eq_left (by omega), Nat.add_sub_cancel_left, List.getElem?_append_left (List.getElem?_eq_some_iff.1 hj).1]
        exact hj)
      (fun j hj => hB.drew.isSome (by rw [hdl] at hj; rw [hC]; omega)) (fun j hj => hB.drew.free (by rw [hdl] at hj; rw [hC]; omega)) h1d
    rw [h, hW1, show Nat.min (n + 1 - i) (n + 1 - (i + 1)) = n - i by simp only [Nat.min_def]; split <;> omega]
  have hbl1 := hB.drew.set Tryz.prog ((i + 1) * 2) ((L.drop i).flatMap artCells) (by rw [hC, hdl]; omega) h1d
  have hl1 : (splice (L.flatMap artCells ++ T) ((i + 1) * 2) ((L.drop i).flatMap artCells)).length = cap * 2 := by rw [length_splice _ _ _ (by rw [hC, hdl]; omega), hC]
  have hg1 := grown_set Tryz.prog hB.drew ((i + 1) * 2) ((L.drop i).flatMap artCells) (by rw [hC, hdl]; omega) h1d
  rw [← hW1] at hbl1 hg1
  have hv1 : Blk W1 vb 141 (artCells a) := Blk.grown hv.drew hg1 (by simpa using fun e => hvb e.symm)
  obtain ⟨W2, hW2⟩ : ∃ W2, W2 = W1.setCells g (i * 2) (artCells a) := ⟨_, rfl⟩
  have hcp2 : ∀ ty dc, (Builtin.copy_ #[32, 32] ty #[.slice (some ⟨g, i * 2, none⟩) (n + 1 - i) dc, .slice (some ⟨vb, 0, none⟩) 1 vc]).run Tryz.prog W1 = .ok (goInt 1) W2 := fun ty dc => by
    have h := run_copy_k (P := Tryz.prog) W1 32 32 ty 141 2 g (i * 2) (n + 1 - i) dc ⟨vb, 0, none⟩ 1 vc (artCells a) Tryz.underlying32 hsz (by rw [hlf]; simp only [Nat.min_def]; split <;> omega)
      (fun j v hj => by rw [Addr.add_lit, hv1.cell, Nat.zero_add]; exact hj)
      (fun j hj => hbl1.isSome (by rw [hlf] at hj; rw [hl1]; omega)) (fun j hj => hbl1.free (by rw [hlf] at hj; rw [hl1]; omega)) (h1c a)
    rw [h, hW2, show Nat.min 1 (n + 1 - i) = 1 by simp only [Nat.min_def]; split <;> omega]
    rfl
  have hfin : InsPost artCells 141 2 base g (n + 1) (L.take i ++ a :: L.drop i) w (.returned (.slice (some ⟨g, 0, none⟩) (n + 1) cap)) W2 := by
    have hbl2 := hbl1.set Tryz.prog (i * 2) (artCells a) (by rw [hl1, hlf]; omega) (h1c a)
    have hg2 := grown_set Tryz.prog hbl1 (i * 2) (artCells a) (by rw [hl1, hlf]; omega) (h1c a)
    rw [← hW2] at hbl2 hg2
    refine ⟨_, rfl, own_of_blk hbl2 (by rw [length_splice _ _ _ (by rw [hl1, hlf]; omega), hl1]) ?_ ?_ hroom hcm' hbg, by simp, ?_⟩
    · rw [← hn]
      exact cells_ins_room artCells hlf L a T i (by omega) (by omega)
    · rw [flat_len (k := 2) artCells hlf, List.length_append, List.length_cons, List.length_take, List.length_drop]
      congr 1
      omega
    · exact only_trans ⟨hg1.os, hg1.tape, hg1.output, hg1.size, hg1.block⟩ hg2
  have HFIN := Lib.hid hfin
  have hw1 : IntKind.i64.wrap ((i : Int) + 1) = (i : Int) + 1 := by rw [IntKind.wrap_i64]; omega
  have hz2' : ¬ ((i : Int) = (n : Int)) := by omega
  have hz3 : ¬ ((cap : Int) < (n : Int) + 1) := by omega
  have hb1 : (0 : Int) ≤ (i : Int) + 1 := by omega
  have hin : i ≤ n := by omega
  have hin1 : i ≤ n + 1 := by omega
  have htn : ((i : Int) + 1).toNat = i + 1 := by omega
  have hb2 : ¬ (cap = i + 1) := by omega
  have hb3 : (i : Int) + 1 ≤ (n : Int) + 1 := by omega
  have hb4 : ¬ (cap = i) := by omega
  have hb5 : (i : Int) ≤ (n : Int) + 1 := by omega
  clear hdl hW1 h1d hbl1 hl1 hg1 hv1 hW2 hfin hB hC hown hv hbg hxl hn hlf h1c hsz hi0 hz0 hzs hzb hTl hcm'
  go_enter Tryz.func199, Tryz.ntmps199
  go_wp2_with (simp only [hov])
  go_region_law (refine step_copy_run2 rfl _ _ 32 32 rfl (.slice (some ⟨g, (i + 1) * 2, none⟩) (n + 1 - (i + 1)) (cap - (i + 1))) (.slice (some ⟨g, i * 2, none⟩) (n + 1 - i) (cap - i)) (by simp [Act.eval, Act.put]) (by simp [Act.eval, Act.put]) (hcp1 _ _ _) ?_)
  go_wp2_with (at_builtin; refine wpList_copy_run2 _ rfl _ _ 32 32 rfl _ _ rfl rfl (hcp2 _ _) ?_)
  go_ret
  exact HFIN.out

theorem insA_any (L : List Art) (a : Art) (i base g n cap vb vc : Nat) (w : World) (hn : L.length = n) (hi : i ≤ n) (hn63 : n ≤ 1000000) (hown : w.ownsRow base 141 2 (.slice (some ⟨g, 0, none⟩) n cap) n (L.flatMap artCells)) (hv : Blk w vb 141 (artCells a)) (hvb : vb ≠ g) (hbw : base ≤ w.heap.size) :
    Calls Tryz.prog 199 #[.slice (some ⟨g, 0, none⟩) n cap, .int .i64 i, .slice (some ⟨vb, 0, none⟩) 1 vc] w (InsPost artCells 141 2 base g (n + 1) (L.take i ++ a :: L.drop i) w) := by
  rcases Nat.lt_or_ge i n with hlt | hge
  · by_cases hroom : n + 1 ≤ cap
    · exact insA_room L a i base g n cap vb vc w hn hlt hroom hn63 hown hv hvb
    · exact insA_new L a i base g n cap vb vc w hn hlt (by omega) hn63 hown hv hbw
  · obtain rfl : i = n := by omega
    have e : L.take i ++ a :: L.drop i = L ++ [a] := by rw [List.take_of_length_le (by omega), List.drop_eq_nil_of_le (by omega)]
    rw [e]
    exact insA_end L a base g i cap vb vc w hn hn63 hown hv hbw
end Go.Proofs.YtnandbammmcncaaGreat

namespace Go.Proofs.YtnandbammmcncaaGreat
open Go.RowKit Go.Lib

theorem rise_take {P : List Edit} {k : Nat} {e : Edit} (hP : RiseE P) (hk : P[k]? = some e) : P.take (k + 1) = P.take k ++ [e] ∧ RiseE (P.take k ++ [e]) := by
  obtain ⟨h1, h2⟩ := List.getElem?_eq_some_iff.1 hk
  have e1 : P.take (k + 1) = P.take k ++ [e] := by rw [List.take_succ_eq_append_getElem h1, h2]
  refine ⟨e1, ?_⟩
  rw [← e1]
  exact hP.sublist (List.take_sublist _ _)
theorem find_now {S R : List Art} {P : List Edit} {k : Nat} {e : Edit} (hP : RiseE P) (hk : P[k]? = some e) (hB : Becomes S (P.take k) R) : findA R e.id = findA S e.id := by
  rw [hB.find, target_old]
  intro a ha
  have h := (rise_take hP hk).2
  unfold RiseE at h
  rw [List.pairwise_append] at h
  have := h.2.2 a ha e (by simp)
  omega
theorem has_id {S R : List Art} {P : List Edit} {k : Nat} {e : Edit} (hP : RiseE P) (hk : P[k]? = some e) (hB : Becomes S (P.take k) R) (hf : (findA S e.id).toList = e.old.toList) (ho : e.old.toList ≠ []) : ∃ j, ∃ h : j < R.length, idxA (fun a => decide (a.id = e.id)) R = j ∧ R[j].id = e.id := by
  rcases idx_cases (fun a => decide (a.id = e.id)) R with ⟨j, hj, h1, h2, _⟩ | ⟨_, hn⟩
  · exact ⟨j, hj, h1, of_decide_eq_true h2⟩
  · exfalso
    have h1 := find_now hP hk hB
    rw [findA_none (fun a ha => of_decide_eq_false (hn a ha))] at h1
    apply ho
    rw [← hf, ← h1, ByteArray.toList_eq]
theorem no_id {S R : List Art} {P : List Edit} {k : Nat} {e : Edit} (hP : RiseE P) (hk : P[k]? = some e) (hB : Becomes S (P.take k) R) (hf : (findA S e.id).toList = e.old.toList) (ho : e.old.toList = []) : ∀ a ∈ R, a.id ≠ e.id := by
  intro a ha hi
  have h1 := find_now hP hk hB
  rw [← hi, findA_mem hB.good.rise ha, hi] at h1
  have := (okArt_facts (hB.good.all a ha)).2.2.1
  rw [h1, hf, ho] at this
  revert this
  decide
/-- The place of a new article. -/
def placeA (q : Int) (R : List Art) : Nat := (R.findIdx? (fun a => decide (q < a.id))).getD R.length
theorem place_le (q : Int) (R : List Art) : placeA q R ≤ R.length := by
  unfold placeA
  rcases hf : R.findIdx? (fun a => decide (q < a.id)) with _ | k
  · rw [hf]; exact Nat.le_refl _
  · obtain ⟨h1, _⟩ := List.findIdx?_eq_some_iff_getElem.1 hf
    rw [hf]; exact Nat.le_of_lt h1
theorem place_idx (q : Int) (R : List Art) : (idxA (fun a => decide (q < a.id)) R < 0 ∧ placeA q R = R.length) ∨ (idxA (fun a => decide (q < a.id)) R = (placeA q R : Int)) := by
  unfold placeA idxA
  rcases hf : R.findIdx? (fun a => decide (q < a.id)) with _ | k
  · left; rw [hf]; exact ⟨by simp, rfl⟩
  · right; rw [hf]; rfl
theorem place_below {q : Int} {R : List Art} (hn : ∀ a ∈ R, a.id ≠ q) : ∀ c ∈ R.take (placeA q R), c.id < q := by
  intro c hc
  obtain ⟨j, hj, rfl⟩ := List.mem_iff_getElem.1 hc
  rw [List.length_take] at hj
  rw [List.getElem_take]
  have hjl : j < R.length := by omega
  have h1 := hn R[j] (List.getElem_mem hjl)
  have h2 : ¬ q < R[j].id := by
    unfold placeA at hj
    rcases hf : R.findIdx? (fun a => decide (q < a.id)) with _ | k
    · have := List.findIdx?_eq_none_iff.1 hf R[j] (List.getElem_mem hjl)
      simpa using this
    · obtain ⟨_, _, h3⟩ := List.findIdx?_eq_some_iff_getElem.1 hf
      rw [hf] at hj
      have := h3 j (by simp at hj; omega)
      simpa using this
  omega
theorem place_above {q : Int} {R : List Art} (hr : RiseA R) : ∀ c ∈ R.drop (placeA q R), q < c.id := by
  intro c hc
  unfold placeA at hc
  rcases hf : R.findIdx? (fun a => decide (q < a.id)) with _ | k
  · rw [hf, Option.getD_none, List.drop_length] at hc
    cases hc
  · obtain ⟨h1, h2, _⟩ := List.findIdx?_eq_some_iff_getElem.1 hf
    rw [hf, Option.getD_some] at hc
    obtain ⟨j, hj, rfl⟩ := List.mem_iff_getElem.1 hc
    rw [List.length_drop] at hj
    rw [List.getElem_drop]
    have h2 : q < R[k].id := of_decide_eq_true h2
    by_cases hj0 : j = 0
    · subst hj0; exact h2
    · have := (List.pairwise_iff_getElem.1 hr) k (k + j) h1 (by omega) (by omega)
      omega

set_option maxHeartbeats 400000 in
/-- The closure of 'applied': it has captured an edit. -/
theorem isAbove_pred (q : Int) (B : Nat) (w : World) (hB : B < w.heap.size) (hc : w.cell? ⟨B, 1, none⟩ = some (.int .i64 q)) : PredA 198 #[.pointer (some ⟨B, 0, none⟩)] (fun a => decide (q < a.id)) w := by
  intro W x hb
  have x0 := (hb.cell (p := ⟨B, 1, none⟩) hB).trans hc
  have hlt := World.block_lt_of_cell? W ⟨B, 1, none⟩ x0
  have y0 := (((Below.refl W.heap.size W).alloc (Nat.le_refl _) (.cells #[.int .i64 x.id, .string x.text] 141)).cell (p := ⟨B, 1, none⟩) hlt).trans x0
  obtain ⟨r, hr⟩ : ∃ r, decide (q < x.id) = r := ⟨_, rfl⟩
  show Calls Tryz.prog 198 #[.agg #[.int .i64 x.id, .string x.text], .pointer (some ⟨B, 0, none⟩)] W (RetB (.bool (decide (q < x.id))) W)
  have HR := Lib.hid hr
  cases r with
  | true =>
    have h1 : q < x.id := of_decide_eq_true hr
    rw [hr]
    clear hr x0 hb
    go_enter Tryz.func198, Tryz.ntmps198
    go_wp2
    go_ret
    exact ⟨rfl, (Below.refl W.heap.size W).alloc (Nat.le_refl _) _⟩
  | false =>
    have h1 : ¬ q < x.id := of_decide_eq_false hr
    rw [hr]
    clear hr x0 hb
    go_enter Tryz.func198, Tryz.ntmps198
    go_wp2
    go_ret
    exact ⟨rfl, (Below.refl W.heap.size W).alloc (Nat.le_refl _) _⟩
theorem isAbove_enters : ∀ args w, (callFunc 198 args).run Tryz.prog w = .ok (.enter 198 args) w := enters_of Tryz.func198 (by kernel_rfl) rfl

def AppPost (S : List Art) (P : List Edit) (w : World) (e : Ending) (w' : World) : Prop :=
  ∃ v, e = .returned (.tuple #[v, .bool (applyO S P).isSome]) ∧ (∀ R, applyO S P = some R → OwnL artCells R w.heap.size w' v) ∧ (∃ A n c, v = .slice A n c) ∧ Below w.heap.size w w'
end Go.Proofs.YtnandbammmcncaaGreat

namespace Go.Proofs.YtnandbammmcncaaGreat
open Go.RowKit Go.Lib

/-- A statute on its way. -/
structure OnWay (S : List Art) (P : List Edit) (k : Nat) (R : List Art) : Prop where
  bec : Becomes S (P.take k) R
  len : R.length ≤ S.length + k
  fit : ∀ j (h : j < P.length), j < k → (findA S P[j].id).toList = P[j].old.toList
theorem OnWay.start {S : List Art} {P : List Edit} (h : GoodA S) : OnWay S P 0 S := ⟨Becomes.nil h, by omega, fun j _ hj => absurd hj (Nat.not_lt_zero _)⟩
theorem OnWay.step {S R R' : List Art} {P : List Edit} {k : Nat} (h : OnWay S P k R) (hk : k < P.length) (hf : (findA S P[k].id).toList = P[k].old.toList) (hB : Becomes S (P.take k ++ [P[k]]) R') (hl : R'.length ≤ R.length + 1) : OnWay S P (k + 1) R' :=
  ⟨by rw [List.take_succ_eq_append_getElem hk]; exact hB, by have := h.len; omega, fun j hj hjk => by
    by_cases e : j = k
    · subst e; exact hf
    · exact h.fit j hj (by omega)⟩
theorem OnWay.done {S R : List Art} {P : List Edit} (h : OnWay S P P.length R) (hS : GoodA S) (hP : okPatch P = true) : applyO S P = if R.length ≤ 8 then some R else none := by
  refine applyO_of hS hP (fits_iff.2 (fun e he => ?_)) (by have := h.bec; rwa [List.take_length] at this)
  obtain ⟨j, hj, rfl⟩ := List.mem_iff_getElem.1 he
  have := h.fit j hj hj
  rw [← mk_toList (findA S P[j].id), this, mk_toList]
theorem fits_bad {S : List Art} {P : List Edit} {k : Nat} (hk : k < P.length) (h : (findA S P[k].id).toList ≠ P[k].old.toList) : fits S P = false := by
  rw [Bool.eq_false_iff]
  intro hf
  exact h (by rw [fits_iff.1 hf _ (List.getElem_mem hk)])
theorem cut_mid {α : Type} {L : List α} {j : Nat} (h : j < L.length) : L = L.take j ++ L[j] :: L.drop (j + 1) := by
  rw [List.getElem_cons_drop, List.take_append_drop]
/-- One article of a row of the call's own gets another text. -/
theorem own_turn {w : World} {base g cap : Nat} {A B : List Art} {a : Art} (x : ByteArray) (h : w.ownsRow base 141 2 (.slice (some ⟨g, 0, none⟩) (A ++ a :: B).length cap) (A ++ a :: B).length ((A ++ a :: B).flatMap artCells)) :
    (w.setCell ⟨g, A.length * 2 + 1, none⟩ (.string x)).ownsRow base 141 2 (.slice (some ⟨g, 0, none⟩) (A ++ a :: B).length cap) (A ++ a :: B).length ((A ++ (⟨a.id, x⟩ : Art) :: B).flatMap artCells) := by
  obtain ⟨T, hB, hC, hnc, hcm, hbg, hxl⟩ := blk_of_own h
  have hla : (A.flatMap artCells).length = A.length * 2 := flat_len (k := 2) artCells (fun _ => rfl) A
  have eC : (A ++ a :: B).flatMap artCells ++ T = (A.flatMap artCells ++ [.int .i64 a.id]) ++ (.string a.text :: (B.flatMap artCells ++ T)) := by simp [artCells]
  have hs := hB.set Tryz.prog (A.length * 2 + 1) [.string x] (by rw [eC, List.length_append, List.length_append, hla]; simp) (fun v hv => by rw [List.mem_singleton] at hv; subst hv; rfl)
  have e1 : splice ((A ++ a :: B).flatMap artCells ++ T) (A.length * 2 + 1) [.string x] = (A ++ (⟨a.id, x⟩ : Art) :: B).flatMap artCells ++ T := by
    have eD : (A.flatMap artCells ++ [.int .i64 a.id]) ++ (.string a.text :: (B.flatMap artCells ++ T)) = (A.flatMap artCells ++ [.int .i64 a.id, .string a.text]) ++ (B.flatMap artCells ++ T) := by simp
    rw [eC]
    unfold splice
    rw [List.take_left' (by rw [List.length_append, hla]; rfl), eD, List.drop_left' (by rw [List.length_append, hla]; rfl)]
    simp [artCells]
  have hl2 : ((A ++ (⟨a.id, x⟩ : Art) :: B).flatMap artCells).length = (A ++ a :: B).length * 2 := by rw [flat_len (k := 2) artCells (fun _ => rfl)]; simp
  rw [e1] at hs
  exact own_of_blk hs (by rw [List.length_append, hl2, ← hxl, ← List.length_append]; exact hC) (by rw [List.take_left' hl2]) hl2 hnc hcm hbg

theorem own_turn' {w : World} {base g n cap j : Nat} {R : List Art} (x : ByteArray) (hn : R.length = n) (hj : j < R.length) (h : w.ownsRow base 141 2 (.slice (some ⟨g, 0, none⟩) n cap) n (R.flatMap artCells)) :
    (w.setCell ⟨g, j * 2 + 1, none⟩ (.string x)).ownsRow base 141 2 (.slice (some ⟨g, 0, none⟩) n cap) n ((R.take j ++ (⟨R[j].id, x⟩ : Art) :: R.drop (j + 1)).flatMap artCells) := by
  have e := cut_mid hj
  have hl : (R.take j).length = j := by rw [List.length_take]; omega
  have hn2 : (R.take j ++ R[j] :: R.drop (j + 1)).length = n := by rw [← e]; exact hn
  have := own_turn (w := w) (base := base) (g := g) (cap := cap) (A := R.take j) (B := R.drop (j + 1)) (a := R[j]) x (by rw [hn2, ← e]; exact h)
  rw [hl, hn2] at this
  exact this
theorem own_at {w : World} {base g n cap j : Nat} {R : List Art} (hn : R.length = n) (hj : j < R.length) (h : w.ownsRow base 141 2 (.slice (some ⟨g, 0, none⟩) n cap) n (R.flatMap artCells)) : w.cell? ⟨g, j * 2 + 1, none⟩ = some (.string R[j].text) ∧ w.frozen? ⟨g, j * 2 + 1, none⟩ = false := by
  obtain ⟨T, hB, hC, hnc, hcm, hbg, hxl⟩ := blk_of_own h
  refine ⟨?_, hB.free (by rw [List.length_append]; omega)⟩
  rw [hB.cell, List.getElem?_append_left (by omega)]
  exact flat_at artCells (size := 2) (fun _ => rfl) R j R[j] 1 _ (List.getElem?_eq_getElem hj) rfl (by omega)

set_option maxRecDepth 100000 in
set_option maxHeartbeats 8000000 in
theorem applied_any (S : List Art) (P : List Edit) (w : World) (vs vp : Value) (hS : Arts w w.heap.size vs S) (hP : Edits w w.heap.size vp P) (hok : okStat S = true) (hp : okPatch P = true) :
    Calls Tryz.prog 187 #[vs, vp] w (AppPost S P w) := by
  have hmf : ∀ (fn : Fn) (first cap : Array Value) (w : World), (Instr.makeFunc fn first cap).run Tryz.prog w = .ok (.func fn first cap) w := fun _ _ _ _ => rfl
  have HSS := Lib.hid hS
  have HG := Lib.hid (GoodA.of hok)
  have HPR := Lib.hid ((okPatch_iff P).1 hp)
  have HOKP := Lib.hid hp
  have hS8 := okStat_len hok
  have hP16 := okPatch_len hp
  have bW := (Below.refl w.heap.size w).alloc (Nat.le_refl _) (.cells #[] 141)
  have HS0 := Lib.hid (SlR.on hS (Pl.stays _) bW bW.size)
  have HB0 := Lib.hid bW
  have hown0 : (w.alloc (.cells #[] 141)).ownsRow w.heap.size 141 2 (.slice (some ⟨w.heap.size, 0, none⟩) 0 0) 0 [] := by simpa using World.ownsRow_made w #[] 0 (Nat.le_refl _) (Nat.zero_le _) rfl
  have HOWN0 := Lib.hid hown0
  obtain ⟨A, c, rfl, hc, hm, hel⟩ := hP
  unfold maxLen at hm
  have hlm : P.length ≤ 9223372036854775807 := by omega
  have HEL := Lib.hid hel
  obtain ⟨T, tc, rfl, _⟩ := hS
  obtain ⟨i0, hi, hz0, hz1, hz2⟩ := info_parts Tryz.infoA
  clear hel hok hp bW hown0
  go_enter Tryz.func187, Tryz.ntmps187
  go_wp2_with (at_builtin; refine wpList_append_slR artCells rfl _ _ 32 rfl w.heap.size 141 i0 (.agg #[.int .i64 0, .string ⟨#[]⟩]) 2 24 Tryz.underlying32 hi hz0 hz1 hz2 rfl (by decide) _ _ _ rfl HOWN0.out _ S _ rfl HS0.out (fun _ => rfl) (fun y u hu => art_one hu) ?c3 ?c4 HB0.out.size ?_)
  case c3 => unfold maxLen; omega
  case c4 => omega
  intro o1 w1 hown1 hgrow1 hnn1
  have HOWN1 : Hid (w1.ownsRow w.heap.size 141 2 o1 S.length (S.flatMap artCells)) := Lib.hid (by simpa using hown1)
  have HB1 : Hid (Below w.heap.size w w1) := Lib.hid (HB0.out.grown hgrow1 HB0.out.size (fun j hj => (HOWN0.out.lt j hj).1))
  have HN1 : Hid (o1 ≠ .slice none 0 0) := Lib.hid (by simpa using hnn1)
  clear hown1 hgrow1 hnn1
  go_wp2
  go_loopw [6, 16] (fun o i wr => ∃ (k : Nat) (R : List Art), i = .int .i64 (k : Int) ∧ k ≤ P.length ∧ wr.ownsRow w.heap.size 141 2 o R.length (R.flatMap artCells) ∧ o ≠ .slice none 0 0 ∧ OnWay S P k R ∧ Below w.heap.size w wr) (fun _ i _ => P.length - (RowKit.intOf i).toNat)
  case atStart => exact ⟨0, S, rfl, Nat.zero_le _, HOWN1.out, HN1.out, OnWay.start HG.out, HB1.out⟩
  case round =>
    obtain ⟨k, R, rfl, hk, hown, hnn, hway, hb⟩ := hrel
    obtain ⟨g, cap, rfl, hdc, hcm⟩ := own_some hown hnn
    unfold maxLen at hcm
    have HOWN := Lib.hid hown
    have HWAY := Lib.hid hway
    have HB := Lib.hid hb
    have hRl := hway.len
    have HGW := Lib.hid (hown.lt g rfl)
    clear hown hnn hway
    by_cases hlt : k < P.length
    · obtain ⟨b, off, rfl, hblt, hcell⟩ := HEL.out (by omega)
      have hget : P[k]? = some P[k] := List.getElem?_eq_getElem hlt
      obtain ⟨c0, c1, c2, c3⟩ := edits_at hcell hget
      have x0 := (hb.cell (p := ⟨b, off + k * 4, none⟩) hblt).trans c0
      have x1 := (hb.cell (p := ⟨b, off + k * 4 + 1, none⟩) hblt).trans c1
      have x2 := (hb.cell (p := ⟨b, off + k * 4 + 2, none⟩) hblt).trans c2
      have x3 := (hb.cell (p := ⟨b, off + k * 4 + 3, none⟩) hblt).trans c3
      have HGET := Lib.hid hget
      have HOE := Lib.hid (HPR.out.1 _ (List.getElem_mem hlt))
      have HBAD := Lib.hid (fits_bad (S := S) hlt)
      have HSTEP := Lib.hid (fun (R' : List Art) => HWAY.out.step (R' := R') hlt)
      have HRT := Lib.hid (rise_take HPR.out.2.1 hget)
      have HHAS := Lib.hid (has_id HPR.out.2.1 hget HWAY.out.bec)
      have HNO := Lib.hid (no_id HPR.out.2.1 hget HWAY.out.bec)
      clear hget hcell c0 c1 c2 c3 hb
      generalize P[k] = e at *
      go_upto_region 5 with (fail)
      obtain ⟨W, hW⟩ : ∃ W : World, W = wr.alloc (.cells #[.int .i64 e.kind, .int .i64 e.id, .string e.old, .string e.new] 162) := ⟨_, rfl⟩
      have bWr : Below wr.heap.size wr W := by rw [hW]; exact (Below.refl _ _).alloc (Nat.le_refl _) _
      have bW := HB.out.trans (bWr.mono HB.out.size)
      have y0 : W.cell? ⟨wr.heap.size, 0, none⟩ = some (.int .i64 e.kind) := by rw [hW]; simp [go_sem]
      have y1 : W.cell? ⟨wr.heap.size, 1, none⟩ = some (.int .i64 e.id) := by rw [hW]; simp [go_sem]
      have y2 : W.cell? ⟨wr.heap.size, 2, none⟩ = some (.string e.old) := by rw [hW]; simp [go_sem]
      have y3 : W.cell? ⟨wr.heap.size, 3, none⟩ = some (.string e.new) := by rw [hW]; simp [go_sem]
      rw [← hW]
      have z1 := fun x : Aft W => x.cell y1
      have z2 := fun x : Aft W => x.cell y2
      have HT : Hid (∀ x : Aft W, Calls Tryz.prog 194 #[.slice T S.length tc, .int .i64 e.id] x.val (RetB (.string (findA S e.id)) x.val)) := Lib.hid (fun x => textOf_any S e.id x.val _ (SlR.on HSS.out (Pl.stays _) (bW.trans (x.ok.mono bW.size)) (bW.trans (x.ok.mono bW.size)).size))
      clear hW x0 x1 x2 x3
      by_cases hfit : (findA S e.id).toList = e.old.toList
      · have e1 : ((findA S e.id).toList == e.old.toList) = true := by simp [hfit]
        have HFIT := Lib.hid hfit
        generalize findA S e.id = F at HT e1
        clear hfit
        refine wp_region_aft (by kernel_rfl) (by kernel_rfl) ?_
        repeat (go_big_quiet_step ((go_at_call 194; exact aft_b (HT.out _))))
        refine wpQuiet_nil ?_
        rintro _ ⟨y, rfl⟩
        have HBY := Lib.hid (bW.trans (y.ok.mono bW.size))
        have HOWNY := Lib.hid (own_below HOWN.out (bWr.trans (y.ok.mono bWr.size)))
        have u0 := y.cell y0
        have u1 := y.cell y1
        have u2 := y.cell y2
        have u3 := y.cell y3
        have HART := Lib.hid (article_any R e.id y.val _ (SlR.of_own artCells (fun _ => rfl) HOWNY.out))
        have hebw : w.heap.size ≤ wr.heap.size := HB.out.size
        clear y0 y1 y2 y3 z1 z2 HT e1 bW bWr
        have hkinds := okEdit_kinds HOE.out
        rcases hkinds.2.2 with ⟨hk1, ho1, hn1⟩ | ⟨hk1, ho1, hn1⟩ | ⟨hk1, ho1, hn1⟩
        · -- a new article
          have q2 : (e.kind == 2) = false := by simp [hk1]
          have q3 : (e.kind == 3) = false := by simp [hk1]
          have HA := Lib.hid (place_below (HNO.out HFIT.out (by rw [ho1, ByteArray.toList_eq])))
          have HAB := Lib.hid (place_above (q := e.id) HWAY.out.bec.good.rise)
          have HPL := Lib.hid (place_le e.id R)
          have HPI := Lib.hid (place_idx e.id R)
          have HWAYN : Hid (OnWay S P (k + 1) (R.take (placeA e.id R) ++ ⟨e.id, e.new⟩ :: R.drop (placeA e.id R))) := Lib.hid (HSTEP.out _ HFIT.out (Becomes.add (by rw [List.take_append_drop]; exact HWAY.out.bec) HRT.out.2 HOE.out hk1 HA.out HAB.out) (by simp; omega))
          generalize idxA (fun a => decide (a.id = e.id)) R = z0 at HART
          have hpl := HPL.out
          have hpi := HPI.out
          clear hkinds hk1 ho1 hn1
          go_wp2_with (fail)
          refine (HART.out).mono ?_
          rintro e' w2 ⟨rfl, hb2⟩
          have HB2 := Lib.hid (HBY.out.trans (hb2.mono HBY.out.size))
          have HOWN2 := Lib.hid (own_below HOWNY.out hb2)
          have heb : wr.heap.size < y.val.heap.size := World.block_lt_of_cell? y.val ⟨wr.heap.size, 0, none⟩ u0
          have v0 := (hb2.cell (p := ⟨wr.heap.size, 0, none⟩) heb).trans u0
          have v1 := (hb2.cell (p := ⟨wr.heap.size, 1, none⟩) heb).trans u1
          have v3 := (hb2.cell (p := ⟨wr.heap.size, 3, none⟩) heb).trans u3
          have heb2 : wr.heap.size < w2.heap.size := World.block_lt_of_cell? w2 ⟨wr.heap.size, 0, none⟩ v0
          have HIX := Lib.hid (indexA_any R w2 _ (SlR.of_own artCells (fun _ => rfl) HOWN2.out) 198 #[.pointer (some ⟨wr.heap.size, 0, none⟩)] (fun a => decide (e.id < a.id)) (isAbove_pred e.id wr.heap.size w2 heb2 v1) isAbove_enters)
          generalize idxA (fun a => decide (e.id < a.id)) R = z1 at HIX hpi
          generalize hpe : placeA e.id R = pl at hpl hpi HWAYN
          clear hb2 u0 u1 u2 u3 heb HPI HPL HA HAB hpe
          go_wp2_with (fail)
          refine (HIX.out).mono ?_
          rintro e' w3 ⟨rfl, hb3⟩
          have HB3 := Lib.hid (HB2.out.trans (hb3.mono HB2.out.size))
          have HOWN3 := Lib.hid (own_below HOWN2.out hb3)
          have x1 := (hb3.cell (p := ⟨wr.heap.size, 1, none⟩) heb2).trans v1
          have x3 := (hb3.cell (p := ⟨wr.heap.size, 3, none⟩) heb2).trans v3
          have hg3 : g < w3.heap.size := by
            obtain ⟨T', hBl, _⟩ := blk_of_own HOWN3.out
            exact hBl.lt
          have hsz3 := HB3.out.size
          have HINS := Lib.hid (insA_any R ⟨e.id, e.new⟩ pl w.heap.size g R.length cap w3.heap.size 1 (w3.alloc (.cells #[.int .i64 e.id, .string e.new] 141)) rfl hpl (by omega) (HOWN3.out.alloc _) (alloc_at w3 _) (by omega) (base_le hsz3))
          clear hb3 v0 v1 v3 heb2
          rcases hpi with ⟨hneg, hplr⟩ | hz
          · have hn0 : z1 < 0 := hneg
            subst hplr
            clear hneg hpl
            go_wp2_with (fail)
            refine (HINS.out).mono ?_
            rintro e' w4 ⟨v4, rfl, hown4, hnn4, ho4⟩
            have HOWN4 := Lib.hid hown4
            have HB4 := Lib.hid ((HB3.out.alloc hsz3 (.cells #[.int .i64 e.id, .string e.new] 141)).trans (only_below ho4 HGW.out.1 (base_le hsz3)))
            clear hown4 ho4
            go_wp2
            go_roundw
            case rel => exact ⟨k + 1, R.take R.length ++ ⟨e.id, e.new⟩ :: R.drop R.length, by go_num, by omega, (by rw [show (R.take R.length ++ (⟨e.id, e.new⟩ : Art) :: R.drop R.length).length = R.length + 1 by simp]; exact HOWN4.out), hnn4, HWAYN.out, HB4.out⟩
            case measure => simp [RowKit.intOf]; omega
          · subst hz
            have hn0 : ¬ ((pl : Int) < 0) := by omega
            go_wp2_with (fail)
            refine (HINS.out).mono ?_
            rintro e' w4 ⟨v4, rfl, hown4, hnn4, ho4⟩
            have HOWN4 := Lib.hid hown4
            have HB4 := Lib.hid ((HB3.out.alloc hsz3 (.cells #[.int .i64 e.id, .string e.new] 141)).trans (only_below ho4 HGW.out.1 (base_le hsz3)))
            clear hown4 ho4
            go_wp2
            go_roundw
            case rel => exact ⟨k + 1, R.take pl ++ ⟨e.id, e.new⟩ :: R.drop pl, by go_num, by omega, (by rw [show (R.take pl ++ (⟨e.id, e.new⟩ : Art) :: R.drop pl).length = R.length + 1 by simp; omega]; exact HOWN4.out), hnn4, HWAYN.out, HB4.out⟩
            case measure => simp [RowKit.intOf]; omega
        · -- an article goes
          have q2 : (e.kind == 2) = true := by simp [hk1]
          obtain ⟨j, hj, hz, hid⟩ := HHAS.out HFIT.out (sent_ne ho1)
          have HWAYN : Hid (OnWay S P (k + 1) (R.take j ++ R.drop (j + 1))) := Lib.hid (HSTEP.out _ HFIT.out (Becomes.drop (a := R[j]) (by rw [← cut_mid hj]; exact HWAY.out.bec) HRT.out.2 HOE.out hk1 hid) (by simp; omega))
          rw [hz] at HART
          have hj1 : (j : Int) ≤ 1000 := by omega
          clear hkinds hk1 ho1 hn1 hz hid
          go_wp2_with (fail)
          refine (HART.out).mono ?_
          rintro e' w2 ⟨rfl, hb2⟩
          have HB2 := Lib.hid (HBY.out.trans (hb2.mono HBY.out.size))
          have heb : wr.heap.size < y.val.heap.size := World.block_lt_of_cell? y.val ⟨wr.heap.size, 0, none⟩ u0
          have v0 := (hb2.cell (p := ⟨wr.heap.size, 0, none⟩) heb).trans u0
          have HDEL := Lib.hid (delA_any R j w.heap.size g R.length cap w2 rfl hj (by omega) (own_below HOWNY.out hb2))
          clear hb2 u0 u1 u2 u3 heb
          go_wp2_with (fail)
          refine (HDEL.out).mono ?_
          rintro e' w3 ⟨rfl, hown3, hg3⟩
          have HOWN3 := Lib.hid hown3
          have HB3 := Lib.hid (HB2.out.grown hg3 HB2.out.size (fun r hr => by injection hr with hr; subst hr; exact HGW.out.1))
          clear hown3 hg3
          go_wp2
          go_roundw
          case rel => exact ⟨k + 1, R.take j ++ R.drop (j + 1), by go_num, by omega, (by rw [show (R.take j ++ R.drop (j + 1)).length = R.length - 1 by simp; omega]; exact HOWN3.out), (by simp), HWAYN.out, HB3.out⟩
          case measure => simp [RowKit.intOf]; omega
        · -- an article turns
          have q2 : (e.kind == 2) = false := by simp [hk1]
          have q3 : (e.kind == 3) = true := by simp [hk1]
          obtain ⟨j, hj, hz, hid⟩ := HHAS.out HFIT.out (sent_ne ho1)
          have HWAYN : Hid (OnWay S P (k + 1) (R.take j ++ ⟨R[j].id, e.new⟩ :: R.drop (j + 1))) := Lib.hid (HSTEP.out _ HFIT.out (Becomes.turn (a := R[j]) (by rw [← cut_mid hj]; exact HWAY.out.bec) HRT.out.2 HOE.out hk1 hid) (by simp; omega))
          rw [hz] at HART
          have hj1 : (j : Int) ≤ 1000 := by omega
          have hjr : (j : Int) < (R.length : Int) := by omega
          clear hkinds hk1 ho1 hn1 hz hid
          go_wp2_with (fail)
          refine (HART.out).mono ?_
          rintro e' w2 ⟨rfl, hb2⟩
          have HB2 := Lib.hid (HBY.out.trans (hb2.mono HBY.out.size))
          have heb : wr.heap.size < y.val.heap.size := World.block_lt_of_cell? y.val ⟨wr.heap.size, 0, none⟩ u0
          have v0 := (hb2.cell (p := ⟨wr.heap.size, 0, none⟩) heb).trans u0
          have v3 := (hb2.cell (p := ⟨wr.heap.size, 3, none⟩) heb).trans u3
          have hown2 := own_below HOWNY.out hb2
          obtain ⟨p0, f0⟩ := own_at rfl hj hown2
          have HOWN3 := Lib.hid (own_turn' e.new rfl hj hown2)
          have hgw2 := HGW.out.1
          have HB3 := Lib.hid (HB2.out.setCell (p := ⟨g, j * 2 + 1, none⟩) hgw2 (.string e.new))
          clear hb2 u0 u1 u2 u3 heb hown2
          go_wp2
          go_roundw
          case rel => exact ⟨k + 1, R.take j ++ ⟨R[j].id, e.new⟩ :: R.drop (j + 1), by go_num, by omega, (by rw [show (R.take j ++ (⟨R[j].id, e.new⟩ : Art) :: R.drop (j + 1)).length = R.length by simp; omega]; exact HOWN3.out), (by simp), HWAYN.out, HB3.out⟩
          case measure => simp [RowKit.intOf]; omega
      · have e1 : ((findA S e.id).toList == e.old.toList) = false := by simp [hfit]
        have HN := Lib.hid (applyO_no (HBAD.out hfit))
        generalize findA S e.id = F at HT e1
        clear hfit
        refine wp_region_aft (by kernel_rfl) (by kernel_rfl) ?_
        repeat (go_big_quiet_step ((go_at_call 194; exact aft_b (HT.out _))))
        refine wpQuiet_nil ?_
        rintro _ ⟨y, rfl⟩
        have HBY := Lib.hid (bW.trans (y.ok.mono bW.size))
        clear y0 y1 y2 y3 z1 z2 HT e1 bW bWr
        go_wp2
        go_ret2
        exact ⟨_, by rw [HN.out]; rfl, fun R' hR' => (by rw [HN.out] at hR'; cases hR'), ⟨_, _, _, rfl⟩, HBY.out⟩
    · have hge : ¬ (k : Int) < (P.length : Int) := by omega
      obtain rfl : k = P.length := by omega
      have HD := Lib.hid (HWAY.out.done HG.out HOKP.out)
      have HOL : Hid (OwnL artCells R w.heap.size wr (.slice (some ⟨g, 0, none⟩) R.length cap)) := Lib.hid (OwnL.of_own artCells (size := 2) (fun _ => rfl) HOWN.out)
      clear hlt hk
      by_cases h8 : R.length ≤ 8
      · have e8 : decide ((R.length : Int) ≤ 8) = true := by simp; omega
        rw [if_pos h8] at HD
        clear h8
        go_wp2
        go_ret2
        exact ⟨_, by rw [HD.out]; rfl, fun R' hR' => (by rw [HD.out] at hR'; injection hR' with hR'; subst hR'; exact HOL.out), ⟨_, _, _, rfl⟩, HB.out⟩
      · have e8 : decide ((R.length : Int) ≤ 8) = false := by simp; omega
        rw [if_neg h8] at HD
        clear h8
        go_wp2
        go_ret2
        exact ⟨_, by rw [HD.out]; rfl, fun R' hR' => (by rw [HD.out] at hR'; cases hR'), ⟨_, _, _, rfl⟩, HB.out⟩
end Go.Proofs.YtnandbammmcncaaGreat

namespace Go.Proofs.YtnandbammmcncaaGreat
open Go.RowKit Go.Lib

theorem ba_ext {a b : ByteArray} (h : a.toList = b.toList) : a = b := by rw [← mk_toList a, ← mk_toList b, h]
theorem edit_ext {x y : Edit} (h1 : x.kind = y.kind) (h2 : x.id = y.id) (h3 : x.old.toList = y.old.toList) (h4 : x.new.toList = y.new.toList) : x = y := by
  obtain ⟨k, i, t, u⟩ := x
  obtain ⟨l, j, t', u'⟩ := y
  simp only at h1 h2 h3 h4
  rw [h1, h2, ba_ext h3, ba_ext h4]
theorem sizesOk_of {p : List Edit} (h : okPatch p = true) : SizesOk p := fun e he => by
  obtain ⟨_, _, h1, h2⟩ := okEdit_facts (((okPatch_iff p).1 h).1 e he)
  have e1 : e.old.toList.length = e.old.size := by rw [ByteArray.toList_eq]; simp
  have e2 : e.new.toList.length = e.new.size := by rw [ByteArray.toList_eq]; simp
  unfold SizeOk maxLen
  omega
def SameLoop {α : Type} (xs ys : List α) (w : World) (e : Ending) (w' : World) : Prop := ∃ r : Bool, e = .returned (.bool r) ∧ (r = true ↔ xs = ys) ∧ Below w.heap.size w w'
end Go.Proofs.YtnandbammmcncaaGreat

namespace Go.Proofs.YtnandbammmcncaaGreat
open Go.RowKit Go.Lib

/-- A statute that is being drawn. -/
structure Drawn (L : List Art) (d : Int) : Prop where
  rise : RiseA L
  all : ∀ a ∈ L, 1 ≤ a.id ∧ a.id ≤ d ∧ okSent a.text.toList = true
  d0 : 0 ≤ d
  d1 : d ≤ 2 * L.length
theorem Drawn.nil : Drawn [] 0 := ⟨List.Pairwise.nil, fun a h => (by cases h), by omega, by simp⟩
theorem Drawn.ok {L : List Art} {d : Int} (h : Drawn L d) (h8 : L.length ≤ 8) : okStat L = true := by
  rw [okStat_iff]
  refine ⟨fun a ha => ?_, h.rise, h8⟩
  obtain ⟨h1, h2, h3⟩ := h.all a ha
  have := h.d1
  unfold okArt
  rw [inB_true h1 (by omega), h3]
  rfl
theorem Drawn.last {L : List Art} {a : Art} {d : Int} (h : Drawn (L ++ [a]) d) (h8 : (L ++ [a]).length ≤ 8) : okStat (L ++ [⟨99, a.text⟩]) = true := by
  rw [okStat_iff]
  have hr := h.rise
  have hd := h.d1
  unfold RiseA at hr
  rw [List.pairwise_append] at hr
  refine ⟨fun x hx => ?_, ?_, by simpa using h8⟩
  · rcases List.mem_append.1 hx with hx | hx
    · obtain ⟨h1, h2, h3⟩ := h.all x (List.mem_append_left _ hx)
      unfold okArt
      rw [inB_true h1 (by omega), h3]
      rfl
    · rw [List.mem_singleton] at hx
      subst hx
      obtain ⟨_, _, h3⟩ := h.all a (by simp)
      unfold okArt
      rw [h3]
      rfl
  · unfold RiseA
    rw [List.pairwise_append]
    refine ⟨hr.1, by simp, fun x hx y hy => ?_⟩
    rw [List.mem_singleton] at hy
    subst hy
    obtain ⟨h1, h2, h3⟩ := h.all x (List.mem_append_left _ hx)
    show x.id < 99
    omega
end Go.Proofs.YtnandbammmcncaaGreat

namespace Go.Proofs.YtnandbammmcncaaGreat
open Go.RowKit Go.Lib

/-- A patch that is being drawn: what is below q. -/
structure DrawnE (P : List Edit) (q : Nat) : Prop where
  rise : RiseE P
  all : ∀ a ∈ P, okEdit a = true ∧ a.id < q
  len : P.length + 1 ≤ q
theorem DrawnE.nil : DrawnE [] 1 := ⟨List.Pairwise.nil, fun a h => (by cases h), by simp⟩
theorem DrawnE.skip {P : List Edit} {q : Nat} (h : DrawnE P q) : DrawnE P (q + 1) := ⟨h.rise, fun a ha => ⟨(h.all a ha).1, by have := (h.all a ha).2; omega⟩, by have := h.len; omega⟩
theorem DrawnE.ok {P : List Edit} (h : DrawnE P 17) : okPatch P = true := by
  rw [okPatch_iff]
  exact ⟨fun a ha => (h.all a ha).1, h.rise, by have := h.len; omega⟩
theorem new_at2 {w : World} {o : Obj} {cs : List Value} {T : TypeId} {j : Nat} {u : Value} (h : cs[j]? = some u) : ((w.alloc o).alloc (.cells cs.toArray T)).cell? ((⟨w.heap.size + 1, 0, none⟩ : Addr).add j) = some u := by
  have h := new_at (w := w.alloc o) (T := T) h
  rwa [show (w.alloc o).heap.size = w.heap.size + 1 by simp] at h

end Go.Proofs.YtnandbammmcncaaGreat

namespace Go.Proofs.YtnandbammmcncaaGreat
open Go.RowKit Go.Lib

def sameB (x y : Edit) : Bool := x.kind == y.kind && x.id == y.id && x.old.toList == y.old.toList && x.new.toList == y.new.toList
theorem sameB_iff {x y : Edit} : sameB x y = true ↔ x = y := by
  unfold sameB
  constructor
  · intro h
    simp only [Bool.and_eq_true, beq_iff_eq] at h
    exact edit_ext h.1.1.1 h.1.1.2 h.1.2 h.2
  · rintro rfl
    simp
def confB (Q : List Edit) (a : Edit) : Bool := hasE Q a.id && !(sameB a (editOf Q a.id))
def confL (P Q : List Edit) : List Int := (P.filter (confB Q)).map (·.id)
theorem int_one' (z : Int) {u : Value} (h : u ∈ intCells z) : u.oneCell' = true := by
  unfold intCells at h
  rw [List.mem_singleton] at h
  subst h
  rfl

end Go.Proofs.YtnandbammmcncaaGreat

namespace Go.Proofs.YtnandbammmcncaaGreat
open Go.RowKit Go.Lib

def memB (L : List Edit) (x : Edit) : Bool := L.any (sameB x)
theorem memB_iff {L : List Edit} {x : Edit} : memB L x = true ↔ x ∈ L := by
  unfold memB
  rw [List.any_eq_true]
  constructor
  · rintro ⟨y, hy, h⟩
    rw [sameB_iff.1 h]
    exact hy
  · intro h
    exact ⟨x, h, sameB_iff.2 rfl⟩

/-- A test on edits that holds while a row is rewritten. -/
def PredO (g : Nat) (lb : Array Value) (p : Edit → Bool) (row : Nat) (w : World) : Prop :=
  ∀ (W : World) (x : Edit), Only row w W → Calls Tryz.prog g (#[.agg #[.int .i64 x.kind, .int .i64 x.id, .string x.old, .string x.new]] ++ lb) W (RetB (.bool (p x)) W)

end Go.Proofs.YtnandbammmcncaaGreat

namespace Go.Proofs.YtnandbammmcncaaGreat
open Go.RowKit Go.Lib

/-- A row of edits that is being thinned: its first m are what is kept of the first jj. -/
structure Thin (p : Edit → Bool) (L : List Edit) (jj m : Nat) (M : List Edit) : Prop where
  len : M.length = L.length
  kept : M.take m = (L.take jj).filter (fun x => !p x)
  rest : M.drop jj = L.drop jj
  lt : m < jj
  le : jj ≤ L.length
theorem Thin.start {p : Edit → Bool} {L : List Edit} {k : Nat} (hk : k < L.length) (hp : p L[k] = true) (hn : ∀ j (hj : j < k), p (L[j]'(by omega)) = false) : Thin p L (k + 1) k L where
  len := rfl
  kept := by
    rw [List.take_succ_eq_append_getElem hk, List.filter_append]
    have h1 : (L.take k).filter (fun x => !p x) = L.take k := List.filter_eq_self.2 (fun a ha => by
      obtain ⟨j, hj, rfl⟩ := List.mem_iff_getElem.1 ha
      rw [List.length_take] at hj
      rw [List.getElem_take, hn j (by omega)]
      rfl)
    rw [h1]
    simp [hp]
  rest := rfl
  lt := by omega
  le := hk
theorem Thin.skip {p : Edit → Bool} {L M : List Edit} {jj m : Nat} (h : Thin p L jj m M) (hj : jj < L.length) (hp : p L[jj] = true) : Thin p L (jj + 1) m M where
  len := h.len
  kept := by rw [List.take_succ_eq_append_getElem hj, List.filter_append, h.kept]; simp [hp]
  rest := by rw [← List.drop_drop, ← List.drop_drop, h.rest]
  lt := by have := h.lt; omega
  le := hj
theorem Thin.put {p : Edit → Bool} {L M : List Edit} {jj m : Nat} (h : Thin p L jj m M) (hj : jj < L.length) (hp : p L[jj] = false) : Thin p L (jj + 1) (m + 1) (M.set m L[jj]) where
  len := by rw [List.length_set]; exact h.len
  kept := by
    have hl := h.lt
    have hM := h.len
    rw [List.take_succ_eq_append_getElem hj, List.filter_append, ← h.kept, List.take_succ_eq_append_getElem (by rw [List.length_set]; omega), List.getElem_set_self, List.take_set_of_le (Nat.le_refl _)]
    simp [hp]
  rest := by
    have hl := h.lt
    rw [List.drop_set_of_lt (by omega), ← List.drop_drop, ← List.drop_drop, h.rest]
  lt := by have := h.lt; omega
  le := hj
def DelFPost (p : Edit → Bool) (L : List Edit) (base g cap : Nat) (w : World) (e : Ending) (w' : World) : Prop :=
  ∃ m, m = (L.filter (fun x => !p x)).length ∧ e = .returned (.slice (some ⟨g, 0, none⟩) m cap) ∧ w'.ownsRow base 162 4 (.slice (some ⟨g, 0, none⟩) m cap) m ((L.filter (fun x => !p x)).flatMap editCells) ∧ Only g w w'

end Go.Proofs.YtnandbammmcncaaGreat

namespace Go.Proofs.YtnandbammmcncaaGreat
end Go.Proofs.YtnandbammmcncaaGreat

namespace Go.Proofs.YtnandbammmcncaaGreat
end Go.Proofs.YtnandbammmcncaaGreat

namespace Go.Proofs.YtnandbammmcncaaGreat
open Go.RowKit Go.Lib

def restL (P Q : List Edit) : List Edit := Q.filter (fun e => !memB P e)
def rebO (P Q : List Edit) : Option (List Edit) := if confL P Q = [] then some (restL P Q) else none

/-- R is what P and Q merge to. -/
structure Merged (P Q R : List Edit) : Prop where
  rise : RiseE R
  mem : ∀ e, e ∈ R ↔ e ∈ P ∨ e ∈ Q
  len : R.length = P.length + (restL P Q).length
theorem noconf {P Q : List Edit} (hQ : RiseE Q) (h : confL P Q = []) {a b : Edit} (ha : a ∈ P) (hb : b ∈ Q) (hi : a.id = b.id) : a = b := by
  have hf : confB Q a = false := by
    rw [Bool.eq_false_iff]
    intro hc
    have : a.id ∈ confL P Q := List.mem_map.2 ⟨a, List.mem_filter.2 ⟨ha, hc⟩, rfl⟩
    rw [h] at this
    cases this
  unfold confB at hf
  have hh : hasE Q a.id = true := List.any_eq_true.2 ⟨b, hb, by simp [hi]⟩
  have he : editOf Q a.id = b := by rw [hi]; exact editOf_mem hQ hb
  rw [hh, he, Bool.true_and, Bool.not_eq_false'] at hf
  exact sameB_iff.1 hf
theorem Merged.of {P Q R : List Edit} (hP : RiseE P) (hQ : RiseE Q) (hc : confL P Q = []) (hp : R.Perm (P ++ restL P Q)) (hs : R.Pairwise (fun a b => a.id ≤ b.id)) : Merged P Q R where
  rise := by
    have hne : (P ++ restL P Q).Pairwise (fun a b => a.id ≠ b.id) := by
      rw [List.pairwise_append]
      refine ⟨hP.imp (fun h => by omega), (hQ.sublist (List.filter_sublist)).imp (fun h => by omega), fun a ha b hb => ?_⟩
      obtain ⟨hbQ, hbn⟩ := List.mem_filter.1 hb
      intro hi
      have := noconf hQ hc ha hbQ hi
      rw [← this, memB_iff.2 ha] at hbn
      cases hbn
    have hne2 : R.Pairwise (fun a b => a.id ≠ b.id) := (hp.pairwise_iff (fun h => fun e => h e.symm)).2 hne
    exact (hs.and hne2).imp (fun ⟨h1, h2⟩ => by omega)
  mem := fun e => by
    rw [hp.mem_iff, List.mem_append]
    constructor
    · rintro (h | h)
      · exact .inl h
      · exact .inr (List.mem_filter.1 h).1
    · rintro (h | h)
      · exact .inl h
      · by_cases hm : e ∈ P
        · exact .inl hm
        · refine .inr (List.mem_filter.2 ⟨h, ?_⟩)
          have : memB P e = false := by rw [Bool.eq_false_iff]; exact fun k => hm (memB_iff.1 k)
          rw [this]
          rfl
  len := by rw [hp.length_eq, List.length_append]

def MergePost (P Q : List Edit) (w : World) (e : Ending) (w' : World) : Prop :=
  ∃ v, ((confL P Q = [] ∧ P.length + (restL P Q).length ≤ 16 ∧ ∃ R, Merged P Q R ∧ e = .returned (.tuple #[v, .bool true]) ∧ OwnL editCells R w.heap.size w' v) ∨
    (¬ (confL P Q = [] ∧ P.length + (restL P Q).length ≤ 16) ∧ e = .returned (.tuple #[v, .bool false]) ∧ v = .slice none 0 0)) ∧ Below w.heap.size w w'

end Go.Proofs.YtnandbammmcncaaGreat

namespace Go.Proofs.YtnandbammmcncaaGreat
open Go.RowKit Go.Lib

structure Acta where
  beg : Int
  fin : Int
  pat : List Edit
def okActa (a : Acta) : Bool := inB a.beg 0 1000 && inB a.fin 0 1000 && decide (a.beg < a.fin) && okPatch a.pat
def begAt (L : List Acta) (k : Nat) : Int := ((L[k]?).map (·.beg)).getD 0
def actAt (L : List Acta) (k : Nat) : Bool := ((L[k]?).map okActa).getD true && (decide (k = 0) || decide (begAt L (k - 1) ≤ begAt L k))
def okActs (L : List Acta) : Bool := allLt L.length (actAt L) && decide (L.length ≤ 8)
theorem actAt_bad {L : List Acta} {k : Nat} {a : Acta} (h : L[k]? = some a) (ho : okActa a = false) : actAt L k = false := by
  unfold actAt
  rw [h]
  simp [ho]
theorem actAt_zero {L : List Acta} {k : Nat} {a : Acta} (hk : k = 0) (h : L[k]? = some a) (ho : okActa a = true) : actAt L k = true := by
  subst hk
  unfold actAt
  rw [h]
  simp [ho]
theorem actAt_succ {L : List Acta} {m : Nat} {d a : Acta} (hd : L[m]? = some d) (h : L[m + 1]? = some a) (ho : okActa a = true) : actAt L (m + 1) = decide (d.beg ≤ a.beg) := by
  unfold actAt begAt
  rw [h]
  simp [ho, hd]
theorem okActs_bad {L : List Acta} {k : Nat} (hk : k < L.length) (h : actAt L k = false) : okActs L = false := by
  unfold okActs
  rw [allLt_false hk h]
  rfl
theorem okActs_at {L : List Acta} (h : okActs L = true) {k : Nat} {a : Acta} (hk : L[k]? = some a) : okActa a = true := by
  unfold okActs at h
  rw [Bool.and_eq_true, allLt_true] at h
  have := h.1 k (List.getElem?_eq_some_iff.1 hk).1
  unfold actAt at this
  rw [hk, Bool.and_eq_true] at this
  exact this.1
theorem okActs_step {L : List Acta} (h : okActs L = true) {m : Nat} {d a : Acta} (hd : L[m]? = some d) (ha : L[m + 1]? = some a) : d.beg ≤ a.beg := by
  have ho := okActs_at h ha
  unfold okActs at h
  rw [Bool.and_eq_true, allLt_true] at h
  have := h.1 (m + 1) (List.getElem?_eq_some_iff.1 ha).1
  rw [actAt_succ hd ha ho] at this
  exact of_decide_eq_true this
theorem okActs_len {L : List Acta} (h : okActs L = true) : L.length ≤ 8 := by
  unfold okActs at h
  rw [Bool.and_eq_true] at h
  exact of_decide_eq_true h.2
structure ActaOk (a : Acta) : Prop where
  b0 : 0 ≤ a.beg
  b1 : a.beg ≤ 1000
  f0 : 0 ≤ a.fin
  f1 : a.fin ≤ 1000
  lt : a.beg < a.fin
  pat : okPatch a.pat = true
theorem okActa_iff {a : Acta} : okActa a = true ↔ ActaOk a := by
  unfold okActa
  rw [Bool.and_eq_true, Bool.and_eq_true, Bool.and_eq_true, inB_iff, inB_iff]
  constructor
  · rintro ⟨⟨⟨⟨a1, a2⟩, a3, a4⟩, a5⟩, a6⟩
    exact ⟨a1, a2, a3, a4, of_decide_eq_true a5, a6⟩
  · rintro ⟨a1, a2, a3, a4, a5, a6⟩
    exact ⟨⟨⟨⟨a1, a2⟩, a3, a4⟩, decide_eq_true a5⟩, a6⟩

def inF (day : Int) (a : Acta) : Bool := decide (a.beg ≤ day) && decide (day < a.fin)
/-- The first k acts' numbers that are in force on a day. -/
def forceI (L : List Acta) (day : Int) : List Int := ((List.range L.length).filter (fun k => ((L[k]?).map (inF day)).getD false)).map (fun n : Nat => (n : Int))
def forceK (L : List Acta) (day : Int) (k : Nat) : List Int := ((List.range k).filter (fun k => ((L[k]?).map (inF day)).getD false)).map (fun n : Nat => (n : Int))
theorem forceK_yes {L : List Acta} {day : Int} {k : Nat} {a : Acta} (h : L[k]? = some a) (hf : inF day a = true) : forceK L day (k + 1) = forceK L day k ++ [(k : Int)] := by
  unfold forceK
  rw [List.range_succ, List.filter_append, List.map_append]
  simp [h, hf]
theorem forceK_no {L : List Acta} {day : Int} {k : Nat} {a : Acta} (h : L[k]? = some a) (hf : inF day a = false) : forceK L day (k + 1) = forceK L day k := by
  unfold forceK
  rw [List.range_succ, List.filter_append, List.map_append]
  simp [h, hf]
theorem forceK_len (L : List Acta) (day : Int) (k : Nat) : (forceK L day k).length ≤ k := by
  unfold forceK
  rw [List.length_map]
  exact Nat.le_trans (List.length_filter_le _ _) (by simp)
theorem forceI_at {L : List Acta} {day : Int} {j : Nat} {i : Int} (h : (forceI L day)[j]? = some i) : ∃ k : Nat, i = (k : Int) ∧ k < L.length := by
  have hm := List.mem_of_getElem? h
  unfold forceI at hm
  obtain ⟨k, hk, rfl⟩ := List.mem_map.1 hm
  exact ⟨k, rfl, List.mem_range.1 (List.mem_filter.1 hk).1⟩
/-- One step to the statute of a day. -/
def stepO (L : List Acta) (o : Option (List Art)) (i : Int) : Option (List Art) := o.bind (fun S => applyO S (((L[i.toNat]?).map (·.pat)).getD []))
def onK (base : List Art) (L : List Acta) (day : Int) (k : Nat) : Option (List Art) := ((forceI L day).take k).foldl (stepO L) (some base)
/-- The statute of a day. -/
def onO (base : List Art) (L : List Acta) (day : Int) : Option (List Art) := (forceI L day).foldl (stepO L) (some base)
theorem onK_succ {base : List Art} {L : List Acta} {day : Int} {k : Nat} {i : Int} (h : (forceI L day)[k]? = some i) : onK base L day (k + 1) = stepO L (onK base L day k) i := by
  obtain ⟨h1, h2⟩ := List.getElem?_eq_some_iff.1 h
  unfold onK
  rw [List.take_succ_eq_append_getElem h1, List.foldl_append, h2]
  rfl
theorem onK_all {base : List Art} {L : List Acta} {day : Int} {k : Nat} (h : (forceI L day).length ≤ k) : onK base L day k = onO base L day := by
  unfold onK onO
  rw [List.take_of_length_le h]
theorem stepO_none (L : List Acta) (l : List Int) : l.foldl (stepO L) none = none := by
  induction l with
  | nil => rfl
  | cons a l ih => exact ih
theorem onK_none {base : List Art} {L : List Acta} {day : Int} {k : Nat} (h : onK base L day k = none) : onO base L day = none := by
  unfold onO
  rw [← List.take_append_drop k (forceI L day), List.foldl_append]
  have : ((forceI L day).take k).foldl (stepO L) (some base) = none := h
  rw [this, stepO_none]

/-- An act with the value of its patch. -/
structure VAct where
  a : Acta
  v : Value
def vCells (x : VAct) : List Value := [.int .i64 x.a.beg, .int .i64 x.a.fin, x.v]
def Acts (w : World) (B : Nat) (v : Value) (ls : List Acta) : Prop :=
  ∃ L : List VAct, L.map (·.a) = ls ∧ SlR (Pl vCells) 3 w B v L ∧ ∀ x ∈ L, Edits w B x.v x.a.pat
theorem Acts.on {w w' : World} {B B' : Nat} {v : Value} {ls : List Acta} (h : Acts w B v ls) (hb : Below B w w') (hB : B ≤ B') : Acts w' B' v ls := by
  obtain ⟨L, h1, h2, h3⟩ := h
  exact ⟨L, h1, SlR.on h2 (Pl.stays _) hb hB, fun x hx => SlR.on (h3 x hx) (Pl.stays _) hb hB⟩
theorem acts_at {w : World} {B : Nat} {v : Value} {ls : List Acta} (h : Acts w B v ls) : ∃ (A : Option Addr) (c : Nat), v = .slice A ls.length c ∧ ls.length ≤ c ∧ c ≤ maxLen ∧ (0 < ls.length → ∃ b off, A = some ⟨b, off, none⟩ ∧ b < B ∧
    ∀ (k : Nat) (a : Acta), ls[k]? = some a → ∃ pv, w.cell? ⟨b, off + k * 3, none⟩ = some (.int .i64 a.beg) ∧ w.cell? ⟨b, off + k * 3 + 1, none⟩ = some (.int .i64 a.fin) ∧ w.cell? ⟨b, off + k * 3 + 2, none⟩ = some pv ∧ Edits w B pv a.pat) := by
  obtain ⟨L, rfl, ⟨A, c, rfl, h1, h2, h3⟩, h4⟩ := h
  rw [List.length_map]
  refine ⟨A, c, rfl, h1, h2, fun h0 => ?_⟩
  obtain ⟨b, off, rfl, hb, hk⟩ := h3 h0
  refine ⟨b, off, rfl, hb, fun k a ha => ?_⟩
  rw [List.getElem?_map] at ha
  cases hx : L[k]? with
  | none => rw [hx] at ha; cases ha
  | some x =>
    rw [hx] at ha
    injection ha with ha
    subst ha
    obtain ⟨us, hl, hp, hc⟩ := hk k x hx
    have hp : us = vCells x := hp
    subst hp
    exact ⟨x.v, hc 0 _ rfl, hc 1 _ rfl, hc 2 _ rfl, h4 x (List.mem_of_getElem? hx)⟩

theorem day1_any (n : Int) (w : World) : Calls Tryz.prog 104 #[.int .i64 n] w (RetQ (.bool (inB n 0 999)) w) := by
  have H := Lib.hid (in1_any n 0 999 w)
  generalize inB n 0 999 = r at H ⊢
  go_enter Tryz.func104, Tryz.ntmps104
  go_wp2_with (fail)
  refine (H.out).mono ?_
  rintro e w1 ⟨rfl, m, rfl⟩
  go_wp2
  go_ret
  exact ⟨rfl, m, rfl⟩
theorem day2_any (n : Int) (w : World) : Calls Tryz.prog 133 #[.int .i64 n] w (RetQ (.bool (inB n 0 999)) w) := by
  have H := Lib.hid (in2_any n 0 999 w)
  generalize inB n 0 999 = r at H ⊢
  go_enter Tryz.func133, Tryz.ntmps133
  go_wp2_with (fail)
  refine (H.out).mono ?_
  rintro e w1 ⟨rfl, m, rfl⟩
  go_wp2
  go_ret
  exact ⟨rfl, m, rfl⟩

set_option maxRecDepth 100000 in
set_option maxHeartbeats 4000000 in
theorem force1_any (ls : List Acta) (day : Int) (w : World) (v : Value) (h : Acts w w.heap.size v ls) (hl : ls.length ≤ 1000) :
    Calls Tryz.prog 175 #[v, .int .i64 day] w (RetOwn intCells (forceI ls day) w) := by
  obtain ⟨A, c, rfl, hc, hm, hel⟩ := acts_at h
  have HEL := Lib.hid hel
  clear hel h
  obtain ⟨i0, hi, hz0, hz1, hz2⟩ := info_parts Tryz.infoI
  have hown0 : (w.alloc (.cells #[] 2)).ownsRow w.heap.size 2 1 (.slice (some ⟨w.heap.size, 0, none⟩) 0 0) 0 [] := by simpa using World.ownsRow_made w #[] 0 (Nat.le_refl _) (Nat.zero_le _) rfl
  have HOWN0 := Lib.hid hown0
  have HB0 : Hid (Below w.heap.size w (w.alloc (.cells #[] 2))) := Lib.hid ((Below.refl _ _).alloc (Nat.le_refl _) _)
  unfold RetOwn
  clear hown0
  go_enter Tryz.func175, Tryz.ntmps175
  go_wp2
  go_loopw [5, 6] (fun o i wr => ∃ (k : Nat), i = .int .i64 (k : Int) ∧ k ≤ ls.length ∧ wr.ownsRow w.heap.size 2 1 o (forceK ls day k).length ((forceK ls day k).flatMap intCells) ∧ o ≠ .slice none 0 0 ∧ Below w.heap.size w wr) (fun _ i _ => ls.length - (RowKit.intOf i).toNat)
  case atStart => exact ⟨0, rfl, Nat.zero_le _, HOWN0.out, by simp, HB0.out⟩
  case round =>
    obtain ⟨k, rfl, hk, hown, hnn, hb⟩ := hrel
    obtain ⟨g, cap, rfl, hdc, hcm⟩ := own_some hown hnn
    unfold maxLen at hcm
    have HOWN := Lib.hid hown
    have HB := Lib.hid hb
    have hfl := forceK_len ls day k
    clear hown hnn
    by_cases hlt : k < ls.length
    · obtain ⟨b, off, rfl, hblt, hcell⟩ := HEL.out (by omega)
      have hget : ls[k]? = some ls[k] := List.getElem?_eq_getElem hlt
      obtain ⟨pv, c0, c1, _, _⟩ := hcell k _ hget
      have x0 := (hb.cell (p := ⟨b, off + k * 3, none⟩) hblt).trans c0
      have x1 := (hb.cell (p := ⟨b, off + k * 3 + 1, none⟩) hblt).trans c1
      have HY := Lib.hid (fun h => forceK_yes (day := day) hget h)
      have HN := Lib.hid (fun h => forceK_no (day := day) hget h)
      have HIN : Hid (inF day ls[k] = (decide (ls[k].beg ≤ day) && decide (day < ls[k].fin))) := Lib.hid rfl
      generalize forceK ls day k = Z at *
      clear hcell c0 c1 hget hb
      generalize ls[k] = a at *
      by_cases h1 : a.beg ≤ day
      · by_cases h2 : day < a.fin
        · replace HY := Lib.hid (HY.out (by rw [HIN.out]; simp [h1, h2]))
          clear HN
          go_wp2_with (at_builtin; refine wpList_append_own _ rfl _ _ 29 rfl w.heap.size 2 i0 (.int .i64 0) 1 8 Tryz.underlying29 hi hz0 hz1 hz2 rfl (by decide) _ _ _ rfl (HOWN.out.alloc _) ⟨wr.heap.size, 0, none⟩ 1 1 (intCells (k : Int)) rfl rfl (cell_one_new _ _ _) (fun u hu => int_one' _ hu) ?c3 ?c4 (by have := HB.out.size; simp; omega) ?_)
          case c3 => unfold maxLen; omega
          case c4 => omega
          · intro v' w9 hown' hgrow hiff
            have hnn' : v' ≠ .slice none 0 0 := by simpa using hiff
            have hb9 := (HB.out.alloc HB.out.size (.cells #[.int .i64 (k : Int)] 2)).grown hgrow (by have := HB.out.size; simp; omega) (fun j hj => (HOWN.out.lt j hj).1)
            clear hgrow hiff
            go_wp2
            go_roundw
            case rel => exact ⟨k + 1, by go_num, by omega, by rw [HY.out, flat_snoc, List.length_append]; exact hown', hnn', hb9⟩
            case measure => simp [RowKit.intOf]; omega
        · replace HN := Lib.hid (HN.out (by rw [HIN.out]; simp [h2]))
          go_wp2
          go_roundw
          case rel => exact ⟨k + 1, by go_num, by omega, by rw [HN.out]; exact HOWN.out, by simp, HB.out⟩
          case measure => simp [RowKit.intOf]; omega
      · replace HN := Lib.hid (HN.out (by rw [HIN.out]; simp [h1]))
        go_wp2
        go_roundw
        case rel => exact ⟨k + 1, by go_num, by omega, by rw [HN.out]; exact HOWN.out, by simp, HB.out⟩
        case measure => simp [RowKit.intOf]; omega
    · have hge : ¬ (k : Int) < (ls.length : Int) := by omega
      have hk' : k = ls.length := by omega
      have HFIN : Hid (forceK ls day k = forceI ls day) := Lib.hid (by rw [hk']; rfl)
      have HOL : Hid (OwnL intCells (forceK ls day k) w.heap.size wr (.slice (some ⟨g, 0, none⟩) (forceK ls day k).length cap)) := Lib.hid (OwnL.of_own intCells (size := 1) (fun _ => rfl) HOWN.out)
      clear hk'
      go_wp2
      go_ret
      exact ⟨_, rfl, by rw [← HFIN.out]; exact HOL.out, HB.out⟩
end Go.Proofs.YtnandbammmcncaaGreat

namespace Go.Proofs.YtnandbammmcncaaGreat
open Go.RowKit Go.Lib

set_option maxRecDepth 100000 in
set_option maxHeartbeats 4000000 in
theorem force2_any (ls : List Acta) (day : Int) (w : World) (v : Value) (h : Acts w w.heap.size v ls) (hl : ls.length ≤ 1000) :
    Calls Tryz.prog 186 #[v, .int .i64 day] w (RetOwn intCells (forceI ls day) w) := by
  obtain ⟨A, c, rfl, hc, hm, hel⟩ := acts_at h
  have HEL := Lib.hid hel
  clear hel h
  obtain ⟨i0, hi, hz0, hz1, hz2⟩ := info_parts Tryz.infoI
  have hown0 : (w.alloc (.cells #[] 2)).ownsRow w.heap.size 2 1 (.slice (some ⟨w.heap.size, 0, none⟩) 0 0) 0 [] := by simpa using World.ownsRow_made w #[] 0 (Nat.le_refl _) (Nat.zero_le _) rfl
  have HOWN0 := Lib.hid hown0
  have HB0 : Hid (Below w.heap.size w (w.alloc (.cells #[] 2))) := Lib.hid ((Below.refl _ _).alloc (Nat.le_refl _) _)
  unfold RetOwn
  clear hown0
  go_enter Tryz.func186, Tryz.ntmps186
  go_wp2
  go_loopw [5, 11] (fun o i wr => ∃ (k : Nat), i = .int .i64 (k : Int) ∧ k ≤ ls.length ∧ wr.ownsRow w.heap.size 2 1 o (forceK ls day k).length ((forceK ls day k).flatMap intCells) ∧ o ≠ .slice none 0 0 ∧ Below w.heap.size w wr) (fun _ i _ => ls.length - (RowKit.intOf i).toNat)
  case atStart => exact ⟨0, rfl, Nat.zero_le _, HOWN0.out, by simp, HB0.out⟩
  case round =>
    obtain ⟨k, rfl, hk, hown, hnn, hb⟩ := hrel
    obtain ⟨g, cap, rfl, hdc, hcm⟩ := own_some hown hnn
    unfold maxLen at hcm
    have HOWN := Lib.hid hown
    have HB := Lib.hid hb
    have hfl := forceK_len ls day k
    clear hown hnn
    by_cases hlt : k < ls.length
    · obtain ⟨b, off, rfl, hblt, hcell⟩ := HEL.out (by omega)
      have hget : ls[k]? = some ls[k] := List.getElem?_eq_getElem hlt
      obtain ⟨pv, c0, c1, c2, hE⟩ := hcell k _ hget
      obtain ⟨pA, pc, rfl, _⟩ := hE
      have x0 := (hb.cell (p := ⟨b, off + k * 3, none⟩) hblt).trans c0
      have x1 := (hb.cell (p := ⟨b, off + k * 3 + 1, none⟩) hblt).trans c1
      have x2 := (hb.cell (p := ⟨b, off + k * 3 + 2, none⟩) hblt).trans c2
      have HY := Lib.hid (fun h => forceK_yes (day := day) hget h)
      have HN := Lib.hid (fun h => forceK_no (day := day) hget h)
      have HIN : Hid (inF day ls[k] = (decide (ls[k].beg ≤ day) && decide (day < ls[k].fin))) := Lib.hid rfl
      generalize forceK ls day k = Z at *
      clear hcell c0 c1 c2 hget hb
      generalize ls[k] = a at *
      by_cases h1 : a.beg ≤ day
      · by_cases h2 : day < a.fin
        · replace HY := Lib.hid (HY.out (by rw [HIN.out]; simp [h1, h2]))
          clear HN
          go_wp2_with (at_builtin; refine wpList_append_own _ rfl _ _ 29 rfl w.heap.size 2 i0 (.int .i64 0) 1 8 Tryz.underlying29 hi hz0 hz1 hz2 rfl (by decide) _ _ _ rfl ((HOWN.out.alloc _).alloc _) ⟨wr.heap.size + 1, 0, none⟩ 1 1 (intCells (k : Int)) rfl rfl (fun j u hj => new_at2 hj) (fun u hu => int_one' _ hu) ?c3 ?c4 (base_le (base_le HB.out.size)) ?_)
          case c3 => unfold maxLen; omega
          case c4 => omega
          · intro v' w9 hown' hgrow hiff
            have hnn' : v' ≠ .slice none 0 0 := by simpa using hiff
            have hb9 := ((HB.out.alloc HB.out.size (.cells #[.int .i64 a.beg,   .int .i64 a.fin, .slice pA a.pat.length pc] 144)).alloc (base_le HB.out.size) (.cells #[.int .i64 (k : Int)] 2)).grown hgrow (base_le (base_le HB.out.size)) (fun j hj => (HOWN.out.lt j hj).1)
            clear hgrow hiff
            go_wp2
            go_roundw
            case rel => exact ⟨k + 1, by go_num, by omega, by rw [HY.out, flat_snoc, List.length_append]; exact hown', hnn', hb9⟩
            case measure => simp [RowKit.intOf]; omega
        · replace HN := Lib.hid (HN.out (by rw [HIN.out]; simp [h2]))
          go_wp2
          go_roundw
          case rel => exact ⟨k + 1, by go_num, by omega, by rw [HN.out]; exact HOWN.out.alloc _, by simp, HB.out.alloc HB.out.size _⟩
          case measure => simp [RowKit.intOf]; omega
      · replace HN := Lib.hid (HN.out (by rw [HIN.out]; simp [h1]))
        go_wp2
        go_roundw
        case rel => exact ⟨k + 1, by go_num, by omega, by rw [HN.out]; exact HOWN.out.alloc _, by simp, HB.out.alloc HB.out.size _⟩
        case measure => simp [RowKit.intOf]; omega
    · have hge : ¬ (k : Int) < (ls.length : Int) := by omega
      have hk' : k = ls.length := by omega
      have HFIN : Hid (forceK ls day k = forceI ls day) := Lib.hid (by rw [hk']; rfl)
      have HOL : Hid (OwnL intCells (forceK ls day k) w.heap.size wr (.slice (some ⟨g, 0, none⟩) (forceK ls day k).length cap)) := Lib.hid (OwnL.of_own intCells (size := 1) (fun _ => rfl) HOWN.out)
      clear hk'
      go_wp2
      go_ret
      exact ⟨_, rfl, by rw [← HFIN.out]; exact HOL.out, HB.out⟩

theorem Edits.aft {w : World} {B : Nat} {v : Value} {es : List Edit} (h : Edits w B v es) (hB : B ≤ w.heap.size) : ∀ y : Aft w, Edits y.val y.val.heap.size v es := SlR.aft h (Pl.stays _) hB
theorem Acts.aft {w : World} {B : Nat} {v : Value} {ls : List Acta} (h : Acts w B v ls) (hB : B ≤ w.heap.size) : ∀ y : Aft w, Acts y.val y.val.heap.size v ls := fun y => h.on (y.ok.mono hB) (Nat.le_trans hB y.ok.size)
end Go.Proofs.YtnandbammmcncaaGreat

namespace Go.Proofs.YtnandbammmcncaaGreat
open Go.RowKit Go.Lib

theorem okActa_1 {a : Acta} (h : inB a.beg 0 1000 = false) : okActa a = false := by unfold okActa; rw [h]; rfl
theorem okActa_2 {a : Acta} (h : inB a.fin 0 1000 = false) : okActa a = false := by unfold okActa; rw [h]; simp
theorem okActa_3 {a : Acta} (h : ¬ a.beg < a.fin) : okActa a = false := by unfold okActa; simp [h]
theorem okActa_4 {a : Acta} (h : okPatch a.pat = false) : okActa a = false := by unfold okActa; simp [h]
theorem okActa_5 {a : Acta} (h1 : inB a.beg 0 1000 = true) (h2 : inB a.fin 0 1000 = true) (h3 : a.beg < a.fin) (h4 : okPatch a.pat = true) : okActa a = true := by unfold okActa; simp [h1, h2, h3, h4]
def ActsSz (ls : List Acta) : Prop := ∀ a ∈ ls, SizesOk a.pat
theorem ActsSz.of {ls : List Acta} (h : okActs ls = true) : ActsSz ls := fun a ha => by
  obtain ⟨k, hk⟩ := List.getElem?_of_mem ha
  exact sizesOk_of (okActa_iff.1 (okActs_at h hk)).pat

set_option maxHeartbeats 4000000 in
theorem acts1_any (ls : List Acta) (w : World) (v : Value) (h : Acts w w.heap.size v ls) (hs : ActsSz ls) :
    Calls Tryz.prog 152 #[v] w (RetB (.bool (okActs ls)) w) := by
  obtain ⟨A, c, rfl, hc, hm, hel⟩ := acts_at h
  unfold maxLen at hm
  have hlm : ls.length ≤ 9223372036854775807 := by omega
  have HEL := Lib.hid hel
  have HS := Lib.hid hs
  clear hel hs h
  go_enter Tryz.func152, Tryz.ntmps152
  go_wp2
  go_loopw [3, 4] (fun i _ wr => ∃ k : Nat, k ≤ ls.length ∧ i = .int .i64 (k : Int) ∧ allLt k (actAt ls) = true ∧ Below w.heap.size w wr) (fun i _ _ => ls.length - (RowKit.intOf i).toNat)
  case atStart => exact ⟨0, Nat.zero_le _, rfl, rfl, Below.refl _ _⟩
  case round =>
    obtain ⟨k, hk, rfl, hall, hb⟩ := hrel
    have HA := Lib.hid hall
    have HB := Lib.hid hb
    clear hall
    by_cases hlt : k < ls.length
    · obtain ⟨b, off, rfl, hblt, hcell⟩ := HEL.out (by omega)
      have hget : ls[k]? = some ls[k] := List.getElem?_eq_getElem hlt
      obtain ⟨pv, c0, c1, c2, hE⟩ := hcell k _ hget
      have HE := Lib.hid hE
      obtain ⟨pA, pc, rfl, _⟩ := hE
      have x0 := (hb.cell (p := ⟨b, off + k * 3, none⟩) hblt).trans c0
      have x1 := (hb.cell (p := ⟨b, off + k * 3 + 1, none⟩) hblt).trans c1
      have x2 := (hb.cell (p := ⟨b, off + k * 3 + 2, none⟩) hblt).trans c2
      have HG := Lib.hid hget
      have HC := Lib.hid hcell
      have hso := HS.out ls[k] (List.getElem_mem hlt)
      clear hget hcell c0 c1 c2 hb
      generalize ls[k] = a at *
      cases ho1 : inB a.beg 0 1000 with
      | false =>
        have HBAD := Lib.hid (okActs_bad hlt (actAt_bad HG.out (okActa_1 ho1)))
        go_upto_region 5 with (fail)
        obtain ⟨W, hW⟩ : ∃ W : World, W = wr.alloc (.cells #[.int .i64 a.beg, .int .i64 a.fin, .slice pA a.pat.length pc] 144) := ⟨_, rfl⟩
        change Code.wp _ _ _ _ (wr.alloc (.cells #[.int .i64 a.beg, .int .i64 a.fin, .slice pA a.pat.length pc] 144))
        have bW : Below w.heap.size w W := by rw [hW]; exact HB.out.alloc HB.out.size _
        have y0 : W.cell? ⟨wr.heap.size, 0, none⟩ = some (.int .i64 a.beg) := by rw [hW]; simp [go_sem]
        have y1 : W.cell? ⟨wr.heap.size, 1, none⟩ = some (.int .i64 a.fin) := by rw [hW]; simp [go_sem]
        have y2 : W.cell? ⟨wr.heap.size, 2, none⟩ = some (.slice pA a.pat.length pc) := by rw [hW]; simp [go_sem]
        have hEW : ∀ y : Aft W, Edits y.val y.val.heap.size (.slice pA a.pat.length pc) a.pat := Edits.aft (SlR.on HE.out (Pl.stays _) bW bW.size) (Nat.le_refl _)
        have HEW := Lib.hid hEW
        rw [← hW]
        clear hW x0 x1 x2 hEW
        have z0 := fun x : Aft W => x.cell y0
        have z1 := fun x : Aft W => x.cell y1
        have z2 := fun x : Aft W => x.cell y2
        clear y0 y1 y2
        refine wp_region_aft (by kernel_rfl) (by kernel_rfl) ?_
        repeat (go_big_quiet_step ((first | (go_at_call 48; exact aft_q (in1_val _ _ _ _ _ (by assumption))) | (go_at_call 128; exact aft_b (patch1_val _ _ _ _ (HEW.out _) hso (by assumption))))))
        refine wpQuiet_nil ?_
        rintro _ ⟨y, rfl⟩
        have bY := bW.trans (y.ok.mono bW.size)
        go_wp2
        go_ret
        exact ⟨by rw [HBAD.out]; rfl, bY⟩
      | true =>
        cases ho2 : inB a.fin 0 1000 with
        | false =>
          have HBAD := Lib.hid (okActs_bad hlt (actAt_bad HG.out (okActa_2 ho2)))
          go_upto_region 5 with (fail)
          obtain ⟨W, hW⟩ : ∃ W : World, W = wr.alloc (.cells #[.int .i64 a.beg, .int .i64 a.fin, .slice pA a.pat.length pc] 144) := ⟨_, rfl⟩
          change Code.wp _ _ _ _ (wr.alloc (.cells #[.int .i64 a.beg, .int .i64 a.fin, .slice pA a.pat.length pc] 144))
          have bW : Below w.heap.size w W := by rw [hW]; exact HB.out.alloc HB.out.size _
          have y0 : W.cell? ⟨wr.heap.size, 0, none⟩ = some (.int .i64 a.beg) := by rw [hW]; simp [go_sem]
          have y1 : W.cell? ⟨wr.heap.size, 1, none⟩ = some (.int .i64 a.fin) := by rw [hW]; simp [go_sem]
          have y2 : W.cell? ⟨wr.heap.size, 2, none⟩ = some (.slice pA a.pat.length pc) := by rw [hW]; simp [go_sem]
          have hEW : ∀ y : Aft W, Edits y.val y.val.heap.size (.slice pA a.pat.length pc) a.pat := Edits.aft (SlR.on HE.out (Pl.stays _) bW bW.size) (Nat.le_refl _)
          have HEW := Lib.hid hEW
          rw [← hW]
          clear hW x0 x1 x2 hEW
          have z0 := fun x : Aft W => x.cell y0
          have z1 := fun x : Aft W => x.cell y1
          have z2 := fun x : Aft W => x.cell y2
          clear y0 y1 y2
          refine wp_region_aft (by kernel_rfl) (by kernel_rfl) ?_
          repeat (go_big_quiet_step ((first | (go_at_call 48; exact aft_q (in1_val _ _ _ _ _ (by assumption))) | (go_at_call 128; exact aft_b (patch1_val _ _ _ _ (HEW.out _) hso (by assumption))))))
          refine wpQuiet_nil ?_
          rintro _ ⟨y, rfl⟩
          have bY := bW.trans (y.ok.mono bW.size)
          go_wp2
          go_ret
          exact ⟨by rw [HBAD.out]; rfl, bY⟩
        | true =>
          by_cases ho3 : a.beg < a.fin
          · have ho3' : ¬ a.fin ≤ a.beg := by omega
            cases ho4 : okPatch a.pat with
            | false =>
              have HBAD := Lib.hid (okActs_bad hlt (actAt_bad HG.out (okActa_4 ho4)))
              go_upto_region 5 with (fail)
              obtain ⟨W, hW⟩ : ∃ W : World, W = wr.alloc (.cells #[.int .i64 a.beg, .int .i64 a.fin, .slice pA a.pat.length pc] 144) := ⟨_, rfl⟩
              change Code.wp _ _ _ _ (wr.alloc (.cells #[.int .i64 a.beg, .int .i64 a.fin, .slice pA a.pat.length pc] 144))
              have bW : Below w.heap.size w W := by rw [hW]; exact HB.out.alloc HB.out.size _
              have y0 : W.cell? ⟨wr.heap.size, 0, none⟩ = some (.int .i64 a.beg) := by rw [hW]; simp [go_sem]
              have y1 : W.cell? ⟨wr.heap.size, 1, none⟩ = some (.int .i64 a.fin) := by rw [hW]; simp [go_sem]
              have y2 : W.cell? ⟨wr.heap.size, 2, none⟩ = some (.slice pA a.pat.length pc) := by rw [hW]; simp [go_sem]
              have hEW : ∀ y : Aft W, Edits y.val y.val.heap.size (.slice pA a.pat.length pc) a.pat := Edits.aft (SlR.on HE.out (Pl.stays _) bW bW.size) (Nat.le_refl _)
              have HEW := Lib.hid hEW
              rw [← hW]
              clear hW x0 x1 x2 hEW
              have z0 := fun x : Aft W => x.cell y0
              have z1 := fun x : Aft W => x.cell y1
              have z2 := fun x : Aft W => x.cell y2
              clear y0 y1 y2
              refine wp_region_aft (by kernel_rfl) (by kernel_rfl) ?_
              repeat (go_big_quiet_step ((first | (go_at_call 48; exact aft_q (in1_val _ _ _ _ _ (by assumption))) | (go_at_call 128; exact aft_b (patch1_val _ _ _ _ (HEW.out _) hso (by assumption))))))
              refine wpQuiet_nil ?_
              rintro _ ⟨y, rfl⟩
              have bY := bW.trans (y.ok.mono bW.size)
              go_wp2
              go_ret
              exact ⟨by rw [HBAD.out]; rfl, bY⟩
            | true =>
              have HO := Lib.hid (okActa_5 ho1 ho2 ho3 ho4)
              have HSU := allLt_succ k (actAt ls)
              rw [HA.out, Bool.true_and] at HSU
              have HSU := Lib.hid HSU
              by_cases hk0 : k = 0
              · have HN : Hid (allLt (k + 1) (actAt ls) = true) := HSU.out.trans (actAt_zero hk0 HG.out HO.out)
                have hk1 : decide ((0 : Int) < (k : Int)) = false := by simp; omega
                have hk2 : decide (0 < k) = false := by simp; omega
                clear hk0
                go_upto_region 5 with (fail)
                obtain ⟨W, hW⟩ : ∃ W : World, W = wr.alloc (.cells #[.int .i64 a.beg, .int .i64 a.fin, .slice pA a.pat.length pc] 144) := ⟨_, rfl⟩
                change Code.wp _ _ _ _ (wr.alloc (.cells #[.int .i64 a.beg, .int .i64 a.fin, .slice pA a.pat.length pc] 144))
                have bW : Below w.heap.size w W := by rw [hW]; exact HB.out.alloc HB.out.size _
                have y0 : W.cell? ⟨wr.heap.size, 0, none⟩ = some (.int .i64 a.beg) := by rw [hW]; simp [go_sem]
                have y1 : W.cell? ⟨wr.heap.size, 1, none⟩ = some (.int .i64 a.fin) := by rw [hW]; simp [go_sem]
                have y2 : W.cell? ⟨wr.heap.size, 2, none⟩ = some (.slice pA a.pat.length pc) := by rw [hW]; simp [go_sem]
                have hEW : ∀ y : Aft W, Edits y.val y.val.heap.size (.slice pA a.pat.length pc) a.pat := Edits.aft (SlR.on HE.out (Pl.stays _) bW bW.size) (Nat.le_refl _)
                have HEW := Lib.hid hEW
                rw [← hW]
                clear hW x0 x1 x2 hEW
                have z0 := fun x : Aft W => x.cell y0
                have z1 := fun x : Aft W => x.cell y1
                have z2 := fun x : Aft W => x.cell y2
                clear y0 y1 y2
                refine wp_region_aft (by kernel_rfl) (by kernel_rfl) ?_
                repeat (go_big_quiet_step ((first | (go_at_call 48; exact aft_q (in1_val _ _ _ _ _ (by assumption))) | (go_at_call 128; exact aft_b (patch1_val _ _ _ _ (HEW.out _) hso (by assumption))))))
                refine wpQuiet_nil ?_
                rintro _ ⟨y, rfl⟩
                have bY := bW.trans (y.ok.mono bW.size)
                go_wp2
                go_roundw
                case rel => exact ⟨k + 1, by omega, by go_num, HN.out, bY⟩
                case measure => simp [RowKit.intOf]; omega
              · obtain ⟨m, rfl⟩ : ∃ m, k = m + 1 := ⟨k - 1, by omega⟩
                have hd : ls[m]? = some (ls[m]'(by omega)) := List.getElem?_eq_getElem (by omega)
                obtain ⟨_, d0, _⟩ := HC.out _ _ hd
                generalize (ls[m]'(by omega)) = d at *
                have HP := Lib.hid (actAt_succ hd HG.out HO.out)
                clear hd hk0
                by_cases hid : d.beg ≤ a.beg
                · have HN : Hid (allLt (m + 1 + 1) (actAt ls) = true) := HSU.out.trans (HP.out.trans (decide_eq_true hid))
                  have hid2 : ¬ (a.beg < d.beg) := by omega
                  go_upto_region 5 with (fail)
                  obtain ⟨W, hW⟩ : ∃ W : World, W = wr.alloc (.cells #[.int .i64 a.beg, .int .i64 a.fin, .slice pA a.pat.length pc] 144) := ⟨_, rfl⟩
                  change Code.wp _ _ _ _ (wr.alloc (.cells #[.int .i64 a.beg, .int .i64 a.fin, .slice pA a.pat.length pc] 144))
                  have bW : Below w.heap.size w W := by rw [hW]; exact HB.out.alloc HB.out.size _
                  have y0 : W.cell? ⟨wr.heap.size, 0, none⟩ = some (.int .i64 a.beg) := by rw [hW]; simp [go_sem]
                  have y1 : W.cell? ⟨wr.heap.size, 1, none⟩ = some (.int .i64 a.fin) := by rw [hW]; simp [go_sem]
                  have y2 : W.cell? ⟨wr.heap.size, 2, none⟩ = some (.slice pA a.pat.length pc) := by rw [hW]; simp [go_sem]
                  have hEW : ∀ y : Aft W, Edits y.val y.val.heap.size (.slice pA a.pat.length pc) a.pat := Edits.aft (SlR.on HE.out (Pl.stays _) bW bW.size) (Nat.le_refl _)
                  have HEW := Lib.hid hEW
                  rw [← hW]
                  clear hW x0 x1 x2 hEW
                  have z0 := fun x : Aft W => x.cell y0
                  have z1 := fun x : Aft W => x.cell y1
                  have z2 := fun x : Aft W => x.cell y2
                  clear y0 y1 y2
                  have y4 : W.cell? ⟨b, off + m * 3, none⟩ = some (.int .i64 d.beg) := (bW.cell (p := ⟨b, off + m * 3, none⟩) hblt).trans d0
                  have z4 := fun x : Aft W => x.cell y4
                  clear d0 y4
                  refine wp_region_aft (by kernel_rfl) (by kernel_rfl) ?_
                  repeat (go_big_quiet_step ((first | (go_at_call 48; exact aft_q (in1_val _ _ _ _ _ (by assumption))) | (go_at_call 128; exact aft_b (patch1_val _ _ _ _ (HEW.out _) hso (by assumption))))))
                  refine wpQuiet_nil ?_
                  rintro _ ⟨y, rfl⟩
                  have bY := bW.trans (y.ok.mono bW.size)
                  go_wp2
                  go_roundw
                  case rel => exact ⟨(m + 1) + 1, by omega, by go_num, HN.out, bY⟩
                  case measure => simp [RowKit.intOf]; omega
                · have HBAD := Lib.hid (okActs_bad hlt (HP.out.trans (decide_eq_false hid)))
                  have hid2 : a.beg < d.beg := by omega
                  go_upto_region 5 with (fail)
                  obtain ⟨W, hW⟩ : ∃ W : World, W = wr.alloc (.cells #[.int .i64 a.beg, .int .i64 a.fin, .slice pA a.pat.length pc] 144) := ⟨_, rfl⟩
                  change Code.wp _ _ _ _ (wr.alloc (.cells #[.int .i64 a.beg, .int .i64 a.fin, .slice pA a.pat.length pc] 144))
                  have bW : Below w.heap.size w W := by rw [hW]; exact HB.out.alloc HB.out.size _
                  have y0 : W.cell? ⟨wr.heap.size, 0, none⟩ = some (.int .i64 a.beg) := by rw [hW]; simp [go_sem]
                  have y1 : W.cell? ⟨wr.heap.size, 1, none⟩ = some (.int .i64 a.fin) := by rw [hW]; simp [go_sem]
                  have y2 : W.cell? ⟨wr.heap.size, 2, none⟩ = some (.slice pA a.pat.length pc) := by rw [hW]; simp [go_sem]
                  have hEW : ∀ y : Aft W, Edits y.val y.val.heap.size (.slice pA a.pat.length pc) a.pat := Edits.aft (SlR.on HE.out (Pl.stays _) bW bW.size) (Nat.le_refl _)
                  have HEW := Lib.hid hEW
                  rw [← hW]
                  clear hW x0 x1 x2 hEW
                  have z0 := fun x : Aft W => x.cell y0
                  have z1 := fun x : Aft W => x.cell y1
                  have z2 := fun x : Aft W => x.cell y2
                  clear y0 y1 y2
                  have y4 : W.cell? ⟨b, off + m * 3, none⟩ = some (.int .i64 d.beg) := (bW.cell (p := ⟨b, off + m * 3, none⟩) hblt).trans d0
                  have z4 := fun x : Aft W => x.cell y4
                  clear d0 y4
                  refine wp_region_aft (by kernel_rfl) (by kernel_rfl) ?_
                  repeat (go_big_quiet_step ((first | (go_at_call 48; exact aft_q (in1_val _ _ _ _ _ (by assumption))) | (go_at_call 128; exact aft_b (patch1_val _ _ _ _ (HEW.out _) hso (by assumption))))))
                  refine wpQuiet_nil ?_
                  rintro _ ⟨y, rfl⟩
                  have bY := bW.trans (y.ok.mono bW.size)
                  go_wp2
                  go_ret
                  exact ⟨by rw [HBAD.out]; rfl, bY⟩
          · have ho3' : a.fin ≤ a.beg := by omega
            have HBAD := Lib.hid (okActs_bad hlt (actAt_bad HG.out (okActa_3 ho3)))
            go_upto_region 5 with (fail)
            obtain ⟨W, hW⟩ : ∃ W : World, W = wr.alloc (.cells #[.int .i64 a.beg, .int .i64 a.fin, .slice pA a.pat.length pc] 144) := ⟨_, rfl⟩
            change Code.wp _ _ _ _ (wr.alloc (.cells #[.int .i64 a.beg, .int .i64 a.fin, .slice pA a.pat.length pc] 144))
            have bW : Below w.heap.size w W := by rw [hW]; exact HB.out.alloc HB.out.size _
            have y0 : W.cell? ⟨wr.heap.size, 0, none⟩ = some (.int .i64 a.beg) := by rw [hW]; simp [go_sem]
            have y1 : W.cell? ⟨wr.heap.size, 1, none⟩ = some (.int .i64 a.fin) := by rw [hW]; simp [go_sem]
            have y2 : W.cell? ⟨wr.heap.size, 2, none⟩ = some (.slice pA a.pat.length pc) := by rw [hW]; simp [go_sem]
            have hEW : ∀ y : Aft W, Edits y.val y.val.heap.size (.slice pA a.pat.length pc) a.pat := Edits.aft (SlR.on HE.out (Pl.stays _) bW bW.size) (Nat.le_refl _)
            have HEW := Lib.hid hEW
            rw [← hW]
            clear hW x0 x1 x2 hEW
            have z0 := fun x : Aft W => x.cell y0
            have z1 := fun x : Aft W => x.cell y1
            have z2 := fun x : Aft W => x.cell y2
            clear y0 y1 y2
            refine wp_region_aft (by kernel_rfl) (by kernel_rfl) ?_
            repeat (go_big_quiet_step ((first | (go_at_call 48; exact aft_q (in1_val _ _ _ _ _ (by assumption))) | (go_at_call 128; exact aft_b (patch1_val _ _ _ _ (HEW.out _) hso (by assumption))))))
            refine wpQuiet_nil ?_
            rintro _ ⟨y, rfl⟩
            have bY := bW.trans (y.ok.mono bW.size)
            go_wp2
            go_ret
            exact ⟨by rw [HBAD.out]; rfl, bY⟩
    · have hk' : k = ls.length := by omega
      have hP : okActs ls = decide (ls.length ≤ 8) := by
        unfold okActs
        rw [← hk', HA.out, Bool.true_and]
      have HP := Lib.hid hP
      have hge : ¬ (k : Int) < (ls.length : Int) := by omega
      clear hP hk' hlt
      by_cases h16 : ls.length ≤ 8
      · have e16 : decide ((ls.length : Int) ≤ 8) = true := by simp; omega
        have H16 := Lib.hid h16
        clear h16
        go_wp2
        go_ret
        exact ⟨by rw [HP.out]; simp [H16.out], hb⟩
      · have e16 : decide ((ls.length : Int) ≤ 8) = false := by simp; omega
        have H16 := Lib.hid h16
        clear h16
        go_wp2
        go_ret
        exact ⟨by rw [HP.out]; simp [H16.out], hb⟩
end Go.Proofs.YtnandbammmcncaaGreat

namespace Go.Proofs.YtnandbammmcncaaGreat
open Go.RowKit Go.Lib

theorem patch2_val (es : List Edit) (w : World) (v : Value) (r : Bool) (h : Edits w w.heap.size v es) (hs : SizesOk es) (hr : okPatch es = r) :
    Calls Tryz.prog 169 #[v] w (RetB (.bool r) w) := hr ▸ patch2_any es w v h hs
end Go.Proofs.YtnandbammmcncaaGreat

namespace Go.Proofs.YtnandbammmcncaaGreat
open Go.RowKit Go.Lib

theorem stepO_at {ls : List Acta} {j : Nat} {a : Acta} (R : List Art) (h : ls[j]? = some a) : stepO ls (some R) (j : Int) = applyO R a.pat := by simp [stepO, h]
def OnPost (S : List Art) (ls : List Acta) (day : Int) (w : World) (e : Ending) (w' : World) : Prop :=
  ∃ v, e = .returned (.tuple #[v, .bool (onO S ls day).isSome]) ∧ (∀ R, onO S ls day = some R → OwnL artCells R w.heap.size w' v ∧ okStat R = true) ∧ (∃ A n c, v = .slice A n c) ∧ Below w.heap.size w w'
end Go.Proofs.YtnandbammmcncaaGreat
