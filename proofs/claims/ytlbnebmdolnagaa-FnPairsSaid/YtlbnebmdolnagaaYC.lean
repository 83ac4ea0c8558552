/- With whom all ballots are settled, the reference's, walked. The distances, the program's, walked. The best path, the program's, walked. The best path, the program's, walked: the rules by cost. With whom all ballots are settled, the program's, walked. -/
import Derived.Test.YtlbnebmdolnagaaYB
import Derived.StillTailTactics
import Derived.Laws.OwnMore
namespace Go.Proofs.Ytlbnebmdolnagaa
open Go.RowKit Go.Lib

/-- Numbers of the call's own, in a block. -/
def NumO (w : World) (base g cap : Nat) (L : List Int) : Prop := w.ownsRow base 2 1 (.slice (some ⟨g, 0, none⟩) L.length cap) L.length (L.flatMap intCells)
theorem NumO.row {w : World} {base g cap : Nat} {L : List Int} (h : NumO w base g cap L) : w.ownsRow base 2 1 (.slice (some ⟨g, 0, none⟩) L.length cap) L.length (L.flatMap intCells) := h
theorem NumO.below {w w' : World} {base g cap : Nat} {L : List Int} (h : NumO w base g cap L) (hb : Below w.heap.size w w') : NumO w' base g cap L := own_below h hb
theorem NumO.own {w : World} {base g cap : Nat} {L : List Int} (h : NumO w base g cap L) : OwnL intCells L base w (.slice (some ⟨g, 0, none⟩) L.length cap) := OwnL.of_own intCells (size := 1) (fun _ => rfl) h
theorem NumO.ints {w : World} {base g cap : Nat} {L : List Int} (h : NumO w base g cap L) : Ints w w.heap.size (.slice (some ⟨g, 0, none⟩) L.length cap) L := h.own.slR (size := 1) (fun _ => rfl)
theorem NumO.start (w : World) : NumO (w.alloc (.cells #[] 2)) w.heap.size w.heap.size 0 [] := by
  unfold NumO
  simpa using World.ownsRow_made w #[] 0 (Nat.le_refl _) (Nat.zero_le _) rfl
def EndsTo (g : Gr) (rule : Int) (L : List Int) : Prop := ∀ (j : Nat) (e : Int), L[j]? = some e → IsEnd g rule j e
theorem EndsTo.push {g : Gr} {rule : Int} {L : List Int} {e : Int} (h : EndsTo g rule L) (he : IsEnd g rule L.length e) : EndsTo g rule (L ++ [e]) := fun j e' hj => by
  rcases Nat.lt_or_ge j L.length with hl | hl
  · rw [List.getElem?_append_left hl] at hj
    exact h j e' hj
  · have hj2 := (List.getElem?_eq_some_iff.1 hj).1
    rw [List.length_append, List.length_singleton] at hj2
    have : j = L.length := by omega
    subst this
    rw [List.getElem?_append_right (Nat.le_refl _), Nat.sub_self] at hj
    injection hj with hj
    rw [← hj]
    exact he
/-- The ends of all ballots in memory. -/
def SettlePost (V : List Voi) (rule : Int) (w : World) (e : Ending) (w' : World) : Prop :=
  ∃ g cap, e = .returned (.slice (some ⟨g, 0, none⟩) V.length cap) ∧ (endsL V rule).length = V.length ∧ (∀ (j : Nat) (x : Int), (endsL V rule)[j]? = some x → IsEnd (grV V) rule j x) ∧ NumO w' w.heap.size g cap (endsL V rule) ∧ Below w.heap.size w w'

end Go.Proofs.Ytlbnebmdolnagaa

namespace Go.Proofs.Ytlbnebmdolnagaa
open Go.RowKit Go.Lib

theorem Try.infoN : (Try.prog.info? 3).map (fun i => (i.zero, i.size, i.bytes)) = some (some (.int .i64 0), 1, 8) := by kernel_rfl
theorem costL_zero (n : Nat) : costL (fun _ => 0) n = List.replicate n (.int .i64 0) := by
  apply List.ext_getElem?
  intro j
  by_cases hj : j < n
  · rw [costL_get hj, List.getElem?_replicate, if_pos hj]
  · rw [List.getElem?_eq_none (by rw [costL_len]; omega), List.getElem?_eq_none (by simp; omega)]
theorem make_zero {P : Program} (w : World) (t e : TypeId) (i : TypeInfo) (ht : P.underlying t = some (.slice e)) (hi : P.info? e = some i) (hz : i.zero = some (.int .i64 0)) (hsize : i.size = 1) (n : Nat) (hb : i.bytes * n ≤ 281474976710656) (hn : n ≤ 1048576) :
    ∃ w', (Instr.makeSlice t (.int .i64 (n : Int)) (.int .i64 (n : Int))).run P w = .ok (.slice (some ⟨w.heap.size, 0, none⟩) n n) w' ∧ Row w' w.heap.size (costL (fun _ => 0) n) ∧ w.heap.size < w'.heap.size ∧ Below w.heap.size w w' := by
  have hb' : (i.bytes : Int) * (n : Int) ≤ 281474976710656 := by
    have h : ((i.bytes * n : Nat) : Int) ≤ 281474976710656 := by omega
    rwa [Int.natCast_mul] at h
  have hr := run_make (P := P) w t e i (.int .i64 0) ht hi hz .i64 .i64 n n (by omega) (Int.le_refl _) hb' (by omega)
  simp only [Int.toNat_natCast] at hr
  refine ⟨_, hr, ?_, by simp, (Below.refl _ _).alloc (Nat.le_refl _) _⟩
  have := Row.new w (madeCells (Value.int .i64 0).cells (n * i.size)) e
  rw [hsize, Nat.mul_one] at this ⊢
  have e2 : (madeCells (Value.int .i64 0).cells n).toList = costL (fun _ => 0) n := by
    rw [costL_zero]
    exact toList_madeCells_one _ n
  rw [e2] at this
  exact this
def DistPost (V : List Voi) (c : Nat → Int) (w : World) (e : Ending) (w' : World) : Prop :=
  ∃ g, w.heap.size ≤ g ∧ g < w'.heap.size ∧ e = .returned (.slice (some ⟨g, 0, none⟩) V.length V.length) ∧ Row w' g (costL (runI (grV V) [] c V.length) V.length) ∧ Below w.heap.size w w'
/-- The least costs on the way. -/
def begI (g : Gr) (k : Nat) : Nat → Int := fun j => if j < k then initI g [] j else 0
theorem begI_sp {g : Gr} {k : Nat} (h : g.sp k = true) : begI g (k + 1) = begI g k := by
  funext j
  unfold begI
  by_cases e : j = k
  · subst e
    rw [if_pos (by omega), if_neg (by omega)]
    unfold initI
    rw [h]
    rfl
  · by_cases h2 : j < k
    · rw [if_pos (by omega), if_pos h2]
    · rw [if_neg (by omega), if_neg h2]
theorem begI_no {g : Gr} {k : Nat} (h : g.sp k = false) : begI g (k + 1) = fun j => if j = k then 1000 else begI g k j := by
  funext j
  unfold begI
  by_cases e : j = k
  · subst e
    rw [if_pos (by omega), if_pos rfl]
    unfold initI
    rw [h]
    rfl
  · rw [if_neg e]
    by_cases h2 : j < k
    · rw [if_pos (by omega), if_pos h2]
    · rw [if_neg (by omega), if_neg h2]
theorem passI_off1 {g : Gr} {c C : Nat → Int} {i : Nat} (h : g.sp i = true) : passI g [] c C (i + 1) = passI g [] c C i := by rw [passI, rowI_off (on_off (Or.inl h))]
theorem passI_on1 {g : Gr} {c C : Nat → Int} {i : Nat} (h : g.sp i = false) : passI g [] c C (i + 1) = inI g c i (passI g [] c C i) (g.tr i).length := by rw [passI, rowI_on (on_on h rfl)]
theorem costL_beg (g : Gr) (n : Nat) : costL (begI g n) n = costL (initI g []) n := costL_ext (fun j hj => by unfold begI; rw [if_pos hj])

end Go.Proofs.Ytlbnebmdolnagaa

namespace Go.Proofs.Ytlbnebmdolnagaa
open Go.RowKit Go.Lib

theorem still_q {P : Program} {f : FuncId} {args : Array Value} {W : World} {v : Value} (h : Calls P f args W (fun e w' => e = .returned v ∧ w' = W)) : Calls P f args W (RetQ v W) :=
  h.mono fun _ _ ⟨he, hw⟩ => ⟨he, 0, hw⟩
theorem rank1 (k : Nat) : rankCost 1 (k + 1) = (k : Int) + 1 := by unfold rankCost; simp
theorem rank_no {rule : Int} (h : rule ≠ 1) (k : Nat) : rankCost rule (k + 1) = 1 := by unfold rankCost; rw [if_neg h]
theorem contains2_val (zs : List Int) (x : Int) (w : World) (v : Value) (r : Bool) (h : Ints w w.heap.size v zs) (hr : zs.contains x = r) : Calls Try.prog 65 #[v, .int .i64 x] w (RetQ (.bool r) w) := hr ▸ contains_any zs x w v h
/-- A later world. -/
def Beh (W w' : World) : Prop := Below W.heap.size W w'
theorem Beh.go {W a b : World} (h2 : Below a.heap.size a b) (h1 : Beh W a) : Beh W b := Below.trans h1 (Below.mono h2 (Below.size h1))
theorem Beh.draw {W a : World} (h1 : Beh W a) : Beh W a.drew := Below.drew h1
def Best2Post (V : List Voi) (rule : Int) (m : Nat) (w : World) (e : Ending) (w' : World) : Prop :=
  (e = .returned (.slice none 0 0) ∧ BestP (grV V) rule m [] ∧ Below w.heap.size w w') ∨
  ∃ p g c, e = .returned (.slice (some ⟨g, 0, none⟩) p.length c) ∧ BestP (grV V) rule m p ∧ p ≠ [] ∧ OwnL intCells (barL p) w.heap.size w' (.slice (some ⟨g, 0, none⟩) p.length c) ∧ Below w.heap.size w w'

end Go.Proofs.Ytlbnebmdolnagaa

namespace Go.Proofs.Ytlbnebmdolnagaa
open Go.RowKit Go.Lib

end Go.Proofs.Ytlbnebmdolnagaa

namespace Go.Proofs.Ytlbnebmdolnagaa
open Go.RowKit Go.Lib

def Settle2Post (V : List Voi) (rule : Int) (w : World) (e : Ending) (w' : World) : Prop :=
  ∃ g cap, e = .returned (.tuple #[.slice (some ⟨g, 0, none⟩) V.length cap, .bool true]) ∧ (endsL V rule).length = V.length ∧ (∀ (j : Nat) (x : Int), (endsL V rule)[j]? = some x → IsEnd (grV V) rule j x) ∧ NumO w' w.heap.size g cap (endsL V rule) ∧ Below w.heap.size w w'
theorem NumO.less {w : World} {b base g cap : Nat} {L : List Int} (h : NumO w base g cap L) (hb : b ≤ base) : NumO w b g cap L := by
  obtain ⟨h1, h2 | ⟨g', c, cur, e, h3, h4⟩⟩ := h
  · exact ⟨h1, .inl h2⟩
  · exact ⟨h1, .inr ⟨g', c, cur, e, Nat.le_trans hb h3, h4⟩⟩
end Go.Proofs.Ytlbnebmdolnagaa
