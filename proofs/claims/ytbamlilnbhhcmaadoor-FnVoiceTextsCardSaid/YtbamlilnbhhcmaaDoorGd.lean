/- Choices among numbers and names, walked: the reference's. -/
import Derived.Test.YtbamlilnbhhcmaaDoorGc
import Derived.Test.YtbamlilnbhhcmaaDoorQD
namespace Go.Proofs.YtbamlilnbhhcmaaDoor
open Go.RowKit Go.Lib

def AmongP (p : Int → Prop) (B : Nat) (w : World) (b k : Nat) (e : Ending) (w' : World) : Prop :=
  ∃ x : Int, p x ∧ e = .returned (.int .i64 x) ∧ Src B w' b k ∧ Only b w w'
theorem lit_intP (p : Int → Prop) (w : World) (t : TypeId) (L : List Int) (hL : ∀ x ∈ L, p x) (j : Nat) (hj : j < L.length) : ∃ x : Int, p x ∧ (w.alloc (.cells (L.map (fun x => Value.int .i64 x)).toArray t)).cell? ⟨w.heap.size, j, none⟩ = some (.int .i64 x) := by
  refine ⟨L[j], hL _ (List.getElem_mem hj), ?_⟩
  have := (Row.new w (L.map (fun x => Value.int .i64 x)).toArray t).cell j (.int .i64 L[j]) (by simp [List.getElem?_eq_getElem hj])
  exact this
theorem among_p (p : Int → Prop) (B b k g n c : Nat) (w : World) (h : Src B w b k) (hk : k ≤ 58000) (hn : 1 ≤ n) (hn' : n ≤ 60000) (hg : g < w.heap.size) (hgb : g ≠ b)
    (hc : ∀ j, j < n → ∃ x : Int, p x ∧ w.cell? ⟨g, j, none⟩ = some (.int .i64 x)) :
    Calls Tryd.prog 24 #[.pointer (some ⟨b, 0, none⟩), .slice (some ⟨g, 0, none⟩) n c] w (AmongP p B w b (k + 2)) := by
  have H := Lib.hid h
  have HC := Lib.hid hc
  clear h hc
  go_enter Tryd.func24, Tryd.ntmps24
  go_wp2_with (fail)
  refine (pick_pos B b k n w H.out (by omega) (by omega) (by omega)).mono ?_
  rintro e w1 ⟨x, hx, rfl, hs, ho⟩
  have Hs := Lib.hid hs
  have hx' : x < n := by omega
  obtain ⟨l, hp, hl⟩ := HC.out x hx'
  have HP := Lib.hid hp
  have x0 : w1.cell? ⟨g, x, none⟩ = some (.int .i64 l) := (only_cells ho g x hg hgb).1.trans hl
  have HO := Lib.hid ho
  clear hs hl ho hp
  go_wp2
  go_ret
  exact ⟨l, HP.out, rfl, Hs.out, HO.out⟩
/-- A name is drawn: a text of few bytes. -/
def NameL (l : List UInt8) : Prop := l.length ≤ 24
end Go.Proofs.YtbamlilnbhhcmaaDoor
