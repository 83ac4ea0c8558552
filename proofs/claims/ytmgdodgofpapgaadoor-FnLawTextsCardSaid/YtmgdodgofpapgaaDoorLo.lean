/- What is too long for a law, walked; what a slice of bytes that came in is. -/
import Derived.Test.YtmgdodgofpapgaaDoorSrc
import Derived.ProofKit
import Derived.OpenShut
import Derived.Below
namespace Go.Proofs.YtmgdodgofpapgaaDoor
open Go.RowKit

set_option maxHeartbeats 400000 in
theorem long_no (A1 : Option Addr) (n1 c1 : Nat) (A2 : Option Addr) (n2 c2 : Nat) (w : World) (h1 : n1 ≤ 1048576) (h2 : n2 ≤ 1048576) :
    Calls Tryd.prog 4 #[.slice A1 n1 c1, .slice A2 n2 c2] w (RetQ (.bool false) w) := by
  have e1 : ¬ (1048576 : Int) < (n1 : Int) := by omega
  have e2 : decide ((1048576 : Int) < (n2 : Int)) = false := by simp; omega
  clear h1 h2
  go_enter Tryd.func4, Tryd.ntmps4
  go_wp2
  go_ret
  exact ⟨rfl, 0, rfl⟩
set_option maxHeartbeats 400000 in
theorem long_yes (A1 : Option Addr) (n1 c1 : Nat) (A2 : Option Addr) (n2 c2 : Nat) (w : World) (h : ¬ (n1 ≤ 1048576 ∧ n2 ≤ 1048576)) :
    Calls Tryd.prog 4 #[.slice A1 n1 c1, .slice A2 n2 c2] w (RetQ (.bool true) w) := by
  by_cases h1 : n1 ≤ 1048576
  · have e1 : ¬ (1048576 : Int) < (n1 : Int) := by omega
    have e2 : decide ((1048576 : Int) < (n2 : Int)) = true := by simp; omega
    clear h1 h
    go_enter Tryd.func4, Tryd.ntmps4
    go_wp2
    go_ret
    exact ⟨rfl, 0, rfl⟩
  · have e1 : (1048576 : Int) < (n1 : Int) := by omega
    clear h1 h
    go_enter Tryd.func4, Tryd.ntmps4
    go_wp2
    go_ret
    exact ⟨rfl, 0, rfl⟩
end Go.Proofs.YtmgdodgofpapgaaDoor
namespace Go.Proofs.YtmgdodgofpapgaaDoor
open Go.ChangeShapes Go.WideShapes Go.ChangeAt Go.RowKit
set_option maxRecDepth 100000 in
/-- What a slice of bytes that came in is. -/
theorem bytes_of {H : Type} {enc : TypeId × Value → H} {W : World} {v : Value} {d : DataW H} {p : List MemPlace} {r : Reach} {base : Nat} (hv : Value.okWide Tryd.prog W r base 22 v) (h : DataW.Trod enc Tryd.prog W 0 (fun _ => true) true 22 v d p) :
    ∃ A n c, v = .slice A n c ∧ BytesAt W W.heap.size A n := by
  obtain ⟨A, n, c, rfl⟩ := okWide_slice Tryd.underlying22 hv
  obtain ⟨fuel, hf⟩ := h
  have hlt := DataW.trod_lt fuel _ _ _ hf
  rcases open_ints Tryd.underlying22 Tryd.underlying5 (by kernel_rfl) hf with ⟨hcs, _⟩ | ⟨x, l, c', zs, hcs, _, hl, hm, hz, _, hcell, hwz⟩
  · simp [Value.cells] at hcs
    obtain ⟨rfl, rfl, rfl⟩ := hcs
    exact ⟨none, 0, 0, rfl, Nat.zero_le _, fun h => absurd h (Nat.lt_irrefl 0)⟩
  · simp [Value.cells] at hcs
    obtain ⟨rfl, rfl, rfl⟩ := hcs
    refine ⟨some x, n, c, rfl, Nat.le_trans hl hm, fun hn => ?_⟩
    have hz' : zs.length = c := by simpa using hz
    obtain ⟨b, off, spot⟩ := x
    have h0 := hcell 0 (by omega)
    have hspot : spot = none := by simpa [Addr.add] using World.cell?_spot h0
    subst hspot
    have hcl : ∀ i, i < zs.length → W.cell? ⟨b, off + i, none⟩ = some (.int .u8 (zs.getD i 0)) := fun i hi => by
      have e : (⟨b, off, none⟩ : Addr).add i = ⟨b, off + i, none⟩ := by
        unfold Addr.add
        by_cases h : i = 0 <;> simp [h]
      rw [← e]
      exact hcell i hi
    refine ⟨b, off, rfl, ?_, fun i hi => ?_⟩
    · have := hcl 0 (by omega)
      rcases Nat.lt_or_ge b W.heap.size with hlt' | hge
      · exact hlt'
      · simp [World.cell?, Array.getElem?_eq_none hge] at this
    · have hin : zs.getD i 0 ∈ zs := by
        rw [List.getD_eq_getElem?_getD, List.getElem?_eq_getElem (by omega)]
        exact List.getElem_mem _
      have hw := hwz _ hin
      have hb := bounds_u8 hw
      refine ⟨(zs.getD i 0).toNat, by omega, ?_⟩
      rw [hcl i (by omega)]
      congr 2
      omega

end Go.Proofs.YtmgdodgofpapgaaDoor
