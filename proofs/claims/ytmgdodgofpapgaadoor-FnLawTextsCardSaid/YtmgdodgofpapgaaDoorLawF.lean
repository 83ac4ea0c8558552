/- Deeds: the program's test, walked. -/
import Derived.Test.YtmgdodgofpapgaaDoorLawE
namespace Go.Proofs.YtmgdodgofpapgaaDoor
open Go.RowKit

def plainB (d : Deed) : Bool := d.patch.isEmpty && decide (d.start = 0) && decide (d.until_ = 0) && decide (d.closes = 0)
theorem okDeed_1 {d : Deed} (hk : d.kind = 1) : okDeed d = (inB d.member 0 11 && okTrust d.trust d.member 12 && decide (d.title.toList = []) && decide (d.vote = 0) && plainB d) := by
  unfold okDeed plainB
  simp [hk]
theorem okDeed_2 {d : Deed} (hk : d.kind = 2) : okDeed d = (inB d.member 0 11 && okName d.title.toList && inB d.vote 0 3 && d.trust.isEmpty && plainB d) := by
  unfold okDeed plainB
  simp [hk]
theorem okDeed_3 {d : Deed} (hk : d.kind = 3) : okDeed d = (inB d.member 0 11 && okName d.title.toList && okSpan d.patch d.closes d.start d.until_ && d.trust.isEmpty && decide (d.vote = 0)) := by
  unfold okDeed
  simp [hk]
theorem okDeed_4 {d : Deed} (hk : d.kind = 4) : okDeed d = (decide (d.member = 0) && d.trust.isEmpty && decide (d.title.toList = []) && decide (d.vote = 0) && plainB d) := by
  unfold okDeed plainB
  simp [hk]
theorem okDeed_0 {d : Deed} (h1 : d.kind ≠ 1) (h2 : d.kind ≠ 2) (h3 : d.kind ≠ 3) (h4 : d.kind ≠ 4) : okDeed d = false := by
  unfold okDeed
  simp [h1, h2, h3, h4]

theorem len_zero {α : Type} (l : List α) : ((l.length : Int) == 0) = l.isEmpty := by
  cases l with
  | nil => rfl
  | cons a l => simp; omega
theorem int_zero (n : Int) : (n == 0) = decide (n = 0) := by
  by_cases h : n = 0 <;> simp [h]

end Go.Proofs.YtmgdodgofpapgaaDoor
