/- Deeds, walked: the reference's test. -/
import Derived.Test.YtmgdodgofpapgaaDoorLawM
namespace Go.Proofs.YtmgdodgofpapgaaDoor
open Go.RowKit

/-- A deed behind a pointer. -/
structure DeedP (w : World) (b o : Nat) (d : Deed) (A1 : Option Addr) (c1 : Nat) (A2 : Option Addr) (c2 : Nat) : Prop where
  k0 : w.cell? ⟨b, o, none⟩ = some (.int .i64 d.kind)
  k1 : w.cell? ⟨b, o + 1, none⟩ = some (.int .i64 d.member)
  k2 : w.cell? ⟨b, o + 2, none⟩ = some (.slice A1 d.trust.length c1)
  k3 : w.cell? ⟨b, o + 3, none⟩ = some (.string d.title)
  k4 : w.cell? ⟨b, o + 4, none⟩ = some (.int .i64 d.vote)
  k5 : w.cell? ⟨b, o + 5, none⟩ = some (.slice A2 d.patch.length c2)
  k6 : w.cell? ⟨b, o + 6, none⟩ = some (.int .i64 d.start)
  k7 : w.cell? ⟨b, o + 7, none⟩ = some (.int .i64 d.until_)
  k8 : w.cell? ⟨b, o + 8, none⟩ = some (.int .i64 d.closes)
  ints : Ints w w.heap.size (.slice A1 d.trust.length c1) d.trust
  edits : Edits w w.heap.size (.slice A2 d.patch.length c2) d.patch
  sizes : SizesOk d.patch
  title : d.title.size ≤ maxLen
theorem DeedP.aft {w : World} {b o : Nat} {d : Deed} {A1 : Option Addr} {c1 : Nat} {A2 : Option Addr} {c2 : Nat} (h : DeedP w b o d A1 c1 A2 c2) (x : Aft w) : DeedP x.val b o d A1 c1 A2 c2 :=
  ⟨x.cell h.k0, x.cell h.k1, x.cell h.k2, x.cell h.k3, x.cell h.k4, x.cell h.k5, x.cell h.k6, x.cell h.k7, x.cell h.k8, h.ints.aft (Pl.stays _) (Nat.le_refl _) x, h.edits.aft (Pl.stays _) (Nat.le_refl _) x, h.sizes, h.title⟩

def spanB (start until_ closes : Int) : Bool := inB closes 1 999 && inB until_ 1 1000 && inB start closes (until_ - 1)
theorem okSpan_span (p : List Edit) (closes start until_ : Int) : okSpan p closes start until_ = (!p.isEmpty && okPatch p && spanB start until_ closes) := by
  have : (inB closes 1 999 && decide (closes ≤ start) && decide (start < until_) && decide (until_ ≤ 1000)) = spanB start until_ closes := by
    rw [Bool.eq_iff_iff]
    unfold spanB
    simp only [Bool.and_eq_true, inB_iff, decide_eq_true_eq]
    omega
  rw [← this]
  unfold okSpan
  simp only [Bool.and_assoc]

theorem len_pos {α : Type} (l : List α) : decide ((0 : Int) < (l.length : Int)) = !l.isEmpty := by
  cases l with
  | nil => rfl
  | cons a l => simp
theorem okDeed_1s {d : Deed} (hk : d.kind = 1) : okDeed d = (inB d.member 0 11 && okTrust d.trust d.member 12 && d.title.toList.isEmpty && (d.vote == 0) && plainB d) := by
  have : decide (d.title.toList = []) = d.title.toList.isEmpty := by cases d.title.toList <;> simp
  rw [okDeed_1 hk, int_zero, this]
theorem okDeed_2s {d : Deed} (hk : d.kind = 2) : okDeed d = (inB d.member 0 11 && ((d.trust.length : Int) == 0) && okName d.title.toList && inB d.vote 0 3 && plainB d) := by
  rw [okDeed_2 hk, len_zero]
  cases inB d.member 0 11 <;> cases okName d.title.toList <;> cases inB d.vote 0 3 <;> cases d.trust.isEmpty <;> cases plainB d <;> rfl
theorem okDeed_3s {d : Deed} (hk : d.kind = 3) : okDeed d = (inB d.member 0 11 && ((d.trust.length : Int) == 0) && okName d.title.toList && (d.vote == 0) && decide ((0 : Int) < (d.patch.length : Int)) && okPatch d.patch && spanB d.start d.until_ d.closes) := by
  rw [okDeed_3 hk, len_zero, len_pos, int_zero, okSpan_span]
  cases inB d.member 0 11 <;> cases okName d.title.toList <;> cases d.trust.isEmpty <;> cases decide (d.vote = 0) <;> cases d.patch.isEmpty <;> cases okPatch d.patch <;> cases spanB d.start d.until_ d.closes <;> rfl
theorem okDeed_4s {d : Deed} (hk : d.kind = 4) : okDeed d = ((d.member == 0) && ((d.trust.length : Int) == 0) && d.title.toList.isEmpty && (d.vote == 0) && plainB d) := by
  have : decide (d.title.toList = []) = d.title.toList.isEmpty := by cases d.title.toList <;> simp
  rw [okDeed_4 hk, len_zero, int_zero, int_zero, this]
end Go.Proofs.YtmgdodgofpapgaaDoor
