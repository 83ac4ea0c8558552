/- Sentences, walked: the reference's. Edits, walked: the reference's. Walks over later worlds: every world after W is 'x.val' for some x : Aft W; what is laid once for all of them holds at each step. Patches, walked: the reference's. Deeds, walked: the reference's test. Deeds, walked: the reference's test, kind by kind. -/
import Derived.Test.YtlbnebmdolnagaaQA
namespace Go.Proofs.Ytlbnebmdolnagaa
open Go.RowKit

theorem okSent_head {l : List UInt8} (h : l.length < 1 ∨ 24 < l.length ∨ byteAt l 0 = 32 ∨ byteAt l (l.length - 1) = 32) : okSent l = false := by
  unfold okSent
  rcases h with h | h | h | h
  · have : decide (1 ≤ l.length) = false := decide_eq_false (by omega)
    rw [this]; simp
  · have : decide (l.length ≤ 24) = false := decide_eq_false (by omega)
    rw [this]; simp
  · simp [h]
  · simp [h]
theorem okSent_all {l : List UInt8} (h1 : 1 ≤ l.length) (h2 : l.length ≤ 24) (h3 : byteAt l 0 ≠ 32) (h4 : byteAt l (l.length - 1) ≠ 32) (h : allLt l.length (fun j => sentCh (byteAt l j)) = true) : okSent l = true := by
  unfold okSent
  rw [h]
  simp [h1, h2, h3, h4]

end Go.Proofs.Ytlbnebmdolnagaa

namespace Go.Proofs.Ytlbnebmdolnagaa
open Go.RowKit

def okBody (e : Edit) : Bool :=
  (decide (e.kind = 1) && decide (e.old.toList = []) && okSent e.new.toList) || (decide (e.kind = 2) && okSent e.old.toList && decide (e.new.toList = [])) ||
    (decide (e.kind = 3) && okSent e.old.toList && okSent e.new.toList && !(e.old.toList == e.new.toList))
theorem okEdit_body (e : Edit) : okEdit e = (inB e.id 1 99 && okBody e) := rfl

end Go.Proofs.Ytlbnebmdolnagaa

namespace Go.Proofs.Ytlbnebmdolnagaa
open Go.RowKit

theorem calls_aft {P : Program} {f : FuncId} {args : Array Value} {w : World} {R : Ending → World → Prop} (h : ∀ x : Aft w, Calls P f args x.val R) : Calls P f args w R :=
  h ⟨w, Below.refl _ _⟩
theorem wp_aft {P : Program} {c : Code} {Q : Exit → Act → World → Prop} {a : Act} {W : World} (h : ∀ x : Aft W, c.wp P Q a x.val) : c.wp P Q a W :=
  h ⟨W, Below.refl _ _⟩
/-- A region that draws its order, at a later world. -/
theorem wp_region_at {P : Program} {id : Nat} {Q : Exit → Act → World → Prop} {a : Act} {W : World} {x : Aft W} {l : List Oper} (hm : P.follows .mixedOrders = true) (hB : Region.lexB .any l.toArray = true)
    (h : wpQuiet P l.toArray (fun w' => ∃ x : Aft W, w' = x.val) (fun a' => ∀ w', (∃ x : Aft W, w' = x.val) → Q .normal a' w') l a) : (Code.region id l.toArray true).wp P Q a x.val :=
  wp_region_quiet (C := fun w' => ∃ x : Aft W, w' = x.val) hm hB ⟨⟨x.val.drew, x.ok.drew⟩, rfl⟩ (by simpa using h)

def Aft.old {w : World} {o : Obj} (y : Aft (w.alloc o)) : Aft w := ⟨y.val, ((Below.refl w.heap.size w).alloc (Nat.le_refl _) o).trans (y.ok.mono (by simp))⟩
def Aft.of {w : World} (x : Aft w) (y : Aft x.val) : Aft w := ⟨y.val, x.ok.trans (y.ok.mono x.ok.size)⟩
theorem aft_lift {w : World} {o : Obj} {p : World → Prop} (h : ∀ x : Aft w, p x.val) : ∀ y : Aft (w.alloc o), p y.val := fun y => h y.old
theorem aft_new {w : World} {cs : Array Value} {t : TypeId} (j : Nat) (v : Value) (h : cs[j]? = some v) : ∀ y : Aft (w.alloc (.cells cs t)), y.val.cell? ⟨w.heap.size, j, none⟩ = some v :=
  fun y => y.cell (by simpa [go_sem] using h)
theorem aft_done {w W : World} (h : Below w.heap.size w W) (x : Aft W) : Below w.heap.size w x.val := h.trans (x.ok.mono h.size)
theorem aft_size {W : World} {b o : Nat} {v : Value} (h : W.cell? ⟨b, o, none⟩ = some v) : ∀ x : Aft W, b < x.val.heap.size := fun x => World.block_lt_of_cell? x.val ⟨b, o, none⟩ (x.cell h)
theorem SlR.aft {α : Type} {R : World → Nat → List Value → α → Prop} {size : Nat} {W : World} {B : Nat} {v : Value} {xs : List α} (h : SlR R size W B v xs) (hR : Stays R) (hB : B ≤ W.heap.size) : ∀ x : Aft W, SlR R size x.val x.val.heap.size v xs :=
  fun x => h.on hR (x.ok.mono hB) (Nat.le_trans hB x.ok.size)
theorem retB_aft {P : Program} {f : FuncId} {args : Array Value} {W : World} {x : Aft W} {v : Value} (h : Calls P f args x.val (RetB v x.val)) : Calls P f args x.val fun e w'' => e = .returned v ∧ ∃ y : Aft W, w'' = y.val := aft_b h
theorem retQ_b {P : Program} {f : FuncId} {args : Array Value} {w : World} {v : Value} (h : Calls P f args w (RetQ v w)) : Calls P f args w (RetB v w) :=
  h.mono fun _ _ ⟨he, k, hk⟩ => ⟨he, hk ▸ below_drewN (Below.refl _ _) k⟩

end Go.Proofs.Ytlbnebmdolnagaa

namespace Go.Proofs.Ytlbnebmdolnagaa
open Go.RowKit

end Go.Proofs.Ytlbnebmdolnagaa

namespace Go.Proofs.Ytlbnebmdolnagaa
open Go.RowKit

set_option maxHeartbeats 1000000 in
theorem has1_any (zs : List Int) (z : Int) (w : World) (v : Value) (h : Ints w w.heap.size v zs) :
    Calls Try.prog 163 #[v, .int .i64 z] w (RetB (.bool (zs.contains z)) w) := by
  obtain ⟨A, c, rfl, hc, hm, hel⟩ := h
  unfold maxLen at hm
  have hlm : zs.length ≤ 9223372036854775807 := by omega
  have HEL := Lib.hid hel
  obtain ⟨r, hr⟩ : ∃ r, zs.contains z = r := ⟨_, rfl⟩
  rw [hr]
  have HR := Lib.hid hr
  clear hel hr
  go_enter Try.func163, Try.ntmps163
  go_wp2
  go_loop [5] (fun i => ∃ k : Nat, k ≤ zs.length ∧ i = .int .i64 (k : Int) ∧ z ∉ zs.take k) (fun i => zs.length - (intOf i).toNat)
  case atStart => exact ⟨0, Nat.zero_le _, rfl, by simp⟩
  case round =>
    obtain ⟨k, hk, rfl, hno⟩ := hrel
    have HN := Lib.hid hno
    clear hno
    by_cases hlt : k < zs.length
    · obtain ⟨b, off, rfl, hblt, hcell⟩ := HEL.out (by omega)
      have hget : zs[k]? = some zs[k] := List.getElem?_eq_getElem hlt
      have x0 := ints_at hcell hget
      have hts : zs.take (k + 1) = zs.take k ++ [zs[k]] := by rw [List.take_succ_eq_append_getElem hlt]
      have HG := Lib.hid hget
      have HT := Lib.hid hts
      clear hget hcell hts
      generalize zs[k] = u at *
      by_cases hz : u = z
      · have hz1 : (u == z) = true := by simp [hz]
        have HC : Hid (r = true) := Lib.hid (by rw [← HR.out, List.contains_iff_mem, ← hz]; exact List.mem_of_getElem? HG.out)
        clear hz
        go_wp2
        go_ret
        exact ⟨by rw [HC.out]; rfl, Below.refl _ _⟩
      · have hz1 : (u == z) = false := by simp [hz]
        have HZ := Lib.hid hz
        clear hz
        go_wp2
        go_round
        case rel => exact ⟨k + 1, by omega, by go_num, by rw [HT.out, List.mem_append, List.mem_singleton]; rintro (h | h); exact HN.out h; exact HZ.out h.symm⟩
        case measure => simp [intOf]; omega
    · have hk' : k = zs.length := by omega
      have hge : ¬ (k : Int) < (zs.length : Int) := by omega
      have HC : Hid (r = false) := Lib.hid (by
        rw [← HR.out, Bool.eq_false_iff, ne_eq, List.contains_iff_mem]
        have := HN.out
        rwa [hk', List.take_length] at this)
      clear hk' hlt
      go_wp2
      go_ret
      exact ⟨by rw [HC.out]; rfl, Below.refl _ _⟩
theorem has1_val (zs : List Int) (z : Int) (w : World) (v : Value) (r : Bool) (h : Ints w w.heap.size v zs) (hr : zs.contains z = r) :
    Calls Try.prog 163 #[v, .int .i64 z] w (RetB (.bool r) w) := hr ▸ has1_any zs z w v h

/-- A deed behind a pointer. -/
structure DeedP (w : World) (b o : Nat) (d : Deed) (A1 : Option Addr) (c1 : Nat) (A2 : Option Addr) (c2 : Nat) : Prop where
  k0 : w.cell? ⟨b, o, none⟩ = some (.int .i64 d.kind)
  k1 : w.cell? ⟨b, o + 1, none⟩ = some (.int .i64 d.member)
  k2 : w.cell? ⟨b, o + 2, none⟩ = some (.slice A1 d.trust.length c1)
  k3 : w.cell? ⟨b, o + 3, none⟩ = some (.string d.title)
  k4 : w.cell? ⟨b, o + 4, none⟩ = some (.int .i64 d.vote)
  k5 : w.cell? ⟨b, o + 5, none⟩ = some (.slice A2 d.patch.length c2)
  k6 : w.cell? ⟨b, o + 6, none⟩ = some (.int .i64 d.start)
  k7 : w.cell? ⟨b, o + 7, none⟩ = some (.int .i64 d.until_)
  k8 : w.cell? ⟨b, o + 8, none⟩ = some (.int .i64 d.closes)
  ints : Ints w w.heap.size (.slice A1 d.trust.length c1) d.trust
  edits : Edits w w.heap.size (.slice A2 d.patch.length c2) d.patch
  sizes : SizesOk d.patch
  title : d.title.size ≤ maxLen
theorem DeedP.aft {w : World} {b o : Nat} {d : Deed} {A1 : Option Addr} {c1 : Nat} {A2 : Option Addr} {c2 : Nat} (h : DeedP w b o d A1 c1 A2 c2) (x : Aft w) : DeedP x.val b o d A1 c1 A2 c2 :=
  ⟨x.cell h.k0, x.cell h.k1, x.cell h.k2, x.cell h.k3, x.cell h.k4, x.cell h.k5, x.cell h.k6, x.cell h.k7, x.cell h.k8, h.ints.aft (Pl.stays _) (Nat.le_refl _) x, h.edits.aft (Pl.stays _) (Nat.le_refl _) x, h.sizes, h.title⟩

def spanB (start until_ closes : Int) : Bool := inB closes 1 999 && inB until_ 1 1000 && inB start closes (until_ - 1)
theorem okSpan_span (p : List Edit) (closes start until_ : Int) : okSpan p closes start until_ = (!p.isEmpty && okPatch p && spanB start until_ closes) := by
  have : (inB closes 1 999 && decide (closes ≤ start) && decide (start < until_) && decide (until_ ≤ 1000)) = spanB start until_ closes := by
    rw [Bool.eq_iff_iff]
    unfold spanB
    simp only [Bool.and_eq_true, inB_iff, decide_eq_true_eq]
    omega
  rw [← this]
  unfold okSpan
  simp only [Bool.and_assoc]

theorem len_pos {α : Type} (l : List α) : decide ((0 : Int) < (l.length : Int)) = !l.isEmpty := by
  cases l with
  | nil => rfl
  | cons a l => simp
theorem okDeed_1s {d : Deed} (hk : d.kind = 1) : okDeed d = (inB d.member 0 11 && okTrust d.trust d.member 12 && d.title.toList.isEmpty && (d.vote == 0) && plainB d) := by
  have : decide (d.title.toList = []) = d.title.toList.isEmpty := by cases d.title.toList <;> simp
  rw [okDeed_1 hk, int_zero, this]
theorem okDeed_2s {d : Deed} (hk : d.kind = 2) : okDeed d = (inB d.member 0 11 && ((d.trust.length : Int) == 0) && okName d.title.toList && inB d.vote 0 3 && plainB d) := by
  rw [okDeed_2 hk, len_zero]
  cases inB d.member 0 11 <;> cases okName d.title.toList <;> cases inB d.vote 0 3 <;> cases d.trust.isEmpty <;> cases plainB d <;> rfl
theorem okDeed_3s {d : Deed} (hk : d.kind = 3) : okDeed d = (inB d.member 0 11 && ((d.trust.length : Int) == 0) && okName d.title.toList && (d.vote == 0) && decide ((0 : Int) < (d.patch.length : Int)) && okPatch d.patch && spanB d.start d.until_ d.closes) := by
  rw [okDeed_3 hk, len_zero, len_pos, int_zero, okSpan_span]
  cases inB d.member 0 11 <;> cases okName d.title.toList <;> cases d.trust.isEmpty <;> cases decide (d.vote = 0) <;> cases d.patch.isEmpty <;> cases okPatch d.patch <;> cases spanB d.start d.until_ d.closes <;> rfl
theorem okDeed_4s {d : Deed} (hk : d.kind = 4) : okDeed d = ((d.member == 0) && ((d.trust.length : Int) == 0) && d.title.toList.isEmpty && (d.vote == 0) && plainB d) := by
  have : decide (d.title.toList = []) = d.title.toList.isEmpty := by cases d.title.toList <;> simp
  rw [okDeed_4 hk, len_zero, int_zero, int_zero, this]
end Go.Proofs.Ytlbnebmdolnagaa

namespace Go.Proofs.Ytlbnebmdolnagaa
open Go.RowKit

end Go.Proofs.Ytlbnebmdolnagaa
