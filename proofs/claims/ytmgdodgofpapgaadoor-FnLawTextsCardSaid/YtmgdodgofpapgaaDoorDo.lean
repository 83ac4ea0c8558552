/- Edits found and made, walked: the reference's. -/
import Derived.Test.YtmgdodgofpapgaaDoorDw
namespace Go.Proofs.YtmgdodgofpapgaaDoor
open Go.RowKit Go.Lib

theorem edit_eta (e : Edit) : Value.agg #[.int .i64 e.kind, .int .i64 e.id, .string e.old, .string e.new] = editV e := rfl

set_option maxHeartbeats 2000000 in
theorem editOf1_any (es : List Edit) (q : Int) (w : World) (v : Value) (h : Edits w w.heap.size v es) :
    Calls Tryd.prog 17 #[v, .int .i64 q] w (RetB (editV (editOf es q)) w) := by
  obtain ⟨A, c, rfl, hc, hm, hel⟩ := h
  unfold maxLen at hm
  have hlm : es.length ≤ 9223372036854775807 := by omega
  have HEL := Lib.hid hel
  have HB : Hid (Below w.heap.size w (w.alloc (.cells #[.int .i64 0, .int .i64 0, .string ⟨#[]⟩, .string ⟨#[]⟩] 44))) := Lib.hid ((Below.refl w.heap.size w).alloc (Nat.le_refl _) _)
  clear hel
  go_enter Tryd.func17, Tryd.ntmps17
  go_wp2
  go_loop [5] (fun i => ∃ k : Nat, k ≤ es.length ∧ i = .int .i64 (k : Int) ∧ editOf es q = editOf (es.drop k) q) (fun i => es.length - (RowKit.intOf i).toNat)
  case atStart => exact ⟨0, Nat.zero_le _, rfl, rfl⟩
  case round =>
    obtain ⟨k, hk, rfl, hf⟩ := hrel
    have HF := Lib.hid hf
    clear hf
    by_cases hlt : k < es.length
    · obtain ⟨b, off, rfl, hblt, hcell⟩ := HEL.out (by omega)
      have hget : es[k]? = some es[k] := List.getElem?_eq_getElem hlt
      obtain ⟨c0, c1, c2, c3⟩ := edits_at hcell hget
      have x0 := (HB.out.cell (p := ⟨b, off + k * 4, none⟩) hblt).trans c0
      have x1 := (HB.out.cell (p := ⟨b, off + k * 4 + 1, none⟩) hblt).trans c1
      have x2 := (HB.out.cell (p := ⟨b, off + k * 4 + 2, none⟩) hblt).trans c2
      have x3 := (HB.out.cell (p := ⟨b, off + k * 4 + 3, none⟩) hblt).trans c3
      have HG := Lib.hid hget
      clear hget hcell c0 c1 c2 c3
      generalize es[k] = e at *
      by_cases hq : e.id = q
      · have HR := Lib.hid (editOf_hit HG.out hq HF.out)
        have hb : (e.id == q) = true := by simp [hq]
        clear hq
        go_wp2
        refine bodyPost_ret (v := .agg #[.int .i64 e.kind, .int .i64 e.id, .string e.old, .string e.new]) (by simp [results, Tryd.results17, go_sem]) rfl ⟨by rw [HR.out]; rfl, ?_⟩
        exact (Below.refl _ _).alloc (Nat.le_refl _) _
      · have HR := Lib.hid (editOf_drop HG.out hq HF.out)
        have hb : (e.id == q) = false := by simp [hq]
        clear hq
        go_wp2
        go_round
        case rel => exact ⟨k + 1, by omega, by go_num, HR.out⟩
        case measure => simp [RowKit.intOf]; omega
    · have HR := Lib.hid (editOf_end (by omega : es.length ≤ k) HF.out)
      have hge : ¬ (k : Int) < (es.length : Int) := by omega
      go_wp2
      refine bodyPost_ret (v := .agg #[.int .i64 0, .int .i64 0, .string ⟨#[]⟩, .string ⟨#[]⟩]) (by simp [results, Tryd.results17, go_sem]) rfl ⟨by rw [HR.out]; rfl, ?_⟩
      exact (Below.refl _ _).alloc (Nat.le_refl _) _

theorem stepE_1 {i : Int} {o n : ByteArray} (h : o.toList = n.toList) : stepE i o n = noEdit := if_pos h
theorem stepE_2 {i : Int} {o n : ByteArray} (h : o.toList ≠ n.toList) (h2 : o.toList = []) : stepE i o n = ⟨1, i, o, n⟩ := by unfold stepE; rw [if_neg h, if_pos h2]
theorem stepE_3 {i : Int} {o n : ByteArray} (h : o.toList ≠ n.toList) (h2 : o.toList ≠ []) (h3 : n.toList = []) : stepE i o n = ⟨2, i, o, n⟩ := by unfold stepE; rw [if_neg h, if_neg h2, if_pos h3]
theorem stepE_4 {i : Int} {o n : ByteArray} (h : o.toList ≠ n.toList) (h2 : o.toList ≠ []) (h3 : n.toList ≠ []) : stepE i o n = ⟨3, i, o, n⟩ := by unfold stepE; rw [if_neg h, if_neg h2, if_neg h3]

set_option maxHeartbeats 2000000 in
theorem step1_any (i : Int) (o n : ByteArray) (w : World) :
    Calls Tryd.prog 27 #[.int .i64 i, .string o, .string n] w (RetB (editV (stepE i o n)) w) := by
  by_cases h1 : o.toList = n.toList
  · have e1 : (o.toList == n.toList) = true := by simp [h1]
    have HR := Lib.hid (stepE_1 (i := i) h1)
    clear h1
    go_enter Tryd.func27, Tryd.ntmps27
    go_wp2
    refine bodyPost_ret (v := .agg #[.int .i64 0, .int .i64 0, .string ⟨#[]⟩, .string ⟨#[]⟩]) (by simp [results, Tryd.results27, go_sem]) rfl ⟨by rw [HR.out]; rfl, ?_⟩
    exact ((Below.refl _ _).alloc (Nat.le_refl _) _).alloc (by simp) _
  · have e1 : (o.toList == n.toList) = false := by simp [h1]
    by_cases h2 : o.toList = []
    · have e2 : (o.toList == []) = true := by simp [h2]
      have HR := Lib.hid (stepE_2 (i := i) h1 h2)
      clear h1 h2
      go_enter Tryd.func27, Tryd.ntmps27
      go_wp2
      refine bodyPost_ret (v := .agg #[.int .i64 1, .int .i64 i, .string o, .string n]) (by simp [results, Tryd.results27, go_sem]) rfl ⟨by rw [HR.out]; rfl, ?_⟩
      exact ((Below.refl _ _).alloc (Nat.le_refl _) _).alloc (by simp) _
    · have e2 : (o.toList == []) = false := by simp [h2]
      by_cases h3 : n.toList = []
      · have e3 : (n.toList == []) = true := by simp [h3]
        have HR := Lib.hid (stepE_3 (i := i) h1 h2 h3)
        clear h1 h2 h3
        go_enter Tryd.func27, Tryd.ntmps27
        go_wp2
        refine bodyPost_ret (v := .agg #[.int .i64 2, .int .i64 i, .string o, .string n]) (by simp [results, Tryd.results27, go_sem]) rfl ⟨by rw [HR.out]; rfl, ?_⟩
        exact ((Below.refl _ _).alloc (Nat.le_refl _) _).alloc (by simp) _
      · have e3 : (n.toList == []) = false := by simp [h3]
        have HR := Lib.hid (stepE_4 (i := i) h1 h2 h3)
        clear h1 h2 h3
        go_enter Tryd.func27, Tryd.ntmps27
        go_wp2
        refine bodyPost_ret (v := .agg #[.int .i64 3, .int .i64 i, .string o, .string n]) (by simp [results, Tryd.results27, go_sem]) rfl ⟨by rw [HR.out]; rfl, ?_⟩
        exact ((Below.refl _ _).alloc (Nat.le_refl _) _).alloc (by simp) _
end Go.Proofs.YtmgdodgofpapgaaDoor
