/- What the library's functions do, out of what the listed variables hold at the start. -/
import Derived.Test.YtbamlilnbhhcmaaDoorCards
import Derived.Test.YtbamlilnbhhcmaaDoorQB
import Derived.Shelf.Strconv.ErrVarParseInt
import Derived.Lib.ParseIntBTie
import Derived.ProofKit
import Derived.LaidMore
import Derived.LaidLaws
import Derived.Stop.LaidErr
import Derived.Lib.LaidTab
namespace Go.Proofs.YtbamlilnbhhcmaaDoor
open Go.ChangeShapes Go.WideShapes Go.ChangeAt Go.RowKit

theorem EnO.gType : (Tryd.prog.globals[1]?).map (·.type) = some 101 := by kernel_rfl
theorem EnO.cellsTab : Tryd.prog.cellsOf 101 = 20 := by kernel_rfl
theorem EnO.cellsE : Tryd.prog.cellsOf 51 = 1 := by kernel_rfl
theorem below_grow (w : World) (k : Nat) (os : Array Obj) : Below w.heap.size w (Go.Sort.grow (w.drewN k) os) :=
  ⟨rfl, rfl, rfl, by simp [Go.Sort.grow], fun i hi => by
    show (w.heap ++ os)[i]? = _
    rw [Array.getElem?_append_left hi]⟩
theorem below_bytes (w : World) (e : TypeId) (t : ByteArray) : Below w.heap.size w (Lib.bytesWorld w e t) := by
  refine ⟨rfl, rfl, rfl, ?_, fun i hi => Lib.bytesWorld_at_old _ _ _ _ hi⟩
  rw [Lib.bytesWorld_size]; omega
theorem split_cells (c : UInt8) (s : ByteArray) : Lib.splitB ⟨#[c]⟩ 0 (Lib.countB s ⟨#[c]⟩) s = (splitC c s.data.toList).map (fun l => (⟨l.toArray⟩ : ByteArray)) := by
  have h := Lib.splitB_data ⟨#[c]⟩ 0 (Lib.countB s ⟨#[c]⟩) s
  have hc : Lib.countB s ⟨#[c]⟩ = Lib.count s.data.toList [c] := rfl
  rw [show (⟨#[c]⟩ : ByteArray).data.toList = [c] from rfl, splitK_nc, hc, (count_le_len c s.data.toList _ (Nat.le_refl _)).1] at h
  rw [← h, List.map_map, hc]
  conv => lhs; rw [← List.map_id (Lib.splitB _ _ _ _)]
  apply List.map_congr_left
  intro b _
  exact (mk_data b).symm
theorem splitN_cells (s : ByteArray) : Lib.splitB ⟨#[32]⟩ 0 (min 7 (s.size + 1) - 1) s = (splitNC 32 6 s.data.toList).map (fun l => (⟨l.toArray⟩ : ByteArray)) := by
  have h := Lib.splitB_data ⟨#[32]⟩ 0 (min 7 (s.size + 1) - 1) s
  rw [show (⟨#[32]⟩ : ByteArray).data.toList = [32] from rfl, splitK_nc, show min 7 (s.size + 1) - 1 = min 6 s.size by omega, splitNC_min 6 s.size _ (by simp)] at h
  rw [← h, List.map_map, show min 7 (s.size + 1) - 1 = min 6 s.size by omega]
  conv => lhs; rw [← List.map_id (Lib.splitB _ _ _ _)]
  apply List.map_congr_left
  intro b _
  exact (mk_data b).symm

theorem splitNC_len_le (c : UInt8) : ∀ (k : Nat) (l : List UInt8), (splitNC c k l).length ≤ l.length + 1
  | 0, _ => by simp [splitNC]
  | k + 1, l => by
    by_cases h : c ∈ l
    · obtain ⟨a, r, rfl, ha⟩ := split_at c l h
      rw [splitNC_at k r ha]
      have := splitNC_len_le c k r
      simp
      omega
    · rw [splitNC_none _ h]
      simp
theorem EnO.star : "*" ++ "errors.errorString" = "*errors.errorString" := by decide
theorem EnO.row (u : TypeId) (h : Tryd.prog.typeName? 3 u = some "*errors.errorString") : u = 119 :=
  typeName_ptr_named (nm := "errors.errorString") (by rw [EnO.star]; kernel_rfl) (by kernel_rfl) (by decide) u (by rw [EnO.star]; exact h)

abbrev theRow := Rows.fnVoiceTextsRow
theorem envR_of {W : World} (hL : laidMetH Tryd.prog theRow.laid W) (hS : W.ShapedOpen Tryd.prog) : EnvR W.heap.size W := by
  have hL0 : laidMet Tryd.prog theRow.laid W := hL
  have hT : Lib.TabIs Tryd.prog W _ .u64 Lib.pow10Tab := Lib.tabIs_of_head (g := 1) (by kernel_rfl) EnO.gType Tryd.underlying101 Tryd.underlying51 EnO.cellsE EnO.cellsTab (laidMet.tail (laidMet.tail hL0))
  have hB := Lib.tabBelow_of_tabIs hT
  have hSh : ∀ w', Below W.heap.size W w' → w'.ShapedOpen Tryd.prog := fun w' hb => hS.keptBut (hb.frame (fun _ => False)) (fun p hp => hp.elim)
  obtain ⟨a1, s1, hr, _⟩ := laid_sentinel (laidMet.tail (laidMet.tail (laidMet.tail (laidMet.tail hL0)))) (g := 5) (ti := 63) (tp := 119) (te := 121) (ts := 9) (by kernel_rfl) (by kernel_rfl) Tryd.underlying63 EnO.row Tryd.underlying119 Tryd.underlying121 rfl rfl Tryd.underlying9 (by kernel_rfl) (by kernel_rfl)
  obtain ⟨a2, s2, hy, _⟩ := laid_sentinel (laidMet.tail (laidMet.tail (laidMet.tail (laidMet.tail (laidMet.tail hL0))))) (g := 4) (ti := 63) (tp := 119) (te := 121) (ts := 9) (by kernel_rfl) (by kernel_rfl) Tryd.underlying63 EnO.row Tryd.underlying119 Tryd.underlying121 rfl rfl Tryd.underlying9 (by kernel_rfl) (by kernel_rfl)
  have cr : W.cell? ⟨Tryd.laysC174_ren.g 16, 0, none⟩ = some (.iface 119 (.pointer (some a1))) := by have h0 := World.var?_cell Tryd.laysC174.m16 hr 0; simpa using h0
  have cy : W.cell? ⟨Tryd.laysC174_ren.g 15, 0, none⟩ = some (.iface 119 (.pointer (some a2))) := by have h0 := World.var?_cell Tryd.laysC174.m15 hy 0; simpa using h0
  have lr := World.block_lt_of_cell? W _ cr
  have ly := World.block_lt_of_cell? W _ cy
  refine ⟨⟨fun w' hb n h1 h2 => ?_⟩, fun w' hb s hs => ?_, fun w' hb s c hs => ?_⟩
  · refine (Tryd.strconv_FormatInt_10 n h1 h2 w' (hB w' hb)).mono ?_
    rintro e w2 ⟨rfl, k, os, rfl⟩
    exact ⟨rfl, below_grow _ _ _⟩
  · have hpi := fun (m : Int) (h1 : -9223372036854775808 ≤ m) (h2 : m ≤ 9223372036854775807) (e : Lib.itoa m = s.data.toList) => (by rw [← e]; exact parse_itoa m h1 h2 : Lib.parseIntB 64 s.data.toList = .ok m)
    rcases hp : Lib.parseIntB 64 s.data.toList with v | _ | _
    · have hv := Lib.parseIntB_bounds hp
      refine (Tryd.strconv_ParseInt_10_at64_ok s (by omega) v hp w').mono ?_
      rintro e w2 ⟨rfl, hw⟩
      refine ⟨v, .nilIface, rfl, by have := hv.1; simpa using this, by have := hv.2; simp at this; omega, .inl rfl, fun m h1 h2 e => ⟨rfl, ?_⟩, ?_⟩
      · have := hpi m h1 h2 e
        rw [hp] at this
        injection this
      · rcases hw with rfl | ⟨t, rfl⟩
        · exact Below.refl _ _
        · exact below_bytes _ _ _
    · refine (Any.strconv_ParseInt_10_at64_syntax Tryd.laysC174 s (by omega) hp _ w' ((hb.cell (p := ⟨Tryd.laysC174_ren.g 15, 0, none⟩) ly).trans cy) (Or.inr ⟨_, _, rfl⟩)).mono ?_
      rintro e w2 ⟨N, rfl, _, _, hbw⟩
      refine ⟨0, _, rfl, by omega, by omega, .inr ⟨_, _, rfl⟩, fun m h1 h2 e => ?_, hbw⟩
      have := hpi m h1 h2 e
      rw [hp] at this
      cases this
    · refine (Any.strconv_ParseInt_10_at64_range Tryd.laysC174 s (by omega) hp _ w' ((hb.cell (p := ⟨Tryd.laysC174_ren.g 16, 0, none⟩) lr).trans cr) (Or.inr ⟨_, _, rfl⟩)).mono ?_
      rintro e w2 ⟨N, rfl, _, _, hbw⟩
      have hsat : -9223372036854775808 ≤ Lib.intSat 64 s.data.toList ∧ Lib.intSat 64 s.data.toList ≤ 9223372036854775807 := by
        unfold Lib.intSat
        split <;> simp
      refine ⟨_, _, rfl, hsat.1, hsat.2, .inr ⟨_, _, rfl⟩, fun m h1 h2 e => ?_, hbw⟩
      have := hpi m h1 h2 e
      rw [hp] at this
      cases this
  · refine (Tryd.strings_Split_shaped s ⟨#[c]⟩ w' (hSh w' hb) (by omega) (Nat.le_refl 1)).mono ?_
    rintro e w2 ⟨rfl, hw⟩
    have hlen : Lib.countB s ⟨#[c]⟩ + 1 = (splitC c s.data.toList).length := (count_le_len c s.data.toList _ (Nat.le_refl _)).2.symm
    rw [split_cells] at hw
    rw [hlen]
    refine ⟨rfl, _, hw, fun k p hk => ?_⟩
    simp [hk]
end Go.Proofs.YtbamlilnbhhcmaaDoor
