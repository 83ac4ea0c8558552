/- What the library's functions do, out of what the listed variables hold at the start. -/
import Derived.Test.YthlfpiflegfoiaaGreatDoorCards
import Derived.Test.YthlfpiflegfoiaaGreatDoorRE
import Derived.Shelf.Strconv.ErrVarParseInt
import Derived.Lib.ParseIntBTie
import Derived.ProofKit
import Derived.LaidMore
import Derived.LaidLaws
import Derived.Stop.LaidErr
import Derived.Lib.LaidTab
namespace Go.Proofs.YthlfpiflegfoiaaGreatDoor
open Go.ChangeShapes Go.WideShapes Go.ChangeAt Go.RowKit

theorem EnO.gType : (Tryz.prog.globals[1]?).map (·.type) = some 128 := by kernel_rfl
theorem EnO.cellsTab : Tryz.prog.cellsOf 128 = 20 := by kernel_rfl
theorem EnO.cellsE : Tryz.prog.cellsOf 113 = 1 := by kernel_rfl
theorem below_grow (w : World) (k : Nat) (os : Array Obj) : Below w.heap.size w (Go.Sort.grow (w.drewN k) os) :=
  ⟨rfl, rfl, rfl, by simp [Go.Sort.grow], fun i hi => by
    show (w.heap ++ os)[i]? = _
    rw [Array.getElem?_append_left hi]⟩
theorem below_bytes (w : World) (e : TypeId) (t : ByteArray) : Below w.heap.size w (Lib.bytesWorld w e t) := by
  refine ⟨rfl, rfl, rfl, ?_, fun i hi => Lib.bytesWorld_at_old _ _ _ _ hi⟩
  rw [Lib.bytesWorld_size]; omega
theorem split_cells (c : UInt8) (s : ByteArray) : Lib.splitB ⟨#[c]⟩ 0 (Lib.countB s ⟨#[c]⟩) s = (splitC c s.data.toList).map (fun l => (⟨l.toArray⟩ : ByteArray)) := by
  have h := Lib.splitB_data ⟨#[c]⟩ 0 (Lib.countB s ⟨#[c]⟩) s
  have hc : Lib.countB s ⟨#[c]⟩ = Lib.count s.data.toList [c] := rfl
  rw [show (⟨#[c]⟩ : ByteArray).data.toList = [c] from rfl, splitK_nc, hc, (count_le_len c s.data.toList _ (Nat.le_refl _)).1] at h
  rw [← h, List.map_map, hc]
  conv => lhs; rw [← List.map_id (Lib.splitB _ _ _ _)]
  apply List.map_congr_left
  intro b _
  exact (mk_data b).symm
theorem splitN_cells (s : ByteArray) : Lib.splitB ⟨#[32]⟩ 0 (min 7 (s.size + 1) - 1) s = (splitNC 32 6 s.data.toList).map (fun l => (⟨l.toArray⟩ : ByteArray)) := by
  have h := Lib.splitB_data ⟨#[32]⟩ 0 (min 7 (s.size + 1) - 1) s
  rw [show (⟨#[32]⟩ : ByteArray).data.toList = [32] from rfl, splitK_nc, show min 7 (s.size + 1) - 1 = min 6 s.size by omega, splitNC_min 6 s.size _ (by simp)] at h
  rw [← h, List.map_map, show min 7 (s.size + 1) - 1 = min 6 s.size by omega]
  conv => lhs; rw [← List.map_id (Lib.splitB _ _ _ _)]
  apply List.map_congr_left
  intro b _
  exact (mk_data b).symm

theorem splitNC_len_le (c : UInt8) : ∀ (k : Nat) (l : List UInt8), (splitNC c k l).length ≤ l.length + 1
  | 0, _ => by simp [splitNC]
  | k + 1, l => by
    by_cases h : c ∈ l
    · obtain ⟨a, r, rfl, ha⟩ := split_at c l h
      rw [splitNC_at k r ha]
      have := splitNC_len_le c k r
      simp
      omega
    · rw [splitNC_none _ h]
      simp
theorem EnO.star : "*" ++ "errors.errorString" = "*errors.errorString" := by decide
theorem EnO.row (u : TypeId) (h : Tryz.prog.typeName? 3 u = some "*errors.errorString") : u = 154 :=
  typeName_ptr_named (nm := "errors.errorString") (by rw [EnO.star]; kernel_rfl) (by kernel_rfl) (by decide) u (by rw [EnO.star]; exact h)

abbrev theRow := Rows.fnExactUndoLastRow
theorem envR_of {W : World} (hL : laidMetH Tryz.prog theRow.laid W) (hS : W.ShapedOpen Tryz.prog) : EnvR W.heap.size W := by
  have hL0 : laidMet Tryz.prog theRow.laid W := hL
  have hT : Lib.TabIs Tryz.prog W _ .u64 Lib.pow10Tab := Lib.tabIs_of_head (g := 1) (by kernel_rfl) EnO.gType Tryz.underlying128 Tryz.underlying113 EnO.cellsE EnO.cellsTab (laidMet.tail (laidMet.tail hL0))
  have hB := Lib.tabBelow_of_tabIs hT
  have hSh : ∀ w', Below W.heap.size W w' → w'.ShapedOpen Tryz.prog := fun w' hb => hS.keptBut (hb.frame (fun _ => False)) (fun p hp => hp.elim)
  obtain ⟨a1, s1, hr, _⟩ := laid_sentinel (laidMet.tail (laidMet.tail (laidMet.tail (laidMet.tail hL0)))) (g := 5) (ti := 50) (tp := 154) (te := 156) (ts := 9) (by kernel_rfl) (by kernel_rfl) Tryz.underlying50 EnO.row Tryz.underlying154 Tryz.underlying156 rfl rfl Tryz.underlying9 (by kernel_rfl) (by kernel_rfl)
  obtain ⟨a2, s2, hy, _⟩ := laid_sentinel (laidMet.tail (laidMet.tail (laidMet.tail (laidMet.tail (laidMet.tail hL0))))) (g := 4) (ti := 50) (tp := 154) (te := 156) (ts := 9) (by kernel_rfl) (by kernel_rfl) Tryz.underlying50 EnO.row Tryz.underlying154 Tryz.underlying156 rfl rfl Tryz.underlying9 (by kernel_rfl) (by kernel_rfl)
  have cr : W.cell? ⟨Tryz.laysC174_ren.g 16, 0, none⟩ = some (.iface 154 (.pointer (some a1))) := by have h0 := World.var?_cell Tryz.laysC174.m16 hr 0; simpa using h0
  have cy : W.cell? ⟨Tryz.laysC174_ren.g 15, 0, none⟩ = some (.iface 154 (.pointer (some a2))) := by have h0 := World.var?_cell Tryz.laysC174.m15 hy 0; simpa using h0
  have lr := World.block_lt_of_cell? W _ cr
  have ly := World.block_lt_of_cell? W _ cy
  refine ⟨⟨fun w' hb n h1 h2 => ?_, fun w' hb l hl => ?_⟩, fun w' hb s hs => ?_, fun w' hb s c hs => ?_, fun w' hb s c hs => ?_, fun w' hb s hs => ?_, fun w' hb l hl => ?_⟩
  · refine (Tryz.strconv_FormatInt_10 n h1 h2 w' (hB w' hb)).mono ?_
    rintro e w2 ⟨rfl, k, os, rfl⟩
    exact ⟨rfl, below_grow _ _ _⟩
  · have hsz : (⟨l.toArray⟩ : ByteArray).size = l.length := by simp [ByteArray.size]
    have hc := Lib.countB_le ⟨#[10]⟩ (by decide) l.length ⟨l.toArray⟩ (by rw [hsz]; exact Nat.le_refl _)
    rw [hsz] at hc
    have h1 : (⟨#[59]⟩ : ByteArray).size = 1 := rfl
    have hr := Tryz.strings_ReplaceAll_shaped ⟨l.toArray⟩ ⟨#[10]⟩ ⟨#[59]⟩ w' (hSh w' hb) (by rw [hsz]; omega) (by decide) (by rw [hsz, h1]; omega)
    have he : Lib.replaceAll l [10] [59] = semis l := replaceAll_map 10 59 (by decide) l
    rw [show (⟨l.toArray⟩ : ByteArray).data.toList = l from rfl, show (⟨#[10]⟩ : ByteArray).data.toList = [10] from rfl, show (⟨#[59]⟩ : ByteArray).data.toList = [59] from rfl, he] at hr
    exact hr
  · have hpi := fun (m : Int) (h1 : -9223372036854775808 ≤ m) (h2 : m ≤ 9223372036854775807) (e : Lib.itoa m = s.data.toList) => (by rw [← e]; exact parse_itoa m h1 h2 : Lib.parseIntB 64 s.data.toList = .ok m)
    rcases hp : Lib.parseIntB 64 s.data.toList with v | _ | _
    · have hv := Lib.parseIntB_bounds hp
      refine (Tryz.strconv_ParseInt_10_at64_ok s (by omega) v hp w').mono ?_
      rintro e w2 ⟨rfl, hw⟩
      refine ⟨v, .nilIface, rfl, by have := hv.1; simpa using this, by have := hv.2; simp at this; omega, .inl rfl, fun m h1 h2 e => ⟨rfl, ?_⟩, ?_⟩
      · have := hpi m h1 h2 e
        rw [hp] at this
        injection this
      · rcases hw with rfl | ⟨t, rfl⟩
        · exact Below.refl _ _
        · exact below_bytes _ _ _
    · refine (Any.strconv_ParseInt_10_at64_syntax Tryz.laysC174 s (by omega) hp _ w' ((hb.cell (p := ⟨Tryz.laysC174_ren.g 15, 0, none⟩) ly).trans cy) (Or.inr ⟨_, _, rfl⟩)).mono ?_
      rintro e w2 ⟨N, rfl, _, _, hbw⟩
      refine ⟨0, _, rfl, by omega, by omega, .inr ⟨_, _, rfl⟩, fun m h1 h2 e => ?_, hbw⟩
      have := hpi m h1 h2 e
      rw [hp] at this
      cases this
    · refine (Any.strconv_ParseInt_10_at64_range Tryz.laysC174 s (by omega) hp _ w' ((hb.cell (p := ⟨Tryz.laysC174_ren.g 16, 0, none⟩) lr).trans cr) (Or.inr ⟨_, _, rfl⟩)).mono ?_
      rintro e w2 ⟨N, rfl, _, _, hbw⟩
      have hsat : -9223372036854775808 ≤ Lib.intSat 64 s.data.toList ∧ Lib.intSat 64 s.data.toList ≤ 9223372036854775807 := by
        unfold Lib.intSat
        split <;> simp
      refine ⟨_, _, rfl, hsat.1, hsat.2, .inr ⟨_, _, rfl⟩, fun m h1 h2 e => ?_, hbw⟩
      have := hpi m h1 h2 e
      rw [hp] at this
      cases this
  · refine (Tryz.strings_Cut_shaped s ⟨#[c]⟩ w' (hSh w' hb) (by omega)).mono ?_
    rintro e w2 ⟨rfl, hk⟩
    rw [show (⟨#[c]⟩ : ByteArray).data.toList = [c] from rfl, cut_cutL]
    exact ⟨_, rfl, hk⟩
  · refine (Tryz.strings_Split_shaped s ⟨#[c]⟩ w' (hSh w' hb) (by omega) (Nat.le_refl 1)).mono ?_
    rintro e w2 ⟨rfl, hw⟩
    have hlen : Lib.countB s ⟨#[c]⟩ + 1 = (splitC c s.data.toList).length := (count_le_len c s.data.toList _ (Nat.le_refl _)).2.symm
    rw [split_cells] at hw
    rw [hlen]
    refine ⟨rfl, _, hw, fun k p hk => ?_⟩
    simp [hk]
  · refine (Tryz.strings_SplitN_shaped s ⟨#[32]⟩ 7 w' (hSh w' hb) (by omega) (by decide) (by omega) (by omega)).mono ?_
    rintro e w2 ⟨rfl, hw⟩
    rw [splitN_cells] at hw ⊢
    rw [List.length_map]
    have hn := splitNC_le (c := 32) 6 s.data.toList
    have hp := splitNC_pos (c := 32) 6 s.data.toList
    have hsl : (splitNC 32 6 s.data.toList).length ≤ min 7 (s.size + 1) := by
      have := splitNC_len_le 32 6 s.data.toList
      have hsz : s.data.toList.length = s.size := by simp
      omega
    have hbw : Below w'.heap.size w' w2 := by rw [hw]; exact (Below.refl _ _).alloc (Nat.le_refl _) _
    refine ⟨min 7 (s.size + 1), rfl, ⟨_, _, rfl, hsl, by unfold maxLen; omega, fun _ => ⟨w'.heap.size, 0, rfl, by rw [hw]; simp, fun k x hx => ⟨strCell x, rfl, rfl, fun j u hu => ?_⟩⟩⟩, hbw⟩
    match j, hu with
    | 0, hu =>
      injection hu with hu
      subst hu
      have hkl := (List.getElem?_eq_some_iff.1 hx).1
      rw [hw, Nat.zero_add, Nat.mul_one, Nat.add_zero]
      have hr := (Row.new w' (Lib.cellsOf ((splitNC 32 6 s.data.toList).map (fun l => (⟨l.toArray⟩ : ByteArray))) (min 7 (s.size + 1))) 9).cell k (.string ⟨x.toArray⟩) (by
        unfold Lib.cellsOf
        rw [List.toList_toArray, List.getElem?_append_left (by simpa using hkl)]
        simp [hx])
      exact hr
  · have hsz : (⟨l.toArray⟩ : ByteArray).size = l.length := by simp [ByteArray.size]
    have hc := Lib.countB_le ⟨#[59]⟩ (by decide) l.length ⟨l.toArray⟩ (by rw [hsz]; exact Nat.le_refl _)
    rw [hsz] at hc
    have h1 : (⟨#[10]⟩ : ByteArray).size = 1 := rfl
    have hr := Tryz.strings_ReplaceAll_shaped ⟨l.toArray⟩ ⟨#[59]⟩ ⟨#[10]⟩ w' (hSh w' hb) (by rw [hsz]; omega) (by decide) (by rw [hsz, h1]; omega)
    have he : Lib.replaceAll l [59] [10] = unsemis l := replaceAll_map 59 10 (by decide) l
    rw [show (⟨l.toArray⟩ : ByteArray).data.toList = l from rfl, show (⟨#[59]⟩ : ByteArray).data.toList = [59] from rfl, show (⟨#[10]⟩ : ByteArray).data.toList = [10] from rfl, he] at hr
    exact hr
end Go.Proofs.YthlfpiflegfoiaaGreatDoor
