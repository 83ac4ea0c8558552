/- The reference's reader of a patch. -/
import Derived.Test.YthlfpiflegfoiaaGreatDoorRC
namespace Go.Proofs.YthlfpiflegfoiaaGreatDoor
open Go.RowKit Go.Lib

theorem inv_never {α : Type} {ok : α → Bool} {f : α → List UInt8} {t : List UInt8} (h : ∀ q, ok q = true → f q = t → False) : inv ok f t = none := by
  unfold inv
  rw [dif_neg]
  rintro ⟨q, h1, h2⟩
  exact h q h1 h2
theorem splitC_len (c : UInt8) : ∀ (l : List UInt8) (p : List UInt8), p ∈ splitC c l → p.length ≤ l.length
  | [], p, h => by simp [splitC] at h; subst h; simp
  | x :: l, p, h => by
    have ih := splitC_len c l
    unfold splitC at h
    split at h
    · rcases List.mem_cons.1 h with rfl | h
      · simp
      · have := ih p h; simp; omega
    · revert h
      cases hs : splitC c l with
      | nil => exact absurd hs (splitC_ne c l)
      | cons a r =>
        intro h
        rcases List.mem_cons.1 h with rfl | h
        · have := ih a (by rw [hs]; simp); simp; omega
        · have := ih p (by rw [hs]; simp [h]); simp; omega
theorem splitNC_len (c : UInt8) : ∀ (k : Nat) (l : List UInt8) (p : List UInt8), p ∈ splitNC c k l → p.length ≤ l.length
  | 0, l, p, h => by
    rw [splitNC, List.mem_singleton] at h
    rw [h]
    exact Nat.le_refl _
  | k + 1, l, p, h => by
    rw [splitNC] at h
    obtain ⟨a1, a2⟩ := cutL_len c l
    split at h
    · rcases List.mem_cons.1 h with rfl | h
      · exact a1
      · exact Nat.le_trans (splitNC_len c k _ p h) a2
    · rw [List.mem_singleton] at h
      rw [h]
      exact Nat.le_refl _
theorem lineP_size (d : Bool) (lo hi : Int) (l : List UInt8) : (lineP d lo hi l).old.size ≤ l.length ∧ (lineP d lo hi l).new.size ≤ l.length := by
  cases l with
  | nil => exact ⟨Nat.le_refl _, Nat.le_refl _⟩
  | cons h r =>
    obtain ⟨a1, a2⟩ := cutL_len 32 r
    obtain ⟨b1, b2⟩ := cutL_len 124 (cutL 32 r).2
    rw [lineP, List.length_cons]
    split
    · constructor <;> simp [ByteArray.size] <;> omega
    · split
      · constructor <;> simp [ByteArray.size] <;> omega
      · split
        · constructor <;> simp [ByteArray.size] <;> omega
        · constructor <;> simp [ByteArray.size]

def PatchPost (l : List UInt8) (w : World) (e : Ending) (w' : World) : Prop :=
  ∃ v, e = .returned (.tuple #[v, .bool (patchOf l).isSome]) ∧ OwnL editCells ((patchOf l).getD []) w.heap.size w' v ∧ Below w.heap.size w w'
theorem Tryz.infoE : (Tryz.prog.info? 66).map (fun i => (i.zero, i.size, i.bytes)) = some (some (.agg #[.int .i64 0, .int .i64 0, .string ⟨#[]⟩, .string ⟨#[]⟩]), 4, 48) := by kernel_rfl
theorem new_at {w : World} {cs : List Value} {T : TypeId} {j : Nat} {u : Value} (h : cs[j]? = some u) : (w.alloc (.cells cs.toArray T)).cell? ((⟨w.heap.size, 0, none⟩ : Addr).add j) = some u := by
  have hr := (Row.new w cs.toArray T).cell j u (by simpa using h)
  unfold Addr.add
  by_cases h0 : j = 0
  · subst h0; simpa using hr
  · simpa [h0] using hr
theorem edit_one {q : Edit} {u : Value} (h : u ∈ editCells q) : u.oneCell' = true := by
  simp only [editCells, List.mem_cons, List.not_mem_nil, or_false] at h
  rcases h with rfl | rfl | rfl | rfl <;> rfl
theorem base_le {b : Nat} {w : World} {o : Obj} (h : b ≤ w.heap.size) : b ≤ (w.alloc o).heap.size := by simp; omega
theorem take_edits {α : Type} (f : α → List Value) {xs : List α} {k : Nat} {x : α} (h : xs[k]? = some x) : (xs.take (k + 1)).flatMap f = (xs.take k).flatMap f ++ f x := by
  obtain ⟨hk, rfl⟩ := List.getElem?_eq_some_iff.1 h
  rw [List.take_succ_eq_append_getElem hk, flat_snoc]

set_option maxRecDepth 100000 in
set_option maxHeartbeats 4000000 in
theorem readPatch1_any (s : ByteArray) (w : World) (hs : s.size ≤ 1048576) :
    Calls Tryz.prog 52 #[.string s] w (PatchPost s.data.toList w) := by
  have hsz : s.data.toList.length = s.size := by simp
  have HLIN := Lib.hid (fun W => lines1_any s 16 W hs (by omega))
  have HUN : Hid (∀ ls, splitC 10 s.data.toList = ls ++ [[]] → ∀ q, okPatch q = true → patchText q = s.data.toList → ls.map (lineP false (-999999999) 999999999) = q) := Lib.hid (fun ls h q h1 h2 => lines_uniq false (by omega) (by omega) (by omega) (by omega) h q h1 h2)
  have HNV : Hid ((∀ qs, splitC 10 s.data.toList = qs ++ [[]] → 16 < qs.length) → patchOf s.data.toList = none) := Lib.hid (fun h => inv_never (fun q h1 h2 => by
    have e := patch_lines h1
    rw [h2] at e
    have h3 := h _ e
    have h4 := okPatch_len h1
    rw [List.length_map] at h3
    omega))
  have HPL : Hid (∀ ls, splitC 10 s.data.toList = ls ++ [[]] → ∀ l ∈ ls, l.length ≤ 1048576) := Lib.hid (fun ls h l hl => by
    have := splitC_len 10 s.data.toList l (by rw [h]; simp [hl])
    omega)
  obtain ⟨i0, hi, hz0, hz1, hz2⟩ := info_parts Tryz.infoE
  go_enter Tryz.func52, Tryz.ntmps52
  go_wp2_with (fail)
  refine (HLIN.out _).mono ?_
  rintro e w1 ⟨ls, v, ok, rfl, hS, h1, h0, hb1⟩
  cases ok with
  | false =>
    have HN := Lib.hid (HNV.out (h0 rfl))
    clear h1 h0 hS
    go_wp2
    go_ret2
    exact ⟨.slice none 0 0, by rw [HN.out]; rfl, by rw [HN.out]; exact OwnL.nil _ _ _, hb1⟩
  | true =>
    obtain ⟨hsp, hlen⟩ := h1 rfl
    have HU := Lib.hid (HUN.out ls hsp)
    have HP := Lib.hid (HPL.out ls hsp)
    have HSS := Lib.hid hS
    obtain ⟨A, n, c, rfl⟩ : ∃ A n c, v = .slice A n c := by obtain ⟨A, c, rfl, _⟩ := hS; exact ⟨A, _, c, rfl⟩
    obtain ⟨hn, _, _⟩ := slR_len' hS
    subst hn
    obtain ⟨P, hP⟩ : ∃ P, P = ls.map (lineP false (-999999999) 999999999) := ⟨_, rfl⟩
    have HPE : Hid (∀ k, (h : k < ls.length) → P[k]? = some (lineP false (-999999999) 999999999 ls[k])) := Lib.hid (fun k h => by rw [hP, List.getElem?_map, List.getElem?_eq_getElem h]; rfl)
    have HPN : Hid (P.length = ls.length) := Lib.hid (by rw [hP, List.length_map])
    have HPS : Hid (SizesOk P) := Lib.hid (fun e he => by
      rw [hP] at he
      obtain ⟨l, hl, rfl⟩ := List.mem_map.1 he
      have := HP.out l hl
      obtain ⟨a, b⟩ := lineP_size false (-999999999) 999999999 l
      unfold SizeOk maxLen
      omega)
    rw [← hP] at HU
    clear hP h1 h0 hS hsp HUN HNV HPL HLIN
    have HB1 := Lib.hid hb1
    clear hb1
    go_wp2
    go_loopw [6, 7] (fun p i wr => ∃ k : Nat, k ≤ ls.length ∧ i = .int .i64 (k : Int) ∧ wr.ownsRow w1.heap.size 66 4 p k ((P.take k).flatMap editCells) ∧ Below w1.heap.size w1 wr) (fun _ i _ => ls.length - (RowKit.intOf i).toNat)
    case atStart => exact ⟨0, Nat.zero_le _, rfl, by simpa using World.ownsRow_made w1 #[] 0 (Nat.le_refl _) (Nat.zero_le _) rfl, (Below.refl _ _).alloc (Nat.le_refl _) _⟩
    case round =>
      obtain ⟨k, hk, rfl, hown, hb⟩ := hrel
      obtain ⟨A2, cap, rfl, hdc, hcm⟩ := own_len hown
      unfold maxLen at hcm
      have HOWN := Lib.hid hown
      have HB := Lib.hid hb
      clear hown hb
      by_cases hlt : k < ls.length
      · obtain ⟨b, off, rfl, hblt, x0⟩ := strs_get (HSS.out.on HB.out) (List.getElem?_eq_getElem hlt)
        have HTK := Lib.hid (take_edits editCells (HPE.out k hlt))
        have hlk := HP.out ls[k] (List.getElem_mem hlt)
        have HLN := Lib.hid (fun W => line1_any ⟨ls[k].toArray⟩ W (by rw [mk_size]; exact hlk))
        rw [show (⟨ls[k].toArray⟩ : ByteArray).data.toList = ls[k] from rfl] at HLN
        generalize lineP false (-999999999) 999999999 ls[k] = q at *
        generalize ls[k] = lk at *
        have HLV : Hid (∀ W, Calls Tryz.prog 77 #[.string ⟨lk.toArray⟩] W (RetB (.agg #[.int .i64 q.kind, .int .i64 q.id, .string q.old, .string q.new]) W)) := Lib.hid (fun W => HLN.out W)
        clear HLN
        generalize (P.take k).flatMap editCells = L at *
        have hlen16 : ls.length ≤ 16 := hlen
        clear hlen
        go_wp2_with (fail)
        refine (HLV.out _).mono ?_
        rintro e w2 ⟨rfl, hb2⟩
        have hbb := HB.out.trans (hb2.mono HB.out.size)
        have hown := own_below HOWN.out hb2
        have hsz2 := hbb.size
        have hszw := HB1.out.size
        clear hb2 x0
        go_wp2_with (at_builtin; refine wpList_append_own _ rfl _ _ 37 rfl w1.heap.size 66 i0 (.agg #[.int .i64 0, .int .i64 0, .string ⟨#[]⟩, .string ⟨#[]⟩]) 4 48 Tryz.underlying37 hi hz0 hz1 hz2 rfl (by decide) _ _ _ rfl (hown.alloc _) ⟨w2.heap.size, 0, none⟩ 1 1 (editCells q) rfl rfl (fun j u hj => new_at hj) (fun u hu => edit_one hu) ?c3 ?c4 (base_le hsz2) ?_)
        case c3 => unfold maxLen; omega
        case c4 => omega
        · intro v' w3 hown' hgrow _
          have hb3 := (hbb.alloc hsz2 _).grown hgrow (by simp; omega) (fun j hj => (hown.lt j hj).1)
          clear hown hgrow
          go_wp2
          go_roundw
          case rel => exact ⟨k + 1, by omega, by go_num, by rw [HTK.out]; exact hown', hb3⟩
          case measure => simp [RowKit.intOf]; omega
      · have hge : ¬ (k : Int) < (ls.length : Int) := by omega
        have hk' : k = P.length := by have := HPN.out; omega
        have hfin : P.take k = P := List.take_of_length_le (by omega)
        have hown := HOWN.out
        rw [hfin, hk'] at hown
        have hE : Edits wr wr.heap.size (.slice A2 k cap) P := by rw [hk']; exact SlR.of_own editCells (fun _ => rfl) hown
        have hO : OwnL editCells P w.heap.size wr (.slice A2 k cap) := by rw [hk']; exact (OwnL.of_own editCells (size := 4) (fun _ => rfl) hown).less HB1.out.size
        have HE := Lib.hid hE
        have HO := Lib.hid hO
        clear hk' hfin hown hE hO hlt
        have HBW : Hid (Below w.heap.size w wr) := Lib.hid (HB1.out.trans (HB.out.mono HB1.out.size))
        go_wp2_with (fail)
        cases hok : okPatch P with
        | false =>
          refine (patch1_val P _ _ false HE.out HPS.out hok).mono ?_
          rintro e w2 ⟨rfl, hb2⟩
          have hb2w := HBW.out.trans (hb2.mono HBW.out.size)
          have HN : Hid (patchOf s.data.toList = none) := Lib.hid (inv_no HU.out (by rw [hok]; simp))
          clear hok
          go_wp2
          go_ret2
          exact ⟨.slice none 0 0, by rw [HN.out]; rfl, by rw [HN.out]; exact OwnL.nil _ _ _, hb2w⟩
        | true =>
          refine (patch1_val P _ _ true HE.out HPS.out hok).mono ?_
          rintro e w2 ⟨rfl, hb2⟩
          have HB2 := Lib.hid hb2
          have HTX := Lib.hid (patchText1_any P w2 (.slice A2 k cap) (SlR.on HE.out (Pl.stays _) hb2 hb2.size) hok)
          clear hb2
          have HOK := Lib.hid hok
          clear hok
          go_wp2_with (fail)
          refine (HTX.out).mono ?_
          rintro e w3 ⟨rfl, hb3⟩
          have HB3 := Lib.hid hb3
          have HBX : Hid (Below w.heap.size w w3) := Lib.hid ((HBW.out.trans (HB2.out.mono HBW.out.size)).trans (hb3.mono (HBW.out.trans (HB2.out.mono HBW.out.size)).size))
          clear hb3
          by_cases heq : patchText P = s.data.toList
          · have hs1 : (patchText P == s.toList) = true := by rw [ByteArray.toList_eq, heq]; simp
            have HN : Hid (patchOf s.data.toList = some P) := Lib.hid (inv_of HU.out HOK.out heq)
            clear heq
            go_wp2
            go_ret2
            exact ⟨.slice A2 k cap, by rw [HN.out]; rfl, by rw [HN.out]; exact (HO.out.on HB2.out).on HB3.out, HBX.out⟩
          · have hs1 : (patchText P == s.toList) = false := by rw [ByteArray.toList_eq]; simpa using heq
            have HN : Hid (patchOf s.data.toList = none) := Lib.hid (inv_no HU.out (fun h => heq h.2))
            clear heq
            go_wp2
            go_ret2
            exact ⟨.slice none 0 0, by rw [HN.out]; rfl, by rw [HN.out]; exact OwnL.nil _ _ _, HBX.out⟩
end Go.Proofs.YthlfpiflegfoiaaGreatDoor
