/- The program's reader of a statute, walked. -/
import Derived.Test.YtmgdodgofpapgaaDoorRF
import Derived.Test.YtmgdodgofpapgaaDoorSx
namespace Go.Proofs.YtmgdodgofpapgaaDoor
open Go.RowKit Go.Lib

/-- What a reader of statutes hands back: the one valid statute with this text, in memory of the call's own; else nothing. -/
def StatPost (l : List UInt8) (w : World) (e : Ending) (w' : World) : Prop :=
  ∃ v, e = .returned (.tuple #[v, .bool (statOf l).isSome]) ∧ OwnL artCells ((statOf l).getD []) w.heap.size w' v ∧ Below w.heap.size w w'
theorem Tryd.infoA : (Tryd.prog.info? 48).map (fun i => (i.zero, i.size, i.bytes)) = some (some (.agg #[.int .i64 0, .string ⟨#[]⟩]), 2, 24) := by kernel_rfl
theorem art_one {q : Art} {u : Value} (h : u ∈ artCells q) : u.oneCell' = true := by
  unfold artCells at h
  rcases List.mem_cons.1 h with rfl | h
  · rfl
  · rcases List.mem_cons.1 h with rfl | h
    · rfl
    · cases h

set_option maxRecDepth 100000 in
set_option maxHeartbeats 4000000 in
theorem readStat2_any (s : ByteArray) (w : World) (hs : s.size ≤ 65536) (hE : EnvR w.heap.size w) :
    Calls Tryd.prog 8 #[.string s] w (StatPost s.data.toList w) := by
  have E := Lib.hid hE
  have hsz : s.data.toList.length = s.size := by simp
  clear hE
  by_cases h2000 : s.size ≤ 1000
  · have bW : Below w.heap.size w (w.alloc (.cells #[] 48)) := (Below.refl _ _).alloc (Nat.le_refl _) _
    have HLIN := Lib.hid (linesOf2_any s (w.alloc (.cells #[] 48)) hs ((E.out.on bW).more bW.size))
    have HLL : Hid (∀ q, okStat q = true → statText q = s.data.toList → (splitC 10 s.data.toList).dropLast = q.map artLine) := Lib.hid (fun q h e => last_art q h e)
    have HLQ : Hid (∀ l ∈ (splitC 10 s.data.toList).dropLast, l.length ≤ 1000) := Lib.hid (fun l hl => by
      have := splitC_len 10 s.data.toList l (List.dropLast_subset _ hl)
      omega)
    have hcnt : (splitC 10 s.data.toList).dropLast.length ≤ 1000 := by have := splitC_cnt 10 s.data.toList; rw [List.length_dropLast]; omega
    unfold LinesOf at HLIN
    generalize (splitC 10 s.data.toList).dropLast = ls at *
    obtain ⟨P, hP⟩ : ∃ P, P = ls.map lineA := ⟨_, rfl⟩
    have HPE : Hid (∀ k, (h : k < ls.length) → P[k]? = some (lineA ls[k])) := Lib.hid (fun k h => by rw [hP, List.getElem?_map, List.getElem?_eq_getElem h]; rfl)
    have HPN : Hid (P.length = ls.length) := Lib.hid (by rw [hP, List.length_map])
    have HPS : Hid (∀ a ∈ P, a.text.size ≤ maxLen) := Lib.hid (fun e he => by
      rw [hP] at he
      obtain ⟨l, hl, rfl⟩ := List.mem_map.1 he
      have := HLQ.out l hl
      have := lineA_size l
      unfold maxLen
      omega)
    have HU : Hid (∀ q, okStat q = true → statText q = s.data.toList → P = q) := Lib.hid (fun q h e => by
      rw [hP, HLL.out q h e, List.map_map]
      conv => rhs; rw [← List.map_id q]
      apply List.map_congr_left
      intro x hx
      exact lineA_of (okStat_mem h hx))
    clear hP HLL
    obtain ⟨i0, hi, hz0, hz1, hz2⟩ := info_parts Tryd.infoA
    go_enter Tryd.func8, Tryd.ntmps8
    go_wp2_with (fail)
    refine (HLIN.out).mono ?_
    rintro e w1 ⟨c, cs, rfl, hblk, hcs, hlc, hc, hb1⟩
    have HB1 : Hid (Below w.heap.size w w1) := Lib.hid (bW.trans (hb1.mono bW.size))
    have hgw : (w.alloc (.cells #[] 48)).heap.size = w.heap.size + 1 := by simp
    have hown0 : w1.ownsRow w.heap.size 48 2 (.slice (some ⟨w.heap.size, 0, none⟩) 0 0) 0 [] := own_below (by simpa using World.ownsRow_made w #[] 0 (Nat.le_refl _) (Nat.zero_le _) rfl) hb1
    rw [hgw] at hblk
    have HBLK := Lib.hid hblk
    have HCS := Lib.hid hcs
    have HOWN0 := Lib.hid hown0
    clear hblk hcs hb1 hown0 HLIN
    go_wp2
    go_loopw [4, 21] (fun o i wr => ∃ (k : Nat), k ≤ ls.length ∧ i = .int .i64 (k : Int) ∧ wr.ownsRow w.heap.size 48 2 o k ((P.take k).flatMap artCells) ∧ o ≠ .slice none 0 0 ∧ wr.heap[w.heap.size + 1]? = some (.cells cs 9 (0, 0)) ∧ Below w.heap.size w wr) (fun _ i _ => ls.length - (RowKit.intOf i).toNat)
    case atStart => exact ⟨0, Nat.zero_le _, rfl, HOWN0.out, by simp, HBLK.out, HB1.out⟩
    case round =>
      obtain ⟨k, hk, rfl, hown, hnn, hS, hb⟩ := hrel
      obtain ⟨g, cap, rfl, hdc, hcm⟩ := own_some hown hnn
      unfold maxLen at hcm
      clear hnn
      have HOWN := Lib.hid hown
      have HB := Lib.hid hb
      have HSW := Lib.hid hS
      clear hown hb
      by_cases hlt : k < ls.length
      · have x0 := block_cell hS (HCS.out k _ (List.getElem?_eq_getElem hlt))
        have HTK := Lib.hid (take_edits artCells (HPE.out k hlt))
        have hlk := HLQ.out ls[k] (List.getElem_mem hlt)
        clear hS
        generalize ls[k] = r at *
        have hr0 : (⟨r.toArray⟩ : ByteArray).size ≤ 65536 := by rw [mk_size]; omega
        have HC1 : Hid (∀ W, Below w.heap.size w W → Calls Tryd.prog 22 #[.string ⟨r.toArray⟩, .string ⟨#[32]⟩] W fun e w'' => ∃ ok, e = .returned (.tuple #[.string ⟨(cutL 32 r).1.toArray⟩, .string ⟨(cutL 32 r).2.toArray⟩, .bool ok]) ∧ ∃ k, w'' = W.drewN k) := Lib.hid (fun W bw => E.out.cut W bw ⟨r.toArray⟩ 32 hr0)
        obtain ⟨ha, hbl⟩ := cutL_len 32 r
        have HQ : Hid (lineA r = ⟨(numOf 1 99 (cutL 32 r).1).getD 0, ⟨(cutL 32 r).2.toArray⟩⟩) := Lib.hid rfl
        generalize lineA r = Q at *
        generalize cutL 32 r = ab at *
        obtain ⟨a, b⟩ := ab
        simp only at ha hbl HQ HC1
        have HNUM : Hid (∀ W, Below w.heap.size w W → Calls Tryd.prog 23 #[.string ⟨a.toArray⟩, .int .i64 1, .int .i64 99] W (RetB (.tuple #[.int .i64 ((numOf 1 99 a).getD 0), .bool (numOf 1 99 a).isSome]) W)) := Lib.hid (fun W bw => number2_any ⟨a.toArray⟩ 1 99 W (by rw [mk_size]; omega) (by omega) (by omega) ((E.out.on bw).more bw.size))
        generalize (numOf 1 99 a).getD 0 = z at *
        generalize (numOf 1 99 a).isSome = zok at *
        clear ha hbl hr0
        generalize (P.take k).flatMap artCells = L at *
        go_wp2_with (fail)
        refine (HC1.out _ HB.out).mono ?_
        rintro e w2 ⟨ok1, rfl, m2, rfl⟩
        have HB2 := Lib.hid (below_drewN HB.out m2)
        go_wp2_with (fail)
        refine (HNUM.out _ HB2.out).mono ?_
        rintro e w3 ⟨rfl, hb3⟩
        have hbb := HB2.out.trans (hb3.mono HB2.out.size)
        have hk3 : Below wr.heap.size wr w3 := (below_drewN (Below.refl wr.heap.size wr) m2).trans hb3
        have hown := own_below HOWN.out hk3
        have HS3 := Lib.hid (block_below hk3 HSW.out)
        have hsz3 := hbb.size
        clear hk3 hb3 x0
        go_wp2_with (at_builtin; refine wpList_append_own _ rfl _ _ 24 rfl w.heap.size 48 i0 (.agg #[.int .i64 0, .string ⟨#[]⟩]) 2 24 Tryd.underlying24 hi hz0 hz1 hz2 rfl (by decide) _ _ _ rfl (hown.alloc _) ⟨w3.heap.size, 0, none⟩ 1 1 (artCells ⟨z, ⟨b.toArray⟩⟩) rfl rfl (fun j u hj => new_at hj) (fun u hu => art_one hu) ?c3 ?c4 (base_le hsz3) ?_)
        case c3 => unfold maxLen; omega
        case c4 => omega
        · intro v' w5 hown' hgrow hiff
          have hnn' : v' ≠ .slice none 0 0 := by simpa using hiff
          have hb5 := (hbb.alloc hsz3 _).grown hgrow (base_le hsz3) (fun j hj => (hown.lt j hj).1)
          have hS5 := block_keep hgrow HS3.out (own_ne hown HS3.out (by decide))
          clear hown hgrow hiff
          go_wp2
          go_roundw
          case rel => exact ⟨k + 1, by omega, by go_num, by rw [HTK.out, HQ.out]; exact hown', hnn', hS5, hb5⟩
          case measure => simp [RowKit.intOf]; omega
      · have hge : ¬ (k : Int) < (ls.length : Int) := by omega
        have hk' : k = P.length := by have := HPN.out; omega
        have hfin : P.take k = P := List.take_of_length_le (by omega)
        have hown := HOWN.out
        rw [hfin, hk'] at hown
        have hE : Arts wr wr.heap.size (.slice (some ⟨g, 0, none⟩) k cap) P := by rw [hk']; exact SlR.of_own artCells (fun _ => rfl) hown
        have hO : OwnL artCells P w.heap.size wr (.slice (some ⟨g, 0, none⟩) k cap) := by rw [hk']; exact OwnL.of_own artCells (size := 2) (fun _ => rfl) hown
        have HTX := Lib.hid (statText2_any P wr _ hE HPS.out (env_more (E.out.env.on HB.out) HB.out.size))
        have HO := Lib.hid hO
        clear hk' hfin hown hE hO hlt hS
        cases hok : okStat P with
        | false =>
          have HN : Hid (statOf s.data.toList = none) := Lib.hid (inv_no HU.out (by rw [hok]; simp))
          rw [hok] at HTX
          clear hok
          go_wp2_with (fail)
          refine (HTX.out).mono ?_
          rintro e w2 ⟨rfl, hb2⟩
          have hb2w := HB.out.trans (hb2.mono HB.out.size)
          clear hb2
          go_wp2
          go_ret2
          exact ⟨.slice none 0 0, by rw [HN.out]; rfl, by rw [HN.out]; exact OwnL.nil _ _ _, hb2w⟩
        | true =>
          have HOK := Lib.hid hok
          rw [hok, statOut_ok hok] at HTX
          clear hok
          go_wp2_with (fail)
          refine (HTX.out).mono ?_
          rintro e w2 ⟨rfl, hb2⟩
          have HB2 := Lib.hid hb2
          have hb2w := HB.out.trans (hb2.mono HB.out.size)
          clear hb2
          by_cases heq : statText P = s.data.toList
          · have hs1 : (statText P == s.toList) = true := by rw [ByteArray.toList_eq, heq]; simp
            have HN : Hid (statOf s.data.toList = some P) := Lib.hid (inv_of HU.out HOK.out heq)
            clear heq
            go_wp2
            go_ret2
            exact ⟨.slice (some ⟨g, 0, none⟩) k cap, by rw [HN.out]; rfl, by rw [HN.out]; exact HO.out.on HB2.out, hb2w⟩
          · have hs1 : (statText P == s.toList) = false := by rw [ByteArray.toList_eq]; simpa using heq
            have HN : Hid (statOf s.data.toList = none) := Lib.hid (inv_no HU.out (fun h => heq h.2))
            clear heq
            go_wp2
            go_ret2
            exact ⟨.slice none 0 0, by rw [HN.out]; rfl, by rw [HN.out]; exact OwnL.nil _ _ _, hb2w⟩
  · have HN : Hid (statOf s.data.toList = none) := Lib.hid (inv_never (fun q h e => by
      have h1 := statText_take h q.length
      have h2 := okStat_len h
      rw [List.take_length, e] at h1
      omega))
    go_enter Tryd.func8, Tryd.ntmps8
    go_wp2
    go_ret2
    exact ⟨.slice none 0 0, by rw [HN.out]; rfl, by rw [HN.out]; exact OwnL.nil _ _ _, Below.refl _ _⟩
end Go.Proofs.YtmgdodgofpapgaaDoor
