/- The program's reader of a patch. -/
import Derived.Test.YthlfpiflegfoiaaGreatDoorRE
namespace Go.Proofs.YthlfpiflegfoiaaGreatDoor
open Go.RowKit Go.Lib

/-- The lines of a text, in a block of the call's own. -/
def LinesOf (l : List UInt8) (w : World) (e : Ending) (w' : World) : Prop :=
  ∃ c cs, e = .returned (.slice (some ⟨w.heap.size, 0, none⟩) (splitC 10 l).dropLast.length c) ∧ w'.heap[w.heap.size]? = some (.cells cs 9 (0, 0)) ∧ (∀ (k : Nat) (p : List UInt8), (splitC 10 l).dropLast[k]? = some p → cs[k]? = some (.string ⟨p.toArray⟩)) ∧ (splitC 10 l).dropLast.length ≤ c ∧ c ≤ l.length + 1 ∧ Below w.heap.size w w'

set_option maxHeartbeats 1000000 in
theorem linesOf2_any (s : ByteArray) (w : World) (hs : s.size ≤ 65536) (hE : EnvR w.heap.size w) :
    Calls Tryz.prog 36 #[.string s] w (LinesOf s.data.toList w) := by
  have hsz : s.data.toList.length = s.size := by simp
  have HS := Lib.hid (hE.spl w (Below.refl _ _) s 10 hs)
  have hcnt := splitC_cnt 10 s.data.toList
  have hne := List.length_pos_iff.2 (splitC_ne 10 s.data.toList)
  have hdl : (splitC 10 s.data.toList).dropLast.length = (splitC 10 s.data.toList).length - 1 := List.length_dropLast
  have HDR : Hid (∀ (k : Nat) (p : List UInt8), (splitC 10 s.data.toList).dropLast[k]? = some p → (splitC 10 s.data.toList)[k]? = some p) := Lib.hid (fun k p h => by
    have hk := (List.getElem?_eq_some_iff.1 h).1
    rw [List.getElem?_dropLast] at h
    split at h
    · exact h
    · cases h)
  clear hE
  unfold LinesOf
  generalize (splitC 10 s.data.toList).dropLast = ds at *
  generalize splitC 10 s.data.toList = ps at *
  obtain ⟨n, hn⟩ : ∃ n, ps.length = n + 1 := ⟨ps.length - 1, by omega⟩
  rw [hn] at hdl HS hcnt
  have hdn : ds.length = n := by omega
  go_enter Tryz.func36, Tryz.ntmps36
  go_wp2_with (fail)
  refine (HS.out).mono ?_
  rintro e w1 ⟨rfl, cs, hw1, hcs⟩
  have HB : Hid (Below w.heap.size w w1) := Lib.hid (by rw [hw1]; exact (Below.refl _ _).alloc (Nat.le_refl _) _)
  have HBK : Hid (w1.heap[w.heap.size]? = some (.cells cs 9 (0, 0))) := Lib.hid (by rw [hw1]; exact alloc_at _ _)
  have HCS : Hid (∀ (k : Nat) (p : List UInt8), ds[k]? = some p → cs[k]? = some (.string ⟨p.toArray⟩)) := Lib.hid (fun k p h => hcs k p (HDR.out k p h))
  clear hw1 hcs HDR HS
  go_wp2
  go_ret
  exact ⟨n + 1, cs, by rw [hdn]; rfl, HBK.out, HCS.out, by omega, by omega, HB.out⟩

theorem numOf_patch {l : List UInt8} : (numOf 1 99 l).getD 0 = (numOf 1 99 l).getD 0 := rfl
theorem last_line {t : List UInt8} : ∀ q, okPatch q = true → patchText q = t → (splitC 10 t).dropLast = q.map editLine := by
  intro q h e
  rw [← e, patch_lines h]
  simp

set_option maxRecDepth 100000 in
set_option maxHeartbeats 4000000 in
theorem readPatch2_any (s : ByteArray) (w : World) (hs : s.size ≤ 65536) (hE : EnvR w.heap.size w) :
    Calls Tryz.prog 61 #[.string s] w (PatchPost s.data.toList w) := by
  have E := Lib.hid hE
  have hsz : s.data.toList.length = s.size := by simp
  clear hE
  by_cases h2000 : s.size ≤ 2000
  · have bW : Below w.heap.size w (w.alloc (.cells #[] 66)) := (Below.refl _ _).alloc (Nat.le_refl _) _
    have HLIN := Lib.hid (linesOf2_any s (w.alloc (.cells #[] 66)) hs ((E.out.on bW).more bW.size))
    have HLL : Hid (∀ q, okPatch q = true → patchText q = s.data.toList → (splitC 10 s.data.toList).dropLast = q.map editLine) := Lib.hid (fun q h e => last_line q h e)
    have HLQ : Hid (∀ l ∈ (splitC 10 s.data.toList).dropLast, l.length ≤ 2000) := Lib.hid (fun l hl => by
      have := splitC_len 10 s.data.toList l (List.dropLast_subset _ hl)
      omega)
    have hcnt : (splitC 10 s.data.toList).dropLast.length ≤ 2000 := by have := splitC_cnt 10 s.data.toList; rw [List.length_dropLast]; omega
    unfold LinesOf at HLIN
    generalize (splitC 10 s.data.toList).dropLast = ls at *
    obtain ⟨P, hP⟩ : ∃ P, P = ls.map (lineP true 1 99) := ⟨_, rfl⟩
    have HPE : Hid (∀ k, (h : k < ls.length) → P[k]? = some (lineP true 1 99 ls[k])) := Lib.hid (fun k h => by rw [hP, List.getElem?_map, List.getElem?_eq_getElem h]; rfl)
    have HPN : Hid (P.length = ls.length) := Lib.hid (by rw [hP, List.length_map])
    have HPS : Hid (SizesOk P) := Lib.hid (fun e he => by
      rw [hP] at he
      obtain ⟨l, hl, rfl⟩ := List.mem_map.1 he
      have := HLQ.out l hl
      obtain ⟨a, b⟩ := lineP_size true 1 99 l
      unfold SizeOk maxLen
      omega)
    have HU : Hid (∀ q, okPatch q = true → patchText q = s.data.toList → P = q) := Lib.hid (fun q h e => by
      rw [hP, HLL.out q h e, List.map_map]
      conv => rhs; rw [← List.map_id q]
      apply List.map_congr_left
      intro x hx
      obtain ⟨k, hk⟩ := List.getElem?_of_mem hx
      exact lineP_of true (okPatch_at h hk) (by omega) (by omega) (by omega) (by omega))
    have HEMP : Hid ([] ∈ ls → patchOf s.data.toList = none) := Lib.hid (fun hm => inv_never (fun q h e => by
      rw [HLL.out q h e] at hm
      obtain ⟨x, _, hx⟩ := List.mem_map.1 hm
      unfold editLine at hx
      split at hx
      · cases hx
      · split at hx <;> cases hx))
    clear hP HLL
    obtain ⟨i0, hi, hz0, hz1, hz2⟩ := info_parts Tryz.infoE
    go_enter Tryz.func61, Tryz.ntmps61
    go_wp2_with (fail)
    refine (HLIN.out).mono ?_
    rintro e w1 ⟨c, cs, rfl, hblk, hcs, hlc, hc, hb1⟩
    have HB1 : Hid (Below w.heap.size w w1) := Lib.hid (bW.trans (hb1.mono bW.size))
    have hgw : (w.alloc (.cells #[] 66)).heap.size = w.heap.size + 1 := by simp
    have hown0 : w1.ownsRow w.heap.size 66 4 (.slice (some ⟨w.heap.size, 0, none⟩) 0 0) 0 [] := own_below (by simpa using World.ownsRow_made w #[] 0 (Nat.le_refl _) (Nat.zero_le _) rfl) hb1
    rw [hgw] at hblk
    have HBLK := Lib.hid hblk
    have HCS := Lib.hid hcs
    have HOWN0 := Lib.hid hown0
    clear hblk hcs hb1 hown0 HLIN
    go_wp2
    go_loopw [4, 24] (fun o i wr => ∃ (k : Nat), k ≤ ls.length ∧ i = .int .i64 (k : Int) ∧ wr.ownsRow w.heap.size 66 4 o k ((P.take k).flatMap editCells) ∧ o ≠ .slice none 0 0 ∧ [] ∉ ls.take k ∧ wr.heap[w.heap.size + 1]? = some (.cells cs 9 (0, 0)) ∧ Below w.heap.size w wr) (fun _ i _ => ls.length - (RowKit.intOf i).toNat)
    case atStart => exact ⟨0, Nat.zero_le _, rfl, HOWN0.out, by simp, by simp, HBLK.out, HB1.out⟩
    case round =>
      obtain ⟨k, hk, rfl, hown, hnn, hne, hS, hb⟩ := hrel
      obtain ⟨g, cap, rfl, hdc, hcm⟩ := own_some hown hnn
      unfold maxLen at hcm
      clear hnn
      have HOWN := Lib.hid hown
      have HB := Lib.hid hb
      have HSW := Lib.hid hS
      clear hown hb
      by_cases hlt : k < ls.length
      · have x0 := block_cell hS (HCS.out k _ (List.getElem?_eq_getElem hlt))
        have hts : ls.take (k + 1) = ls.take k ++ [ls[k]] := List.take_succ_eq_append_getElem hlt
        have HTK := Lib.hid (take_edits editCells (HPE.out k hlt))
        have hlk := HLQ.out ls[k] (List.getElem_mem hlt)
        have hmem := List.getElem_mem hlt
        cases hcs : ls[k] with
        | nil =>
          rw [hcs] at x0 hmem
          have HN := Lib.hid (HEMP.out hmem)
          clear hcs hts hmem hlk hne hS
          go_wp2
          go_ret2
          exact ⟨.slice none 0 0, by rw [HN.out]; rfl, by rw [HN.out]; exact OwnL.nil _ _ _, HB.out⟩
        | cons h r =>
          rw [hcs] at x0 hlk hts HTK
          have HNE : Hid ([] ∉ ls.take (k + 1)) := Lib.hid (by
            rw [hts, List.mem_append, List.mem_singleton]
            rintro (h | h)
            · exact hne h
            · cases h)
          clear hcs hts hmem hne hS
          rw [List.length_cons] at hlk
          obtain ⟨sb, hsb⟩ : ∃ sb : ByteArray, sb = ⟨(h :: r).toArray⟩ := ⟨_, rfl⟩
          have hs1 : sb.size = r.length + 1 := by rw [hsb, mk_size, List.length_cons]
          have hs0 : ∀ p : 0 < sb.size, sb[0]'p = h := by subst hsb; intro p; rfl
          have hse : (sb.toList == []) = false := by rw [hsb, ByteArray.toList_eq]; rfl
          have hsx : Hid (sb.extract 1 sb.size = ⟨r.toArray⟩) := Lib.hid (by rw [ext_drop, hsb]; rfl)
          rw [← hsb] at x0
          have p0 : 0 < sb.size := by omega
          have hh0 := hs0 p0
          have hs2 : sb.size ≤ 2000 := by omega
          clear hsb hs0 hs1
          have HC1 : Hid (∀ W, Below w.heap.size w W → Calls Tryz.prog 37 #[.string (sb.extract 1 sb.size), .string ⟨#[32]⟩] W fun e w'' => ∃ ok, e = .returned (.tuple #[.string ⟨(cutL 32 r).1.toArray⟩, .string ⟨(cutL 32 r).2.toArray⟩, .bool ok]) ∧ ∃ k, w'' = W.drewN k) := Lib.hid (fun W bw => by rw [hsx.out]; exact E.out.cut W bw ⟨r.toArray⟩ 32 (by rw [mk_size]; omega))
          obtain ⟨ha, hbl⟩ := cutL_len 32 r
          have HQ : Hid (lineP true 1 99 (h :: r) = if h = 43 then ⟨1, (numOf 1 99 (cutL 32 r).1).getD 0, ⟨#[]⟩, ⟨(cutL 32 r).2.toArray⟩⟩
            else if h = 45 then ⟨2, (numOf 1 99 (cutL 32 r).1).getD 0, ⟨(cutL 32 r).2.toArray⟩, ⟨#[]⟩⟩
            else ⟨3, (numOf 1 99 (cutL 32 r).1).getD 0, ⟨(cutL 124 (cutL 32 r).2).1.toArray⟩, ⟨(cutL 124 (cutL 32 r).2).2.toArray⟩⟩) := Lib.hid (by
              rw [lineP]
              rfl)
          generalize lineP true 1 99 (h :: r) = Q at *
          generalize cutL 32 r = ab at *
          obtain ⟨a, b⟩ := ab
          simp only at ha hbl HQ HC1
          have HNUM : Hid (∀ W, Below w.heap.size w W → Calls Tryz.prog 60 #[.string ⟨a.toArray⟩, .int .i64 1, .int .i64 99] W (RetB (.tuple #[.int .i64 ((numOf 1 99 a).getD 0), .bool (numOf 1 99 a).isSome]) W)) := Lib.hid (fun W bw => number2_any ⟨a.toArray⟩ 1 99 W (by rw [mk_size]; omega) (by omega) (by omega) ((E.out.on bw).more bw.size))
          have HC2 : Hid (∀ W, Below w.heap.size w W → Calls Tryz.prog 37 #[.string ⟨b.toArray⟩, .string ⟨#[124]⟩] W fun e w'' => ∃ ok, e = .returned (.tuple #[.string ⟨(cutL 124 b).1.toArray⟩, .string ⟨(cutL 124 b).2.toArray⟩, .bool ok]) ∧ ∃ k, w'' = W.drewN k) := Lib.hid (fun W bw => E.out.cut W bw ⟨b.toArray⟩ 124 (by rw [mk_size]; omega))
          generalize (numOf 1 99 a).getD 0 = z at *
          generalize (numOf 1 99 a).isSome = zok at *
          generalize cutL 124 b = xy at *
          obtain ⟨x, y⟩ := xy
          simp only at HC2 HQ
          have hHI : ∀ n : UInt8, h ≠ n → ((sb[0].toNat : Int) == (n.toNat : Int)) = false := fun n hn => by
            simp only [beq_eq_false_iff_ne, ne_eq]
            intro e
            rw [hh0] at e
            exact hn (UInt8.toNat_inj.1 (by omega))
          have HI := Lib.hid hHI
          have HH0 := Lib.hid hh0
          clear hHI hh0 ha hbl
          generalize (P.take k).flatMap editCells = L at *
          go_wp2_with (fail)
          refine (HC1.out _ HB.out).mono ?_
          rintro e w2 ⟨ok1, rfl, m2, rfl⟩
          have HB2 := Lib.hid (below_drewN HB.out m2)
          go_wp2_with (fail)
          refine (HNUM.out _ HB2.out).mono ?_
          rintro e w3 ⟨rfl, hb3⟩
          have HB3 := Lib.hid (HB2.out.trans (hb3.mono HB2.out.size))
          have HK3 := Lib.hid hb3
          clear hb3
          go_wp2_with (fail)
          refine (HC2.out _ HB3.out).mono ?_
          rintro e w4 ⟨ok2, rfl, m4, rfl⟩
          have hbb := below_drewN HB3.out m4
          have hk4 : Below wr.heap.size wr (w3.drewN m4) := below_drewN ((below_drewN (Below.refl wr.heap.size wr) m2).trans HK3.out) m4
          have hown := own_below HOWN.out hk4
          have HS4 := Lib.hid (block_below hk4 HSW.out)
          have hsz4 := hbb.size
          have hcc := HH0.out
          have hc256 := sb[0].toNat_lt
          clear hk4 x0
          by_cases h1 : h = 43
          · have t1 : ((sb[0].toNat : Int) == 43) = true := by rw [hcc, h1]; rfl
            have HO : Hid (Q = ⟨1, z, ⟨#[]⟩, ⟨b.toArray⟩⟩) := Lib.hid (by rw [HQ.out, if_pos h1])
            clear h1 hcc
            · go_wp2_with (at_builtin; refine wpList_append_own _ rfl _ _ 37 rfl w.heap.size 66 i0 (.agg #[.int .i64 0, .int .i64 0, .string ⟨#[]⟩, .string ⟨#[]⟩]) 4 48 Tryz.underlying37 hi hz0 hz1 hz2 rfl (by decide) _ _ _ rfl (hown.alloc _) ⟨(w3.drewN m4).heap.size, 0, none⟩ 1 1 (editCells ⟨1, z, ⟨#[]⟩, ⟨b.toArray⟩⟩) rfl rfl (fun j u hj => new_at hj) (fun u hu => edit_one hu) ?c3 ?c4 (base_le hsz4) ?_)
              case c3 => unfold maxLen; omega
              case c4 => omega
              · intro v' w5 hown' hgrow hiff
                have hnn' : v' ≠ .slice none 0 0 := by simpa using hiff
                have hb5 := (hbb.alloc hsz4 _).grown hgrow (base_le hsz4) (fun j hj => (hown.lt j hj).1)
                have hS5 := block_keep hgrow HS4.out (own_ne hown HS4.out (by decide))
                clear hown hgrow hiff
                go_wp2
                go_roundw
                case rel => exact ⟨k + 1, by omega, by go_num, by rw [HTK.out, HO.out]; exact hown', hnn', HNE.out, hS5, hb5⟩
                case measure => simp [RowKit.intOf]; omega
          · have t0 : ((sb[0].toNat : Int) == 43) = false := HI.out 43 h1
            by_cases h2 : h = 45
            · have t1 : ((sb[0].toNat : Int) == 45) = true := by rw [hcc, h2]; rfl
              have HO : Hid (Q = ⟨2, z, ⟨b.toArray⟩, ⟨#[]⟩⟩) := Lib.hid (by rw [HQ.out, if_neg h1, if_pos h2])
              clear h1 h2 hcc
              · go_wp2_with (at_builtin; refine wpList_append_own _ rfl _ _ 37 rfl w.heap.size 66 i0 (.agg #[.int .i64 0, .int .i64 0, .string ⟨#[]⟩, .string ⟨#[]⟩]) 4 48 Tryz.underlying37 hi hz0 hz1 hz2 rfl (by decide) _ _ _ rfl (hown.alloc _) ⟨(w3.drewN m4).heap.size, 0, none⟩ 1 1 (editCells ⟨2, z, ⟨b.toArray⟩, ⟨#[]⟩⟩) rfl rfl (fun j u hj => new_at hj) (fun u hu => edit_one hu) ?c3 ?c4 (base_le hsz4) ?_)
                case c3 => unfold maxLen; omega
                case c4 => omega
                · intro v' w5 hown' hgrow hiff
                  have hnn' : v' ≠ .slice none 0 0 := by simpa using hiff
                  have hb5 := (hbb.alloc hsz4 _).grown hgrow (base_le hsz4) (fun j hj => (hown.lt j hj).1)
                  have hS5 := block_keep hgrow HS4.out (own_ne hown HS4.out (by decide))
                  clear hown hgrow hiff
                  go_wp2
                  go_roundw
                  case rel => exact ⟨k + 1, by omega, by go_num, by rw [HTK.out, HO.out]; exact hown', hnn', HNE.out, hS5, hb5⟩
                  case measure => simp [RowKit.intOf]; omega
            · have t1 : ((sb[0].toNat : Int) == 45) = false := HI.out 45 h2
              have HO : Hid (Q = ⟨3, z, ⟨x.toArray⟩, ⟨y.toArray⟩⟩) := Lib.hid (by rw [HQ.out, if_neg h1, if_neg h2])
              clear h1 h2 hcc
              · go_wp2_with (at_builtin; refine wpList_append_own _ rfl _ _ 37 rfl w.heap.size 66 i0 (.agg #[.int .i64 0, .int .i64 0, .string ⟨#[]⟩, .string ⟨#[]⟩]) 4 48 Tryz.underlying37 hi hz0 hz1 hz2 rfl (by decide) _ _ _ rfl (hown.alloc _) ⟨(w3.drewN m4).heap.size, 0, none⟩ 1 1 (editCells ⟨3, z, ⟨x.toArray⟩, ⟨y.toArray⟩⟩) rfl rfl (fun j u hj => new_at hj) (fun u hu => edit_one hu) ?c3 ?c4 (base_le hsz4) ?_)
                case c3 => unfold maxLen; omega
                case c4 => omega
                · intro v' w5 hown' hgrow hiff
                  have hnn' : v' ≠ .slice none 0 0 := by simpa using hiff
                  have hb5 := (hbb.alloc hsz4 _).grown hgrow (base_le hsz4) (fun j hj => (hown.lt j hj).1)
                  have hS5 := block_keep hgrow HS4.out (own_ne hown HS4.out (by decide))
                  clear hown hgrow hiff
                  go_wp2
                  go_roundw
                  case rel => exact ⟨k + 1, by omega, by go_num, by rw [HTK.out, HO.out]; exact hown', hnn', HNE.out, hS5, hb5⟩
                  case measure => simp [RowKit.intOf]; omega
      · have hge : ¬ (k : Int) < (ls.length : Int) := by omega
        have hk' : k = P.length := by have := HPN.out; omega
        have hfin : P.take k = P := List.take_of_length_le (by omega)
        have hown := HOWN.out
        rw [hfin, hk'] at hown
        have hE : Edits wr wr.heap.size (.slice (some ⟨g, 0, none⟩) k cap) P := by rw [hk']; exact SlR.of_own editCells (fun _ => rfl) hown
        have hO : OwnL editCells P w.heap.size wr (.slice (some ⟨g, 0, none⟩) k cap) := by rw [hk']; exact OwnL.of_own editCells (size := 4) (fun _ => rfl) hown
        have HTX := Lib.hid (patchText2_any P wr _ hE HPS.out (env_more (E.out.env.on HB.out) HB.out.size))
        have HO := Lib.hid hO
        clear hk' hfin hown hE hO hlt hne hS
        cases hok : okPatch P with
        | false =>
          have HN : Hid (patchOf s.data.toList = none) := Lib.hid (inv_no HU.out (by rw [hok]; simp))
          rw [hok] at HTX
          clear hok
          go_wp2_with (fail)
          refine (HTX.out).mono ?_
          rintro e w2 ⟨rfl, hb2⟩
          have hb2w := HB.out.trans (hb2.mono HB.out.size)
          clear hb2
          go_wp2
          go_ret2
          exact ⟨.slice none 0 0, by rw [HN.out]; rfl, by rw [HN.out]; exact OwnL.nil _ _ _, hb2w⟩
        | true =>
          have HOK := Lib.hid hok
          rw [hok, patchOut_ok hok] at HTX
          clear hok
          go_wp2_with (fail)
          refine (HTX.out).mono ?_
          rintro e w2 ⟨rfl, hb2⟩
          have HB2 := Lib.hid hb2
          have hb2w := HB.out.trans (hb2.mono HB.out.size)
          clear hb2
          by_cases heq : patchText P = s.data.toList
          · have hs1 : (patchText P == s.toList) = true := by rw [ByteArray.toList_eq, heq]; simp
            have HN : Hid (patchOf s.data.toList = some P) := Lib.hid (inv_of HU.out HOK.out heq)
            clear heq
            go_wp2
            go_ret2
            exact ⟨.slice (some ⟨g, 0, none⟩) k cap, by rw [HN.out]; rfl, by rw [HN.out]; exact HO.out.on HB2.out, hb2w⟩
          · have hs1 : (patchText P == s.toList) = false := by rw [ByteArray.toList_eq]; simpa using heq
            have HN : Hid (patchOf s.data.toList = none) := Lib.hid (inv_no HU.out (fun h => heq h.2))
            clear heq
            go_wp2
            go_ret2
            exact ⟨.slice none 0 0, by rw [HN.out]; rfl, by rw [HN.out]; exact OwnL.nil _ _ _, hb2w⟩
  · have HN : Hid (patchOf s.data.toList = none) := Lib.hid (inv_never (fun q h e => by
      have h1 := patchText_take h q.length
      have h2 := okPatch_len h
      rw [List.take_length, e] at h1
      omega))
    go_enter Tryz.func61, Tryz.ntmps61
    go_wp2
    go_ret2
    exact ⟨.slice none 0 0, by rw [HN.out]; rfl, by rw [HN.out]; exact OwnL.nil _ _ _, Below.refl _ _⟩
end Go.Proofs.YthlfpiflegfoiaaGreatDoor
