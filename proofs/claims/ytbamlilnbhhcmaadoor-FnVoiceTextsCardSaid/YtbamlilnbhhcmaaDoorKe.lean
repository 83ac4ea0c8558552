/- Lists of voices read from their texts, walked. -/
import Derived.Test.YtbamlilnbhhcmaaDoorKd
import Derived.Test.YtbamlilnbhhcmaaDoorQB
import Derived.Test.YtbamlilnbhhcmaaDoorQI
namespace Go.Proofs.YtbamlilnbhhcmaaDoor
open Go.RowKit Go.Lib

def DecsYes (zs : List Int) (w : World) (e : Ending) (w' : World) : Prop := ∃ v, e = .returned (.tuple #[v, .bool true]) ∧ OwnL intCells zs w.heap.size w' v ∧ Below w.heap.size w w'
set_option maxRecDepth 100000 in
set_option maxHeartbeats 2000000 in
theorem decimals2_ok (s : ByteArray) (lo hi : Int) (Z : List Int) (w : World) (hs : s.size ≤ 65536) (hZ : (s.data.toList = [] ∧ Z = []) ∨ (s.data.toList ≠ [] ∧ (splitC 44 s.data.toList).length ≤ 101 ∧ numL lo hi (splitC 44 s.data.toList) = some Z)) (hl : -9223372036854775808 ≤ lo) (hh : hi ≤ 9223372036854775807) (hE : EnvR w.heap.size w) :
    Calls Tryd.prog 17 #[.string s, .string ⟨#[44]⟩, .int .i64 lo, .int .i64 hi] w (DecsYes Z w) := by
  have E := Lib.hid hE
  clear hE
  obtain ⟨i0, hi0, hz0, hz1, hz2⟩ := info_parts Tryd.infoI
  have hsz : s.data.toList.length = s.size := by simp
  by_cases h0 : s.data.toList = []
  · have h1 : (s.toList == []) = true := by rw [ByteArray.toList_eq, h0]; rfl
    have HD : Hid (Z = []) := Lib.hid (by
      rcases hZ with h | h
      · exact h.2
      · exact absurd h0 h.1)
    clear hZ
    clear h0
    go_enter Tryd.func17, Tryd.ntmps17
    go_wp2
    go_ret2
    refine ⟨.slice (some ⟨w.heap.size, 0, none⟩) 0 0, rfl, ?_, (Below.refl _ _).alloc (Nat.le_refl _) _⟩
    rw [HD.out]
    exact ⟨_, 0, rfl, Nat.le_refl _, Nat.zero_le _, fun h => absurd rfl h⟩
  · have h1 : (s.toList == []) = false := by rw [ByteArray.toList_eq]; simpa using h0
    have hZ' : (splitC 44 s.data.toList).length ≤ 101 ∧ numL lo hi (splitC 44 s.data.toList) = some Z := by
      rcases hZ with h | h
      · exact absurd h.1 h0
      · exact h.2
    obtain ⟨hpl1, hnz⟩ := hZ'
    have HD := Lib.hid hnz
    clear hZ hnz
    have hpc := splitC_cnt 44 s.data.toList
    have HPL : Hid (∀ p ∈ splitC 44 s.data.toList, p.length ≤ 65536) := Lib.hid (fun p hp => by have := splitC_len 44 s.data.toList p hp; omega)
    have HSPL := Lib.hid (E.out.spl)
    have bW : Below w.heap.size w (w.alloc (.cells #[] 2)) := (Below.refl _ _).alloc (Nat.le_refl _) _
    have HS := Lib.hid (E.out.spl _ bW s 44 hs)
    clear h0 HSPL
    generalize splitC 44 s.data.toList = ps at *
    go_enter Tryd.func17, Tryd.ntmps17
    go_wp2_with (fail)
    refine (HS.out).mono ?_
    rintro e w1 ⟨rfl, cs, hw1, hcs⟩
    have hb1 : Below (w.alloc (.cells #[] 2)).heap.size (w.alloc (.cells #[] 2)) w1 := by rw [hw1]; exact (Below.refl _ _).alloc (Nat.le_refl _) _
    have HB1 : Hid (Below w.heap.size w w1) := Lib.hid (bW.trans (hb1.mono bW.size))
    have hown0 : w1.ownsRow w.heap.size 2 1 (.slice (some ⟨w.heap.size, 0, none⟩) 0 0) 0 [] := own_below (by simpa using World.ownsRow_made w #[] 0 (Nat.le_refl _) (Nat.zero_le _) rfl) hb1
    have hgw : (w.alloc (.cells #[] 2)).heap.size = w.heap.size + 1 := by simp
    have hblk : w1.heap[w.heap.size + 1]? = some (.cells cs 9 (0, 0)) := by rw [hw1, ← hgw]; exact alloc_at _ _
    have HBLK := Lib.hid hblk
    have HCS := Lib.hid hcs
    have HOWN0 := Lib.hid hown0
    clear hcs hblk hw1 hb1 hown0 HS bW
    go_wp2
    go_loopw [10, 23] (fun o i wr => ∃ (k : Nat) (zs : List Int), k ≤ ps.length ∧ i = .int .i64 (k : Int) ∧ wr.ownsRow w.heap.size 2 1 o k (zs.flatMap intCells) ∧ o ≠ .slice none 0 0 ∧ numL lo hi (ps.take k) = some zs ∧ k ≤ 101 ∧ wr.heap[w.heap.size + 1]? = some (.cells cs 9 (0, 0)) ∧ Below w.heap.size w wr) (fun _ i _ => ps.length - (RowKit.intOf i).toNat)
    case atStart => exact ⟨0, [], Nat.zero_le _, rfl, HOWN0.out, by simp, rfl, by omega, HBLK.out, HB1.out⟩
    case round =>
      obtain ⟨k, zs, hk, rfl, hown, hnn, hnl, hk1, hS, hb⟩ := hrel
      have hzl : zs.length = k := by have := numL_len _ hnl; rw [List.length_take] at this; omega
      obtain ⟨g, cap, rfl, hdc, hcm⟩ := own_some hown hnn
      unfold maxLen at hcm
      clear hnn
      have HOWN := Lib.hid hown
      have HNL := Lib.hid hnl
      have HB := Lib.hid hb
      have HSW := Lib.hid hS
      have hpl : ps.length ≤ 65537 := by omega
      by_cases hlt : k < ps.length
      · have x0 := block_cell hS (HCS.out k _ (List.getElem?_eq_getElem hlt))
        have hts : ps.take (k + 1) = ps.take k ++ [ps[k]] := List.take_succ_eq_append_getElem hlt
        have HT := Lib.hid hts
        have hps : ps = ps.take (k + 1) ++ ps.drop (k + 1) := (List.take_append_drop _ _).symm
        have HPS := Lib.hid hps
        have hpk := HPL.out ps[k] (List.getElem_mem hlt)
        have HNUM := Lib.hid (fun (W : World) (bw : Below w.heap.size w W) => number2_any ⟨ps[k].toArray⟩ lo hi W (by rw [mk_size]; exact hpk) hl hh ((E.out.on bw).more bw.size))
        rw [show (⟨ps[k].toArray⟩ : ByteArray).data.toList = ps[k] from rfl] at HNUM
        clear hown hnl hb hS hts hps
        generalize ps[k] = p at *
        cases hn : numOf lo hi p with
        | none =>
          rw [hn] at HNUM
          exfalso
          have h := HD.out
          rw [HPS.out, numL_none_app _ _ (by rw [HT.out, numL_snoc, HNL.out, hn])] at h
          cases h
        | some z =>
          rw [hn] at HNUM
          have HN2 : Hid (numL lo hi (ps.take (k + 1)) = some (zs ++ [z])) := Lib.hid (by rw [HT.out, numL_snoc, HNL.out, hn])
          clear hn
          go_wp2_with (fail)
          refine (HNUM.out _ HB.out).mono ?_
          rintro e w2 ⟨rfl, hb2⟩
          have hbb := HB.out.trans (hb2.mono HB.out.size)
          have hown := own_below HOWN.out hb2
          have hsz2 := hbb.size
          have HS2 := Lib.hid (block_below hb2 HSW.out)
          clear hb2 x0
          by_cases h100 : k ≤ 100
          · have HF : Hid ((zs ++ [z]).flatMap intCells = zs.flatMap intCells ++ [.int .i64 z]) := Lib.hid (by rw [flat_snoc]; rfl)
            generalize zs.flatMap intCells = L at *
            have hkl : k + 1 ≤ 101 := by omega
            have h101 : ¬ (100 : Int) < (k : Int) := by omega
            have h102 : ¬ 100 < k := by omega
            go_wp2_with (at_builtin; refine wpList_append_own _ rfl _ _ 34 rfl w.heap.size 2 i0 (.int .i64 0) 1 8 Tryd.underlying34 hi0 hz0 hz1 hz2 rfl (by decide) _ _ _ rfl (hown.alloc _) ⟨w2.heap.size, 0, none⟩ 1 1 [.int .i64 z] rfl rfl ?c1 ?c2 ?c3 ?c4 ?c5 ?_)
            case c1 =>
              intro j u hj
              match j, hj with
              | 0, hj => simp at hj; subst hj; simp [Addr.add]
            case c2 => intro u hu; simp at hu; subst hu; rfl
            case c3 => unfold maxLen; omega
            case c4 => omega
            case c5 => simp; omega
            · intro v' w3 hown' hgrow hiff
              have hnn' : v' ≠ .slice none 0 0 := by simpa using hiff
              have hb3 := (hbb.alloc hsz2 _).grown hgrow (by simp; omega) (fun j hj => (hown.lt j hj).1)
              have hS3 := block_keep hgrow HS2.out (own_ne hown HS2.out (by decide))
              clear hown hgrow hiff
              go_wp2
              go_roundw
              case rel => exact ⟨k + 1, zs ++ [z], by omega, by go_num, by rw [HF.out]; exact hown', hnn', HN2.out, hkl, hS3, hb3⟩
              case measure => simp [RowKit.intOf]; omega
          · omega
      · have hge : ¬ (k : Int) < (ps.length : Int) := by omega
        have hk' : k = ps.length := by omega
        have HR : Hid (Z = zs) := Lib.hid (by
          have h := HNL.out
          rw [List.take_of_length_le (by omega), HD.out] at h
          injection h)
        have HO : Hid (OwnL intCells zs w.heap.size wr (.slice (some ⟨g, 0, none⟩) k cap)) := Lib.hid (by
          have h := HOWN.out
          rw [← hzl] at h ⊢
          exact OwnL.of_own intCells (size := 1) (fun _ => rfl) h)
        clear hk' hown hnl hb hS
        go_wp2
        go_ret2
        exact ⟨.slice (some ⟨g, 0, none⟩) k cap, rfl, by rw [HR.out]; exact HO.out, HB.out⟩

theorem vword_read {v : Voi} (h4 : v.tr.length ≤ 4) (hz : ∀ z ∈ v.tr, 0 ≤ z ∧ z ≤ 11) : ((nums v.tr [44] = [] ∧ v.tr = []) ∨ (nums v.tr [44] ≠ [] ∧ (splitC 44 (nums v.tr [44])).length ≤ 101 ∧ numL 0 12 (splitC 44 (nums v.tr [44])) = some v.tr)) := by
  by_cases h : v.tr = []
  · exact .inl ⟨by rw [h]; rfl, h⟩
  · refine .inr ⟨nums_ne h, ?_, ?_⟩
    · rw [nums_split h, List.length_map]
      omega
    · rw [nums_split h]
      exact numL_map (by omega) (by omega) _ (fun z hz' => by have := hz z hz'; omega)
theorem Tryd.infoV2 : (Tryd.prog.info? 36).map (fun i => (i.zero, i.size, i.bytes)) = some (some (.agg #[.bool false, .slice none 0 0]), 2, 32) := by kernel_rfl
theorem vois_of {base : Nat} {w : World} {v : Value} {L : List VVoi} (h : TreeO kVoi base w v L) : Vois w w.heap.size v (L.map (·.a)) := ⟨L, rfl, h.slR, fun x hx => (show OwnL _ _ _ _ _ from h.inn x hx).slR (size := 1) (fun _ => rfl)⟩
/-- What reading the text of a valid list hands back. -/
def VoisBack (V : List Voi) (w : World) (e : Ending) (w' : World) : Prop := ∃ A c, e = .returned (.tuple #[.slice A V.length c, .bool true]) ∧ Vois w' w'.heap.size (.slice A V.length c) V ∧ Below w.heap.size w w'
set_option maxRecDepth 100000 in
set_option maxHeartbeats 4000000 in
theorem readVoices2_any (V : List Voi) (w : World) (hok : VoisOk V) (hE : EnvR w.heap.size w) : Calls Tryd.prog 7 #[.string ⟨(voiText V).toArray⟩] w (VoisBack V w) := by
  have E := Lib.hid hE
  have hl12 := hok.n12
  have hl1 := hok.n1
  have htl := voiText_len hok
  have HF := Lib.hid (fun (v : Voi) (h : v ∈ V) => voi_facts hok h)
  have HOK := Lib.hid hok
  obtain ⟨s, hs⟩ : ∃ s : ByteArray, s = ⟨(voiText V).toArray⟩ := ⟨_, rfl⟩
  have hsz : s.size ≤ 740 := by rw [hs, mk_size]; exact htl
  have HSD : Hid (s.data.toList = voiText V) := Lib.hid (by rw [hs])
  have HSE := Lib.hid hs
  have h1000 : ¬ (1000 : Int) < (s.size : Int) := by omega
  have bW : Below w.heap.size w (w.alloc (.cells #[] 36)) := (Below.refl _ _).alloc (Nat.le_refl _) _
  have HS := Lib.hid (E.out.spl _ bW s 32 (by omega))
  rw [HSD.out, voi_split hl1] at HS
  obtain ⟨i0, hi, hz0, hz1, hz2⟩ := info_parts Tryd.infoV2
  have hown0 : (w.alloc (.cells #[] 36)).ownsRow w.heap.size 36 2 (.slice (some ⟨w.heap.size, 0, none⟩) 0 0) 0 [] := by simpa using World.ownsRow_made w #[] 0 (Nat.le_refl _) (Nat.zero_le _) rfl
  rw [← hs]
  clear hs htl hok hE
  go_enter Tryd.func7, Tryd.ntmps7
  go_wp2_with (fail)
  refine HS.out.mono ?_
  rintro e w1 ⟨rfl, cs, hw1, hcs⟩
  have hb1 : Below (w.alloc (.cells #[] 36)).heap.size (w.alloc (.cells #[] 36)) w1 := by rw [hw1]; exact (Below.refl _ _).alloc (Nat.le_refl _) _
  have HB1 : Hid (Below w.heap.size w w1) := Lib.hid (bW.trans (hb1.mono bW.size))
  have HD0 : Hid (TreeW kVoi 36 w.heap.size w1 w.heap.size 0 []) := Lib.hid (TreeW.below (TreeW.start kVoi _ hown0) hb1)
  have hgw : (w.alloc (.cells #[] 36)).heap.size = w.heap.size + 1 := by simp
  have hblk : w1.heap[w.heap.size + 1]? = some (.cells cs 9 (0, 0)) := by rw [hw1, ← hgw]; exact alloc_at _ _
  have HBLK := Lib.hid hblk
  have HCS : Hid (∀ (k : Nat) (v : Voi), V[k]? = some v → cs[k]? = some (.string ⟨(vword v).toArray⟩)) := Lib.hid (fun k v hv => hcs k (vword v) (by rw [List.getElem?_map, hv]; rfl))
  rw [hgw, List.length_map]
  clear hcs hblk hw1 hb1 hown0 HS bW hgw
  go_wp2
  go_loopw [4, 18] (fun o' i wr => ∃ (k g cap : Nat) (L : List VVoi), i = .int .i64 (k : Int) ∧ k ≤ V.length ∧ L.length = k ∧ o' = .slice (some ⟨g, 0, none⟩) k cap ∧ L.map (·.a) = V.take k ∧ TreeW kVoi 36 w.heap.size wr g cap L ∧ wr.heap[w.heap.size + 1]? = some (.cells cs 9 (0, 0)) ∧ Below w.heap.size w wr) (fun _ i _ => V.length - (RowKit.intOf i).toNat)
  case atStart => exact ⟨0, w.heap.size, 0, [], rfl, Nat.zero_le _, rfl, rfl, rfl, HD0.out, HBLK.out, HB1.out⟩
  case round =>
    obtain ⟨k, g, cap, L, rfl, hk, hgl, rfl, hLm, hD, hS, hb⟩ := hrel
    have HD := Lib.hid hD
    have HB := Lib.hid hb
    have HLM := Lib.hid hLm
    have HSW := Lib.hid hS
    clear hLm hD
    by_cases hlt : k < V.length
    · have hget : V[k]? = some V[k] := List.getElem?_eq_getElem hlt
      have x0 := block_cell hS (HCS.out k _ hget)
      have HNX : Hid (V.take (k + 1) = V.take k ++ [V[k]]) := Lib.hid (List.take_succ_eq_append_getElem hlt)
      obtain ⟨hv4, hvz⟩ := HF.out V[k] (List.getElem_mem hlt)
      have hvr := vword_read hv4 hvz
      have hvl := vword_len hv4 hvz
      clear hget hS
      generalize V[k] = q at *
      obtain ⟨sp, tr⟩ := q
      obtain ⟨s1, hs1⟩ : ∃ s1 : ByteArray, s1 = ⟨(vword ⟨sp, tr⟩).toArray⟩ := ⟨_, rfl⟩
      have hs1d : s1.data.toList = (if sp = true then 43 else 45) :: nums tr [44] := by rw [hs1]; rfl
      rw [← hs1] at x0
      have hz1 : s1.size = (nums tr [44]).length + 1 := by
        have := congrArg List.length hs1d
        rw [List.length_cons] at this
        rw [← this]
        simp
      have hvl : (nums tr [44]).length ≤ 60 := by
        have hvl : (nums tr [44]).length + 1 ≤ 60 := hvl
        omega
      have h1 : (s1.toList == []) = false := by rw [ByteArray.toList_eq, hs1d]; rfl
      have h2 : (1 : Int) ≤ (s1.size : Int) := by omega
      have h3 : 0 < s1.size := by omega
      have h3i : (0 : Int) < (s1.size : Int) := by omega
      have hd1 : (s1.extract 1 s1.size).data.toList = nums tr [44] := by rw [ext_drop]; show s1.data.toList.drop 1 = _; rw [hs1d]; rfl
      have hc : s1[0] = (if sp = true then 43 else 45) := by
        have := cons_of s1 h3
        rw [hs1d] at this
        injection this with e1 e2
        exact e1.symm
      have h43 : ((s1[0].toNat : Int) == 43) = sp := by rw [hc]; cases sp <;> rfl
      have HDC : Hid (∀ W, Below w.heap.size w W → Calls Tryd.prog 17 #[.string (s1.extract 1 s1.size), .string ⟨#[44]⟩, .int .i64 0, .int .i64 12] W (DecsYes tr W)) := Lib.hid (fun W hW => decimals2_ok (s1.extract 1 s1.size) 0 12 tr W (by rw [ext_drop, mk_size, List.length_drop]; simp; omega) (by rw [hd1]; exact hvr) (by omega) (by omega) ((E.out.on hW).more hW.size))
      unfold DecsYes at HDC
      clear hd1 hs1d hs1 hvr hc hvz hz1
      have hsw := hb.size
      go_wp2_with (fail)
      refine (HDC.out wr HB.out).mono ?_
      rintro e w3 ⟨v3, rfl, hO3, b3⟩
      have HO3 := Lib.hid hO3
      obtain ⟨A2, c2, rfl, _⟩ := hO3
      have hHLT := Lib.hid (fun q (hq : q ∈ L) c (hc : kVoi.blk q c) => (kVoi.lt (HD.out.inn q hq) hc).2)
      have hba : Below w3.heap.size w3 (w3.alloc (.cells #[.bool sp, .slice A2 tr.length c2] 36)) := (Below.refl _ _).alloc (Nat.le_refl _) _
      have HTA := Lib.hid (TreeW.below (HD.out.below b3) hba)
      have hbwA := (hb.trans (b3.mono hsw)).trans (hba.mono (Nat.le_trans hsw b3.size))
      have HBA := Lib.hid hbwA
      have HROW := Lib.hid HTA.out.row
      have HOX := Lib.hid (HO3.out.on hba)
      have HS3 := Lib.hid (block_below b3 HSW.out)
      have HR3 := Lib.hid ((HD.out.below b3).row)
      have hgw := HD.out.lt
      have h1s : wr.heap.size ≤ w3.heap.size := b3.size
      have hsL : ∀ o, (w3.alloc o).heap.size = w3.heap.size + 1 := fun o => by simp
      rw [hgl] at HROW HR3
      clear b3 hbwA x0
      go_wp2_with (at_builtin; refine wpList_append_own_at _ rfl _ _ 24 rfl w.heap.size 36 i0 (.agg #[.bool false, .slice none 0 0]) 2 32 Tryd.underlying24 hi hz0 hz1 hz2 rfl (by decide) _ _ _ rfl HROW.out ⟨w3.heap.size, 0, none⟩ 1 1 (oCells ⟨⟨sp, tr⟩, .slice A2 tr.length c2⟩) rfl rfl (fun j u hj => by have := (Row.new w3 (oCells ⟨⟨sp, tr⟩, .slice A2 tr.length c2⟩).toArray 36).cell j u (by simpa using hj); rw [Addr.add_lit, Nat.zero_add]; exact this) (fun u hu => voi_one rfl hu) ?c3 ?c4 HBA.out.size ?_)
      case c3 => unfold maxLen; omega
      case c4 => omega
      intro v' w9 hown' hgrow hiff hor
      obtain ⟨g', cap', rfl, hdc', hcm'⟩ := own_some hown' (by simpa using hiff)
      have HP9 := Lib.hid (TreeW.push (x := ⟨⟨sp, tr⟩, .slice A2 tr.length c2⟩) HTA.out hgrow (by rcases hor with h | h <;> injection h with h; exact .inl h; exact .inr (by simpa using h)) (by rw [hgl]; exact hown') (kVoi.less (x := ⟨⟨sp, tr⟩, .slice A2 tr.length c2⟩) HOX.out hsw) (fun b hb => by
        have q1 : wr.heap.size ≤ b := (OwnL.sblk HOX.out hb).1
        exact ⟨by omega, fun q hq hqb => by have q2 := hHLT.out q hq b hqb; omega⟩))
      have HB9 := Lib.hid ((HBA.out).grown hgrow HBA.out.size (fun j hj => (HROW.out.lt j hj).1))
      have HS9 := Lib.hid (block_keep hgrow HS3.out (own_ne HR3.out HS3.out (by decide)))
      have HM9 : Hid ((L ++ [(⟨⟨sp, tr⟩, .slice A2 tr.length c2⟩ : VVoi)]).map (·.a) = V.take (k + 1)) := Lib.hid (by rw [List.map_append, HLM.out, HNX.out]; rfl)
      clear hown' hgrow hor hiff
      go_wp2
      go_roundw
      case rel => exact ⟨k + 1, g', cap', L ++ [⟨⟨sp, tr⟩, .slice A2 tr.length c2⟩], by go_num, by omega, by rw [List.length_append, List.length_singleton, hgl], rfl, HM9.out, HP9.out, HS9.out, HB9.out⟩
      case measure => simp [RowKit.intOf]; omega
    · have hge : ¬ (k : Int) < (V.length : Int) := by omega
      obtain rfl : k = V.length := by omega
      have hm : L.map (·.a) = V := by rw [HLM.out, List.take_length]
      have hv := vois_of HD.out.tree
      rw [hm, hgl] at hv
      have ht := voicesText2_any V _ wr hv HOK.out ((E.out.on HB.out).more HB.out.size).env
      rw [← HSE.out] at ht
      have HT := Lib.hid ht
      have HV : Hid (∀ W, Below wr.heap.size wr W → Vois W W.heap.size (.slice (some ⟨g, 0, none⟩) V.length cap) V) := Lib.hid (fun W hW => hv.on hW hW.size)
      clear hlt hm hv ht hS
      go_wp2_with (fail)
      refine HT.out.mono ?_
      rintro e w5 ⟨rfl, b5⟩
      have hbe := hb.trans (b5.mono hb.size)
      have HVE := Lib.hid (HV.out w5 b5)
      go_wp2
      go_ret2
      exact ⟨some ⟨g, 0, none⟩, cap, rfl, HVE.out, hbe⟩
end Go.Proofs.YtbamlilnbhhcmaaDoor
