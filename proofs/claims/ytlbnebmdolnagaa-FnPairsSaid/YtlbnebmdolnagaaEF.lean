/- The search for a shortest list by steps, walked. The closure of a circle: is there a locked duel before?, walked. A circle of locked duels, walked. -/
import Derived.Test.YtlbnebmdolnagaaBE
import Derived.Test.YtlbnebmdolnagaaBA
import Derived.Test.YtlbnebmdolnagaaBG
import Derived.Test.YtlbnebmdolnagaaYB
import Derived.Test.YtlbnebmdolnagaaEE
namespace Go.Proofs.Ytlbnebmdolnagaa
open Go.RowKit Go.Lib

def LsR (w : World) (g : Nat) (Ls : List (List Nat)) : Prop := ∀ (k : Nat) (p : List Nat), Ls[k]? = some p → ∃ A c, ∀ y : Aft w, y.val.cell? ⟨g, k, none⟩ = some (.slice A p.length c) ∧ Ints y.val y.val.heap.size (.slice A p.length c) (barL p)
theorem LsR.below {w w' : World} {g : Nat} {Ls : List (List Nat)} (h : LsR w g Ls) (hb : Below w.heap.size w w') : LsR w' g Ls := fun k p hk => by
  obtain ⟨A, c, h1⟩ := h k p hk
  exact ⟨A, c, fun y => h1 ⟨y.val, below_then hb hb.size y.ok⟩⟩
theorem LsR.one (w : World) (f : Nat) : LsR ((w.alloc (.cells #[.int .i64 (f : Int)] 2)).alloc (.cells #[.slice (some ⟨w.heap.size, 0, none⟩) 1 1] 25)) (w.heap.size + 1) [[f]] := fun k p hk => by
  have hk0 : k = 0 := by
    have := (List.getElem?_eq_some_iff.1 hk).1
    simp at this
    omega
  subst hk0
  have hp : [f] = p := by simpa using hk
  subst hp
  have hi := (PathO.one w f).ints
  have hc := new_at (w := w.alloc (.cells #[.int .i64 (f : Int)] 2)) (T := 25) (cs := [.slice (some ⟨w.heap.size, 0, none⟩) 1 1]) (j := 0) (u := .slice (some ⟨w.heap.size, 0, none⟩) 1 1) rfl
  rw [show (w.alloc (.cells #[.int .i64 (f : Int)] 2)).heap.size = w.heap.size + 1 by simp] at hc
  have hb2 : Below (w.alloc (.cells #[.int .i64 (f : Int)] 2)).heap.size (w.alloc (.cells #[.int .i64 (f : Int)] 2)) ((w.alloc (.cells #[.int .i64 (f : Int)] 2)).alloc (.cells #[.slice (some ⟨w.heap.size, 0, none⟩) 1 1] 25)) := (Below.refl _ _).alloc (Nat.le_refl _) _
  refine ⟨some ⟨w.heap.size, 0, none⟩, 1, fun y => ⟨y.cell hc, ?_⟩⟩
  have h3 := below_then hb2 hb2.size y.ok
  exact SlR.on hi (Pl.stays _) h3 h3.size
theorem LsR.of_tree {base g c : Nat} {w : World} {T : List VRow} {N : List (List Nat)} (h : TreeW kRow 25 base w g c T) (hm : T.map (·.a) = N.map barL) : LsR w g N := by
  have hr := h.tree.rows
  have hl : T.length = N.length := by
    have := congrArg List.length hm
    rwa [List.length_map, List.length_map] at this
  rw [hm, hl] at hr
  obtain ⟨Aq, cq', eq1, hql, hqc, hrk⟩ := rows_at hr
  rw [List.length_map] at eq1 hql hrk
  intro k q hq
  obtain ⟨b5, o5, hA5, hb5, hcell⟩ := hrk (by have := (List.getElem?_eq_some_iff.1 hq).1; omega)
  injection eq1 with e1 _ _
  rw [← e1] at hA5
  injection hA5 with e4
  injection e4 with e4 e5 _
  subst e4
  subst e5
  obtain ⟨A7, c7, v0, _, i7⟩ := hcell k (barL q) (by rw [List.getElem?_map, hq]; rfl)
  rw [barL_len] at v0 i7
  rw [Nat.zero_add] at v0
  exact ⟨A7, c7, fun y => ⟨y.cell v0, SlR.on i7 (Pl.stays _) y.ok y.ok.size⟩⟩
theorem ls_last {w : World} {A : Option Addr} {r c a : Nat} {p : List Nat} (h : ∀ y : Aft w, Ints y.val y.val.heap.size (.slice A p.length c) (barL p)) (hl : p.length = r + 1) (hp : p.getLast? = some a) :
    ∃ b o, A = some ⟨b, o, none⟩ ∧ ∀ y : Aft w, y.val.cell? ⟨b, o + r, none⟩ = some (.int .i64 (a : Int)) := by
  have hg : p[r]? = some a := by
    rw [List.getLast?_eq_getElem?, hl] at hp
    exact hp
  obtain ⟨b, o, hA, _, hc⟩ := ints_get (h ⟨w, Below.refl _ _⟩) (barL_get hg)
  exact ⟨b, o, hA, fun y => y.cell hc⟩
/-- The next lists, as they grow. -/
def NxR (wo wr : World) (g cap : Nat) (N : List (List Nat)) : Prop :=
  ∃ T : List VRow, T.length = N.length ∧ T.map (·.a) = N.map barL ∧ TreeW kRow 25 wo.heap.size wr g cap T ∧ Below wo.heap.size wo wr
theorem NxR.bel {wo wr : World} {g cap : Nat} {N : List (List Nat)} (h : NxR wo wr g cap N) : Below wo.heap.size wo wr := by
  obtain ⟨_, _, _, _, hb⟩ := h
  exact hb
theorem NxR.below {wo wr w' : World} {g cap : Nat} {N : List (List Nat)} (h : NxR wo wr g cap N) (hb : Below wr.heap.size wr w') : NxR wo w' g cap N := by
  obtain ⟨T, h1, h2, h3, h4⟩ := h
  exact ⟨T, h1, h2, h3.below hb, below_then h4 h4.size hb⟩
def ShPost (n : Nat) (s : Nat → Nat → Bool) (f t : Nat) (w : World) (e : Ending) (w' : World) : Prop :=
  (∃ p g c, e = .returned (.slice (some ⟨g, 0, none⟩) p.length c) ∧ Pth n s f p t ∧ PathO w' w.heap.size g c p ∧ Below w.heap.size w w') ∨
  (e = .returned (.slice none 0 0) ∧ Wall n s f t (Rch n s f t) ∧ Below w.heap.size w w')
set_option maxRecDepth 100000 in
set_option maxHeartbeats 8000000 in
theorem shortest_any (n f t : Nat) (hn : n ≤ 6) (hf : f < n) (ht : t < n) (hft : f ≠ t) (s : Nat → Nat → Bool) (v1 v2 v3 : Value) (w : World)
    (hc : ∀ a b : Nat, a < n → b < n → ∀ W, Below w.heap.size w W → Calls Try.prog 111 #[.int .i64 (a : Int), .int .i64 (b : Int), v1, v2, v3] W (RetB (.bool (s a b)) W)) :
    Calls Try.prog 110 #[.int .i64 (n : Int), .int .i64 (f : Int), .int .i64 (t : Int), .func (.func 111) #[] #[v1, v2, v3]] w (ShPost n s f t w) := by
  obtain ⟨r0, hri, hr0, hr1, hr2⟩ := info_parts Try.infoFr
  obtain ⟨i0, hi, hz0, hz1, hz2⟩ := info_parts Try.infoI
  have HL0 := Lib.hid (LsR.one w f)
  have hb1 : Below w.heap.size w (w.alloc (.cells #[.int .i64 (f : Int)] 2)) := (Below.refl _ _).alloc (Nat.le_refl _) _
  have HB0 : Hid (Below w.heap.size w ((w.alloc (.cells #[.int .i64 (f : Int)] 2)).alloc (.cells #[.slice (some ⟨w.heap.size, 0, none⟩) 1 1] 25))) := Lib.hid (hb1.alloc hb1.size _)
  have HC := Lib.hid hc
  have HFT := Lib.hid hft
  clear hb1 hc hft
  unfold ShPost
  go_enter Try.func110, Try.ntmps110
  go_wp2
  go_loopw [9, 10, 12, 13, 14, 19] (fun li _ _ _ _ rr wr => ∃ (r : Nat) (Ls : List (List Nat)) (gl cl : Nat), r ≤ n ∧ rr = .int .i64 (r : Int) ∧ li = .slice (some ⟨gl, 0, none⟩) Ls.length cl ∧ Sh n s f t r Ls ∧ Ls.length ≤ 6 ^ r ∧ LsR wr gl Ls ∧ Below w.heap.size w wr) (fun _ _ _ _ _ rr _ => n - (RowKit.intOf rr).toNat)
  case atStart => exact ⟨0, [[f]], _, 1, Nat.zero_le _, rfl, rfl, Sh.start hf HFT.out, Nat.le_refl _, HL0.out, HB0.out⟩
  case round =>
    obtain ⟨r, Ls, gl, cl, hr, rfl, rfl, hsh, hlen, hls, hb⟩ := hrel
    generalize wr = wo at *
    have HSH := Lib.hid hsh
    have HLS := Lib.hid hls
    have HB := Lib.hid hb
    have HLEN := Lib.hid hlen
    have hL5 : Ls.length ≤ 46656 := Nat.le_trans hlen (Nat.pow_le_pow_right (n := 6) (by omega) (show r ≤ 6 by omega))
    clear hsh hls hb hlen HL0 HB0
    by_cases hlt : r < n
    · have hri2 : (r : Int) < (n : Int) := by omega
      have hown0 : (wo.alloc (.cells #[] 25)).ownsRow wo.heap.size 25 1 (.slice (some ⟨wo.heap.size, 0, none⟩) 0 0) 0 [] := by simpa using World.ownsRow_made wo #[] 0 (Nat.le_refl _) (Nat.zero_le _) rfl
      have HN0 : Hid (NxR wo (wo.alloc (.cells #[] 25)) wo.heap.size 0 []) := Lib.hid ⟨[], rfl, rfl, TreeW.start kRow 25 hown0, (Below.refl _ _).alloc (Nat.le_refl _) _⟩
      clear hown0
      go_wp2
      go_loopw [10, 12, 13, 14, 24] (fun nx _ _ _ ii wr => ∃ (i g cap : Nat) (N : List (List Nat)), i ≤ Ls.length ∧ ii = .int .i64 (i : Int) ∧ nx = .slice (some ⟨g, 0, none⟩) N.length cap ∧ ShIn n s f t r Ls i 0 N ∧ N.length ≤ i * 6 ∧ NxR wo wr g cap N) (fun _ _ _ _ ii _ => Ls.length - (RowKit.intOf ii).toNat)
      case atStart => exact ⟨0, _, 0, [], Nat.zero_le _, rfl, rfl, ShIn.start Ls, Nat.zero_le _, HN0.out⟩
      case round =>
        obtain ⟨i, g, cap, N, hi9, rfl, rfl, hin, hnl, hnx⟩ := hrel
        generalize wr = wm at *
        have HIN := Lib.hid hin
        have HNX := Lib.hid hnx
        clear hin hnx HN0
        by_cases hlti : i < Ls.length
        · have hget : Ls[i]? = some Ls[i] := List.getElem?_eq_getElem hlti
          have HGET := Lib.hid hget
          obtain ⟨A7, c7, hrow⟩ := HLS.out i _ hget
          obtain ⟨⟨a, hpa⟩, htp, hpl⟩ := HSH.out.ok _ (List.getElem_mem hlti)
          generalize Ls[i] = p at *
          have hal : a < n := hpa.lt a hpa.mem
          have HPA := Lib.hid hpa
          have HLAST := Lib.hid hpa.last
          obtain ⟨b7, o7, rfl, hlast⟩ := ls_last (fun y => (hrow y).2) hpl hpa.last
          have v0 : wm.cell? ⟨gl, i, none⟩ = some (.slice (some ⟨b7, o7, none⟩) p.length c7) := (hrow ⟨wm, HNX.out.bel⟩).1
          rw [hpl] at v0
          have HPI := Lib.hid (fun y : Aft wo => (hrow y).2)
          have HLA := Lib.hid hlast
          have HPL := Lib.hid hpl
          have hii : (i : Int) < (Ls.length : Int) := by omega
          have hi0 : (0 : Int) ≤ (i : Int) := by omega
          clear hget hrow hpa hlast htp hpl
          go_wp2
          have HPC := Lib.hid (HPI.out)
          rw [HPL.out] at HPC
          go_loopw [10, 13, 14, 29] (fun nx _ _ bb wr => ∃ (b g cap : Nat) (N : List (List Nat)), b ≤ n ∧ bb = .int .i64 (b : Int) ∧ nx = .slice (some ⟨g, 0, none⟩) N.length cap ∧ ShIn n s f t r Ls i b N ∧ N.length ≤ i * 6 + b ∧ NxR wo wr g cap N) (fun _ _ _ bb _ => n - (RowKit.intOf bb).toNat)
          case atStart => exact ⟨0, g, cap, N, Nat.zero_le _, rfl, rfl, HIN.out, hnl, HNX.out⟩
          case round =>
            obtain ⟨b, g, cap, N, hb9, rfl, rfl, hin, hnl, hnx⟩ := hrel
            have HIN := Lib.hid hin
            have HNX := Lib.hid hnx
            clear hin hnx v0
            by_cases hltb : b < n
            · have hbb : (b : Int) < (n : Int) := by omega
              have hN : N.length ≤ 300000 := by omega
              have hwo := HNX.out.bel
              have HCN := Lib.hid (retQ_b (contains2_val (barL p) (b : Int) wr _ (p.contains b) (HPC.out ⟨wr, hwo⟩) bar_has))
              have HSK := Lib.hid (fun hh => HIN.out.skip (b := b) HGET.out HLAST.out hh)
              have HBW := Lib.hid (below_then HB.out HB.out.size hwo)
              clear hwo
              cases hcb : p.contains b with
              | true =>
                rw [hcb] at HCN
                have HIN2 := Lib.hid (HSK.out (.inl (List.contains_iff_mem.1 hcb)))
                clear hcb HSK
                go_wp2_with (fail)
                refine HCN.out.mono ?_
                rintro e wa ⟨rfl, hba⟩
                have HNA := Lib.hid (HNX.out.below hba)
                clear hba
                go_wp2
                go_roundw
                case rel => exact ⟨b + 1, g, cap, N, by omega, by go_num, rfl, HIN2.out, by omega, HNA.out⟩
                case measure => simp [RowKit.intOf]; omega
              | false =>
                rw [hcb] at HCN
                have HNP : Hid (b ∉ p) := Lib.hid (fun h => by rw [List.contains_iff_mem.2 h] at hcb; cases hcb)
                clear hcb
                have hp0 : (0 : Int) ≤ (r : Int) := by omega
                have hp1 : (r : Int) < (r : Int) + 1 := by omega
                cases hst : s a b with
                | false =>
                  have HIN2 := Lib.hid (HSK.out (.inr hst))
                  clear HSK
                  go_wp2_with (fail)
                  refine HCN.out.mono ?_
                  rintro e wa ⟨rfl, hba⟩
                  have HNA := Lib.hid (HNX.out.below hba)
                  have la := HLA.out ⟨wa, HNA.out.bel⟩
                  have HCS := Lib.hid (HC.out a b hal hltb wa (below_then HBW.out HBW.out.size hba))
                  rw [hst] at HCS
                  clear hba hst
                  go_wp2_with (fail)
                  refine HCS.out.mono ?_
                  rintro e wb ⟨rfl, hbb2⟩
                  have HNB := Lib.hid (HNA.out.below hbb2)
                  clear hbb2 la
                  go_wp2
                  go_roundw
                  case rel => exact ⟨b + 1, g, cap, N, by omega, by go_num, rfl, HIN2.out, by omega, HNB.out⟩
                  case measure => simp [RowKit.intOf]; omega
                | true =>
                  go_wp2_with (fail)
                  refine HCN.out.mono ?_
                  rintro e wa ⟨rfl, hba⟩
                  have HNA := Lib.hid (HNX.out.below hba)
                  have la := HLA.out ⟨wa, HNA.out.bel⟩
                  have HCS := Lib.hid (HC.out a b hal hltb wa (below_then HBW.out HBW.out.size hba))
                  rw [hst] at HCS
                  have HST := Lib.hid hst
                  clear hst HSK
                  go_wp2_with (fail)
                  refine HCS.out.mono ?_
                  rintro e wb ⟨rfl, hbb2⟩
                  have HNB := Lib.hid (HNA.out.below hbb2)
                  have HBB := Lib.hid (below_then (below_then HBW.out HBW.out.size hba) (below_then HBW.out HBW.out.size hba).size hbb2)
                  have hbl : (barL p).length = r + 1 := by rw [barL_len]; exact HPL.out
                  have hcl := clone_some (barL p) ⟨b7, o7, none⟩ c7 wb (by rw [hbl]; exact HPC.out ⟨wb, HNB.out.bel⟩) (by omega)
                  rw [hbl] at hcl
                  have HCL := Lib.hid hcl
                  unfold ClonePost at HCL
                  rw [hbl] at HCL
                  clear hba hbb2 la hcl HCS HCN
                  go_wp2_with (fail)
                  refine HCL.out.mono ?_
                  rintro e wc ⟨v', rfl, hown, hbc⟩
                  obtain ⟨gc, cc, rfl, hcc, hcm⟩ := own_some hown (fun e => by
                    rw [e] at hown
                    obtain ⟨_, h | ⟨_, _, _, h, _⟩⟩ := hown
                    · have := h.2; omega
                    · cases h)
                  have HOWN := Lib.hid hown
                  have HBC := Lib.hid hbc
                  have HNC := Lib.hid (HNB.out.below hbc)
                  have hr9 : (r : Int) + 1 < 9223372036854775807 := by omega
                  clear hown hbc hbl HCL HNA HNX
                  go_wp2_with (at_builtin; refine wpList_append_own_at _ rfl _ _ 25 rfl wb.heap.size 2 i0 (.int .i64 0) 1 8 Try.underlying25 hi hz0 hz1 hz2 rfl (by decide) _ _ _ rfl (HOWN.out.alloc _) ⟨wc.heap.size, 0, none⟩ 1 1 (intCells (b : Int)) rfl rfl (fun j u hj => new_at hj) (fun u hu => int_one' _ hu) ?c3 ?c4 (base_le HBC.out.size) ?_)
                  case c3 => unfold maxLen; omega
                  case c4 => omega
                  intro v' wd hown' hgrow hiff hat
                  obtain ⟨go, co, rfl, hdc9, hcm9⟩ := own_some hown' (by simpa using hiff)
                  have HPO : Hid (PathO wd wb.heap.size go co (p ++ [b])) := Lib.hid (by
                    unfold PathO
                    rw [barL_snoc, flat_snoc, List.length_append, HPL.out]
                    exact hown')
                  have hbd : Below wb.heap.size wb wd := ((HBC.out.alloc HBC.out.size (.cells #[.int .i64 (b : Int)] 2)).grown hgrow (base_le HBC.out.size) (fun j hj => (HOWN.out.lt j hj).1))
                  have HBD := Lib.hid hbd
                  clear hown' hgrow hiff hat hbd HOWN HBC HNC
                  by_cases hbt : b = t
                  · have e1 : (b : Int) = (t : Int) := by omega
                    have e2 : ((b : Int) == (t : Int)) = true := by rw [e1]; exact beq_self_eq_true _
                    have HPT : Hid (Pth n s f (p ++ [b]) t) := Lib.hid (by rw [← hbt]; exact .more HPA.out hltb HNP.out HST.out)
                    have HPW := Lib.hid (HPO.out.less HBB.out.size)
                    have HBZ := Lib.hid (below_then HBB.out HBB.out.size HBD.out)
                    have HLZ : Hid (r + 1 + 1 = (p ++ [b]).length) := Lib.hid (by rw [List.length_append, HPL.out]; rfl)
                    clear hbt
                    go_wp2
                    go_ret
                    exact .inl ⟨p ++ [b], go, co, by rw [HLZ.out]; rfl, HPT.out, HPW.out, HBZ.out⟩
                  · have e1 : ¬ (b : Int) = (t : Int) := by omega
                    have e2 : ((b : Int) == (t : Int)) = false := by rw [beq_eq_false_iff_ne]; exact e1
                    have HIN2 := Lib.hid (HIN.out.push HSH.out HGET.out HLAST.out hltb HNP.out HST.out hbt)
                    obtain ⟨T, hTN, hTm, hTT, hTb⟩ := HNB.out
                    have hbA : Below wd.heap.size wd (wd.alloc (.cells #[.slice (some ⟨go, 0, none⟩) (r + 1 + 1) co] 25)) := (Below.refl _ _).alloc (Nat.le_refl _) _
                    have HTA := Lib.hid ((hTT.below HBD.out).below hbA)
                    have HRL := Lib.hid HTA.out.row
                    have HTM := Lib.hid hTm
                    have HTN := Lib.hid hTN
                    rw [hTN] at HRL
                    have HOX : Hid (OwnL intCells (barL (p ++ [b])) wb.heap.size (wd.alloc (.cells #[.slice (some ⟨go, 0, none⟩) (r + 1 + 1) co] 25)) (.slice (some ⟨go, 0, none⟩) (r + 1 + 1) co)) := Lib.hid (by
                      have q := (HPO.out.below hbA).own
                      rw [List.length_append, HPL.out] at q
                      exact q)
                    have HB3 := Lib.hid (below_then (below_then hTb hTb.size HBD.out) (Nat.le_trans hTb.size HBD.out.size) hbA)
                    have hwow : wo.heap.size ≤ wb.heap.size := HNB.out.bel.size
                    have HOLD : Hid (g < wb.heap.size ∧ ∀ z ∈ T, ∀ c, kRow.blk z c → c < wb.heap.size) := Lib.hid ⟨hTT.lt.2, fun z hz c hc => (kRow.lt (hTT.inn z hz) hc).2⟩
                    clear hbt hTN hTm hTT hTb hbA
                    go_wp2_with (at_builtin; refine wpList_append_own_at _ rfl _ _ 24 rfl wo.heap.size 25 r0 (.slice none 0 0) 1 24 Try.underlying24 hri hr0 hr1 hr2 rfl (by decide) _ _ _ rfl HRL.out ⟨wd.heap.size, 0, none⟩ 1 1 (rCells ⟨barL (p ++ [b]), .slice (some ⟨go, 0, none⟩) (r + 1 + 1) co⟩) rfl rfl (fun j u hj => new_at hj) (fun u hu => by simp [rCells] at hu; subst hu; rfl) ?c3 ?c4 HB3.out.size ?_)
                    case c3 => unfold maxLen; omega
                    case c4 => omega
                    intro v' w9 hown' hgrow hiff hor
                    obtain ⟨g', cap', rfl, hdc', hcm'⟩ := own_some hown' (by simpa using hiff)
                    have HP9 := Lib.hid (TreeW.push (x := ⟨barL (p ++ [b]), .slice (some ⟨go, 0, none⟩) (r + 1 + 1) co⟩) HTA.out hgrow (by rcases hor with h | h <;> injection h with h; exact .inl h; exact .inr (by simpa using h)) (by rw [HTN.out]; exact hown') (kRow.less (x := ⟨barL (p ++ [b]), .slice (some ⟨go, 0, none⟩) (r + 1 + 1) co⟩) HOX.out hwow) (fun b hb => by
                      have q1 : wb.heap.size ≤ b := (OwnL.sblk HOX.out hb).1
                      have q0 := HOLD.out.1
                      exact ⟨by omega, fun z hz hzb => by have q2 := HOLD.out.2 z hz b hzb; omega⟩))
                    have HB9 := Lib.hid (HB3.out.grown hgrow HB3.out.size (fun j hj => (HRL.out.lt j hj).1))
                    have HN9 : Hid (NxR wo w9 g' cap' (N ++ [p ++ [b]])) := Lib.hid ⟨_, by rw [List.length_append, List.length_append, HTN.out]; rfl, by rw [List.map_append, List.map_append, HTM.out]; rfl, HP9.out, HB9.out⟩
                    clear hown' hgrow hiff hor
                    go_wp2
                    go_roundw
                    case rel => exact ⟨b + 1, g', cap', N ++ [p ++ [b]], by omega, by go_num, by rw [List.length_append]; rfl, HIN2.out, by rw [List.length_append]; simp; omega, HN9.out⟩
                    case measure => simp [RowKit.intOf]; omega
            · have hge : ¬ (b : Int) < (n : Int) := by omega
              obtain rfl : b = n := by omega
              have HIN2 := Lib.hid HIN.out.next
              clear hltb
              go_wp2
              go_roundw
              case rel => exact ⟨i + 1, g, cap, N, by omega, by go_num, rfl, HIN2.out, by omega, HNX.out⟩
              case measure => simp [RowKit.intOf]; omega
        · have hge : ¬ (i : Int) < (Ls.length : Int) := by omega
          obtain rfl : i = Ls.length := by omega
          have HSN := Lib.hid (Sh.next HSH.out ht HIN.out)
          have HLN : Hid (N.length ≤ 6 ^ (r + 1)) := Lib.hid (by
            have := HLEN.out
            rw [Nat.pow_succ]
            omega)
          have HLX : Hid (LsR wm g N) := Lib.hid (by
            obtain ⟨T, _, h2, h3, _⟩ := HNX.out
            exact LsR.of_tree h3 h2)
          have HBX := Lib.hid (below_then HB.out HB.out.size HNX.out.bel)
          clear hlti
          go_wp2
          go_roundw
          case rel => exact ⟨r + 1, N, g, cap, by omega, by go_num, rfl, HSN.out, HLN.out, HLX.out, HBX.out⟩
          case measure => simp [RowKit.intOf]; omega
    · have hge : ¬ (r : Int) < (n : Int) := by omega
      obtain rfl : r = n := by omega
      have HW := Lib.hid (Sh.wall hf HFT.out HSH.out)
      go_wp2
      go_ret
      exact .inr ⟨rfl, HW.out, HB.out⟩
end Go.Proofs.Ytlbnebmdolnagaa

namespace Go.Proofs.Ytlbnebmdolnagaa
open Go.RowKit Go.Lib

structure CrcR (F : Pf) (D : List (Nat × Nat)) (lk : List Bool) (k : Nat) (w : World) (p2 p3 p4 gd cd gl cl : Nat) : Prop where
  a : w.cell? ⟨p2, 0, none⟩ = some (.slice (some ⟨gd, 0, none⟩) D.length cd)
  b : w.cell? ⟨p3, 0, none⟩ = some (.int .i64 (k : Int))
  c : w.cell? ⟨p4, 0, none⟩ = some (.slice (some ⟨gl, 0, none⟩) lk.length cl)
  rd : Row w gd (D.flatMap (duC F))
  rl : Row w gl (lk.map Value.bool)
  lt : gd < w.heap.size ∧ gl < w.heap.size
theorem CrcR.below {F : Pf} {D : List (Nat × Nat)} {lk : List Bool} {k : Nat} {w w' : World} {p2 p3 p4 gd cd gl cl : Nat} (h : CrcR F D lk k w p2 p3 p4 gd cd gl cl) (hb : Below w.heap.size w w') : CrcR F D lk k w' p2 p3 p4 gd cd gl cl :=
  ⟨(hb.cell (p := ⟨p2, 0, none⟩) (World.block_lt_of_cell? w _ h.a)).trans h.a, (hb.cell (p := ⟨p3, 0, none⟩) (World.block_lt_of_cell? w _ h.b)).trans h.b, (hb.cell (p := ⟨p4, 0, none⟩) (World.block_lt_of_cell? w _ h.c)).trans h.c, h.rd.below hb h.lt.1, h.rl.below hb h.lt.2, ⟨Nat.lt_of_lt_of_le h.lt.1 hb.size, Nat.lt_of_lt_of_le h.lt.2 hb.size⟩⟩
set_option maxRecDepth 100000 in
set_option maxHeartbeats 8000000 in
theorem circ1_any (F : Pf) (_hF : F.Ok) (D : List (Nat × Nat)) (lk : List Bool) (k : Nat) (hk : k ≤ D.length) (hkl : k ≤ lk.length) (_hD : D.length ≤ 15) (p2 p3 p4 gd cd gl cl a b : Nat) (w : World) (h : CrcR F D lk k w p2 p3 p4 gd cd gl cl) (hcd : D.length ≤ cd) (hcm : cd ≤ maxLen) :
    Calls Try.prog 111 #[.int .i64 (a : Int), .int .i64 (b : Int), .pointer (some ⟨p2, 0, none⟩), .pointer (some ⟨p3, 0, none⟩), .pointer (some ⟨p4, 0, none⟩)] w (RetB (.bool (stp D lk k a b)) w) := by
  have H := Lib.hid h
  have hkc : k ≤ cd := by omega
  have hkci : (k : Int) ≤ (cd : Int) := by omega
  have hk0 : (0 : Int) ≤ (k : Int) := by omega
  unfold maxLen at hcm
  obtain ⟨r, hr⟩ : ∃ r, r = stp D lk k a b := ⟨_, rfl⟩
  have HR := Lib.hid hr
  rw [← hr]
  have z0 := h.a
  have z1 := h.b
  clear h hr
  go_enter Try.func111, Try.ntmps111
  go_wp2
  have HB0 := Lib.hid (Below.refl w.heap.size w)
  go_loopw [8, 9, 14] (fun _ _ ii wr => ∃ i : Nat, i ≤ k ∧ ii = .int .i64 (i : Int) ∧ (∀ j, j < i → ¬ (D[j]? = some (a, b) ∧ lk[j]? = some true)) ∧ Below w.heap.size w wr) (fun _ _ ii _ => k - (RowKit.intOf ii).toNat)
  case atStart => exact ⟨0, Nat.zero_le _, rfl, (fun j hj => by omega), HB0.out⟩
  case round =>
    obtain ⟨i, hi, rfl, hno, hb⟩ := hrel
    have HNO := Lib.hid hno
    have HB := Lib.hid hb
    clear hno hb z0 z1 HB0
    by_cases hlt : i < k
    · have hii : (i : Int) < (k : Int) := by omega
      have hi0 : (0 : Int) ≤ (i : Int) := by omega
      have hgd : D[i]? = some (D[i]'(by omega)) := List.getElem?_eq_getElem (by omega)
      have hgl : lk[i]? = some (lk[i]'(by omega)) := List.getElem?_eq_getElem (by omega)
      generalize D[i]'(by omega) = x at *
      generalize lk[i]'(by omega) = l at *
      have HX := Lib.hid (And.intro hgd hgl)
      have hH := H.out.below HB.out
      obtain ⟨q0, q1, q2, q3⟩ := row_du hH.rd hgd
      obtain ⟨x1, x2⟩ := x
      clear hgd hgl hH
      go_upto_region 4 with (fail)
      have hbA : Below w.heap.size w (wr.alloc (.cells #[.int .i64 (x1 : Int), .int .i64 (x2 : Int), .int .i64 (prs F x1 x2 : Int), .int .i64 (prs F x2 x1 : Int)] 43)) := HB.out.alloc HB.out.size _
      have n0 : (wr.alloc (.cells #[.int .i64 (x1 : Int), .int .i64 (x2 : Int), .int .i64 (prs F x1 x2 : Int), .int .i64 (prs F x2 x1 : Int)] 43)).cell? ⟨wr.heap.size, 0, none⟩ = some (.int .i64 (x1 : Int)) := new_at (cs := [.int .i64 (x1 : Int), .int .i64 (x2 : Int), .int .i64 (prs F x1 x2 : Int), .int .i64 (prs F x2 x1 : Int)]) (j := 0) rfl
      have n1 : (wr.alloc (.cells #[.int .i64 (x1 : Int), .int .i64 (x2 : Int), .int .i64 (prs F x1 x2 : Int), .int .i64 (prs F x2 x1 : Int)] 43)).cell? ⟨wr.heap.size, 1, none⟩ = some (.int .i64 (x2 : Int)) := new_at (cs := [.int .i64 (x1 : Int), .int .i64 (x2 : Int), .int .i64 (prs F x1 x2 : Int), .int .i64 (prs F x2 x1 : Int)]) (j := 1) rfl
      generalize wr.alloc (.cells #[.int .i64 (x1 : Int), .int .i64 (x2 : Int), .int .i64 (prs F x1 x2 : Int), .int .i64 (prs F x2 x1 : Int)] 43) = wa at *
      have hH := H.out.below hbA
      have z2 := hH.c
      have l0 := hH.rl.cell i (.bool l) (by rw [List.getElem?_map, HX.out.2]; rfl)
      have hil : (i : Int) < (lk.length : Int) := by omega
      have HBA := Lib.hid hbA
      clear hH q0 q1 q2 q3 hbA
      cases l with
      | false =>
        have HN2 : Hid (∀ j, j < i + 1 → ¬ (D[j]? = some (a, b) ∧ lk[j]? = some true)) := Lib.hid (fun j hj hh => by
          by_cases e : j = i
          · subst e
            have := HX.out.2
            rw [hh.2] at this
            cases this
          · exact HNO.out j (by omega) hh)
        go_wp2
        go_roundw
        case rel => exact ⟨i + 1, by omega, by go_num, HN2.out, HBA.out⟩
        case measure => simp [RowKit.intOf]; omega
      | true =>
        by_cases e1 : x1 = a
        · have e1i : ((x1 : Int) = (a : Int)) := by omega
          have e1b : ((x1 : Int) == (a : Int)) = true := by rw [e1i]; exact beq_self_eq_true _
          by_cases e2 : x2 = b
          · have e2i : ((x2 : Int) = (b : Int)) := by omega
            have e2b : ((x2 : Int) == (b : Int)) = true := by rw [e2i]; exact beq_self_eq_true _
            have HRT : Hid (r = true) := Lib.hid (by
              rw [HR.out]
              exact stp_iff.2 ⟨i, hlt, by rw [HX.out.1, e1, e2], HX.out.2⟩)
            clear e1 e2
            go_wp2
            go_ret
            exact ⟨by rw [HRT.out]; rfl, HBA.out⟩
          · have e2i : ¬ ((x2 : Int) = (b : Int)) := by omega
            have e2b : ((x2 : Int) == (b : Int)) = false := by rw [beq_eq_false_iff_ne]; exact e2i
            have HN2 : Hid (∀ j, j < i + 1 → ¬ (D[j]? = some (a, b) ∧ lk[j]? = some true)) := Lib.hid (fun j hj hh => by
              by_cases e : j = i
              · subst e
                have := HX.out.1
                rw [hh.1] at this
                injection this with this
                injection this with _ this
                exact e2 this.symm
              · exact HNO.out j (by omega) hh)
            clear e1 e2
            go_wp2
            go_roundw
            case rel => exact ⟨i + 1, by omega, by go_num, HN2.out, HBA.out⟩
            case measure => simp [RowKit.intOf]; omega
        · have e1i : ¬ ((x1 : Int) = (a : Int)) := by omega
          have e1b : ((x1 : Int) == (a : Int)) = false := by rw [beq_eq_false_iff_ne]; exact e1i
          have HN2 : Hid (∀ j, j < i + 1 → ¬ (D[j]? = some (a, b) ∧ lk[j]? = some true)) := Lib.hid (fun j hj hh => by
            by_cases e : j = i
            · subst e
              have := HX.out.1
              rw [hh.1] at this
              injection this with this
              injection this with this _
              exact e1 this.symm
            · exact HNO.out j (by omega) hh)
          clear e1
          go_wp2
          go_roundw
          case rel => exact ⟨i + 1, by omega, by go_num, HN2.out, HBA.out⟩
          case measure => simp [RowKit.intOf]; omega
    · have hge : ¬ (i : Int) < (k : Int) := by omega
      obtain rfl : i = k := by omega
      have HRF : Hid (r = false) := Lib.hid (by
        cases hr : r with
        | false => rfl
        | true =>
          rw [HR.out] at hr
          obtain ⟨j, hj, h1, h2⟩ := stp_iff.1 hr
          exact absurd ⟨h1, h2⟩ (HNO.out j hj))
      clear hlt
      go_wp2
      go_ret
      exact ⟨by rw [HRF.out]; rfl, HB.out⟩
end Go.Proofs.Ytlbnebmdolnagaa

namespace Go.Proofs.Ytlbnebmdolnagaa
open Go.RowKit Go.Lib

theorem crc_box (F : Pf) (D : List (Nat × Nat)) (lk : List Bool) (k gd cd gl cl : Nat) (w : World) (rd : Row w gd (D.flatMap (duC F))) (rl : Row w gl (lk.map Value.bool)) (hg : gd < w.heap.size) (hl : gl < w.heap.size) :
    ∃ w1, w1 = ((w.alloc (.cells #[.slice (some ⟨gd, 0, none⟩) D.length cd] 36)).alloc (.cells #[.slice (some ⟨gl, 0, none⟩) lk.length cl] 39)).alloc (.cells #[.int .i64 (k : Int)] 3) ∧ w1.heap.size = w.heap.size + 3 ∧ Below w.heap.size w w1 ∧ CrcR F D lk k w1 w.heap.size (w.heap.size + 2) (w.heap.size + 1) gd cd gl cl := by
  have b1 : Below w.heap.size w (w.alloc (.cells #[.slice (some ⟨gd, 0, none⟩) D.length cd] 36)) := (Below.refl _ _).alloc (Nat.le_refl _) _
  have s1 : (w.alloc (.cells #[.slice (some ⟨gd, 0, none⟩) D.length cd] 36)).heap.size = w.heap.size + 1 := by simp
  have c1 : (w.alloc (.cells #[.slice (some ⟨gd, 0, none⟩) D.length cd] 36)).cell? ⟨w.heap.size, 0, none⟩ = some (.slice (some ⟨gd, 0, none⟩) D.length cd) := new_at (cs := [.slice (some ⟨gd, 0, none⟩) D.length cd]) (j := 0) rfl
  generalize w.alloc (.cells #[.slice (some ⟨gd, 0, none⟩) D.length cd] 36) = wa at *
  have b2 : Below wa.heap.size wa (wa.alloc (.cells #[.slice (some ⟨gl, 0, none⟩) lk.length cl] 39)) := (Below.refl _ _).alloc (Nat.le_refl _) _
  have s2 : (wa.alloc (.cells #[.slice (some ⟨gl, 0, none⟩) lk.length cl] 39)).heap.size = wa.heap.size + 1 := by simp
  have c2 : (wa.alloc (.cells #[.slice (some ⟨gl, 0, none⟩) lk.length cl] 39)).cell? ⟨wa.heap.size, 0, none⟩ = some (.slice (some ⟨gl, 0, none⟩) lk.length cl) := new_at (cs := [.slice (some ⟨gl, 0, none⟩) lk.length cl]) (j := 0) rfl
  generalize wa.alloc (.cells #[.slice (some ⟨gl, 0, none⟩) lk.length cl] 39) = wb at *
  have b3 : Below wb.heap.size wb (wb.alloc (.cells #[.int .i64 (k : Int)] 3)) := (Below.refl _ _).alloc (Nat.le_refl _) _
  have s3 : (wb.alloc (.cells #[.int .i64 (k : Int)] 3)).heap.size = wb.heap.size + 1 := by simp
  have c3 : (wb.alloc (.cells #[.int .i64 (k : Int)] 3)).cell? ⟨wb.heap.size, 0, none⟩ = some (.int .i64 (k : Int)) := new_at (cs := [.int .i64 (k : Int)]) (j := 0) rfl
  generalize wb.alloc (.cells #[.int .i64 (k : Int)] 3) = wc at *
  rw [s1] at c2
  rw [s2, s1] at c3
  have bb := below_then b1 b1.size b2
  have bc := below_then bb bb.size b3
  refine ⟨wc, rfl, by omega, bc, ?_, c3, ?_, rd.below bc hg, rl.below bc hl, by omega, by omega⟩
  · exact ((below_then b2 b2.size b3).cell (p := ⟨w.heap.size, 0, none⟩) (by show w.heap.size < wa.heap.size; omega)).trans c1
  · exact (b3.cell (p := ⟨w.heap.size + 1, 0, none⟩) (by show w.heap.size + 1 < wb.heap.size; omega)).trans c2
set_option maxRecDepth 100000 in
set_option maxHeartbeats 8000000 in
theorem circle_any (F : Pf) (hF : F.Ok) (D : List (Nat × Nat)) (lk : List Bool) (k a b : Nat) (hp : D[k]? = some (a, b)) (hkl : k ≤ lk.length) (hD : D.length ≤ 15) (ha : a < F.n) (hb : b < F.n) (hab : b ≠ a) (gd cd gl cl : Nat) (w : World) (rd : Row w gd (D.flatMap (duC F))) (rl : Row w gl (lk.map Value.bool)) (hg : gd < w.heap.size) (hl : gl < w.heap.size) (hcd : D.length ≤ cd) (hcm : cd ≤ maxLen) :
    Calls Try.prog 67 #[.int .i64 (F.n : Int), .slice (some ⟨gd, 0, none⟩) D.length cd, .slice (some ⟨gl, 0, none⟩) lk.length cl, .int .i64 (k : Int)] w (ShPost F.n (stp D lk k) b a w) := by
  obtain ⟨w1, hw1, hs1, hb1, hcr⟩ := crc_box F D lk k gd cd gl cl w rd rl hg hl
  have hk : k < D.length := (List.getElem?_eq_some_iff.1 hp).1
  have HSH := Lib.hid (fun W (h : CrcR F D lk k W w.heap.size (w.heap.size + 2) (w.heap.size + 1) gd cd gl cl) => shortest_any F.n b a hF.n6 hb ha hab (stp D lk k) (.pointer (some ⟨w.heap.size, 0, none⟩)) (.pointer (some ⟨w.heap.size + 2, 0, none⟩)) (.pointer (some ⟨w.heap.size + 1, 0, none⟩)) W (fun x y _ _ W2 hb2 => circ1_any F hF D lk k (by omega) hkl hD _ _ _ gd cd gl cl x y W2 (h.below hb2) hcd hcm))
  have HP := Lib.hid hp
  have HCR := Lib.hid hcr
  have HB1 := Lib.hid hb1
  have hki : (k : Int) < (D.length : Int) := by omega
  have hk0 : (0 : Int) ≤ (k : Int) := by omega
  generalize F.n = n at *
  clear hF hp rd rl hg hl hcd hcr hb1
  unfold ShPost at HSH
  unfold ShPost
  go_enter Try.func67, Try.ntmps67
  go_upto_region 1 with (fail)
  rw [← hw1]
  clear hw1
  obtain ⟨wd, hwd⟩ : ∃ X, X = w1.drew := ⟨_, rfl⟩
  have HSD : Hid (CrcR F D lk k wd w.heap.size (w.heap.size + 2) (w.heap.size + 1) gd cd gl cl) := Lib.hid (by rw [hwd]; exact HCR.out.below (Below.refl _ _).drew)
  have HBD : Hid (Below w.heap.size w wd) := Lib.hid (by rw [hwd]; exact HB1.out.drew)
  refine wp_region_held_drew (S := fun W => CrcR F D lk k W w.heap.size (w.heap.size + 2) (w.heap.size + 1) gd cd gl cl) (by kernel_rfl) (by rw [← hwd]; exact HSD.out) (fun hHeld => ?_)
  rw [← hwd] at hHeld ⊢
  clear hwd HCR HB1 hs1
  refine wpAnyH_take (i := 0) (v := ?_) rfl (by kernel_rfl) (by kernel_rfl) (by kernel_rfl) (fun _ _ _ h => h) (Or.inl ⟨by rfl, ?_⟩) (by assumption) ?_
  rotate_left
  · intro W9 hSw
    have m1 := hSw.a
    have m2 := hSw.b
    have m3 := (row_du hSw.rd HP.out).1
    have m4 := (row_du hSw.rd HP.out).2.1
    try simp only [List.getElem_toArray, List.getElem_cons_zero]
    first | (go_simp; done) | (go_simp; with_reducible rfl)
  try simp only [Act.put, List.getElem_toArray, List.getElem_cons_zero, List.setIfInBounds_toArray, List.set_cons_zero, List.set_cons_succ]
  refine wpAnyH_take (i := 1) (v := ?_) rfl (by kernel_rfl) (by kernel_rfl) (by kernel_rfl) (fun _ _ _ h => h) (Or.inl ⟨by rfl, ?_⟩) (by assumption) ?_
  rotate_left
  · intro W9 hSw
    have m1 := hSw.a
    have m2 := hSw.b
    have m3 := (row_du hSw.rd HP.out).1
    have m4 := (row_du hSw.rd HP.out).2.1
    try simp only [List.getElem_toArray, List.getElem_cons_zero, List.getElem_cons_succ]
    first | (go_simp; done) | (go_simp; with_reducible rfl)
  try simp only [Act.put, List.getElem_toArray, List.getElem_cons_zero, List.getElem_cons_succ, List.setIfInBounds_toArray, List.set_cons_zero, List.set_cons_succ]
  refine wpAnyH_take (i := 2) (v := ?_) rfl (by kernel_rfl) (by kernel_rfl) (by kernel_rfl) (fun _ _ _ h => h) (Or.inl ⟨by rfl, ?_⟩) (by assumption) ?_
  rotate_left
  · intro W9 hSw
    have m1 := hSw.a
    have m2 := hSw.b
    have m3 := (row_du hSw.rd HP.out).1
    have m4 := (row_du hSw.rd HP.out).2.1
    try simp only [List.getElem_toArray, List.getElem_cons_zero, List.getElem_cons_succ]
    first | (go_simp; done) | (go_simp; with_reducible rfl)
  try simp only [Act.put, List.getElem_toArray, List.getElem_cons_zero, List.getElem_cons_succ, List.setIfInBounds_toArray, List.set_cons_zero, List.set_cons_succ]
  refine wpAnyH_take (i := 3) (v := ?_) rfl (by kernel_rfl) (by kernel_rfl) (by kernel_rfl) (fun _ _ _ h => h) (Or.inl ⟨by rfl, ?_⟩) (by assumption) ?_
  rotate_left
  · intro W9 hSw
    have m1 := hSw.a
    have m2 := hSw.b
    have m3 := (row_du hSw.rd HP.out).1
    have m4 := (row_du hSw.rd HP.out).2.1
    try simp only [List.getElem_toArray, List.getElem_cons_zero, List.getElem_cons_succ]
    first | (go_simp; done) | (go_simp; with_reducible rfl)
  try simp only [Act.put, List.getElem_toArray, List.getElem_cons_zero, List.getElem_cons_succ, List.setIfInBounds_toArray, List.set_cons_zero, List.set_cons_succ]
  refine wpAnyH_take (i := 4) (v := ?_) rfl (by kernel_rfl) (by kernel_rfl) (by kernel_rfl) (fun _ _ _ h => h) (Or.inl ⟨by rfl, ?_⟩) (by assumption) ?_
  rotate_left
  · intro W9 hSw
    have m1 := hSw.a
    have m2 := hSw.b
    have m3 := (row_du hSw.rd HP.out).1
    have m4 := (row_du hSw.rd HP.out).2.1
    try simp only [List.getElem_toArray, List.getElem_cons_zero, List.getElem_cons_succ]
    first | (go_simp; done) | (go_simp; with_reducible rfl)
  try simp only [Act.put, List.getElem_toArray, List.getElem_cons_zero, List.getElem_cons_succ, List.setIfInBounds_toArray, List.set_cons_zero, List.set_cons_succ]
  refine wpAnyH_take (i := 5) (v := ?_) rfl (by kernel_rfl) (by kernel_rfl) (by kernel_rfl) (fun _ _ _ h => h) (Or.inl ⟨by rfl, ?_⟩) (by assumption) ?_
  rotate_left
  · intro W9 hSw
    have m1 := hSw.a
    have m2 := hSw.b
    have m3 := (row_du hSw.rd HP.out).1
    have m4 := (row_du hSw.rd HP.out).2.1
    try simp only [List.getElem_toArray, List.getElem_cons_zero, List.getElem_cons_succ]
    first | (go_simp; done) | (go_simp; with_reducible rfl)
  try simp only [Act.put, List.getElem_toArray, List.getElem_cons_zero, List.getElem_cons_succ, List.setIfInBounds_toArray, List.set_cons_zero, List.set_cons_succ]
  refine wpAnyH_take (i := 6) (v := ?_) rfl (by kernel_rfl) (by kernel_rfl) (by kernel_rfl) (fun _ _ _ h => h) (Or.inl ⟨by rfl, ?_⟩) (by assumption) ?_
  rotate_left
  · intro W9 hSw
    have m1 := hSw.a
    have m2 := hSw.b
    have m3 := (row_du hSw.rd HP.out).1
    have m4 := (row_du hSw.rd HP.out).2.1
    try simp only [List.getElem_toArray, List.getElem_cons_zero, List.getElem_cons_succ]
    first | (go_simp; done) | (go_simp; with_reducible rfl)
  try simp only [Act.put, List.getElem_toArray, List.getElem_cons_zero, List.getElem_cons_succ, List.setIfInBounds_toArray, List.set_cons_zero, List.set_cons_succ]
  refine wpAnyH_take (i := 7) (v := ?_) rfl (by kernel_rfl) (by kernel_rfl) (by kernel_rfl) (fun _ _ _ h => h) (Or.inl ⟨by rfl, ?_⟩) (by assumption) ?_
  rotate_left
  · intro W9 hSw
    have m1 := hSw.a
    have m2 := hSw.b
    have m3 := (row_du hSw.rd HP.out).1
    have m4 := (row_du hSw.rd HP.out).2.1
    try simp only [List.getElem_toArray, List.getElem_cons_zero, List.getElem_cons_succ]
    first | (go_simp; done) | (go_simp; with_reducible rfl)
  try simp only [Act.put, List.getElem_toArray, List.getElem_cons_zero, List.getElem_cons_succ, List.setIfInBounds_toArray, List.set_cons_zero, List.set_cons_succ]
  refine wpAnyH_take (i := 8) (v := ?_) rfl (by kernel_rfl) (by kernel_rfl) (by kernel_rfl) (fun _ _ _ h => h) (Or.inl ⟨by rfl, ?_⟩) (by assumption) ?_
  rotate_left
  · intro W9 hSw
    have m1 := hSw.a
    have m2 := hSw.b
    have m3 := (row_du hSw.rd HP.out).1
    have m4 := (row_du hSw.rd HP.out).2.1
    try simp only [List.getElem_toArray, List.getElem_cons_zero, List.getElem_cons_succ]
    first | (go_simp; done) | (go_simp; with_reducible rfl)
  try simp only [Act.put, List.getElem_toArray, List.getElem_cons_zero, List.getElem_cons_succ, List.setIfInBounds_toArray, List.set_cons_zero, List.set_cons_succ]
  refine wpAnyH_take (i := 9) (v := ?_) rfl (by kernel_rfl) (by kernel_rfl) (by kernel_rfl) (fun _ _ _ h => h) (Or.inl ⟨by rfl, ?_⟩) (by assumption) ?_
  rotate_left
  · intro W9 hSw
    have m1 := hSw.a
    have m2 := hSw.b
    have m3 := (row_du hSw.rd HP.out).1
    have m4 := (row_du hSw.rd HP.out).2.1
    try simp only [List.getElem_toArray, List.getElem_cons_zero, List.getElem_cons_succ]
    first | (go_simp; done) | (go_simp; with_reducible rfl)
  try simp only [Act.put, List.getElem_toArray, List.getElem_cons_zero, List.getElem_cons_succ, List.setIfInBounds_toArray, List.set_cons_zero, List.set_cons_succ]
  refine wpAnyH_take (i := 10) (v := ?_) rfl (by kernel_rfl) (by kernel_rfl) (by kernel_rfl) (fun _ _ _ h => h) (Or.inl ⟨by rfl, ?_⟩) (by assumption) ?_
  rotate_left
  · intro W9 hSw
    have m1 := hSw.a
    have m2 := hSw.b
    have m3 := (row_du hSw.rd HP.out).1
    have m4 := (row_du hSw.rd HP.out).2.1
    try simp only [List.getElem_toArray, List.getElem_cons_zero, List.getElem_cons_succ]
    first | (go_simp; done) | (go_simp; with_reducible rfl)
  try simp only [Act.put, List.getElem_toArray, List.getElem_cons_zero, List.getElem_cons_succ, List.setIfInBounds_toArray, List.set_cons_zero, List.set_cons_succ]
  refine wpAnyH_take (i := 11) (v := ?_) rfl (by kernel_rfl) (by kernel_rfl) (by kernel_rfl) (fun _ _ _ h => h) (Or.inl ⟨by rfl, ?_⟩) (by assumption) ?_
  rotate_left
  · intro W9 hSw
    have m1 := hSw.a
    have m2 := hSw.b
    have m3 := (row_du hSw.rd HP.out).1
    have m4 := (row_du hSw.rd HP.out).2.1
    try simp only [List.getElem_toArray, List.getElem_cons_zero, List.getElem_cons_succ]
    first | (go_simp; done) | (go_simp; with_reducible rfl)
  try simp only [Act.put, List.getElem_toArray, List.getElem_cons_zero, List.getElem_cons_succ, List.setIfInBounds_toArray, List.set_cons_zero, List.set_cons_succ]
  refine wpAnyH_ready (rs := [12]) (by kernel_rfl) (by simp) ?_
  refine AllReadyH.cons rfl (fun K hK => ?_) AllReadyH.nil
  simp only [List.getElem_toArray, List.getElem_cons_zero, List.getElem_cons_succ]
  go_simp
  refine Calls.mono (HSH.out wd hHeld) ?_
  intro e w9 hpost
  have hfin : ∃ v, e = .returned v ∧ Below wd.heap.size wd w9 ∧ ((∃ p g c, v = .slice (some ⟨g, 0, none⟩) p.length c ∧ Pth n (stp D lk k) b p a ∧ PathO w9 w.heap.size g c p ∧ Below w.heap.size w w9) ∨ (v = .slice none 0 0 ∧ Wall n (stp D lk k) b a (Rch n (stp D lk k) b a) ∧ Below w.heap.size w w9)) := by
    rcases hpost with ⟨p, g, c, rfl, h1, h2, h3⟩ | ⟨rfl, h1, h3⟩
    · exact ⟨_, rfl, h3, .inl ⟨p, g, c, rfl, h1, h2.less HBD.out.size, below_then HBD.out HBD.out.size h3⟩⟩
    · exact ⟨_, rfl, h3, .inr ⟨rfl, h1, below_then HBD.out HBD.out.size h3⟩⟩
  clear hpost
  obtain ⟨v, rfl, hb9, hend⟩ := hfin
  have HEND := Lib.hid hend
  clear hend
  refine hK.out _ _ (hHeld.below hb9) (fun hHeld2 => ?_)
  clear hK K hHeld hb9 HSD HBD
  have hHeld := hHeld2
  clear hHeld2
  try simp only [Act.put, List.setIfInBounds_toArray, List.set_cons_zero, List.set_cons_succ]
  refine wpAnyH_take (i := 13) (v := ?_) rfl (by kernel_rfl) (by kernel_rfl) (by kernel_rfl) (fun _ _ _ h => h) (Or.inl ⟨by rfl, ?_⟩) (by assumption) ?_
  rotate_left
  · intro W9 hSw
    have m1 := hSw.a
    have m2 := hSw.b
    have m3 := (row_du hSw.rd HP.out).1
    have m4 := (row_du hSw.rd HP.out).2.1
    try simp only [List.getElem_toArray, List.getElem_cons_zero, List.getElem_cons_succ]
    first | (go_simp; done) | (go_simp; with_reducible rfl)
  try simp only [Act.put, List.getElem_toArray, List.getElem_cons_zero, List.getElem_cons_succ, List.setIfInBounds_toArray, List.set_cons_zero, List.set_cons_succ]
  refine wpAnyH_done (by kernel_rfl) ?_ _
  clear hHeld
  go_wp2
  go_ret
  rcases HEND.out with ⟨p, g, c, rfl, h1, h2, h3⟩ | ⟨rfl, h1, h3⟩
  · exact .inl ⟨p, g, c, rfl, h1, h2, h3⟩
  · exact .inr ⟨rfl, h1, h3⟩
end Go.Proofs.Ytlbnebmdolnagaa
