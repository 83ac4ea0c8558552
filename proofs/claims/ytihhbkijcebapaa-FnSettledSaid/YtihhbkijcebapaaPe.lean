/- All paths of a member, walked. -/
import Derived.Test.YtihhbkijcebapaaPd
import Derived.Test.YtihhbkijcebapaaZc
namespace Go.Proofs.Ytihhbkijcebapaa
open Go.RowKit Go.Lib

theorem flat_le {F : Nat → List (List Nat)} {M : Nat} : ∀ (l : List Nat), (∀ t, (F t).length ≤ M) → (l.flatMap F).length ≤ M * l.length
  | [], _ => by simp
  | a :: l, h => by
    have h1 := h a
    have h2 := flat_le l h
    rw [List.flatMap_cons, List.length_append, List.length_cons, Nat.mul_succ]
    omega
/-- How one step of a member is gone on from. -/
def goOn (g : Gr) (f : Nat) (P : List Nat) (t : Nat) : List (List Nat) := if P.contains t then [] else exts g f P t
theorem exts_len {g : Gr} (hg : g.Ok) : ∀ (f : Nat) (B : List Nat) (x : Nat), (exts g f B x).length ≤ 4 ^ f
  | 0, _, _ => by unfold exts; simp
  | f + 1, B, x => by
    unfold exts
    split
    · have : 0 < 4 ^ (f + 1) := Nat.pow_pos (by omega)
      simp only [List.length_cons, List.length_nil]
      omega
    · have h1 := flat_le (F := goOn g f (B ++ [x])) (M := 4 ^ f) (g.tr x) (fun t => by
        unfold goOn
        split
        · simp
        · exact exts_len hg f _ t)
      have h2 := hg.four x
      have h3 : 4 ^ f * (g.tr x).length ≤ 4 ^ f * 4 := Nat.mul_le_mul_left _ h2
      unfold goOn at h1
      rw [Nat.pow_succ]
      omega
theorem goOn_len {g : Gr} (hg : g.Ok) (f : Nat) (P : List Nat) (l : List Nat) : (l.flatMap (goOn g f P)).length ≤ 4 ^ f * l.length := flat_le l (fun t => by
  unfold goOn
  split
  · simp
  · exact exts_len hg f _ t)
def ExtPost (Q : List (List Nat)) (base g : Nat) (L : List VRow) (w : World) (e : Ending) (w' : World) : Prop :=
  ∃ g' cap' L', e = .returned (.slice (some ⟨g', 0, none⟩) L'.length cap') ∧ L'.map (·.a) = L.map (·.a) ++ Q.map barL ∧ TreeW kRow 30 base w' g' cap' L' ∧ (g' = g ∨ w.heap.size ≤ g') ∧ Touch (fun c => c = g ∨ w.heap.size ≤ c) w w'
set_option maxRecDepth 100000 in
set_option maxHeartbeats 8000000 in
theorem extend_any (V : List Voi) (hok : VoisOk V) (v : Value) : ∀ (f : Nat) (B : List Nat) (x base g cap gb cb : Nat) (L : List VRow) (w : World), V.length ≤ f + B.length → (B ++ [x]).Nodup → (∀ y ∈ B ++ [x], y < V.length) → L.length + 4 ^ f ≤ 1048576 → base ≤ w.heap.size →
    Vois w base v V → PathO w base gb cb (B ++ [x]) → gb ≠ g → TreeW kRow 30 base w g cap L →
    Calls Try.prog 17 #[v, .slice (some ⟨gb, 0, none⟩) (B ++ [x]).length cb, .slice (some ⟨g, 0, none⟩) L.length cap] w (ExtPost (exts (grV V) f B x) base g L w)
  | 0, B, x, base, g, cap, gb, cb, L, w, hf, hd, hl, _, _, _, _, _, _ => by
    have := nodup_le V.length _ hd hl
    rw [List.length_append, List.length_singleton] at this
    omega
  | f + 1, B, x, base, g, cap, gb, cb, L, w, hf, hd, hl, hL, hbw, hV, hP, hgb, hT => by
    have IH := Lib.hid (extend_any V hok v f)
    obtain ⟨A, c0, rfl, hc0, hm0, hel⟩ := vois_at hV
    have hxl := hl x (by simp)
    obtain ⟨bl, ol, rfl, hbl, hcell⟩ := hel (by omega)
    have hvx : V[x]? = some V[x] := List.getElem?_eq_getElem hxl
    obtain ⟨B1, d1, k0, k1, km, ki⟩ := hcell _ _ hvx
    obtain ⟨q, hq⟩ : ∃ q, q = B ++ [x] := ⟨_, rfl⟩
    have hql : q.length = B.length + 1 := by rw [hq]; simp
    have hq12 : q.length ≤ 12 := by
      have := nodup_le V.length _ hd hl
      have := hok.n12
      rw [hq]
      omega
    rw [← hq] at hP hd hl ⊢
    have hlast : q[B.length]? = some x := by rw [hq, List.getElem?_append_right (Nat.le_refl _), Nat.sub_self]; rfl
    obtain ⟨_, _, e, hbp, p0⟩ := ints_get hP.ints (barL_get hlast)
    injection e with e
    injection e with e1 e2 e3
    subst e1
    subst e2
    rw [Nat.zero_add] at p0
    have htr : barL ((grV V).tr x) = V[x].tr := tr_bar hok hvx
    have hsp : (grV V).sp x = V[x].sp := (grV_at hvx).1
    have HV := Lib.hid hV
    have HP := Lib.hid hP
    have HT := Lib.hid hT
    have HD := Lib.hid hd
    have HL := Lib.hid hl
    have HOK := Lib.hid hok
    have HKI := Lib.hid ki
    have HTR := Lib.hid htr
    have hx0 : (0 : Int) ≤ (x : Int) := by omega
    have hxi : (x : Int) < (V.length : Int) := by omega
    have hqi : ((q.length : Nat) : Int) - 1 = ((B.length : Nat) : Int) := by omega
    have hbi : ((B.length : Nat) : Int) < ((q.length : Nat) : Int) := by omega
    have hbn : B.length ≤ 12 := by omega
    have hwb : IntKind.i64.wrap ((q.length : Int) - 1) = (B.length : Int) := by rw [IntKind.wrap_i64]; omega
    have hn12 := hok.n12
    obtain ⟨r0, hri, hr0, hr1, hr2⟩ := info_parts Try.infoRow
    obtain ⟨i0, hi, hz0, hz1, hz2⟩ := info_parts Try.infoI
    have HEX : Hid (exts (grV V) (f + 1) B x = if (grV V).sp x = true then [q] else ((grV V).tr x).flatMap (goOn (grV V) f q)) := Lib.hid (by rw [hq]; rfl)
    have HQ := Lib.hid hq
    have HQL := Lib.hid hql
    have hgw := hT.lt
    have hgbw := hP.lt
    unfold ExtPost
    clear hV hP hT hd hl hok hel hcell hvx ki hlast htr hq hql
    generalize exts (grV V) (f + 1) B x = X at *
    generalize hsp2 : (grV V).sp x = s at *
    generalize hT2 : (grV V).tr x = T at *
    generalize V[x] = a at *
    subst hsp
    generalize B.length = bn at *
    go_enter Try.func17, Try.ntmps17
    go_upto_region 2 with (fail)
    obtain ⟨w1, hw1⟩ : ∃ X, X = w.alloc (.cells #[.bool a.sp, .slice B1 a.tr.length d1] 52) := ⟨_, rfl⟩
    have b1 : Below w.heap.size w w1 := by rw [hw1]; exact (Below.refl _ _).alloc (Nat.le_refl _) _
    have rb : Row w1 w.heap.size [.bool a.sp, .slice B1 a.tr.length d1] := by rw [hw1]; exact Row.new w _ _
    have y0 := rb.cell 0 _ rfl
    have y1 := rb.cell 1 _ rfl
    rw [← hw1]
    clear hw1 rb p0 k0 k1
    have HB1 := Lib.hid b1
    have HP1 := Lib.hid (HP.out.below b1)
    have HT1 := Lib.hid (HT.out.below b1)
    have hw1s := b1.size
    clear b1
    have HCLN : Hid (∀ (W : World), PathO W base gb cb q → Calls Try.prog 28 #[.slice (some ⟨gb, 0, none⟩) q.length cb] W (ClonePost (barL q) W)) := Lib.hid (fun W h => by
      have h0 := h.ints
      rw [← barL_len q] at h0
      have := clone_some (barL q) ⟨gb, 0, none⟩ cb W h0 (by rw [barL_len]; omega)
      rw [barL_len] at this
      exact this)
    unfold ClonePost at HCLN
    cases hs : a.sp with
    | true =>
      have HX : Hid (X = [q]) := Lib.hid (by rw [HEX.out, hs]; rfl)
      rw [hs] at y0
      clear HEX hs
      go_wp2_with (fail)
      refine (HCLN.out w1 HP1.out).mono ?_
      rintro e w2 ⟨v2, rfl, o2, b2⟩
      obtain ⟨A2, c2, rfl, hc2, hm2⟩ := own_len o2
      have HOP : Hid (OwnL intCells (barL q) w1.heap.size w2 (.slice A2 (barL q).length c2)) := Lib.hid (OwnL.of_own (xs := barL q) intCells (size := 1) (fun _ => rfl) o2)
      rw [barL_len] at HOP
      rw [barL_len]
      have hba : Below w2.heap.size w2 (w2.alloc (.cells #[.slice A2 q.length c2] 30)) := (Below.refl _ _).alloc (Nat.le_refl _) _
      have HTA := Lib.hid ((HT1.out.below b2).below hba)
      have HROW := Lib.hid HTA.out.row
      have HOX := Lib.hid (HOP.out.on hba)
      have HBA := Lib.hid (HB1.out.trans ((b2.trans (hba.mono b2.size)).mono hw1s))
      have hbA := Nat.le_trans hbw HBA.out.size
      have hHLT := Lib.hid (fun z (hz : z ∈ L) c (hc : kRow.blk z c) => (kRow.lt (HT1.out.inn z hz) hc).2)
      clear o2 b2 hba y0 y1 HCLN
      go_wp2_with (at_builtin; refine wpList_append_own_at _ rfl _ _ 27 rfl base 30 r0 (.slice none 0 0) 1 24 Try.underlying27 hri hr0 hr1 hr2 rfl (by decide) _ _ _ rfl HROW.out ⟨w2.heap.size, 0, none⟩ 1 1 (rCells ⟨barL q, .slice A2 q.length c2⟩) rfl rfl (fun j u hj => new_at hj) (fun u hu => by simp [rCells] at hu; subst hu; rfl) ?c3 ?c4 hbA ?_)
      case c3 => unfold maxLen; have : 0 < 4 ^ (f + 1) := Nat.pow_pos (by omega); omega
      case c4 => have : 0 < 4 ^ (f + 1) := Nat.pow_pos (by omega); omega
      intro v' w9 hown' hgrow hiff hor
      obtain ⟨g', cap', rfl, hdc', hcm'⟩ := own_some hown' (by simpa using hiff)
      have HP9 := Lib.hid (TreeW.push (x := ⟨barL q, .slice A2 q.length c2⟩) HTA.out hgrow (by rcases hor with h | h <;> injection h with h; exact .inl h; exact .inr (by simpa using h)) (by exact hown') (kRow.less (x := ⟨barL q, .slice A2 q.length c2⟩) HOX.out (by omega)) (fun b hb => by
        have q1 : w1.heap.size ≤ b := (OwnL.sblk HOX.out hb).1
        exact ⟨by omega, fun z hz hzb => by have q2 := hHLT.out z hz b hzb; omega⟩))
      have HTW : Hid (Touch (fun c => c = g ∨ w.heap.size ≤ c) w w9) := Lib.hid ((Touch.of_below HBA.out).trans (Touch.of_grown hgrow (fun b hb => .inl (by injection hb with hb; exact hb.symm))))
      have HGG : Hid (g' = g ∨ w.heap.size ≤ g') := Lib.hid (by
        rcases hor with h | h
        · injection h with h; exact .inl h
        · injection h with h
          have h : g' = _ := h
          have := HBA.out.size
          simp at h this
          omega)
      clear hown' hgrow hor hiff
      go_wp2
      go_ret
      exact ⟨g', cap', L ++ [⟨barL q, .slice A2 q.length c2⟩], by rw [List.length_append, List.length_singleton]; rfl, by rw [HX.out, List.map_append]; rfl, HP9.out, HGG.out, HTW.out⟩
    | false =>
      have HX : Hid (X = T.flatMap (goOn (grV V) f q)) := Lib.hid (by rw [HEX.out, hs]; rfl)
      rw [hs] at y0
      have hTl : a.tr.length = T.length := by rw [← HTR.out, barL_len]
      have hT4 : T.length ≤ 4 := by rw [← hT2]; exact HOK.out.gr.four x
      have HTI : Hid (Ints w base (.slice B1 T.length d1) (barL T)) := Lib.hid (by rw [← hTl, HTR.out]; exact HKI.out)
      have HTL : Hid (∀ t ∈ T, t < V.length) := Lib.hid (fun t ht => HOK.out.gr.lt x hxl t (by rw [hT2]; exact ht))
      rw [hTl] at y1
      have HTW0 : Hid (Touch (fun c => c = g ∨ w.heap.size ≤ c) w w1) := Lib.hid (Touch.of_below HB1.out)
      rw [hTl]
      clear HEX hs HKI HTR hT2 hTl
      go_wp2
      go_loopw [2, 9, 29] (fun o _ i wr => ∃ (k g' cap' : Nat) (L' : List VRow), k ≤ T.length ∧ i = .int .i64 (k : Int) ∧ o = .slice (some ⟨g', 0, none⟩) L'.length cap' ∧ L'.map (·.a) = L.map (·.a) ++ ((T.take k).flatMap (goOn (grV V) f q)).map barL ∧ TreeW kRow 30 base wr g' cap' L' ∧ (g' = g ∨ w.heap.size ≤ g') ∧ Touch (fun c => c = g ∨ w.heap.size ≤ c) w wr) (fun _ _ i _ => T.length - (RowKit.intOf i).toNat)
      case atStart => exact ⟨0, g, cap, L, Nat.zero_le _, rfl, rfl, by simp, HT1.out, .inl rfl, HTW0.out⟩
      case round =>
        obtain ⟨k, g', cap', L', hk, rfl, rfl, hmap, hT', hg', ht'⟩ := hrel
        have HMAP := Lib.hid hmap
        have HTR' := Lib.hid hT'
        have HTO := Lib.hid ht'
        have hgw' := hT'.lt
        have HPW : Hid (PathO wr base gb cb q) := Lib.hid (own_touch HP.out.row ht' (fun b hb h => by
          injection hb with hb
          have hb : gb = b := hb
          rcases h with h | h <;> omega))
        have HBV : Hid (Below base w wr) := Lib.hid (ht'.below hbw (fun b h => by rcases h with h | h <;> omega))
        have hws := ht'.size
        by_cases hlt : k < T.length
        · have hget : T[k]? = some T[k] := List.getElem?_eq_getElem hlt
          obtain ⟨bt, ot, rfl, hbt, e0⟩ := ints_get (SlR.on HTI.out (Pl.stays _) HBV.out (Nat.le_refl _)) (barL_get hget)
          have htl := HTL.out _ (List.getElem_mem hlt)
          have HNX : Hid ((T.take (k + 1)).flatMap (goOn (grV V) f q) = (T.take k).flatMap (goOn (grV V) f q) ++ goOn (grV V) f q T[k]) := Lib.hid (by
            rw [List.take_succ_eq_append_getElem hlt, List.flatMap_append]
            simp)
          have hlen : L'.length + 4 ^ f ≤ 1048576 := by
            have h1 := congrArg List.length hmap
            rw [List.length_map, List.length_append, List.length_map, List.length_map] at h1
            have h2 := goOn_len HOK.out.gr f q (T.take k)
            rw [List.length_take, Nat.min_eq_left hk] at h2
            have h3 : 4 ^ f * (k + 1) ≤ 4 ^ f * 4 := Nat.mul_le_mul_left _ (by omega)
            rw [Nat.mul_succ] at h3
            rw [Nat.pow_succ] at hL
            omega
          have hlt2 : (k : Int) < (T.length : Int) := by omega
          clear hget hmap hT' ht' y0 y1
          generalize T[k] = t at *
          cases hc : q.contains t with
          | true =>
            have HG0 : Hid (goOn (grV V) f q t = []) := Lib.hid (by unfold goOn; rw [if_pos hc])
            have HCN := Lib.hid (contains2_val (barL q) (t : Int) wr _ true HPW.out.ints (by rw [bar_has, hc]))
            clear hc
            go_wp2_with (fail)
            refine HCN.out.mono ?_
            rintro e _ ⟨rfl, n, rfl⟩
            have b3 : Below wr.heap.size wr (wr.drewN n) := below_drewN (Below.refl _ _) n
            obtain ⟨w3, hw3⟩ : ∃ X, X = wr.drewN n := ⟨_, rfl⟩
            rw [← hw3] at b3 ⊢
            have HT3 := Lib.hid (HTR'.out.below b3)
            have HTO3 := Lib.hid (HTO.out.trans (Touch.of_below b3))
            clear hw3 b3
            go_wp2
            go_roundw
            case rel => exact ⟨k + 1, g', cap', L', by omega, by go_num, rfl, by rw [HMAP.out, HNX.out, HG0.out, List.append_nil], HT3.out, hg', HTO3.out⟩
            case measure => simp [RowKit.intOf]; omega
          | false =>
            have HG0 : Hid (goOn (grV V) f q t = exts (grV V) f q t) := Lib.hid (by unfold goOn; rw [if_neg (by rw [hc]; decide)])
            have hnq : t ∉ q := fun h => by rw [List.contains_iff_mem.2 h] at hc; cases hc
            have HNQ := Lib.hid hnq
            have HCN := Lib.hid (contains2_val (barL q) (t : Int) wr _ false HPW.out.ints (by rw [bar_has, hc]))
            clear hc hnq
            go_wp2_with (fail)
            refine HCN.out.mono ?_
            rintro e _ ⟨rfl, n, rfl⟩
            have b3 : Below wr.heap.size wr (wr.drewN n) := below_drewN (Below.refl _ _) n
            obtain ⟨w3, hw3⟩ : ∃ X, X = wr.drewN n := ⟨_, rfl⟩
            rw [← hw3] at b3 ⊢
            have HB3 := Lib.hid b3
            have h3s := b3.size
            have HCL3 := Lib.hid (HCLN.out w3 (HPW.out.below b3))
            clear hw3 b3 HCN e0
            go_wp2_with (fail)
            refine HCL3.out.mono ?_
            rintro e w4 ⟨v4, rfl, o4, b4⟩
            obtain ⟨A4, c4, rfl, hc4, hm4⟩ := own_len o4
            rw [barL_len] at o4
            rw [barL_len]
            have HO4 := Lib.hid o4
            have HB4 := Lib.hid b4
            have hb4s := b4.size
            have hba : Below w4.heap.size w4 (w4.alloc (.cells #[.int .i64 (t : Int)] 2)) := (Below.refl _ _).alloc (Nat.le_refl _) _
            have HBA := Lib.hid (b4.trans (hba.mono b4.size))
            clear o4 b4 hba
            go_wp2_with (at_builtin; refine wpList_append_own_at _ rfl _ _ 30 rfl w3.heap.size 2 i0 (.int .i64 0) 1 8 Try.underlying30 hi hz0 hz1 hz2 rfl (by decide) _ _ _ rfl (HO4.out.alloc _) ⟨w4.heap.size, 0, none⟩ 1 1 (intCells (t : Int)) rfl rfl (fun j u hj => new_at hj) (fun u hu => int_one' _ hu) ?c3 ?c4 (base_le hb4s) ?_)
            case c3 => unfold maxLen; omega
            case c4 => omega
            intro v' w6 hown' hgrow hiff hat
            obtain ⟨g6, cap6, rfl, hdc6, hcm6⟩ := own_some hown' (by simpa using hiff)
            have HP6 : Hid (PathO w6 base g6 cap6 (q ++ [t])) := Lib.hid (by
              have : PathO w6 w3.heap.size g6 cap6 (q ++ [t]) := by
                unfold PathO
                rw [barL_snoc, flat_snoc, List.length_append]
                exact hown'
              exact this.less (by omega))
            have h6 : w3.heap.size ≤ g6 := (hown'.lt g6 rfl).1
            have HB6 := Lib.hid (HB3.out.trans ((HBA.out.grown hgrow (base_le hb4s) (fun j hj => (HO4.out.lt j hj).1)).mono h3s))
            have h6s := HB6.out.size
            have HIH := Lib.hid (IH.out q t base g' cap' g6 cap6 L' w6 (by have := HQL.out; omega) (nodup_snoc HD.out HNQ.out) (fun y hy => by
              rcases mem_snoc.1 hy with hy | rfl
              · exact HL.out y hy
              · exact htl) hlen (by omega) (HV.out.on (HBV.out.trans (HB6.out.mono (by omega))) (Nat.le_refl _)) HP6.out (by omega) (HTR'.out.below HB6.out))
            rw [List.length_append, List.length_singleton] at HIH
            unfold ExtPost at HIH
            clear hown' hgrow hiff hat
            go_wp2_with (fail)
            refine HIH.out.mono ?_
            rintro e w8 ⟨g8, cap8, L8, rfl, hm8, ht8, hg8, hto8⟩
            have HM8 : Hid (L8.map (·.a) = L.map (·.a) ++ ((T.take (k + 1)).flatMap (goOn (grV V) f q)).map barL) := Lib.hid (by rw [hm8, HMAP.out, HNX.out, HG0.out, List.map_append, List.append_assoc])
            have HT8 := Lib.hid ht8
            have HTO8 : Hid (Touch (fun c => c = g ∨ w.heap.size ≤ c) w w8) := Lib.hid ((HTO.out.trans (Touch.of_below HB6.out)).trans (hto8.mono (fun b hb h => by
              rcases h with h | h
              · rcases hg' with e | e
                · exact .inl (by omega)
                · exact .inr (by omega)
              · exact .inr (by omega))))
            have hg8' : g8 = g ∨ w.heap.size ≤ g8 := by
              rcases hg8 with e | e
              · rcases hg' with e2 | e2
                · exact .inl (by omega)
                · exact .inr (by omega)
              · exact .inr (by omega)
            clear hm8 ht8 hto8 hg8 HIH
            go_wp2
            go_roundw
            case rel => exact ⟨k + 1, g8, cap8, L8, by omega, by go_num, rfl, HM8.out, HT8.out, hg8', HTO8.out⟩
            case measure => simp [RowKit.intOf]; omega
        · have hge : ¬ (k : Int) < (T.length : Int) := by omega
          have HFM : Hid (L'.map (·.a) = L.map (·.a) ++ X.map barL) := Lib.hid (by rw [HMAP.out, HX.out, List.take_of_length_le (by omega)])
          clear hmap hT' ht' y0 y1
          go_wp2
          go_ret
          exact ⟨g', cap', L', rfl, HFM.out, HTR'.out, hg', HTO.out⟩
end Go.Proofs.Ytihhbkijcebapaa
