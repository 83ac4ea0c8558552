/- A frame drawn, walked. -/
import Derived.Test.YteljpodjjeoddaaKC
import Derived.Test.YteljpodjjeoddaaQC
import Derived.Test.YteljpodjjeoddaaQI
namespace Go.Proofs.Yteljpodjjeoddaa
open Go.RowKit Go.Lib

theorem only_touchC {b : Nat} {w w' : World} (h : Only b w w') : Touch (fun c => c = b) w w' := ⟨h.os, h.tape, h.output, h.size, fun i hi hn => h.block i hi (fun e => hn (by injection e))⟩
theorem only_transC {b gd : Nat} {w w1 w2 : World} (h : Only b w w1) (ht : Touch (fun c => c = gd) w1 w2) (hg : w.heap.size ≤ gd) : Only b w w2 :=
  ⟨ht.os.trans h.os, ht.tape.trans h.tape, ht.output.trans h.output, Nat.le_trans h.size ht.size, fun i hi hn => (ht.block i (Nat.lt_of_lt_of_le hi h.size) (by omega)).trans (h.block i hi hn)⟩
theorem own_touchC {w w' : World} {base n size : Nat} {e : TypeId} {v : Value} {xs : List Value} {F : Nat → Prop} (h : w.ownsRow base e size v n xs) (ht : Touch F w w') (hF : ∀ b, v.ownBlock = some b → ¬ F b) : w'.ownsRow base e size v n xs := by
  obtain ⟨hl, h | ⟨g, cap, cur, rfl, hg, hh, hr⟩⟩ := h
  · exact ⟨hl, .inl h⟩
  · have hlt : g < w.heap.size := by
      rcases Nat.lt_or_ge g w.heap.size with hlt | hge
      · exact hlt
      · rw [Array.getElem?_eq_none hge] at hh; cases hh
    exact ⟨hl, .inr ⟨g, cap, cur, rfl, hg, (ht.block g hlt (hF g rfl)).trans hh, hr⟩⟩
theorem TreeW.onlyC {β : Type} {K : Kind β} {te : TypeId} {base b : Nat} {w w' : World} {g cap : Nat} {L : List β} (h : TreeW K te base w g cap L) (hb : b < base) (ho : Only b w w') : TreeW K te base w' g cap L :=
  ⟨own_only h.row hb ho, fun x hx => K.touch (h.inn x hx) (only_touchC ho) (fun c hc e => by have := (K.lt (h.inn x hx) hc).1; omega), h.out, h.two⟩
theorem Row.sameC {W W' : World} {g : Nat} {L : List Value} (h : Row W g L) (e : W'.heap[g]? = W.heap[g]?) : Row W' g L :=
  ⟨fun j u hj => (World.cell?_of_block (a := ⟨g, j, none⟩) e).trans (h.cell j u hj), fun j hj => (World.frozen?_of_block (a := ⟨g, j, none⟩) e).trans (h.free j hj)⟩
theorem Try.infoFr : (Try.prog.info? 28).map (fun i => (i.zero, i.size, i.bytes)) = some (some (.slice none 0 0), 1, 24) := by kernel_rfl
def frL (Q : List (Nat × Nat)) : List (List Int) := Q.map (fun p => [(p.1 : Int), (p.2 : Int)])
/-- A frame that is being drawn: all attacks below (a, j) are. -/
structure DrSt (B b k n bx bt : Nat) (w wr : World) (a j g cap : Nat) (L : List VRow) (Q : List (Nat × Nat)) : Prop where
  box : Row wr bx [.int .i64 (n : Int), .slice (some ⟨g, 0, none⟩) L.length cap]
  tree : TreeW kRow 28 (w.heap.size + 1) wr g cap L
  map : L.map (·.a) = frL Q
  lt : ∀ p ∈ Q, p.1 < n ∧ p.2 < n
  up : Q.Pairwise (fun p q => p.1 < q.1 ∨ p.1 = q.1 ∧ p.2 < q.2)
  low : ∀ p ∈ Q, p.1 < a ∨ p.1 = a ∧ p.2 < j
  len : Q.length ≤ 10 * a + j
  src : Src B wr b (k + 20 + 20 * a + 2 * j)
  only : Only b w wr
  res : Row wr bt [.int .i64 0, .slice none 0 0]
  bxl : bx < wr.heap.size
  btl : bt < wr.heap.size
  gx : g ≠ bx
  blk : ∀ x ∈ L, ∀ c, kRow.blk x c → c ≠ bx
theorem DrSt.many {B b k n bx bt : Nat} {w wr : World} {a j g cap : Nat} {L : List VRow} {Q : List (Nat × Nat)} (h : DrSt B b k n bx bt w wr a j g cap L Q) : L.length = Q.length := by
  have := congrArg List.length h.map
  unfold frL at this
  rwa [List.length_map, List.length_map] at this
theorem DrSt.step {B b k n bx bt : Nat} {w wr wr' : World} {a j g cap : Nat} {L : List VRow} {Q : List (Nat × Nat)} (h : DrSt B b k n bx bt w wr a j g cap L Q) (hb : b < w.heap.size) (hbx : w.heap.size ≤ bx) (hbt : w.heap.size ≤ bt) (ho : Only b wr wr') (hs : Src B wr' b (k + 20 + 20 * a + 2 * (j + 1))) : DrSt B b k n bx bt w wr' a (j + 1) g cap L Q :=
  ⟨h.box.only h.bxl (by omega) ho, h.tree.onlyC (by omega) ho, h.map, h.lt, h.up, fun p hp => (h.low p hp).imp id (fun ⟨x, y⟩ => ⟨x, by omega⟩), by have := h.len; omega, hs, only_trans h.only ho, h.res.only h.btl (by omega) ho, Nat.lt_of_lt_of_le h.bxl ho.size, Nat.lt_of_lt_of_le h.btl ho.size, h.gx, h.blk⟩
theorem DrSt.next {B b k n bx bt : Nat} {w wr : World} {a g cap : Nat} {L : List VRow} {Q : List (Nat × Nat)} (h : DrSt B b k n bx bt w wr a n g cap L Q) (hn : n ≤ 10) : DrSt B b k n bx bt w wr (a + 1) 0 g cap L Q :=
  ⟨h.box, h.tree, h.map, h.lt, h.up, fun p hp => .inl (by rcases h.low p hp with h | h <;> omega), by have := h.len; omega, h.src.more (by omega), h.only, h.res, h.bxl, h.btl, h.gx, h.blk⟩
theorem own_pair (x y : Int) (w : World) : OwnL intCells [x, y] w.heap.size (w.alloc (.cells #[.int .i64 x, .int .i64 y] 2)) (.slice (some ⟨w.heap.size, 0, none⟩) 2 2) :=
  ⟨some ⟨w.heap.size, 0, none⟩, 2, rfl, Nat.le_refl _, by unfold maxLen; decide, fun _ => ⟨w.heap.size, rfl, Nat.le_refl _, by simp, Row.new w _ _⟩⟩
def FrDraw (B b k : Nat) (w : World) (e : Ending) (w' : World) : Prop :=
  ∃ (F : Fr) (g c : Nat), e = .returned (frV F (some ⟨g, 0, none⟩) c) ∧ F.Ok ∧ ∃ L : List VRow, TreeW kRow 28 (w.heap.size + 1) w' g c L ∧ L.map (·.a) = frRows F ∧ L.length = F.R.length ∧ Src B w' b k ∧ Only b w w'
theorem fr_tree {base : Nat} {w : World} {g c : Nat} {L : List VRow} {F : Fr} (h : TreeW kRow 28 base w g c L) (hm : L.map (·.a) = frRows F) (hl : L.length = F.R.length) : FrR w w.heap.size F (some ⟨g, 0, none⟩) c := by
  have h1 := h.tree.rows
  rw [hm] at h1
  unfold FrR
  rw [← hl]
  exact h1
set_option maxRecDepth 100000 in
set_option maxHeartbeats 8000000 in
theorem drawF_any (B b k : Nat) (w : World) (h : Src B w b k) (hk : k ≤ 30000) : Calls Try.prog 16 #[.pointer (some ⟨b, 0, none⟩)] w (FrDraw B b (k + 300) w) := by
  have HBw := Lib.hid h.lt.1
  have hbw := h.lt.1
  have hBb := h.lt.2
  have HS := Lib.hid h
  unfold FrDraw
  obtain ⟨r0, hri, hr0, hr1, hr2⟩ := info_parts Try.infoFr
  clear h
  go_enter Try.func16, Try.ntmps16
  go_wp2_with (fail)
  refine (pick_pos B b _ 8 _ (HS.out.alloc _) (by omega) (by omega) (by omega)).mono ?_
  rintro e w2 ⟨n0, hn0, rfl, hs2, ho2⟩
  have HS2 := Lib.hid hs2
  have HO2 := Lib.hid (only_trans (only_alloc (only_refl b w) _) ho2)
  go_wp2_with (fail)
  obtain ⟨w3, hw3⟩ : ∃ X, X = (w2.alloc (.cells #[] 28)).alloc (.cells #[.int .i64 (n0 : Int), .slice (some ⟨w2.heap.size, 0, none⟩) 0 0] 26) := ⟨_, rfl⟩
  have hs2z := ho2.size
  have hw1z : (w.alloc (.cells #[.int .i64 0, .slice none 0 0] 26)).heap.size = w.heap.size + 1 := by simp
  have hr3 : Row w3 (w2.heap.size + 1) [.int .i64 (n0 : Int), .slice (some ⟨w2.heap.size, 0, none⟩) 0 0] := by
    rw [hw3]
    have := Row.new (w2.alloc (.cells #[] 28)) #[.int .i64 (n0 : Int), .slice (some ⟨w2.heap.size, 0, none⟩) 0 0] 26
    rw [show (w2.alloc (.cells #[] 28)).heap.size = w2.heap.size + 1 by simp] at this
    exact this
  have hs3z : w3.heap.size = w2.heap.size + 2 := by rw [hw3]; simp
  have b3 : Below w2.heap.size w2 w3 := by rw [hw3]; exact ((Below.refl _ _).alloc (Nat.le_refl _) _).alloc (by simp) _
  have hown3 : w3.ownsRow (w.heap.size + 1) 28 1 (.slice (some ⟨w2.heap.size, 0, none⟩) 0 0) 0 [] := by
    rw [hw3]
    exact (by simpa using World.ownsRow_made (base := w.heap.size + 1) w2 #[] 0 (by omega) (Nat.zero_le _) rfl : (w2.alloc (.cells #[] 28)).ownsRow (w.heap.size + 1) 28 1 (.slice (some ⟨w2.heap.size, 0, none⟩) 0 0) 0 []).alloc _
  have hbt : Row w3 w.heap.size [.int .i64 0, .slice none 0 0] := ((Row.new w #[.int .i64 0, .slice none 0 0] 26).only (by omega) (by omega) ho2).below b3 (by omega)
  rw [← hw3]
  clear hw3
  have HR3 := Lib.hid hr3
  have HT3 := Lib.hid (TreeW.start (base := w.heap.size + 1) kRow 28 hown3)
  have HBT3 := Lib.hid hbt
  have HS3 := Lib.hid (HS2.out.below b3 HS2.out.lt.1)
  have HO3 := Lib.hid (only_below' HO2.out b3 (by omega))
  clear hr3 hown3 b3 hbt hs2 ho2 HS2 HO2
  refine (one_any B b _ 8 w3 HS3.out (by omega) (by omega) (by omega)).mono ?_
  rintro e w4 ⟨y, rfl, hs4, ho4⟩
  have hs4z := ho4.size
  have HR4 := Lib.hid (HR3.out.only (by omega) (by omega) ho4)
  have HT4 := Lib.hid (HT3.out.onlyC (by omega) ho4)
  have HBT4 := Lib.hid (HBT3.out.only (by omega) (by omega) ho4)
  have HS4 := Lib.hid hs4
  have HO4 := Lib.hid (only_trans HO3.out ho4)
  have hn08 : n0 < 8 := by omega
  obtain ⟨bx, hbx⟩ : ∃ bx, bx = w2.heap.size + 1 := ⟨_, rfl⟩
  obtain ⟨g0, hg0⟩ : ∃ g0, g0 = w2.heap.size := ⟨_, rfl⟩
  rw [← hbx, ← hg0] at HR4
  rw [← hg0] at HT4
  rw [← hbx, ← hg0]
  have hbx1 : w.heap.size + 2 ≤ bx := by omega
  have hbx2 : bx < w4.heap.size := by omega
  have hgx0 : g0 ≠ bx := by omega
  have hg01 : w.heap.size + 1 ≤ g0 := by omega
  clear hs4 ho4 HR3 HT3 HBT3 HS3 HO3 hbx hg0
  cases y with
  | true =>
    have q0 := HR4.out.cell 0 _ rfl
    have f0 := HR4.out.free 0 (by simp)
    have HRN := Lib.hid (HR4.out.set 0 (.int .i64 10) (by simp))
    have ht : Touch (fun c => c = bx) w4 (w4.setCell ⟨bx, 0, none⟩ (.int .i64 10)) := Touch.setCell (F := fun c => c = bx) (Touch.refl _ _) rfl _
    have HT5 : Hid (TreeW kRow 28 (w.heap.size + 1) (w4.setCell ⟨bx, 0, none⟩ (.int .i64 10)) g0 0 []) := Lib.hid ⟨own_touchC HT4.out.row ht (fun b hb e => by injection hb with hb; have hb : g0 = b := hb; omega), (fun x hx => by cases hx), (fun x hx => by cases hx), List.Pairwise.nil⟩
    have HBT5 := Lib.hid (HBT4.out.far (p := ⟨bx, 0, none⟩) (.int .i64 10) (by show bx ≠ _; omega))
    have HS5 := Lib.hid (HS4.out.keep (w' := w4.setCell ⟨bx, 0, none⟩ (.int .i64 10)) (ht.block b HS4.out.lt.1 (by omega)) (fun i hi => ht.block i (by have := HS4.out.lt; omega) (by have := HS4.out.lt; omega)))
    have HO5 := Lib.hid (only_transC HO4.out ht (by omega))
    have hz5 : (w4.setCell ⟨bx, 0, none⟩ (.int .i64 10)).heap.size = w4.heap.size := by simp
    clear ht HR4 HT4 HBT4 HS4 HO4
    go_upto_region 4 with (fail)
    obtain ⟨n, hn⟩ : ∃ n : Nat, n = 10 := ⟨10, rfl⟩
    have HR5 : Hid (Row (w4.setCell ⟨bx, 0, none⟩ (.int .i64 10)) bx [.int .i64 (n : Int), .slice (some ⟨g0, 0, none⟩) 0 0]) := Lib.hid (by rw [hn]; exact HRN.out)
    have hn10 : n ≤ 10 := by omega
    clear HRN hn q0 f0
    generalize w4.setCell ⟨bx, 0, none⟩ (.int .i64 10) = W5 at *
    have hbx5 : bx < W5.heap.size := by omega
    clear hbx2 hs4z
    go_wp2_with (fail)
    refine (pick_pos B b _ 6 W5 HS5.out (by omega) (by omega) (by omega)).mono ?_
    rintro e w6 ⟨x6, hx6, rfl, hs6, ho6⟩
    have hs6z := ho6.size
    have HD0 : Hid (DrSt B b k n bx w.heap.size w w6 0 0 g0 0 [] []) := Lib.hid ⟨HR5.out.only (by omega) (by omega) ho6, HT5.out.onlyC (by omega) ho6, rfl, (fun p h => by cases h), List.Pairwise.nil, (fun p h => by cases h), Nat.zero_le _, hs6.more (by omega), only_trans HO5.out ho6, HBT5.out.only (by omega) (by omega) ho6, by omega, by omega, hgx0, (fun x h => by cases h)⟩
    clear hs6 ho6 HR5 HT5 HBT5 HS5 HO5 hs6z hgx0 hg01 hz5
    go_wp2
    go_loopw [5, 6, 7] (fun aa _ _ wr => ∃ (a g cap : Nat) (L : List VRow) (Q : List (Nat × Nat)), aa = .int .i64 (a : Int) ∧ a ≤ n ∧ DrSt B b k n bx w.heap.size w wr a 0 g cap L Q) (fun aa _ _ _ => n - (RowKit.intOf aa).toNat)
    case atStart => exact ⟨0, g0, 0, [], [], rfl, Nat.zero_le _, HD0.out⟩
    case round =>
      obtain ⟨a, g, cap, L, Q, rfl, ha, hd⟩ := hrel
      have HD := Lib.hid hd
      have q0 := hd.box.cell 0 _ rfl
      clear hd HD0
      by_cases hlt : a < n
      · have hai : (a : Int) < (n : Int) := by omega
        go_wp2
        go_loopw [6, 7] (fun ja _ wr => ∃ (j g cap : Nat) (L : List VRow) (Q : List (Nat × Nat)), ja = .int .i64 (j : Int) ∧ j ≤ n ∧ DrSt B b k n bx w.heap.size w wr a j g cap L Q) (fun ja _ _ => n - (RowKit.intOf ja).toNat)
        case atStart => exact ⟨0, g, cap, L, Q, rfl, Nat.zero_le _, HD.out⟩
        case round =>
          obtain ⟨j, g, cap, L, Q, rfl, hj, hd⟩ := hrel
          have HDJ := Lib.hid hd
          have q1 := hd.box.cell 0 _ rfl
          have hsrc := Lib.hid hd.src
          have hwr := hd.only.size
          have hbxl := hd.bxl
          clear hd HD q0
          by_cases hltj : j < n
          · have hji : (j : Int) < (n : Int) := by omega
            by_cases haj : (a : Int) = (j : Int)
            · have hajb : ((a : Int) == (j : Int)) = true := by simp [haj]
              clear haj
              go_wp2_with (fail)
              refine (one_any B b _ 9 wr hsrc.out (by omega) (by omega) (by omega)).mono ?_
              rintro e w7 ⟨y, rfl, hs7, ho7⟩
              have HD7 := Lib.hid (HDJ.out.step hbw (by omega) (by omega) ho7 (hs7.more (by omega)))
              have HLOW := Lib.hid HDJ.out.low
              have HLEN := Lib.hid HDJ.out.len
              clear hs7 ho7 HDJ hsrc q1 hajb
              cases y with
              | false =>
                go_wp2
                go_roundw
                case rel => exact ⟨j + 1, g, cap, L, Q, by go_num, by omega, HD7.out⟩
                case measure => simp [RowKit.intOf]; omega
              | true =>
                have q2 := HD7.out.box.cell 1 _ rfl
                have f2 := HD7.out.box.free 1 (by simp)
                have hL := HD7.out.many
                have hQ := HD7.out.len
                have hwz : w.heap.size ≤ w7.heap.size := HD7.out.only.size
                have bA : Below w7.heap.size w7 ((w7.alloc (.cells #[.int .i64 (a : Int), .int .i64 (j : Int)] 2)).alloc (.cells #[.slice (some ⟨w7.heap.size, 0, none⟩) 2 2] 28)) := ((Below.refl _ _).alloc (Nat.le_refl _) _).alloc (by simp) _
                have HTA := Lib.hid (HD7.out.tree.below bA)
                have HRL := Lib.hid HTA.out.row
                have HOX : Hid (OwnL intCells [(a : Int), (j : Int)] w7.heap.size ((w7.alloc (.cells #[.int .i64 (a : Int), .int .i64 (j : Int)] 2)).alloc (.cells #[.slice (some ⟨w7.heap.size, 0, none⟩) 2 2] 28)) (.slice (some ⟨w7.heap.size, 0, none⟩) 2 2)) := Lib.hid ((own_pair (a : Int) (j : Int) w7).on ((Below.refl _ _).alloc (Nat.le_refl _) _))
                have hHLT := Lib.hid (fun z (hz : z ∈ L) c (hc : kRow.blk z c) => (kRow.lt (HD7.out.tree.inn z hz) hc).2)
                have hgw := HD7.out.tree.lt
                have hszA : ((w7.alloc (.cells #[.int .i64 (a : Int), .int .i64 (j : Int)] 2)).alloc (.cells #[.slice (some ⟨w7.heap.size, 0, none⟩) 2 2] 28)).heap.size = w7.heap.size + 2 := by simp
                have hb1w : w.heap.size + 1 ≤ w7.heap.size := by omega
                have hbA : w.heap.size + 1 ≤ ((w7.alloc (.cells #[.int .i64 (a : Int), .int .i64 (j : Int)] 2)).alloc (.cells #[.slice (some ⟨w7.heap.size, 0, none⟩) 2 2] 28)).heap.size := by omega
                have hcapL : L.length ≤ 110 := by omega
                have hbx7 := HD7.out.bxl
                clear hL hQ
                go_wp2_with (at_builtin; refine wpList_append_own_at _ rfl _ _ 24 rfl (w.heap.size + 1) 28 r0 (.slice none 0 0) 1 24 Try.underlying24 hri hr0 hr1 hr2 rfl (by decide) _ _ _ rfl HRL.out ⟨w7.heap.size + 1, 0, none⟩ 1 1 (rCells ⟨[(a : Int), (j : Int)], .slice (some ⟨w7.heap.size, 0, none⟩) 2 2⟩) rfl rfl (fun j u hj => new_at2 hj) (fun u hu => by simp [rCells] at hu; subst hu; rfl) ?c3 ?c4 hbA ?_)
                case c3 => unfold maxLen; omega
                case c4 => omega
                intro v' w9 hown' hgrow hiff hor
                obtain ⟨g', cap', rfl, hdc', hcm'⟩ := own_some hown' (by simpa using hiff)
                have HP9 := Lib.hid (TreeW.push (x := ⟨[(a : Int), (j : Int)], .slice (some ⟨w7.heap.size, 0, none⟩) 2 2⟩) HTA.out hgrow (by rcases hor with h | h <;> injection h with h; exact .inl h; exact .inr (by simpa using h)) (by exact hown') (kRow.less (x := ⟨[(a : Int), (j : Int)], .slice (some ⟨w7.heap.size, 0, none⟩) 2 2⟩) HOX.out hb1w) (fun b hb => by
                  have q1 : w7.heap.size ≤ b := (OwnL.sblk HOX.out hb).1
                  exact ⟨by omega, fun z hz hzb => by have q2 := hHLT.out z hz b hzb; omega⟩))
                have hgx7 := HD7.out.gx
                have hgx' : g' ≠ bx := by
                  rcases hor with h | h
                  · injection h with h
                    have h : g' = g := h
                    omega
                  · injection h with h
                    have h : g' = _ := h
                    omega
                have hrow9 : Row w9 bx [.int .i64 (n : Int), .slice (some ⟨g, 0, none⟩) L.length cap] := (HD7.out.box.below bA hbx7).sameC (hgrow.block bx (by rw [hszA]; omega) (fun e => by injection e with e; exact hgx7 e.symm))
                have hres9 : Row w9 w.heap.size [.int .i64 0, .slice none 0 0] := (HD7.out.res.below bA HD7.out.btl).sameC (hgrow.block w.heap.size (by rw [hszA]; omega) (fun e => by injection e with e; have e : w.heap.size = g := e; omega))
                have hs9 := (HD7.out.src.below bA HD7.out.src.lt.1).grown hgrow (fun j hj => by have := (HRL.out.lt j hj).1; omega)
                have ho9 := only_grown (only_below' HD7.out.only bA hwz) hgrow (fun j hj => by have := (HRL.out.lt j hj).1; omega)
                have hz9 : w7.heap.size + 2 ≤ w9.heap.size := by have := hgrow.size; rw [hszA] at this; exact this
                have r1 := hrow9.cell 1 _ rfl
                have f1 := hrow9.free 1 (by simp)
                have ht9 : Touch (fun c => c = bx) w9 (w9.setCell ⟨bx, 1, none⟩ (.slice (some ⟨g', 0, none⟩) (L.length + 1) cap')) := Touch.setCell (F := fun c => c = bx) (Touch.refl _ _) rfl _
                have HXB : Hid (∀ c, kRow.blk ⟨[(a : Int), (j : Int)], .slice (some ⟨w7.heap.size, 0, none⟩) 2 2⟩ c → c ≠ bx) := Lib.hid (fun c hc => by have := (OwnL.sblk HOX.out hc).1; omega)
                have hblk : ∀ x ∈ L ++ [(⟨[(a : Int), (j : Int)], .slice (some ⟨w7.heap.size, 0, none⟩) 2 2⟩ : VRow)], ∀ c, kRow.blk x c → c ≠ bx := fun x hx c hc => by
                  rcases List.mem_append.1 hx with h | h
                  · exact HD7.out.blk x h c hc
                  · rw [List.mem_singleton.1 h] at hc
                    exact HXB.out c hc
                have HDN : Hid (DrSt B b k n bx w.heap.size w (w9.setCell ⟨bx, 1, none⟩ (.slice (some ⟨g', 0, none⟩) (L.length + 1) cap')) a (j + 1) g' cap' (L ++ [⟨[(a : Int), (j : Int)], .slice (some ⟨w7.heap.size, 0, none⟩) 2 2⟩]) (Q ++ [(a, j)])) := Lib.hid
                  { box := by rw [List.length_append]; exact hrow9.set 1 _ (by simp)
                    tree := ⟨own_touchC HP9.out.row ht9 (fun b hb e => by injection hb with hb; have hb : g' = b := hb; omega), fun x hx => kRow.touch (HP9.out.inn x hx) ht9 (fun c hc e => hblk x hx c hc e), HP9.out.out, HP9.out.two⟩
                    map := by rw [List.map_append, HD7.out.map]; unfold frL; rw [List.map_append]; rfl
                    lt := fun p hp => by
                      rcases List.mem_append.1 hp with h | h
                      · exact HD7.out.lt p h
                      · rw [List.mem_singleton.1 h]; exact ⟨hlt, hltj⟩
                    up := by
                      rw [List.pairwise_append]
                      refine ⟨HD7.out.up, List.pairwise_singleton _ _, fun p hp q hq => ?_⟩
                      rw [List.mem_singleton.1 hq]
                      exact HLOW.out p hp
                    low := fun p hp => by
                      rcases List.mem_append.1 hp with h | h
                      · exact HD7.out.low p h
                      · rw [List.mem_singleton.1 h]; exact .inr ⟨rfl, by show j < j + 1; omega⟩
                    len := by rw [List.length_append]; have := HLEN.out; show _ + 1 ≤ _; omega
                    src := hs9.keep (ht9.block b hs9.lt.1 (by omega)) (fun i hi => ht9.block i (by have := hs9.lt; omega) (by have := hs9.lt; omega))
                    only := only_transC ho9 ht9 (by omega)
                    res := hres9.far _ (by show bx ≠ _; omega)
                    bxl := by simp; omega
                    btl := by simp; omega
                    gx := hgx'
                    blk := hblk }
                clear hown' hgrow hiff hor hrow9 hres9 hs9 ho9 ht9 hblk q2 f2 bA
                go_wp2
                go_roundw
                case rel => exact ⟨j + 1, g', cap', _, _, by go_num, by omega, HDN.out⟩
                case measure => simp [RowKit.intOf]; omega
            · have hajb : ((a : Int) == (j : Int)) = false := by simpa using haj
              clear haj
              go_wp2_with (fail)
              refine (one_any B b _ _ wr hsrc.out (by omega) (by omega) (by omega)).mono ?_
              rintro e w7 ⟨y, rfl, hs7, ho7⟩
              have HD7 := Lib.hid (HDJ.out.step hbw (by omega) (by omega) ho7 (hs7.more (by omega)))
              have HLOW := Lib.hid HDJ.out.low
              have HLEN := Lib.hid HDJ.out.len
              clear hs7 ho7 HDJ hsrc q1 hajb
              cases y with
              | false =>
                go_wp2
                go_roundw
                case rel => exact ⟨j + 1, g, cap, L, Q, by go_num, by omega, HD7.out⟩
                case measure => simp [RowKit.intOf]; omega
              | true =>
                have q2 := HD7.out.box.cell 1 _ rfl
                have f2 := HD7.out.box.free 1 (by simp)
                have hL := HD7.out.many
                have hQ := HD7.out.len
                have hwz : w.heap.size ≤ w7.heap.size := HD7.out.only.size
                have bA : Below w7.heap.size w7 ((w7.alloc (.cells #[.int .i64 (a : Int), .int .i64 (j : Int)] 2)).alloc (.cells #[.slice (some ⟨w7.heap.size, 0, none⟩) 2 2] 28)) := ((Below.refl _ _).alloc (Nat.le_refl _) _).alloc (by simp) _
                have HTA := Lib.hid (HD7.out.tree.below bA)
                have HRL := Lib.hid HTA.out.row
                have HOX : Hid (OwnL intCells [(a : Int), (j : Int)] w7.heap.size ((w7.alloc (.cells #[.int .i64 (a : Int), .int .i64 (j : Int)] 2)).alloc (.cells #[.slice (some ⟨w7.heap.size, 0, none⟩) 2 2] 28)) (.slice (some ⟨w7.heap.size, 0, none⟩) 2 2)) := Lib.hid ((own_pair (a : Int) (j : Int) w7).on ((Below.refl _ _).alloc (Nat.le_refl _) _))
                have hHLT := Lib.hid (fun z (hz : z ∈ L) c (hc : kRow.blk z c) => (kRow.lt (HD7.out.tree.inn z hz) hc).2)
                have hgw := HD7.out.tree.lt
                have hszA : ((w7.alloc (.cells #[.int .i64 (a : Int), .int .i64 (j : Int)] 2)).alloc (.cells #[.slice (some ⟨w7.heap.size, 0, none⟩) 2 2] 28)).heap.size = w7.heap.size + 2 := by simp
                have hb1w : w.heap.size + 1 ≤ w7.heap.size := by omega
                have hbA : w.heap.size + 1 ≤ ((w7.alloc (.cells #[.int .i64 (a : Int), .int .i64 (j : Int)] 2)).alloc (.cells #[.slice (some ⟨w7.heap.size, 0, none⟩) 2 2] 28)).heap.size := by omega
                have hcapL : L.length ≤ 110 := by omega
                have hbx7 := HD7.out.bxl
                clear hL hQ
                go_wp2_with (at_builtin; refine wpList_append_own_at _ rfl _ _ 24 rfl (w.heap.size + 1) 28 r0 (.slice none 0 0) 1 24 Try.underlying24 hri hr0 hr1 hr2 rfl (by decide) _ _ _ rfl HRL.out ⟨w7.heap.size + 1, 0, none⟩ 1 1 (rCells ⟨[(a : Int), (j : Int)], .slice (some ⟨w7.heap.size, 0, none⟩) 2 2⟩) rfl rfl (fun j u hj => new_at2 hj) (fun u hu => by simp [rCells] at hu; subst hu; rfl) ?c3 ?c4 hbA ?_)
                case c3 => unfold maxLen; omega
                case c4 => omega
                intro v' w9 hown' hgrow hiff hor
                obtain ⟨g', cap', rfl, hdc', hcm'⟩ := own_some hown' (by simpa using hiff)
                have HP9 := Lib.hid (TreeW.push (x := ⟨[(a : Int), (j : Int)], .slice (some ⟨w7.heap.size, 0, none⟩) 2 2⟩) HTA.out hgrow (by rcases hor with h | h <;> injection h with h; exact .inl h; exact .inr (by simpa using h)) (by exact hown') (kRow.less (x := ⟨[(a : Int), (j : Int)], .slice (some ⟨w7.heap.size, 0, none⟩) 2 2⟩) HOX.out hb1w) (fun b hb => by
                  have q1 : w7.heap.size ≤ b := (OwnL.sblk HOX.out hb).1
                  exact ⟨by omega, fun z hz hzb => by have q2 := hHLT.out z hz b hzb; omega⟩))
                have hgx7 := HD7.out.gx
                have hgx' : g' ≠ bx := by
                  rcases hor with h | h
                  · injection h with h
                    have h : g' = g := h
                    omega
                  · injection h with h
                    have h : g' = _ := h
                    omega
                have hrow9 : Row w9 bx [.int .i64 (n : Int), .slice (some ⟨g, 0, none⟩) L.length cap] := (HD7.out.box.below bA hbx7).sameC (hgrow.block bx (by rw [hszA]; omega) (fun e => by injection e with e; exact hgx7 e.symm))
                have hres9 : Row w9 w.heap.size [.int .i64 0, .slice none 0 0] := (HD7.out.res.below bA HD7.out.btl).sameC (hgrow.block w.heap.size (by rw [hszA]; omega) (fun e => by injection e with e; have e : w.heap.size = g := e; omega))
                have hs9 := (HD7.out.src.below bA HD7.out.src.lt.1).grown hgrow (fun j hj => by have := (HRL.out.lt j hj).1; omega)
                have ho9 := only_grown (only_below' HD7.out.only bA hwz) hgrow (fun j hj => by have := (HRL.out.lt j hj).1; omega)
                have hz9 : w7.heap.size + 2 ≤ w9.heap.size := by have := hgrow.size; rw [hszA] at this; exact this
                have r1 := hrow9.cell 1 _ rfl
                have f1 := hrow9.free 1 (by simp)
                have ht9 : Touch (fun c => c = bx) w9 (w9.setCell ⟨bx, 1, none⟩ (.slice (some ⟨g', 0, none⟩) (L.length + 1) cap')) := Touch.setCell (F := fun c => c = bx) (Touch.refl _ _) rfl _
                have HXB : Hid (∀ c, kRow.blk ⟨[(a : Int), (j : Int)], .slice (some ⟨w7.heap.size, 0, none⟩) 2 2⟩ c → c ≠ bx) := Lib.hid (fun c hc => by have := (OwnL.sblk HOX.out hc).1; omega)
                have hblk : ∀ x ∈ L ++ [(⟨[(a : Int), (j : Int)], .slice (some ⟨w7.heap.size, 0, none⟩) 2 2⟩ : VRow)], ∀ c, kRow.blk x c → c ≠ bx := fun x hx c hc => by
                  rcases List.mem_append.1 hx with h | h
                  · exact HD7.out.blk x h c hc
                  · rw [List.mem_singleton.1 h] at hc
                    exact HXB.out c hc
                have HDN : Hid (DrSt B b k n bx w.heap.size w (w9.setCell ⟨bx, 1, none⟩ (.slice (some ⟨g', 0, none⟩) (L.length + 1) cap')) a (j + 1) g' cap' (L ++ [⟨[(a : Int), (j : Int)], .slice (some ⟨w7.heap.size, 0, none⟩) 2 2⟩]) (Q ++ [(a, j)])) := Lib.hid
                  { box := by rw [List.length_append]; exact hrow9.set 1 _ (by simp)
                    tree := ⟨own_touchC HP9.out.row ht9 (fun b hb e => by injection hb with hb; have hb : g' = b := hb; omega), fun x hx => kRow.touch (HP9.out.inn x hx) ht9 (fun c hc e => hblk x hx c hc e), HP9.out.out, HP9.out.two⟩
                    map := by rw [List.map_append, HD7.out.map]; unfold frL; rw [List.map_append]; rfl
                    lt := fun p hp => by
                      rcases List.mem_append.1 hp with h | h
                      · exact HD7.out.lt p h
                      · rw [List.mem_singleton.1 h]; exact ⟨hlt, hltj⟩
                    up := by
                      rw [List.pairwise_append]
                      refine ⟨HD7.out.up, List.pairwise_singleton _ _, fun p hp q hq => ?_⟩
                      rw [List.mem_singleton.1 hq]
                      exact HLOW.out p hp
                    low := fun p hp => by
                      rcases List.mem_append.1 hp with h | h
                      · exact HD7.out.low p h
                      · rw [List.mem_singleton.1 h]; exact .inr ⟨rfl, by show j < j + 1; omega⟩
                    len := by rw [List.length_append]; have := HLEN.out; show _ + 1 ≤ _; omega
                    src := hs9.keep (ht9.block b hs9.lt.1 (by omega)) (fun i hi => ht9.block i (by have := hs9.lt; omega) (by have := hs9.lt; omega))
                    only := only_transC ho9 ht9 (by omega)
                    res := hres9.far _ (by show bx ≠ _; omega)
                    bxl := by simp; omega
                    btl := by simp; omega
                    gx := hgx'
                    blk := hblk }
                clear hown' hgrow hiff hor hrow9 hres9 hs9 ho9 ht9 hblk q2 f2 bA
                go_wp2
                go_roundw
                case rel => exact ⟨j + 1, g', cap', _, _, by go_num, by omega, HDN.out⟩
                case measure => simp [RowKit.intOf]; omega
          · have hge : ¬ (j : Int) < (n : Int) := by omega
            obtain rfl : j = n := by omega
            have HN := Lib.hid (HDJ.out.next hn10)
            clear hltj
            go_wp2
            go_roundw
            case rel => exact ⟨a + 1, g, cap, L, Q, by go_num, by omega, HN.out⟩
            case measure => simp [RowKit.intOf]; omega
      · have hge : ¬ (a : Int) < (n : Int) := by omega
        have hd := HD.out
        have q1 := hd.box.cell 1 _ rfl
        have c0 := hd.res.cell 0 _ rfl
        have c1 := hd.res.cell 1 _ rfl
        have f0 := hd.res.free 0 (by simp)
        have f1 := hd.res.free 1 (by simp)
        have HL := Lib.hid hd.many
        have HFO : Hid (Fr.Ok ⟨n, Q⟩) := Lib.hid ⟨hn10, by show Q.length ≤ 100; have := hd.len; omega, hd.lt, hd.up⟩
        have ht : Touch (fun c => c = w.heap.size) wr ((wr.setCell ⟨w.heap.size, 0, none⟩ (.int .i64 (n : Int))).setCell ⟨w.heap.size, 1, none⟩ (.slice (some ⟨g, 0, none⟩) L.length cap)) := Touch.setCell (F := fun c => c = w.heap.size) (Touch.setCell (F := fun c => c = w.heap.size) (Touch.refl _ _) rfl _) rfl _
        have hgw := hd.tree.lt
        have HTE : Hid (TreeW kRow 28 (w.heap.size + 1) ((wr.setCell ⟨w.heap.size, 0, none⟩ (.int .i64 (n : Int))).setCell ⟨w.heap.size, 1, none⟩ (.slice (some ⟨g, 0, none⟩) L.length cap)) g cap L) := Lib.hid ⟨own_touchC hd.tree.row ht (fun b hb e => by injection hb with hb; have hb : g = b := hb; omega), fun x hx => kRow.touch (hd.tree.inn x hx) ht (fun c hc e => by have := (kRow.lt (hd.tree.inn x hx) hc).1; omega), hd.tree.out, hd.tree.two⟩
        have HSE := Lib.hid (hd.src.keep (w' := (wr.setCell ⟨w.heap.size, 0, none⟩ (.int .i64 (n : Int))).setCell ⟨w.heap.size, 1, none⟩ (.slice (some ⟨g, 0, none⟩) L.length cap)) (ht.block b hd.src.lt.1 (by omega)) (fun i hi => ht.block i (by have := hd.src.lt; omega) (by have := hd.src.lt; omega)))
        have HOE := Lib.hid (only_transC hd.only ht (Nat.le_refl _))
        have HMP := Lib.hid hd.map
        have ha10 : a ≤ 10 := by omega
        have HRF := Lib.hid ((hd.res.set 0 (.int .i64 (n : Int)) (by simp)).set 1 (.slice (some ⟨g, 0, none⟩) L.length cap) (by simp))
        clear hd ht HD
        go_wp2
        obtain ⟨W9, hW9⟩ : ∃ X, X = (wr.setCell ⟨w.heap.size, 0, none⟩ (.int .i64 (n : Int))).setCell ⟨w.heap.size, 1, none⟩ (.slice (some ⟨g, 0, none⟩) L.length cap) := ⟨_, rfl⟩
        rw [← hW9] at HTE HSE HOE HRF ⊢
        have k0 := HRF.out.cell 0 _ rfl
        have k1 := HRF.out.cell 1 _ rfl
        clear hW9
        refine bodyPost_ret (v := .agg #[.int .i64 (n : Int), .slice (some ⟨g, 0, none⟩) L.length cap]) (by simp [results, Try.results16, go_sem, k0, k1]) rfl ?_
        exact ⟨⟨n, Q⟩, g, cap, by unfold frV; rw [show (Fr.mk n Q).R.length = L.length from HL.out.symm], HFO.out, L, HTE.out, HMP.out, HL.out, HSE.out.more (by omega), HOE.out⟩
  | false =>
    have hn10 : n0 ≤ 10 := by omega
    have HR5 := Lib.hid HR4.out
    have HT5 := Lib.hid HT4.out
    have HBT5 := Lib.hid HBT4.out
    have HS5 := Lib.hid HS4.out
    have HO5 := Lib.hid HO4.out
    have hz5 : w4.heap.size = w4.heap.size := rfl
    clear HR4 HT4 HBT4 HS4 HO4
    generalize w4 = W5 at *
    have hbx5 : bx < W5.heap.size := by omega
    generalize n0 = n at *
    go_wp2_with (fail)
    refine (pick_pos B b _ 6 W5 HS5.out (by omega) (by omega) (by omega)).mono ?_
    rintro e w6 ⟨x6, hx6, rfl, hs6, ho6⟩
    have hs6z := ho6.size
    have HD0 : Hid (DrSt B b k n bx w.heap.size w w6 0 0 g0 0 [] []) := Lib.hid ⟨HR5.out.only (by omega) (by omega) ho6, HT5.out.onlyC (by omega) ho6, rfl, (fun p h => by cases h), List.Pairwise.nil, (fun p h => by cases h), Nat.zero_le _, hs6.more (by omega), only_trans HO5.out ho6, HBT5.out.only (by omega) (by omega) ho6, by omega, by omega, hgx0, (fun x h => by cases h)⟩
    clear hs6 ho6 HR5 HT5 HBT5 HS5 HO5 hs6z hgx0 hg01 hz5
    go_wp2
    go_loopw [5, 6, 7] (fun aa _ _ wr => ∃ (a g cap : Nat) (L : List VRow) (Q : List (Nat × Nat)), aa = .int .i64 (a : Int) ∧ a ≤ n ∧ DrSt B b k n bx w.heap.size w wr a 0 g cap L Q) (fun aa _ _ _ => n - (RowKit.intOf aa).toNat)
    case atStart => exact ⟨0, g0, 0, [], [], rfl, Nat.zero_le _, HD0.out⟩
    case round =>
      obtain ⟨a, g, cap, L, Q, rfl, ha, hd⟩ := hrel
      have HD := Lib.hid hd
      have q0 := hd.box.cell 0 _ rfl
      clear hd HD0
      by_cases hlt : a < n
      · have hai : (a : Int) < (n : Int) := by omega
        go_wp2
        go_loopw [6, 7] (fun ja _ wr => ∃ (j g cap : Nat) (L : List VRow) (Q : List (Nat × Nat)), ja = .int .i64 (j : Int) ∧ j ≤ n ∧ DrSt B b k n bx w.heap.size w wr a j g cap L Q) (fun ja _ _ => n - (RowKit.intOf ja).toNat)
        case atStart => exact ⟨0, g, cap, L, Q, rfl, Nat.zero_le _, HD.out⟩
        case round =>
          obtain ⟨j, g, cap, L, Q, rfl, hj, hd⟩ := hrel
          have HDJ := Lib.hid hd
          have q1 := hd.box.cell 0 _ rfl
          have hsrc := Lib.hid hd.src
          have hwr := hd.only.size
          have hbxl := hd.bxl
          clear hd HD q0
          by_cases hltj : j < n
          · have hji : (j : Int) < (n : Int) := by omega
            by_cases haj : (a : Int) = (j : Int)
            · have hajb : ((a : Int) == (j : Int)) = true := by simp [haj]
              clear haj
              go_wp2_with (fail)
              refine (one_any B b _ 9 wr hsrc.out (by omega) (by omega) (by omega)).mono ?_
              rintro e w7 ⟨y, rfl, hs7, ho7⟩
              have HD7 := Lib.hid (HDJ.out.step hbw (by omega) (by omega) ho7 (hs7.more (by omega)))
              have HLOW := Lib.hid HDJ.out.low
              have HLEN := Lib.hid HDJ.out.len
              clear hs7 ho7 HDJ hsrc q1 hajb
              cases y with
              | false =>
                go_wp2
                go_roundw
                case rel => exact ⟨j + 1, g, cap, L, Q, by go_num, by omega, HD7.out⟩
                case measure => simp [RowKit.intOf]; omega
              | true =>
                have q2 := HD7.out.box.cell 1 _ rfl
                have f2 := HD7.out.box.free 1 (by simp)
                have hL := HD7.out.many
                have hQ := HD7.out.len
                have hwz : w.heap.size ≤ w7.heap.size := HD7.out.only.size
                have bA : Below w7.heap.size w7 ((w7.alloc (.cells #[.int .i64 (a : Int), .int .i64 (j : Int)] 2)).alloc (.cells #[.slice (some ⟨w7.heap.size, 0, none⟩) 2 2] 28)) := ((Below.refl _ _).alloc (Nat.le_refl _) _).alloc (by simp) _
                have HTA := Lib.hid (HD7.out.tree.below bA)
                have HRL := Lib.hid HTA.out.row
                have HOX : Hid (OwnL intCells [(a : Int), (j : Int)] w7.heap.size ((w7.alloc (.cells #[.int .i64 (a : Int), .int .i64 (j : Int)] 2)).alloc (.cells #[.slice (some ⟨w7.heap.size, 0, none⟩) 2 2] 28)) (.slice (some ⟨w7.heap.size, 0, none⟩) 2 2)) := Lib.hid ((own_pair (a : Int) (j : Int) w7).on ((Below.refl _ _).alloc (Nat.le_refl _) _))
                have hHLT := Lib.hid (fun z (hz : z ∈ L) c (hc : kRow.blk z c) => (kRow.lt (HD7.out.tree.inn z hz) hc).2)
                have hgw := HD7.out.tree.lt
                have hszA : ((w7.alloc (.cells #[.int .i64 (a : Int), .int .i64 (j : Int)] 2)).alloc (.cells #[.slice (some ⟨w7.heap.size, 0, none⟩) 2 2] 28)).heap.size = w7.heap.size + 2 := by simp
                have hb1w : w.heap.size + 1 ≤ w7.heap.size := by omega
                have hbA : w.heap.size + 1 ≤ ((w7.alloc (.cells #[.int .i64 (a : Int), .int .i64 (j : Int)] 2)).alloc (.cells #[.slice (some ⟨w7.heap.size, 0, none⟩) 2 2] 28)).heap.size := by omega
                have hcapL : L.length ≤ 110 := by omega
                have hbx7 := HD7.out.bxl
                clear hL hQ
                go_wp2_with (at_builtin; refine wpList_append_own_at _ rfl _ _ 24 rfl (w.heap.size + 1) 28 r0 (.slice none 0 0) 1 24 Try.underlying24 hri hr0 hr1 hr2 rfl (by decide) _ _ _ rfl HRL.out ⟨w7.heap.size + 1, 0, none⟩ 1 1 (rCells ⟨[(a : Int), (j : Int)], .slice (some ⟨w7.heap.size, 0, none⟩) 2 2⟩) rfl rfl (fun j u hj => new_at2 hj) (fun u hu => by simp [rCells] at hu; subst hu; rfl) ?c3 ?c4 hbA ?_)
                case c3 => unfold maxLen; omega
                case c4 => omega
                intro v' w9 hown' hgrow hiff hor
                obtain ⟨g', cap', rfl, hdc', hcm'⟩ := own_some hown' (by simpa using hiff)
                have HP9 := Lib.hid (TreeW.push (x := ⟨[(a : Int), (j : Int)], .slice (some ⟨w7.heap.size, 0, none⟩) 2 2⟩) HTA.out hgrow (by rcases hor with h | h <;> injection h with h; exact .inl h; exact .inr (by simpa using h)) (by exact hown') (kRow.less (x := ⟨[(a : Int), (j : Int)], .slice (some ⟨w7.heap.size, 0, none⟩) 2 2⟩) HOX.out hb1w) (fun b hb => by
                  have q1 : w7.heap.size ≤ b := (OwnL.sblk HOX.out hb).1
                  exact ⟨by omega, fun z hz hzb => by have q2 := hHLT.out z hz b hzb; omega⟩))
                have hgx7 := HD7.out.gx
                have hgx' : g' ≠ bx := by
                  rcases hor with h | h
                  · injection h with h
                    have h : g' = g := h
                    omega
                  · injection h with h
                    have h : g' = _ := h
                    omega
                have hrow9 : Row w9 bx [.int .i64 (n : Int), .slice (some ⟨g, 0, none⟩) L.length cap] := (HD7.out.box.below bA hbx7).sameC (hgrow.block bx (by rw [hszA]; omega) (fun e => by injection e with e; exact hgx7 e.symm))
                have hres9 : Row w9 w.heap.size [.int .i64 0, .slice none 0 0] := (HD7.out.res.below bA HD7.out.btl).sameC (hgrow.block w.heap.size (by rw [hszA]; omega) (fun e => by injection e with e; have e : w.heap.size = g := e; omega))
                have hs9 := (HD7.out.src.below bA HD7.out.src.lt.1).grown hgrow (fun j hj => by have := (HRL.out.lt j hj).1; omega)
                have ho9 := only_grown (only_below' HD7.out.only bA hwz) hgrow (fun j hj => by have := (HRL.out.lt j hj).1; omega)
                have hz9 : w7.heap.size + 2 ≤ w9.heap.size := by have := hgrow.size; rw [hszA] at this; exact this
                have r1 := hrow9.cell 1 _ rfl
                have f1 := hrow9.free 1 (by simp)
                have ht9 : Touch (fun c => c = bx) w9 (w9.setCell ⟨bx, 1, none⟩ (.slice (some ⟨g', 0, none⟩) (L.length + 1) cap')) := Touch.setCell (F := fun c => c = bx) (Touch.refl _ _) rfl _
                have HXB : Hid (∀ c, kRow.blk ⟨[(a : Int), (j : Int)], .slice (some ⟨w7.heap.size, 0, none⟩) 2 2⟩ c → c ≠ bx) := Lib.hid (fun c hc => by have := (OwnL.sblk HOX.out hc).1; omega)
                have hblk : ∀ x ∈ L ++ [(⟨[(a : Int), (j : Int)], .slice (some ⟨w7.heap.size, 0, none⟩) 2 2⟩ : VRow)], ∀ c, kRow.blk x c → c ≠ bx := fun x hx c hc => by
                  rcases List.mem_append.1 hx with h | h
                  · exact HD7.out.blk x h c hc
                  · rw [List.mem_singleton.1 h] at hc
                    exact HXB.out c hc
                have HDN : Hid (DrSt B b k n bx w.heap.size w (w9.setCell ⟨bx, 1, none⟩ (.slice (some ⟨g', 0, none⟩) (L.length + 1) cap')) a (j + 1) g' cap' (L ++ [⟨[(a : Int), (j : Int)], .slice (some ⟨w7.heap.size, 0, none⟩) 2 2⟩]) (Q ++ [(a, j)])) := Lib.hid
                  { box := by rw [List.length_append]; exact hrow9.set 1 _ (by simp)
                    tree := ⟨own_touchC HP9.out.row ht9 (fun b hb e => by injection hb with hb; have hb : g' = b := hb; omega), fun x hx => kRow.touch (HP9.out.inn x hx) ht9 (fun c hc e => hblk x hx c hc e), HP9.out.out, HP9.out.two⟩
                    map := by rw [List.map_append, HD7.out.map]; unfold frL; rw [List.map_append]; rfl
                    lt := fun p hp => by
                      rcases List.mem_append.1 hp with h | h
                      · exact HD7.out.lt p h
                      · rw [List.mem_singleton.1 h]; exact ⟨hlt, hltj⟩
                    up := by
                      rw [List.pairwise_append]
                      refine ⟨HD7.out.up, List.pairwise_singleton _ _, fun p hp q hq => ?_⟩
                      rw [List.mem_singleton.1 hq]
                      exact HLOW.out p hp
                    low := fun p hp => by
                      rcases List.mem_append.1 hp with h | h
                      · exact HD7.out.low p h
                      · rw [List.mem_singleton.1 h]; exact .inr ⟨rfl, by show j < j + 1; omega⟩
                    len := by rw [List.length_append]; have := HLEN.out; show _ + 1 ≤ _; omega
                    src := hs9.keep (ht9.block b hs9.lt.1 (by omega)) (fun i hi => ht9.block i (by have := hs9.lt; omega) (by have := hs9.lt; omega))
                    only := only_transC ho9 ht9 (by omega)
                    res := hres9.far _ (by show bx ≠ _; omega)
                    bxl := by simp; omega
                    btl := by simp; omega
                    gx := hgx'
                    blk := hblk }
                clear hown' hgrow hiff hor hrow9 hres9 hs9 ho9 ht9 hblk q2 f2 bA
                go_wp2
                go_roundw
                case rel => exact ⟨j + 1, g', cap', _, _, by go_num, by omega, HDN.out⟩
                case measure => simp [RowKit.intOf]; omega
            · have hajb : ((a : Int) == (j : Int)) = false := by simpa using haj
              clear haj
              go_wp2_with (fail)
              refine (one_any B b _ _ wr hsrc.out (by omega) (by omega) (by omega)).mono ?_
              rintro e w7 ⟨y, rfl, hs7, ho7⟩
              have HD7 := Lib.hid (HDJ.out.step hbw (by omega) (by omega) ho7 (hs7.more (by omega)))
              have HLOW := Lib.hid HDJ.out.low
              have HLEN := Lib.hid HDJ.out.len
              clear hs7 ho7 HDJ hsrc q1 hajb
              cases y with
              | false =>
                go_wp2
                go_roundw
                case rel => exact ⟨j + 1, g, cap, L, Q, by go_num, by omega, HD7.out⟩
                case measure => simp [RowKit.intOf]; omega
              | true =>
                have q2 := HD7.out.box.cell 1 _ rfl
                have f2 := HD7.out.box.free 1 (by simp)
                have hL := HD7.out.many
                have hQ := HD7.out.len
                have hwz : w.heap.size ≤ w7.heap.size := HD7.out.only.size
                have bA : Below w7.heap.size w7 ((w7.alloc (.cells #[.int .i64 (a : Int), .int .i64 (j : Int)] 2)).alloc (.cells #[.slice (some ⟨w7.heap.size, 0, none⟩) 2 2] 28)) := ((Below.refl _ _).alloc (Nat.le_refl _) _).alloc (by simp) _
                have HTA := Lib.hid (HD7.out.tree.below bA)
                have HRL := Lib.hid HTA.out.row
                have HOX : Hid (OwnL intCells [(a : Int), (j : Int)] w7.heap.size ((w7.alloc (.cells #[.int .i64 (a : Int), .int .i64 (j : Int)] 2)).alloc (.cells #[.slice (some ⟨w7.heap.size, 0, none⟩) 2 2] 28)) (.slice (some ⟨w7.heap.size, 0, none⟩) 2 2)) := Lib.hid ((own_pair (a : Int) (j : Int) w7).on ((Below.refl _ _).alloc (Nat.le_refl _) _))
                have hHLT := Lib.hid (fun z (hz : z ∈ L) c (hc : kRow.blk z c) => (kRow.lt (HD7.out.tree.inn z hz) hc).2)
                have hgw := HD7.out.tree.lt
                have hszA : ((w7.alloc (.cells #[.int .i64 (a : Int), .int .i64 (j : Int)] 2)).alloc (.cells #[.slice (some ⟨w7.heap.size, 0, none⟩) 2 2] 28)).heap.size = w7.heap.size + 2 := by simp
                have hb1w : w.heap.size + 1 ≤ w7.heap.size := by omega
                have hbA : w.heap.size + 1 ≤ ((w7.alloc (.cells #[.int .i64 (a : Int), .int .i64 (j : Int)] 2)).alloc (.cells #[.slice (some ⟨w7.heap.size, 0, none⟩) 2 2] 28)).heap.size := by omega
                have hcapL : L.length ≤ 110 := by omega
                have hbx7 := HD7.out.bxl
                clear hL hQ
                go_wp2_with (at_builtin; refine wpList_append_own_at _ rfl _ _ 24 rfl (w.heap.size + 1) 28 r0 (.slice none 0 0) 1 24 Try.underlying24 hri hr0 hr1 hr2 rfl (by decide) _ _ _ rfl HRL.out ⟨w7.heap.size + 1, 0, none⟩ 1 1 (rCells ⟨[(a : Int), (j : Int)], .slice (some ⟨w7.heap.size, 0, none⟩) 2 2⟩) rfl rfl (fun j u hj => new_at2 hj) (fun u hu => by simp [rCells] at hu; subst hu; rfl) ?c3 ?c4 hbA ?_)
                case c3 => unfold maxLen; omega
                case c4 => omega
                intro v' w9 hown' hgrow hiff hor
                obtain ⟨g', cap', rfl, hdc', hcm'⟩ := own_some hown' (by simpa using hiff)
                have HP9 := Lib.hid (TreeW.push (x := ⟨[(a : Int), (j : Int)], .slice (some ⟨w7.heap.size, 0, none⟩) 2 2⟩) HTA.out hgrow (by rcases hor with h | h <;> injection h with h; exact .inl h; exact .inr (by simpa using h)) (by exact hown') (kRow.less (x := ⟨[(a : Int), (j : Int)], .slice (some ⟨w7.heap.size, 0, none⟩) 2 2⟩) HOX.out hb1w) (fun b hb => by
                  have q1 : w7.heap.size ≤ b := (OwnL.sblk HOX.out hb).1
                  exact ⟨by omega, fun z hz hzb => by have q2 := hHLT.out z hz b hzb; omega⟩))
                have hgx7 := HD7.out.gx
                have hgx' : g' ≠ bx := by
                  rcases hor with h | h
                  · injection h with h
                    have h : g' = g := h
                    omega
                  · injection h with h
                    have h : g' = _ := h
                    omega
                have hrow9 : Row w9 bx [.int .i64 (n : Int), .slice (some ⟨g, 0, none⟩) L.length cap] := (HD7.out.box.below bA hbx7).sameC (hgrow.block bx (by rw [hszA]; omega) (fun e => by injection e with e; exact hgx7 e.symm))
                have hres9 : Row w9 w.heap.size [.int .i64 0, .slice none 0 0] := (HD7.out.res.below bA HD7.out.btl).sameC (hgrow.block w.heap.size (by rw [hszA]; omega) (fun e => by injection e with e; have e : w.heap.size = g := e; omega))
                have hs9 := (HD7.out.src.below bA HD7.out.src.lt.1).grown hgrow (fun j hj => by have := (HRL.out.lt j hj).1; omega)
                have ho9 := only_grown (only_below' HD7.out.only bA hwz) hgrow (fun j hj => by have := (HRL.out.lt j hj).1; omega)
                have hz9 : w7.heap.size + 2 ≤ w9.heap.size := by have := hgrow.size; rw [hszA] at this; exact this
                have r1 := hrow9.cell 1 _ rfl
                have f1 := hrow9.free 1 (by simp)
                have ht9 : Touch (fun c => c = bx) w9 (w9.setCell ⟨bx, 1, none⟩ (.slice (some ⟨g', 0, none⟩) (L.length + 1) cap')) := Touch.setCell (F := fun c => c = bx) (Touch.refl _ _) rfl _
                have HXB : Hid (∀ c, kRow.blk ⟨[(a : Int), (j : Int)], .slice (some ⟨w7.heap.size, 0, none⟩) 2 2⟩ c → c ≠ bx) := Lib.hid (fun c hc => by have := (OwnL.sblk HOX.out hc).1; omega)
                have hblk : ∀ x ∈ L ++ [(⟨[(a : Int), (j : Int)], .slice (some ⟨w7.heap.size, 0, none⟩) 2 2⟩ : VRow)], ∀ c, kRow.blk x c → c ≠ bx := fun x hx c hc => by
                  rcases List.mem_append.1 hx with h | h
                  · exact HD7.out.blk x h c hc
                  · rw [List.mem_singleton.1 h] at hc
                    exact HXB.out c hc
                have HDN : Hid (DrSt B b k n bx w.heap.size w (w9.setCell ⟨bx, 1, none⟩ (.slice (some ⟨g', 0, none⟩) (L.length + 1) cap')) a (j + 1) g' cap' (L ++ [⟨[(a : Int), (j : Int)], .slice (some ⟨w7.heap.size, 0, none⟩) 2 2⟩]) (Q ++ [(a, j)])) := Lib.hid
                  { box := by rw [List.length_append]; exact hrow9.set 1 _ (by simp)
                    tree := ⟨own_touchC HP9.out.row ht9 (fun b hb e => by injection hb with hb; have hb : g' = b := hb; omega), fun x hx => kRow.touch (HP9.out.inn x hx) ht9 (fun c hc e => hblk x hx c hc e), HP9.out.out, HP9.out.two⟩
                    map := by rw [List.map_append, HD7.out.map]; unfold frL; rw [List.map_append]; rfl
                    lt := fun p hp => by
                      rcases List.mem_append.1 hp with h | h
                      · exact HD7.out.lt p h
                      · rw [List.mem_singleton.1 h]; exact ⟨hlt, hltj⟩
                    up := by
                      rw [List.pairwise_append]
                      refine ⟨HD7.out.up, List.pairwise_singleton _ _, fun p hp q hq => ?_⟩
                      rw [List.mem_singleton.1 hq]
                      exact HLOW.out p hp
                    low := fun p hp => by
                      rcases List.mem_append.1 hp with h | h
                      · exact HD7.out.low p h
                      · rw [List.mem_singleton.1 h]; exact .inr ⟨rfl, by show j < j + 1; omega⟩
                    len := by rw [List.length_append]; have := HLEN.out; show _ + 1 ≤ _; omega
                    src := hs9.keep (ht9.block b hs9.lt.1 (by omega)) (fun i hi => ht9.block i (by have := hs9.lt; omega) (by have := hs9.lt; omega))
                    only := only_transC ho9 ht9 (by omega)
                    res := hres9.far _ (by show bx ≠ _; omega)
                    bxl := by simp; omega
                    btl := by simp; omega
                    gx := hgx'
                    blk := hblk }
                clear hown' hgrow hiff hor hrow9 hres9 hs9 ho9 ht9 hblk q2 f2 bA
                go_wp2
                go_roundw
                case rel => exact ⟨j + 1, g', cap', _, _, by go_num, by omega, HDN.out⟩
                case measure => simp [RowKit.intOf]; omega
          · have hge : ¬ (j : Int) < (n : Int) := by omega
            obtain rfl : j = n := by omega
            have HN := Lib.hid (HDJ.out.next hn10)
            clear hltj
            go_wp2
            go_roundw
            case rel => exact ⟨a + 1, g, cap, L, Q, by go_num, by omega, HN.out⟩
            case measure => simp [RowKit.intOf]; omega
      · have hge : ¬ (a : Int) < (n : Int) := by omega
        have hd := HD.out
        have q1 := hd.box.cell 1 _ rfl
        have c0 := hd.res.cell 0 _ rfl
        have c1 := hd.res.cell 1 _ rfl
        have f0 := hd.res.free 0 (by simp)
        have f1 := hd.res.free 1 (by simp)
        have HL := Lib.hid hd.many
        have HFO : Hid (Fr.Ok ⟨n, Q⟩) := Lib.hid ⟨hn10, by show Q.length ≤ 100; have := hd.len; omega, hd.lt, hd.up⟩
        have ht : Touch (fun c => c = w.heap.size) wr ((wr.setCell ⟨w.heap.size, 0, none⟩ (.int .i64 (n : Int))).setCell ⟨w.heap.size, 1, none⟩ (.slice (some ⟨g, 0, none⟩) L.length cap)) := Touch.setCell (F := fun c => c = w.heap.size) (Touch.setCell (F := fun c => c = w.heap.size) (Touch.refl _ _) rfl _) rfl _
        have hgw := hd.tree.lt
        have HTE : Hid (TreeW kRow 28 (w.heap.size + 1) ((wr.setCell ⟨w.heap.size, 0, none⟩ (.int .i64 (n : Int))).setCell ⟨w.heap.size, 1, none⟩ (.slice (some ⟨g, 0, none⟩) L.length cap)) g cap L) := Lib.hid ⟨own_touchC hd.tree.row ht (fun b hb e => by injection hb with hb; have hb : g = b := hb; omega), fun x hx => kRow.touch (hd.tree.inn x hx) ht (fun c hc e => by have := (kRow.lt (hd.tree.inn x hx) hc).1; omega), hd.tree.out, hd.tree.two⟩
        have HSE := Lib.hid (hd.src.keep (w' := (wr.setCell ⟨w.heap.size, 0, none⟩ (.int .i64 (n : Int))).setCell ⟨w.heap.size, 1, none⟩ (.slice (some ⟨g, 0, none⟩) L.length cap)) (ht.block b hd.src.lt.1 (by omega)) (fun i hi => ht.block i (by have := hd.src.lt; omega) (by have := hd.src.lt; omega)))
        have HOE := Lib.hid (only_transC hd.only ht (Nat.le_refl _))
        have HMP := Lib.hid hd.map
        have ha10 : a ≤ 10 := by omega
        have HRF := Lib.hid ((hd.res.set 0 (.int .i64 (n : Int)) (by simp)).set 1 (.slice (some ⟨g, 0, none⟩) L.length cap) (by simp))
        clear hd ht HD
        go_wp2
        obtain ⟨W9, hW9⟩ : ∃ X, X = (wr.setCell ⟨w.heap.size, 0, none⟩ (.int .i64 (n : Int))).setCell ⟨w.heap.size, 1, none⟩ (.slice (some ⟨g, 0, none⟩) L.length cap) := ⟨_, rfl⟩
        rw [← hW9] at HTE HSE HOE HRF ⊢
        have k0 := HRF.out.cell 0 _ rfl
        have k1 := HRF.out.cell 1 _ rfl
        clear hW9
        refine bodyPost_ret (v := .agg #[.int .i64 (n : Int), .slice (some ⟨g, 0, none⟩) L.length cap]) (by simp [results, Try.results16, go_sem, k0, k1]) rfl ?_
        exact ⟨⟨n, Q⟩, g, cap, by unfold frV; rw [show (Fr.mk n Q).R.length = L.length from HL.out.symm], HFO.out, L, HTE.out, HMP.out, HL.out, HSE.out.more (by omega), HOE.out⟩
end Go.Proofs.Yteljpodjjeoddaa
