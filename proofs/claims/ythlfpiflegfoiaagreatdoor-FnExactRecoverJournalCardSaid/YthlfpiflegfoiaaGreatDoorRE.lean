/- What the library's readers do, and the program's readers of numbers and lists. -/
import Derived.Test.YthlfpiflegfoiaaGreatDoorRCp
namespace Go.Proofs.YthlfpiflegfoiaaGreatDoor
open Go.RowKit Go.Lib


theorem own_ne {w : World} {base g : Nat} {e e' : TypeId} {size n : Nat} {v : Value} {xs : List Value} {cs : Array Value} (h : w.ownsRow base e size v n xs) (hg : w.heap[g]? = some (.cells cs e' (0, 0))) (hne : e ≠ e') : v.ownBlock ≠ some g := by
  obtain ⟨hl, h | ⟨g1, cap, cur, rfl, _, hh, _⟩⟩ := h
  · obtain ⟨rfl, _⟩ := h
    simp [Value.ownBlock]
  · intro hb
    simp [Value.ownBlock] at hb
    subst hb
    rw [hh] at hg
    injection hg with hg
    injection hg with _ h2 _
    exact hne h2
theorem own_some {w : World} {base : Nat} {e : TypeId} {size n : Nat} {v : Value} {xs : List Value} (h : w.ownsRow base e size v n xs) (hn : v ≠ .slice none 0 0) : ∃ g cap, v = .slice (some ⟨g, 0, none⟩) n cap ∧ n ≤ cap ∧ cap ≤ maxLen := by
  obtain ⟨hl, h | ⟨g1, cap, cur, rfl, _, hh, h1, h2, _⟩⟩ := h
  · exact absurd h.1 hn
  · exact ⟨g1, cap, rfl, h1, h2⟩
theorem block_keep {w w' : World} {o : Obj} {row : Option Nat} {g : Nat} {x : Obj} (hg : (w.alloc o).grownBy w' row) (h : w.heap[g]? = some x) (hne : row ≠ some g) : w'.heap[g]? = some x := by
  have hlt : g < w.heap.size := (Array.getElem?_eq_some_iff.1 h).1
  rw [hg.block g (by simp; omega) (fun e => hne e.symm)]
  have : (w.alloc o).heap[g]? = w.heap[g]? := ((Below.refl w.heap.size w).alloc (Nat.le_refl _) o).block g hlt
  rw [this, h]
theorem block_cell {w : World} {g j : Nat} {cs : Array Value} {e : TypeId} {u : Value} (h : w.heap[g]? = some (.cells cs e (0, 0))) (hu : cs[j]? = some u) : w.cell? ⟨g, j, none⟩ = some u := by
  simp [World.cell?, h, hu]
theorem block_below {w w' : World} {g : Nat} {x : Obj} (hb : Below w.heap.size w w') (h : w.heap[g]? = some x) : w'.heap[g]? = some x := by
  rw [hb.block g (Array.getElem?_eq_some_iff.1 h).1, h]
theorem alloc_at (w : World) (o : Obj) : (w.alloc o).heap[w.heap.size]? = some o := heap_alloc_new w o
def unsemis (l : List UInt8) : List UInt8 := l.map fun c => if c = 59 then 10 else c

/-- What the library's functions do in every world that is as w below B. -/
structure EnvR (B : Nat) (w : World) : Prop where
  env : Env B w
  num : ∀ w', Below B w w' → ∀ s : ByteArray, s.size ≤ 65536 → Calls Tryz.prog 85 #[.string s, .int .i64 10, .int .i64 64] w' fun e w'' => ∃ (n : Int) (ev : Value), e = .returned (.tuple #[.int .i64 n, ev]) ∧ -9223372036854775808 ≤ n ∧ n ≤ 9223372036854775807 ∧ (ev = .nilIface ∨ ∃ t p, ev = .iface t p) ∧ (∀ m, -9223372036854775808 ≤ m → m ≤ 9223372036854775807 → itoa m = s.data.toList → ev = .nilIface ∧ n = m) ∧ Below w'.heap.size w' w''
  cut : ∀ w', Below B w w' → ∀ (s : ByteArray) (c : UInt8), s.size ≤ 65536 → Calls Tryz.prog 37 #[.string s, .string ⟨#[c]⟩] w' fun e w'' => ∃ ok, e = .returned (.tuple #[.string ⟨(cutL c s.data.toList).1.toArray⟩, .string ⟨(cutL c s.data.toList).2.toArray⟩, .bool ok]) ∧ ∃ k, w'' = w'.drewN k
  spl : ∀ w', Below B w w' → ∀ (s : ByteArray) (c : UInt8), s.size ≤ 65536 → Calls Tryz.prog 55 #[.string s, .string ⟨#[c]⟩] w' fun e w'' => e = .returned (.slice (some ⟨w'.heap.size, 0, none⟩) (splitC c s.data.toList).length (splitC c s.data.toList).length) ∧ ∃ cs, w'' = w'.alloc (.cells cs 9) ∧ ∀ (k : Nat) (p : List UInt8), (splitC c s.data.toList)[k]? = some p → cs[k]? = some (.string ⟨p.toArray⟩)
  spn : ∀ w', Below B w w' → ∀ s : ByteArray, s.size ≤ 65536 → Calls Tryz.prog 57 #[.string s, .string ⟨#[32]⟩, .int .i64 7] w' fun e w'' => ∃ c, e = .returned (.slice (some ⟨w'.heap.size, 0, none⟩) (splitNC 32 6 s.data.toList).length c) ∧ Strs w'' (.slice (some ⟨w'.heap.size, 0, none⟩) (splitNC 32 6 s.data.toList).length c) (splitNC 32 6 s.data.toList) ∧ Below w'.heap.size w' w''
  rpb : ∀ w', Below B w w' → ∀ l : List UInt8, l.length ≤ 65536 → Calls Tryz.prog 46 #[.string ⟨l.toArray⟩, .string ⟨#[59]⟩, .string ⟨#[10]⟩] w' (RetB (.string ⟨(unsemis l).toArray⟩) w')
theorem EnvR.on {B : Nat} {w w1 : World} (h : EnvR B w) (hb : Below B w w1) : EnvR B w1 where
  env := h.env.on hb
  num := fun w' hb' => h.num w' (hb.trans hb')
  cut := fun w' hb' => h.cut w' (hb.trans hb')
  spl := fun w' hb' => h.spl w' (hb.trans hb')
  spn := fun w' hb' => h.spn w' (hb.trans hb')
  rpb := fun w' hb' => h.rpb w' (hb.trans hb')
theorem EnvR.more {B B' : Nat} {w : World} (h : EnvR B w) (hB : B ≤ B') : EnvR B' w where
  env := env_more h.env hB
  num := fun w' hb' => h.num w' (hb'.mono hB)
  cut := fun w' hb' => h.cut w' (hb'.mono hB)
  spl := fun w' hb' => h.spl w' (hb'.mono hB)
  spn := fun w' hb' => h.spn w' (hb'.mono hB)
  rpb := fun w' hb' => h.rpb w' (hb'.mono hB)
theorem in2_val (n a b : Int) (w : World) (r : Bool) (h : inB n a b = r) : Calls Tryz.prog 86 #[.int .i64 n, .int .i64 a, .int .i64 b] w (RetQ (.bool r) w) := h ▸ in2_any n a b w

set_option maxHeartbeats 1000000 in
theorem number2_any (s : ByteArray) (lo hi : Int) (w : World) (hs : s.size ≤ 65536) (hl : -9223372036854775808 ≤ lo) (hh : hi ≤ 9223372036854775807) (hE : EnvR w.heap.size w) :
    Calls Tryz.prog 60 #[.string s, .int .i64 lo, .int .i64 hi] w (RetB (.tuple #[.int .i64 ((numOf lo hi s.data.toList).getD 0), .bool (numOf lo hi s.data.toList).isSome]) w) := by
  have E := Lib.hid hE
  clear hE
  go_enter Tryz.func60, Tryz.ntmps60
  go_wp2_with (fail)
  refine (E.out.num w (Below.refl _ _) s hs).mono ?_
  rintro e w1 ⟨n, ev, rfl, n1, n2, hev, hm, hb1⟩
  have HB := Lib.hid hb1
  clear hb1
  rcases hev with rfl | ⟨t, p, rfl⟩
  · have HU : Hid (∀ q, inB q lo hi = true → itoa q = s.data.toList → n = q) := Lib.hid (fun q hq e => by
      rw [inB_iff] at hq
      exact (hm q (by omega) (by omega) e).2)
    clear hm
    go_wp2_with (fail)
    refine (decimal_any w.heap.size n _ (E.out.env.on HB.out) n1 n2).mono ?_
    rintro e w2 ⟨rfl, hb2⟩
    have hbb := HB.out.trans (hb2.mono HB.out.size)
    clear hb2
    by_cases heq : itoa n = s.data.toList
    · have hs1 : (itoa n == s.toList) = true := by rw [ByteArray.toList_eq, heq]; simp
      have HEQ := Lib.hid heq
      clear heq
      go_wp2_with (fail)
      cases hin : inB n lo hi with
      | false =>
        refine (in2_val n lo hi _ false hin).mono ?_
        rintro e w3 ⟨rfl, m3, rfl⟩
        have HN : Hid (numOf lo hi s.data.toList = none) := Lib.hid (numOf_no HU.out (by rw [hin]; simp))
        clear hin
        go_wp2
        go_ret2
        exact ⟨by rw [HN.out]; rfl, below_drewN hbb m3⟩
      | true =>
        refine (in2_val n lo hi _ true hin).mono ?_
        rintro e w3 ⟨rfl, m3, rfl⟩
        have HN : Hid (numOf lo hi s.data.toList = some n) := Lib.hid (numOf_yes HU.out hin HEQ.out)
        clear hin
        go_wp2
        go_ret2
        exact ⟨by rw [HN.out]; rfl, below_drewN hbb m3⟩
    · have hs1 : (itoa n == s.toList) = false := by rw [ByteArray.toList_eq]; simpa using heq
      have HN : Hid (numOf lo hi s.data.toList = none) := Lib.hid (numOf_no HU.out (fun h => heq h.2))
      clear heq
      go_wp2
      go_ret2
      exact ⟨by rw [HN.out]; rfl, hbb⟩
  · have HN : Hid (numOf lo hi s.data.toList = none) := Lib.hid (inv_never (fun q hq e => by
      rw [inB_iff] at hq
      cases (hm q (by omega) (by omega) e).1))
    clear hm
    go_wp2
    go_ret2
    exact ⟨by rw [HN.out]; rfl, HB.out⟩

/-- The program's numbers of a text. -/
noncomputable def decs (lo hi : Int) (l : List UInt8) : List Int := if l = [] then [] else if (splitC 44 l).length ≤ 101 then (numL lo hi (splitC 44 l)).getD [] else []
def DecsPost (zs : List Int) (w : World) (e : Ending) (w' : World) : Prop := ∃ v ok, e = .returned (.tuple #[v, .bool ok]) ∧ OwnL intCells zs w.heap.size w' v ∧ Below w.heap.size w w'
theorem splitC_cnt (c : UInt8) : ∀ l : List UInt8, (splitC c l).length ≤ l.length + 1
  | [] => Nat.le_refl _
  | x :: l => by
    have ih := splitC_cnt c l
    unfold splitC
    split
    · simp; omega
    · split
      · rename_i h; rw [h] at ih; simp at ih ⊢; omega
      · simp

set_option maxRecDepth 100000 in
set_option maxHeartbeats 2000000 in
theorem decimals2_any (s : ByteArray) (lo hi : Int) (w : World) (hs : s.size ≤ 65536) (hl : -9223372036854775808 ≤ lo) (hh : hi ≤ 9223372036854775807) (hE : EnvR w.heap.size w) :
    Calls Tryz.prog 58 #[.string s, .string ⟨#[44]⟩, .int .i64 lo, .int .i64 hi] w (DecsPost (decs lo hi s.data.toList) w) := by
  have E := Lib.hid hE
  clear hE
  obtain ⟨i0, hi0, hz0, hz1, hz2⟩ := info_parts Tryz.infoI
  have hsz : s.data.toList.length = s.size := by simp
  by_cases h0 : s.data.toList = []
  · have h1 : (s.toList == []) = true := by rw [ByteArray.toList_eq, h0]; rfl
    have HD : Hid (decs lo hi s.data.toList = []) := Lib.hid (by unfold decs; rw [if_pos h0])
    clear h0
    go_enter Tryz.func58, Tryz.ntmps58
    go_wp2
    go_ret2
    refine ⟨.slice (some ⟨w.heap.size, 0, none⟩) 0 0, true, rfl, ?_, (Below.refl _ _).alloc (Nat.le_refl _) _⟩
    rw [HD.out]
    exact ⟨_, 0, rfl, Nat.le_refl _, Nat.zero_le _, fun h => absurd rfl h⟩
  · have h1 : (s.toList == []) = false := by rw [ByteArray.toList_eq]; simpa using h0
    have HD : Hid (decs lo hi s.data.toList = if (splitC 44 s.data.toList).length ≤ 101 then (numL lo hi (splitC 44 s.data.toList)).getD [] else []) := Lib.hid (by unfold decs; rw [if_neg h0])
    have hpc := splitC_cnt 44 s.data.toList
    have HPL : Hid (∀ p ∈ splitC 44 s.data.toList, p.length ≤ 65536) := Lib.hid (fun p hp => by have := splitC_len 44 s.data.toList p hp; omega)
    have HSPL := Lib.hid (E.out.spl)
    have bW : Below w.heap.size w (w.alloc (.cells #[] 2)) := (Below.refl _ _).alloc (Nat.le_refl _) _
    have HS := Lib.hid (E.out.spl _ bW s 44 hs)
    clear h0 HSPL
    generalize splitC 44 s.data.toList = ps at *
    generalize decs lo hi s.data.toList = R at *
    go_enter Tryz.func58, Tryz.ntmps58
    go_wp2_with (fail)
    refine (HS.out).mono ?_
    rintro e w1 ⟨rfl, cs, hw1, hcs⟩
    have hb1 : Below (w.alloc (.cells #[] 2)).heap.size (w.alloc (.cells #[] 2)) w1 := by rw [hw1]; exact (Below.refl _ _).alloc (Nat.le_refl _) _
    have HB1 : Hid (Below w.heap.size w w1) := Lib.hid (bW.trans (hb1.mono bW.size))
    have hown0 : w1.ownsRow w.heap.size 2 1 (.slice (some ⟨w.heap.size, 0, none⟩) 0 0) 0 [] := own_below (by simpa using World.ownsRow_made w #[] 0 (Nat.le_refl _) (Nat.zero_le _) rfl) hb1
    have hgw : (w.alloc (.cells #[] 2)).heap.size = w.heap.size + 1 := by simp
    have hblk : w1.heap[w.heap.size + 1]? = some (.cells cs 9 (0, 0)) := by rw [hw1, ← hgw]; exact alloc_at _ _
    have HBLK := Lib.hid hblk
    have HCS := Lib.hid hcs
    have HOWN0 := Lib.hid hown0
    clear hcs hblk hw1 hb1 hown0 HS bW
    go_wp2
    go_loopw [10, 23] (fun o i wr => ∃ (k : Nat) (zs : List Int), k ≤ ps.length ∧ i = .int .i64 (k : Int) ∧ wr.ownsRow w.heap.size 2 1 o k (zs.flatMap intCells) ∧ o ≠ .slice none 0 0 ∧ numL lo hi (ps.take k) = some zs ∧ k ≤ 101 ∧ wr.heap[w.heap.size + 1]? = some (.cells cs 9 (0, 0)) ∧ Below w.heap.size w wr) (fun _ i _ => ps.length - (RowKit.intOf i).toNat)
    case atStart => exact ⟨0, [], Nat.zero_le _, rfl, HOWN0.out, by simp, rfl, by omega, HBLK.out, HB1.out⟩
    case round =>
      obtain ⟨k, zs, hk, rfl, hown, hnn, hnl, hk1, hS, hb⟩ := hrel
      have hzl : zs.length = k := by have := numL_len _ hnl; rw [List.length_take] at this; omega
      obtain ⟨g, cap, rfl, hdc, hcm⟩ := own_some hown hnn
      unfold maxLen at hcm
      clear hnn
      have HOWN := Lib.hid hown
      have HNL := Lib.hid hnl
      have HB := Lib.hid hb
      have HSW := Lib.hid hS
      have hpl : ps.length ≤ 65537 := by omega
      by_cases hlt : k < ps.length
      · have x0 := block_cell hS (HCS.out k _ (List.getElem?_eq_getElem hlt))
        have hts : ps.take (k + 1) = ps.take k ++ [ps[k]] := List.take_succ_eq_append_getElem hlt
        have HT := Lib.hid hts
        have hps : ps = ps.take (k + 1) ++ ps.drop (k + 1) := (List.take_append_drop _ _).symm
        have HPS := Lib.hid hps
        have hpk := HPL.out ps[k] (List.getElem_mem hlt)
        have HNUM := Lib.hid (fun (W : World) (bw : Below w.heap.size w W) => number2_any ⟨ps[k].toArray⟩ lo hi W (by rw [mk_size]; exact hpk) hl hh ((E.out.on bw).more bw.size))
        rw [show (⟨ps[k].toArray⟩ : ByteArray).data.toList = ps[k] from rfl] at HNUM
        clear hown hnl hb hS hts hps
        generalize ps[k] = p at *
        cases hn : numOf lo hi p with
        | none =>
          rw [hn] at HNUM
          have HR : Hid (R = []) := Lib.hid (by
            rw [HD.out]
            split
            · rw [HPS.out, numL_none_app _ _ (by rw [HT.out, numL_snoc, HNL.out, hn])]
              rfl
            · rfl)
          clear hn
          go_wp2_with (fail)
          refine (HNUM.out _ HB.out).mono ?_
          rintro e w2 ⟨rfl, hb2⟩
          have hbb := HB.out.trans (hb2.mono HB.out.size)
          clear hb2
          go_wp2
          go_ret2
          exact ⟨.slice none 0 0, false, rfl, by rw [HR.out]; exact OwnL.nil _ _ _, hbb⟩
        | some z =>
          rw [hn] at HNUM
          have HN2 : Hid (numL lo hi (ps.take (k + 1)) = some (zs ++ [z])) := Lib.hid (by rw [HT.out, numL_snoc, HNL.out, hn])
          clear hn
          go_wp2_with (fail)
          refine (HNUM.out _ HB.out).mono ?_
          rintro e w2 ⟨rfl, hb2⟩
          have hbb := HB.out.trans (hb2.mono HB.out.size)
          have hown := own_below HOWN.out hb2
          have hsz2 := hbb.size
          have HS2 := Lib.hid (block_below hb2 HSW.out)
          clear hb2 x0
          by_cases h100 : k ≤ 100
          · have HF : Hid ((zs ++ [z]).flatMap intCells = zs.flatMap intCells ++ [.int .i64 z]) := Lib.hid (by rw [flat_snoc]; rfl)
            generalize zs.flatMap intCells = L at *
            have hkl : k + 1 ≤ 101 := by omega
            have h101 : ¬ (100 : Int) < (k : Int) := by omega
            have h102 : ¬ 100 < k := by omega
            go_wp2_with (at_builtin; refine wpList_append_own _ rfl _ _ 36 rfl w.heap.size 2 i0 (.int .i64 0) 1 8 Tryz.underlying36 hi0 hz0 hz1 hz2 rfl (by decide) _ _ _ rfl (hown.alloc _) ⟨w2.heap.size, 0, none⟩ 1 1 [.int .i64 z] rfl rfl ?c1 ?c2 ?c3 ?c4 ?c5 ?_)
            case c1 =>
              intro j u hj
              match j, hj with
              | 0, hj => simp at hj; subst hj; simp [Addr.add]
            case c2 => intro u hu; simp at hu; subst hu; rfl
            case c3 => unfold maxLen; omega
            case c4 => omega
            case c5 => simp; omega
            · intro v' w3 hown' hgrow hiff
              have hnn' : v' ≠ .slice none 0 0 := by simpa using hiff
              have hb3 := (hbb.alloc hsz2 _).grown hgrow (by simp; omega) (fun j hj => (hown.lt j hj).1)
              have hS3 := block_keep hgrow HS2.out (own_ne hown HS2.out (by decide))
              clear hown hgrow hiff
              go_wp2
              go_roundw
              case rel => exact ⟨k + 1, zs ++ [z], by omega, by go_num, by rw [HF.out]; exact hown', hnn', HN2.out, hkl, hS3, hb3⟩
              case measure => simp [RowKit.intOf]; omega
          · have HR : Hid (R = []) := Lib.hid (by rw [HD.out, if_neg (by omega)])
            have h101 : (100 : Int) < (k : Int) := by omega
            have h102 : 100 < k := by omega
            go_wp2
            go_ret2
            exact ⟨.slice none 0 0, false, rfl, by rw [HR.out]; exact OwnL.nil _ _ _, hbb⟩
      · have hge : ¬ (k : Int) < (ps.length : Int) := by omega
        have hk' : k = ps.length := by omega
        have HR : Hid (R = zs) := Lib.hid (by
          have h := HNL.out
          rw [List.take_of_length_le (by omega)] at h
          rw [HD.out, if_pos (by omega), h]
          rfl)
        have HO : Hid (OwnL intCells zs w.heap.size wr (.slice (some ⟨g, 0, none⟩) k cap)) := Lib.hid (by
          have h := HOWN.out
          rw [← hzl] at h ⊢
          exact OwnL.of_own intCells (size := 1) (fun _ => rfl) h)
        clear hk' hown hnl hb hS
        go_wp2
        go_ret2
        exact ⟨.slice (some ⟨g, 0, none⟩) k cap, true, rfl, by rw [HR.out]; exact HO.out, HB.out⟩
end Go.Proofs.YthlfpiflegfoiaaGreatDoor
