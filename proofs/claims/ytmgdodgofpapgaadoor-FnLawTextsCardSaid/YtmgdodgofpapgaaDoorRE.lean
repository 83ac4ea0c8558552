/- What the library's readers do, and the program's readers of numbers and lists. -/
import Derived.Test.YtmgdodgofpapgaaDoorRCp
namespace Go.Proofs.YtmgdodgofpapgaaDoor
open Go.RowKit Go.Lib


theorem own_ne {w : World} {base g : Nat} {e e' : TypeId} {size n : Nat} {v : Value} {xs : List Value} {cs : Array Value} (h : w.ownsRow base e size v n xs) (hg : w.heap[g]? = some (.cells cs e' (0, 0))) (hne : e ≠ e') : v.ownBlock ≠ some g := by
  obtain ⟨hl, h | ⟨g1, cap, cur, rfl, _, hh, _⟩⟩ := h
  · obtain ⟨rfl, _⟩ := h
    simp [Value.ownBlock]
  · intro hb
    simp [Value.ownBlock] at hb
    subst hb
    rw [hh] at hg
    injection hg with hg
    injection hg with _ h2 _
    exact hne h2
theorem own_some {w : World} {base : Nat} {e : TypeId} {size n : Nat} {v : Value} {xs : List Value} (h : w.ownsRow base e size v n xs) (hn : v ≠ .slice none 0 0) : ∃ g cap, v = .slice (some ⟨g, 0, none⟩) n cap ∧ n ≤ cap ∧ cap ≤ maxLen := by
  obtain ⟨hl, h | ⟨g1, cap, cur, rfl, _, hh, h1, h2, _⟩⟩ := h
  · exact absurd h.1 hn
  · exact ⟨g1, cap, rfl, h1, h2⟩
theorem block_keep {w w' : World} {o : Obj} {row : Option Nat} {g : Nat} {x : Obj} (hg : (w.alloc o).grownBy w' row) (h : w.heap[g]? = some x) (hne : row ≠ some g) : w'.heap[g]? = some x := by
  have hlt : g < w.heap.size := (Array.getElem?_eq_some_iff.1 h).1
  rw [hg.block g (by simp; omega) (fun e => hne e.symm)]
  have : (w.alloc o).heap[g]? = w.heap[g]? := ((Below.refl w.heap.size w).alloc (Nat.le_refl _) o).block g hlt
  rw [this, h]
theorem block_cell {w : World} {g j : Nat} {cs : Array Value} {e : TypeId} {u : Value} (h : w.heap[g]? = some (.cells cs e (0, 0))) (hu : cs[j]? = some u) : w.cell? ⟨g, j, none⟩ = some u := by
  simp [World.cell?, h, hu]
theorem block_below {w w' : World} {g : Nat} {x : Obj} (hb : Below w.heap.size w w') (h : w.heap[g]? = some x) : w'.heap[g]? = some x := by
  rw [hb.block g (Array.getElem?_eq_some_iff.1 h).1, h]
theorem alloc_at (w : World) (o : Obj) : (w.alloc o).heap[w.heap.size]? = some o := heap_alloc_new w o
def unsemis (l : List UInt8) : List UInt8 := l.map fun c => if c = 59 then 10 else c

/-- What the library's functions do in every world that is as w below B. -/
structure EnvR (B : Nat) (w : World) : Prop where
  env : Env B w
  num : ∀ w', Below B w w' → ∀ s : ByteArray, s.size ≤ 65536 → Calls Tryd.prog 34 #[.string s, .int .i64 10, .int .i64 64] w' fun e w'' => ∃ (n : Int) (ev : Value), e = .returned (.tuple #[.int .i64 n, ev]) ∧ -9223372036854775808 ≤ n ∧ n ≤ 9223372036854775807 ∧ (ev = .nilIface ∨ ∃ t p, ev = .iface t p) ∧ (∀ m, -9223372036854775808 ≤ m → m ≤ 9223372036854775807 → itoa m = s.data.toList → ev = .nilIface ∧ n = m) ∧ Below w'.heap.size w' w''
  cut : ∀ w', Below B w w' → ∀ (s : ByteArray) (c : UInt8), s.size ≤ 65536 → Calls Tryd.prog 22 #[.string s, .string ⟨#[c]⟩] w' fun e w'' => ∃ ok, e = .returned (.tuple #[.string ⟨(cutL c s.data.toList).1.toArray⟩, .string ⟨(cutL c s.data.toList).2.toArray⟩, .bool ok]) ∧ ∃ k, w'' = w'.drewN k
  spl : ∀ w', Below B w w' → ∀ (s : ByteArray) (c : UInt8), s.size ≤ 65536 → Calls Tryd.prog 32 #[.string s, .string ⟨#[c]⟩] w' fun e w'' => e = .returned (.slice (some ⟨w'.heap.size, 0, none⟩) (splitC c s.data.toList).length (splitC c s.data.toList).length) ∧ ∃ cs, w'' = w'.alloc (.cells cs 9) ∧ ∀ (k : Nat) (p : List UInt8), (splitC c s.data.toList)[k]? = some p → cs[k]? = some (.string ⟨p.toArray⟩)
theorem EnvR.on {B : Nat} {w w1 : World} (h : EnvR B w) (hb : Below B w w1) : EnvR B w1 where
  env := h.env.on hb
  num := fun w' hb' => h.num w' (hb.trans hb')
  cut := fun w' hb' => h.cut w' (hb.trans hb')
  spl := fun w' hb' => h.spl w' (hb.trans hb')
theorem EnvR.more {B B' : Nat} {w : World} (h : EnvR B w) (hB : B ≤ B') : EnvR B' w where
  env := env_more h.env hB
  num := fun w' hb' => h.num w' (hb'.mono hB)
  cut := fun w' hb' => h.cut w' (hb'.mono hB)
  spl := fun w' hb' => h.spl w' (hb'.mono hB)
theorem in2_val (n a b : Int) (w : World) (r : Bool) (h : inB n a b = r) : Calls Tryd.prog 28 #[.int .i64 n, .int .i64 a, .int .i64 b] w (RetQ (.bool r) w) := h ▸ in2_any n a b w

set_option maxHeartbeats 1000000 in
theorem number2_any (s : ByteArray) (lo hi : Int) (w : World) (hs : s.size ≤ 65536) (hl : -9223372036854775808 ≤ lo) (hh : hi ≤ 9223372036854775807) (hE : EnvR w.heap.size w) :
    Calls Tryd.prog 23 #[.string s, .int .i64 lo, .int .i64 hi] w (RetB (.tuple #[.int .i64 ((numOf lo hi s.data.toList).getD 0), .bool (numOf lo hi s.data.toList).isSome]) w) := by
  have E := Lib.hid hE
  clear hE
  go_enter Tryd.func23, Tryd.ntmps23
  go_wp2_with (fail)
  refine (E.out.num w (Below.refl _ _) s hs).mono ?_
  rintro e w1 ⟨n, ev, rfl, n1, n2, hev, hm, hb1⟩
  have HB := Lib.hid hb1
  clear hb1
  rcases hev with rfl | ⟨t, p, rfl⟩
  · have HU : Hid (∀ q, inB q lo hi = true → itoa q = s.data.toList → n = q) := Lib.hid (fun q hq e => by
      rw [inB_iff] at hq
      exact (hm q (by omega) (by omega) e).2)
    clear hm
    go_wp2_with (fail)
    refine (decimal_any w.heap.size n _ (E.out.env.on HB.out) n1 n2).mono ?_
    rintro e w2 ⟨rfl, hb2⟩
    have hbb := HB.out.trans (hb2.mono HB.out.size)
    clear hb2
    by_cases heq : itoa n = s.data.toList
    · have hs1 : (itoa n == s.toList) = true := by rw [ByteArray.toList_eq, heq]; simp
      have HEQ := Lib.hid heq
      clear heq
      go_wp2_with (fail)
      cases hin : inB n lo hi with
      | false =>
        refine (in2_val n lo hi _ false hin).mono ?_
        rintro e w3 ⟨rfl, m3, rfl⟩
        have HN : Hid (numOf lo hi s.data.toList = none) := Lib.hid (numOf_no HU.out (by rw [hin]; simp))
        clear hin
        go_wp2
        go_ret2
        exact ⟨by rw [HN.out]; rfl, below_drewN hbb m3⟩
      | true =>
        refine (in2_val n lo hi _ true hin).mono ?_
        rintro e w3 ⟨rfl, m3, rfl⟩
        have HN : Hid (numOf lo hi s.data.toList = some n) := Lib.hid (numOf_yes HU.out hin HEQ.out)
        clear hin
        go_wp2
        go_ret2
        exact ⟨by rw [HN.out]; rfl, below_drewN hbb m3⟩
    · have hs1 : (itoa n == s.toList) = false := by rw [ByteArray.toList_eq]; simpa using heq
      have HN : Hid (numOf lo hi s.data.toList = none) := Lib.hid (numOf_no HU.out (fun h => heq h.2))
      clear heq
      go_wp2
      go_ret2
      exact ⟨by rw [HN.out]; rfl, hbb⟩
  · have HN : Hid (numOf lo hi s.data.toList = none) := Lib.hid (inv_never (fun q hq e => by
      rw [inB_iff] at hq
      cases (hm q (by omega) (by omega) e).1))
    clear hm
    go_wp2
    go_ret2
    exact ⟨by rw [HN.out]; rfl, HB.out⟩

/-- The program's numbers of a text. -/
noncomputable def decs (lo hi : Int) (l : List UInt8) : List Int := if l = [] then [] else if (splitC 44 l).length ≤ 101 then (numL lo hi (splitC 44 l)).getD [] else []
def DecsPost (zs : List Int) (w : World) (e : Ending) (w' : World) : Prop := ∃ v ok, e = .returned (.tuple #[v, .bool ok]) ∧ OwnL intCells zs w.heap.size w' v ∧ Below w.heap.size w w'
theorem splitC_cnt (c : UInt8) : ∀ l : List UInt8, (splitC c l).length ≤ l.length + 1
  | [] => Nat.le_refl _
  | x :: l => by
    have ih := splitC_cnt c l
    unfold splitC
    split
    · simp; omega
    · split
      · rename_i h; rw [h] at ih; simp at ih ⊢; omega
      · simp

end Go.Proofs.YtmgdodgofpapgaaDoor
