/- What the library's functions do, and numbers as texts. -/
import Derived.Test.YthlfpiflegfoiaaGreatDoorInB
import Derived.Test.YthlfpiflegfoiaaGreatDoorDec
import Derived.Test.YthlfpiflegfoiaaGreatDoorShelf
import Derived.Lib.AppendIntMem
import Derived.Lib.AtoiErrMem
namespace Go.Proofs.YthlfpiflegfoiaaGreatDoor
open Go.RowKit Go.Lib

/-- A text in which each new line is a semicolon. -/
def semis (l : List UInt8) : List UInt8 := l.map fun c => if c = 10 then 59 else c

/-- What the library's functions do in every world that is as w below B. -/
structure Env (B : Nat) (w : World) : Prop where
  dec : ∀ w', Below B w w' → ∀ n : Int, -9223372036854775808 ≤ n → n ≤ 9223372036854775807 →
    Calls Tryz.prog 48 #[.int .i64 n, .int .i64 10] w' (RetB (.string ⟨(itoa n).toArray⟩) w')
  rep : ∀ w', Below B w w' → ∀ l : List UInt8, l.length ≤ 65536 → Calls Tryz.prog 46 #[.string ⟨l.toArray⟩, .string ⟨#[10]⟩, .string ⟨#[59]⟩] w' (RetB (.string ⟨(semis l).toArray⟩) w')

theorem Env.on {B : Nat} {w w1 : World} (h : Env B w) (hb : Below B w w1) : Env B w1 where
  dec := fun w' hb' => h.dec w' (hb.trans hb')
  rep := fun w' hb' => h.rep w' (hb.trans hb')
theorem env_more {B B' : Nat} {w : World} (h : Env B w) (hB : B ≤ B') : Env B' w where
  dec := fun w' hb => h.dec w' (hb.mono hB)
  rep := fun w' hb => h.rep w' (hb.mono hB)

set_option maxHeartbeats 400000 in
theorem decimal_any (B : Nat) (n : Int) (w : World) (hE : Env B w) (h1 : -9223372036854775808 ≤ n) (h2 : n ≤ 9223372036854775807) :
    Calls Tryz.prog 30 #[.int .i64 n] w (RetB (.string ⟨(itoa n).toArray⟩) w) := by
  have H := hE.dec w (Below.refl _ _) n h1 h2
  have H := Lib.hid H
  clear hE
  go_enter Tryz.func30, Tryz.ntmps30
  go_wp2_with (fail)
  refine (H.out).mono ?_
  rintro e w1 ⟨rfl, hb⟩
  go_wp2
  go_ret
  exact ⟨rfl, hb⟩

theorem mk_toList (b : ByteArray) : (⟨b.toList.toArray⟩ : ByteArray) = b := by
  apply ByteArray.ext
  rw [ByteArray.toList_eq]
theorem cat_ll {P : Program} (l r : List UInt8) (hl : l.length ≤ 8388608) (hr : r.length ≤ 8388608) (w : World) : (Op.stringOp .add ⟨l.toArray⟩ ⟨r.toArray⟩).run P w = .ok (.string ⟨(l ++ r).toArray⟩) w :=
  run_string_add_lists w l r (by omega) (by omega)
theorem cat_lb {P : Program} (l : List UInt8) (b : ByteArray) (hl : l.length ≤ 8388608) (hr : b.toList.length ≤ 8388608) (w : World) : (Op.stringOp .add ⟨l.toArray⟩ b).run P w = .ok (.string ⟨(l ++ b.toList).toArray⟩) w := by
  have := run_string_add_lists (P := P) w l b.toList (by omega) (by omega)
  rwa [mk_toList] at this
theorem cat_llt {P : Program} (l r t : List UInt8) (h : l ++ r = t) (hl : l.length ≤ 8388608) (hr : r.length ≤ 8388608) (w : World) : (Op.stringOp .add ⟨l.toArray⟩ ⟨r.toArray⟩).run P w = .ok (.string ⟨t.toArray⟩) w :=
  h ▸ cat_ll l r hl hr w
theorem cat_lbt {P : Program} (l : List UInt8) (b : ByteArray) (t : List UInt8) (h : l ++ b.toList = t) (hl : l.length ≤ 8388608) (hr : b.toList.length ≤ 8388608) (w : World) : (Op.stringOp .add ⟨l.toArray⟩ b).run P w = .ok (.string ⟨t.toArray⟩) w :=
  h ▸ cat_lb l b hl hr w

end Go.Proofs.YthlfpiflegfoiaaGreatDoor
