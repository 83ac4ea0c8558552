/- Both readers of a deed: for every text. -/
import Derived.Test.YthlfpiflegfoiaaGreatDoorRHv
import Derived.Test.YthlfpiflegfoiaaGreatDoorRHn
import Derived.Test.YthlfpiflegfoiaaGreatDoorRHp
import Derived.Test.YthlfpiflegfoiaaGreatDoorRJv
namespace Go.Proofs.YthlfpiflegfoiaaGreatDoor
open Go.RowKit Go.Lib

def ReadsD (f : FuncId) : Prop := ∀ (s : ByteArray) (W : World), s.size ≤ 1048576 → EnvR W.heap.size W → Calls Tryz.prog f #[.string s] W (DeedPost s.data.toList W)
theorem readDeed1_any (s : ByteArray) (w : World) (hs : s.size ≤ 1048576) : Calls Tryz.prog 33 #[.string s] w (DeedPost s.data.toList w) := by
  by_cases h1 : (cutL 32 s.data.toList).1 = [116, 114, 117, 115, 116]
  · exact readDeed1_trust s w hs h1
  · by_cases h2 : (cutL 32 s.data.toList).1 = [118, 111, 116, 101]
    · exact readDeed1_vote s w hs h2
    · by_cases h3 : (cutL 32 s.data.toList).1 = [112, 114, 111, 112, 111, 115, 101]
      · exact readDeed1_propose s w hs h3
      · by_cases h4 : (cutL 32 s.data.toList).1 = [110, 101, 120, 116]
        · exact readDeed1_next s w hs h4
        · exact readDeed1_none s w hs h1 h2 h3 h4
theorem reads2 : ReadsD 38 := by
  intro s w hs hE
  by_cases h : (splitNC 32 6 s.data.toList).getD 0 [] = [118, 111, 116, 101] ∧ (splitNC 32 6 s.data.toList).length = 4
  · exact readDeed2_vote s w hs hE h
  · exact readDeed2_most s w hs hE h
end Go.Proofs.YthlfpiflegfoiaaGreatDoor
