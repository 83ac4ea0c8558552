/- Choices among numbers and names, walked: the reference's. -/
import Derived.Test.YtbcggaldkihcaaaGreatDoorGc
import Derived.Test.YtbcggaldkihcaaaGreatDoorQD
namespace Go.Proofs.YtbcggaldkihcaaaGreatDoor
open Tryz
open Go.RowKit Go.Lib
def qx (p:Int->Prop) (B:Nat) (w:World) (b k:Nat) (e:Ending) (w':World):Prop:=
 ∃x:Int,p x/\e= .returned (.int .i64 x)/\Src B w' b k/\iJ b w w'
theorem rb (p:Int->Prop) (w:World) (t:TypeId) (L:List Int) (hL: ∀x∈L,p x) (j:Nat) (hj:j<L.length): ∃x:Int,p x/\(w.alloc (.cells (L.map (λx=>Value.int .i64 x)).toArray t)).cell? ⟨w.heap.size,j,none⟩=some (.int .i64 x):=by
 refine ⟨L[j],hL _ (List.getElem_mem hj),?_⟩;have:=(Row.new w (L.map (λx=>Value.int .i64 x)).toArray t).cell j (.int .i64 L[j]) (by simp[List.getElem?_eq_getElem hj]);exact this
theorem sE (p:Int->Prop) (B b k g n c:Nat) (w:World) (h:Src B w b k) (hk:k<=58000) (hn:1<=n) (N5:n<=60000) (hg:g<w.heap.size) (qp:g≠b)
 (hc: ∀j,j<n-> ∃x:Int,p x/\w.cell? ⟨g,j,none⟩=some (.int .i64 x)):
 Calls prog 39 #[.pointer (some ⟨b,0,none⟩),.slice (some ⟨g,0,none⟩) n c] w (qx p B w b (k+2)):=by
 have H:=I h;have HC:=I hc;clear h hc;go_enter func39,ntmps39;go_wp2_with (fail);refine (tX B b k n w H.o (by omega) (by omega) (by omega)).mono ?_;rintro e w1 ⟨x,hx,rfl,hs,ho⟩;have hH:=I hs;have Ih:x<n:=by omega
 obtain ⟨l,hp,hl⟩:=HC.o x Ih;have HP:=I hp;have x0:w1.cell? ⟨g,x,none⟩=some (.int .i64 l):=(qy ho g x hg qp).1.trans hl;have HO:=I ho;clear hs hl ho hp;go_wp2;go_ret;exact ⟨l,HP.o,rfl,hH.o,HO.o⟩
def qa (l:List UInt8):Prop:=l.length<=24
theorem qb (B b k:Nat) (w:World) (h:Src B w b k) (hk:k<=50000):
 Calls prog 68 #[.pointer (some ⟨b,0,none⟩)] w (adg qa B w b (k+4)):=by
 have H:=I h;have HB:=I h.lt.1;clear h;go_enter func68,ntmps68;go_wp2_with (fail);refine (jb B b k 10 w H.o (by omega) (by omega) (by omega)).mono ?_;rintro e w1 ⟨x,rfl,CB,tU⟩;have tN:=I CB;have jh:=I tU;clear CB tU;cases x with
 |true=>
  go_wp2_with (fail);refine (aep qa B b _ w1.heap.size 9 9 _ (tN.o.alloc _) (by omega) (by omega) (by omega) (by simp) (by have:=tN.o.lt.1;omega) (ahd qa w1 9 [[],[65],[97,49],[97,98,99,100,101,102,103,104,105,106],[97,98,99,100,101,102,103,104,105,106,107],[97,32,98],[45],[123],[96]] (by unfold qa;decide))).mono ?_;rintro e w2 ⟨l,hp,rfl,hs,ho⟩;have HS:=I hs;have HO:=I (ll jh.o (ll (m5 ((Below.refl w1.heap.size w1).alloc (Nat.le_refl _) _)) ho));have HP:=I hp;clear hs ho hp;go_wp2;go_ret;exact ⟨l,HP.o,rfl,HS.o,HO.o⟩
 |false=>
  go_wp2_with (fail);refine (aep qa B b _ w1.heap.size 10 10 _ (tN.o.alloc _) (by omega) (by omega) (by omega) (by simp) (by have:=tN.o.lt.1;omega) (ahd qa w1 9 [[97],[98],[97,110,110],[98,111,98],[99,121],[100,111,114,97],[101,118,101],[112,97,114,107],[114,111,97,100],[116,97,120]] (by unfold qa;decide))).mono ?_;rintro e w2 ⟨l,hp,rfl,hs,ho⟩;have HS:=I hs;have HO:=I (ll jh.o (ll (m5 ((Below.refl w1.heap.size w1).alloc (Nat.le_refl _) _)) ho));have HP:=I hp;clear hs ho hp;go_wp2;go_ret;exact ⟨l,HP.o,rfl,HS.o,HO.o⟩
end Go.Proofs.YtbcggaldkihcaaaGreatDoor
