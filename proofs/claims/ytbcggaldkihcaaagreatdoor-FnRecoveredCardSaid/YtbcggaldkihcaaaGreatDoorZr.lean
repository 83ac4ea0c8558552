/- A deed done, both walked. -/
import Derived.Test.YtbcggaldkihcaaaGreatDoorZp
import Derived.Test.YtbcggaldkihcaaaGreatDoorQF
namespace Go.Proofs.YtbcggaldkihcaaaGreatDoor
open Tryz
open Go.RowKit Go.Lib
def kS:cp:=⟨0,0,[],[],[],[]⟩
noncomputable def wW (a:cp) (d:dr):Option cp:=if fI a=true/\cA d=true then mW a d else none
theorem dM.zero (n:Nat) (w:World):dM n w ⟨.slice none 0 0,.slice none 0 0,.slice none 0 0,.slice none 0 0⟩ kS [] [] []:=by
 have n1: ∀b,¬bN dX (.slice none 0 0) [] b:=λb hb=>by
  rcases hb with hb|⟨q,hq,_⟩
  ·exact hb.1 rfl
  cases hq
 have n2: ∀b,¬bN iw (.slice none 0 0) [] b:=λb hb=>by
  rcases hb with hb|⟨q,hq,_⟩
  ·exact hb.1 rfl
  cases hq
 have n3: ∀b,¬bN cw (.slice none 0 0) [] b:=λb hb=>by
  rcases hb with hb|⟨q,hq,_⟩
  ·exact hb.1 rfl
  cases hq
 exact ⟨⟨rfl,rfl,rfl,aR.nil _ _ _ _ _ (Nat.zero_le _),aR.nil _ _ _ _ _ (Nat.zero_le _),aR.nil _ _ _ _ _ (Nat.zero_le _),aR.nil _ _ _ _ _ (Nat.zero_le _),λb h=>(n1 b h).elim,λb h=>(n1 b h).elim,λb h=>(n1 b h).elim,λb h=>(n2 b h).elim,λb h=>(n2 b h).elim,λb h=>(n3 b h).elim⟩,World.ownsRow_nil _ _ _ _,λ_=>rfl⟩
def Nh (a:cp) (d:dr) (w:World) (e:Ending) (w':World):Prop:=
 ∃x T C M,e= .returned (.tuple #[eu ((wW a d).getD kS) x,.bool (wW a d).isSome])/\Tt x/\dM w.heap.size w' x ((wW a d).getD kS) T C M/\Below w.heap.size w w'
theorem Kx (a:cp) (d:dr) (x:cS) (T:List bR) (C:List bu) (M:List bH) (base ba bd So:Nat) (A1:Option Addr) (c1:Nat) (A2:Option Addr) (c2:Nat) (w:World) (hB:ck base ba w x a T C M) (hF:dJ a) (hd:cA d=true) (hD:fp w bd So d A1 c1 A2 c2):
 Calls prog 45 #[.pointer (some ⟨ba,0,none⟩),.pointer (some ⟨bd,So,none⟩)] w (Qd a (mW a d) base ba w):=by
 rcases tH hd with h|h|h|h
 ·exact Mc a d x T C M base ba bd So A1 c1 A2 c2 w hB hF hd hD h
 ·exact Me a d x T C M base ba bd So A1 c1 A2 c2 w hB hF hd hD h
 ·exact Mh a d x T C M base ba bd So A1 c1 A2 c2 w hB hF hd hD h
 exact Mb a d x T C M base ba bd So A1 c1 A2 c2 w hB hF hD h
theorem dJ.sizes {a:cp} (h:dJ a):a.base.length<=1048576/\(∀l∈a.af,l.length<=1048576)/\(∀m∈a.ao,m.pat.length<=1048576)/\(∀m∈a.ao,m.ax.length<=1048576)/\a.af.length<=1048576/\a.ao.length<=1048576:=by
 have ol:=h.ok.n12;have h6:=h.ok.m6;refine ⟨by have:=lz h.stat;omega,λl hl=>?_,λm hm=>?_,λm hm=>?_,by omega,by omega⟩
 ·obtain ⟨k,hk⟩:=List.getElem?_of_mem hl;have h:=h.ok.af k l hk;rw[fo,Bool.and_eq_true]at h;have:=of_decide_eq_true h.2;omega
 ·obtain ⟨k,hk⟩:=List.getElem?_of_mem hm;have:=eZ (gi.1 (h.ok.ao k m hk)).pat;omega
 obtain ⟨k,hk⟩:=List.getElem?_of_mem hm;have:=(gi.1 (h.ok.ao k m hk)).len;omega
end Go.Proofs.YtbcggaldkihcaaaGreatDoor
