/- What a deed done leaves is small. -/
import Derived.Test.YtbcggaldkihcaaaGreatZr
import Derived.Test.YtbcggaldkihcaaaGreatHl
namespace Go.Proofs.YtbcggaldkihcaaaGreat
open Tryz
open Go.RowKit Go.Lib
theorem amM {β:Type} {nx:Nat->β->Nat} {m:Nat}: ∀(L:List β) (k:Nat),(∀x∈L,∀k,nx k x<=k+m)->bs nx k L<=k+L.length*m
 |[],k,_=>by simp[bs]
 |x::L,k,h=>by
  have h1:=h x (by simp) k;have h2:=amM L (nx k x) (λy hy=>h y (by simp[hy]));rw[bs,List.length_cons,aaO];omega
structure anm (R:cp):Prop where
 t0:R.af.length<=12
 t: ∀l∈R.af,l.length<=4
 b0:R.base.length<=8
 c0:R.av.length<=8
 c: ∀x∈R.av,x.pat.length<=16
 m0:R.ao.length<=6
 m: ∀x∈R.ao,x.pat.length<=16/\x.ax.length<=12
theorem dJ.Tl {a:cp} (h:dJ a):anm a:=by
 have ol:=h.ok.n12;refine ⟨ol,λl hl=>?_,lz h.stat,eM h.av,λx hx=>?_,h.ok.m6,λm hm=>?_⟩
 ·obtain ⟨k,hk⟩:=aa2 hl;have h:=h.ok.af k l hk;rw[fo,aay]at h;have:=aa3 h.2;omega
 ·obtain ⟨k,hk⟩:=aa2 hx;exact eZ (ep.1 (fj h.av hk)).pat
 obtain ⟨k,hk⟩:=aa2 hm;have h1:=eZ (gi.1 (h.ok.ao k m hk)).pat;have h2:=(gi.1 (h.ok.ao k m hk)).len;omega
theorem anm.zero:anm kS:=by
 refine ⟨?_,?_,?_,?_,?_,?_,?_⟩<;>simp[kS]
theorem anm.marks {R:cp} (h:anm R) {T:List bR} {C:List bu} {M:List bH} (ht:T.map bR.a=R.af) (hc:C.map bu.a=R.av) (hm:M.map bH.a=R.ao):rX T R.base C M/\tq 1 R T C M<=1048576/\T.length<=12/\C.length<=8/\M.length<=6:=by
 have l1:T.length<=12:=by have:=h.t0;rw[<-ht,aap]at this;exact this
 have l3:C.length<=8:=by have:=h.c0;rw[<-hc,aap]at this;exact this
 have l4:M.length<=6:=by have:=h.m0;rw[<-hm,aap]at this;exact this
 have l2:=h.b0;have e1: ∀x∈T,x.a.length<=4:=λx hx=>h.t _ (by rw[<-ht];exact abV hx);have e3: ∀x∈C,x.a.pat.length<=16:=λx hx=>h.c _ (by rw[<-hc];exact abV hx);have e4: ∀x∈M,x.a.pat.length<=16/\x.a.ax.length<=12:=λx hx=>h.m _ (by rw[<-hm];exact abV hx);refine ⟨⟨by omega,λx hx=>by have:=e1 x hx;omega,by omega,by omega,λx hx=>by have:=e3 x hx;omega,by omega,λx hx=>by have:=e4 x hx;omega⟩,?_,l1,l3,l4⟩;have g1:=amM (nx:=cH) (m:=4) T 1 (λx hx k=>by have:=e1 x hx;unfold cH;omega);have g2:=amM (nx:=dx) (m:=2) R.base (bs cH 1 T) (λx hx k=>by unfold dx;omega);have g3:=amM (nx:=dQ) (m:=66) C (bs dx (bs cH 1 T) R.base) (λx hx k=>by have:=e3 x hx;unfold dQ;omega);have g4:=amM (nx:=eR) (m:=82) M (bs dQ (bs dx (bs cH 1 T) R.base) C) (λx hx k=>by have:=e4 x hx;unfold eR;omega);have m1:T.length*4<=48:=by omega
 have m2:R.base.length*2<=16:=by omega
 have m3:C.length*66<=528:=by omega
 have m4:M.length*82<=492:=by omega
 unfold tq;omega
end Go.Proofs.YtbcggaldkihcaaaGreat
