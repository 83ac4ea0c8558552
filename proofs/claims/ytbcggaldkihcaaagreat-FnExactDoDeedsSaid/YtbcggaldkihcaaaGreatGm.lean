/- Deeds done one after the other, plain; the reference's walk. -/
import Derived.Test.YtbcggaldkihcaaaGreatZr
import Derived.Test.YtbcggaldkihcaaaGreatHw
set_option maxHeartbeats 4000000
set_option maxRecDepth 100000
namespace Go.Proofs.YtbcggaldkihcaaaGreat
open Tryz
open Go.RowKit Go.Lib
noncomputable def amF:cp->List dr->cp×Nat
 |a,[]=>(a,0)
 |a,d::ds=>match mW a d with
  |none=>(a,0)
  |some c=>((amF c ds).1,(amF c ds).2+1)
theorem anq {a:cp} {d:dr} {ds:List dr} (h:mW a d=none):amF a (d::ds)=(a,0):=by
 unfold amF;rw[h]
theorem anr {a c:cp} {d:dr} {ds:List dr} (h:mW a d=some c):amF a (d::ds)=((amF c ds).1,(amF c ds).2+1):=by
 rw[amF];rw[h]
theorem am4: ∀(ds:List dr) {a:cp},dJ a->(∀d∈ds,cA d=true)->dJ (amF a ds).1
 |[],_,h,_=>h
 |d::ds,a,h,cy=>by
  cases hd:mW a d with
  |none=>rw[anq hd];exact h
  |some c=>rw[anr hd];exact am4 ds (L0 h (cy d aaA) hd) (λe he=>cy e (aaR _ he))
def amI (a:cp) (ds:List dr) (c:cp) (k:Nat):Prop:=amF a ds=((amF c (ds.drop k)).1,k+(amF c (ds.drop k)).2)
theorem amI.init (a:cp) (ds:List dr):amI a ds a 0:=by
 unfold amI;rw[List.drop_zero,aan]
theorem ans {α:Type} {l:List α} {k:Nat} {x:α} (h:l[k]?=some x):l.drop k=x::l.drop (k+1):=by
 obtain ⟨h1,h2⟩:=aal.1 h;rw[abu h1,h2]
theorem amI.no {a c:cp} {ds:List dr} {k:Nat} {d:dr} (h:amI a ds c k) (hk:ds[k]?=some d) (hd:mW c d=none):amF a ds=(c,k):=by
 unfold amI at h;rw[h,ans hk,anq hd];rfl
theorem amI.go {a c b:cp} {ds:List dr} {k:Nat} {d:dr} (h:amI a ds c k) (hk:ds[k]?=some d) (hd:mW c d=some b):amI a ds b (k+1):=by
 unfold amI at h⊢;rw[h,ans hk,anr hd];show (_,k+(_+1))=(_,k+1+_)
 rw[show k+((amF b (ds.drop (k+1))).2+1)=k+1+(amF b (ds.drop (k+1))).2 by omega]
theorem amI.fin {a c:cp} {ds:List dr} (h:amI a ds c ds.length):amF a ds=(c,ds.length):=by
 unfold amI at h;rw[h,List.drop_length];rfl
def anT (a:cp) (ds:List dr) (base ba:Nat) (w:World) (e:Ending) (w':World):Prop:=
 e= .returned (.int .i64 ((amF a ds).2:Nat))/\(∃x T C M,ck base ba w' x (amF a ds).1 T C M)/\Below base w w'
theorem anC (a:cp) (ds:List dr) (x:cS) (T:List bR) (C:List bu) (M:List bH) (base ba:Nat) (A:Option Addr) (n c:Nat) (w:World) (hB:ck base ba w x a T C M) (hF:dJ a) (cy: ∀d∈ds,cA d=true) (hD:ve w base (.slice A n c) ds):
 Calls prog 65 #[.pointer (some ⟨ba,0,none⟩),.slice A n c] w (anT a ds base ba w):=by
 obtain ⟨hn,hc,hm⟩:=fB hD;have Mq:n<=9223372036854775807:=by omega
 subst hn;have HD:=I hD;have ii:=I cy;have jT:=I hB;have BE:=I hF;clear hB hF cy hD;go_enter func65,ntmps65;go_wp2;go_loopw [5] (λi wr=> ∃(k:Nat) (x:cS) (c:cp) (T:List bR) (C:List bu) (M:List bH),k<=ds.length/\i= .int .i64 (k:Int)/\ck base ba wr x c T C M/\dJ c/\amI a ds c k/\Below base w wr) (λi _=>ds.length-(intOf i).toNat);case atStart=>exact ⟨0,x,a,T,C,M,aaf _,rfl,jT.o,BE.o,amI.init a ds,aae _ _⟩
 case round=>
  obtain ⟨k,x,c,T,C,M,hk,rfl,hB,hF,hr,hb⟩:=hrel;have HB:=I hB;have HF:=I hF;have HR:=I hr;have Rv:=I hb;clear hB hF hr hb;by_cases aI:k<ds.length
  ·have aH:ds[k]?=some ds[k]:=aag aI;have U3:=cz.on HD.o amA.stays Rv.o (show base<=wr.heap.size by have:=HB.o.bb;have:=HB.o.lt;omega);obtain ⟨b,off,A1,c1,A2,c2,rfl,hb,hP⟩:=amE U3 aH;have HG:=I aH;have HO:=I (ii.o _ (aax aI));clear aH U3;generalize ds[k]=d at*;have Fh:=I (Kx c d x T C M base ba b (off+k*9) A1 c1 A2 c2 wr HB.o HF.o HO.o hP);have hY:=I (λh=>HR.o.no HG.o h);have uB:=I (λb h=>And.intro (HR.o.go (b:=b) HG.o h) (L0 HF.o HO.o h));clear hP;generalize mW c d=o at*;unfold Qd at Fh;go_wp2_with (fail);refine Fh.o.mono ?_;rintro e w1 ⟨rfl,⟨x1,T1,ajx,aiJ,zb⟩,bw⟩;have da:=I zb;have anU:=I (Rv.o.trans bw);clear zb bw;cases o with
   |none=>
    have h0:=I (hY.o rfl);go_wp2;go_ret;exact ⟨by rw[h0.o];rfl,⟨x1,T1,ajx,aiJ,by rw[h0.o];exact da.o⟩,anU.o⟩
   |some c2=>
    have h0:=I (uB.o c2 rfl);go_wp2;go_roundw;case rel=>exact ⟨k+1,x1,c2,T1,ajx,aiJ,by omega,by go_num,da.o,h0.o.2,h0.o.1,anU.o⟩
    case measure=>simp[intOf];omega
  have eA: ¬(k:Int)<(ds.length:Int):=by omega
  obtain rfl:k=ds.length:=by omega
  have h0:=I HR.o.fin;go_wp2;go_ret;exact ⟨by rw[h0.o];rfl,⟨x,T,C,M,by rw[h0.o];exact HB.o⟩,Rv.o⟩
end Go.Proofs.YtbcggaldkihcaaaGreat
