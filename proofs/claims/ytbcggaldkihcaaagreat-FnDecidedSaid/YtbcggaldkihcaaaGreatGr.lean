/- FnDecided, walked. -/
import Derived.Test.YtbcggaldkihcaaaGreatGh
set_option maxHeartbeats 16000000
set_option maxRecDepth 100000
namespace Go.Proofs.YtbcggaldkihcaaaGreat
open Tryz
open Go.RowKit Go.Lib
def ajM:dr:=⟨4,0,[],⟨#[]⟩,0,[],0,0,0⟩
theorem ajL {a:cp} (h:dJ a) (hd:a.day<999):(pz a).day=a.day+1/\(pz a).ao.length=a.ao.length/\dJ (pz a):=by
 have hi:=uQ h a.ao.length (aad _);exact ⟨hi.day,hi.len,L0 h ahV (zR rfl hd)⟩
theorem ajO {a:cp} (hF:dJ a) (hd:a.day<999) (x:cS) (w:World) (hR:jv w w.heap.size x a):
 Calls prog 18 #[eu a x,.agg #[.int .i64 4,.int .i64 0,.slice none 0 0,.string ⟨#[]⟩,.int .i64 0,.slice none 0 0,.int .i64 0,.int .i64 0,.int .i64 0]] w (aiZ (pz a) w):=by
 have h:=Cz a ajM x none 0 none 0 w hR hF.sz (cz.nil _ _ _ _ _ _ (aaf _)) (cz.nil _ _ _ _ _ _ (aaf _)) (λe he=>by cases he) (by show (⟨#[]⟩:ByteArray).size<=maxLen;decide);unfold Nh at h;have e:=aia hF hd;unfold ajM at h;rw[e]at h;exact h
def ajU (w:World) (e:Ending) (w':World):Prop:= ∃x,e= .returned (.tuple #[eu kS x,.bool false])/\Tt x/\Below w.heap.size w w'
theorem ajP {a:cp} (hF:dJ a) (hd: ¬a.day<999) (x:cS) (w:World) (hR:jv w w.heap.size x a):
 Calls prog 18 #[eu a x,.agg #[.int .i64 4,.int .i64 0,.slice none 0 0,.string ⟨#[]⟩,.int .i64 0,.slice none 0 0,.int .i64 0,.int .i64 0,.int .i64 0]] w (ajU w):=by
 have h:=Cz a ajM x none 0 none 0 w hR hF.sz (cz.nil _ _ _ _ _ _ (aaf _)) (cz.nil _ _ _ _ _ _ (aaf _)) (λe he=>by cases he) (by show (⟨#[]⟩:ByteArray).size<=maxLen;decide);unfold Nh at h;have e:=aib hF hd;unfold ajM at h;rw[e]at h;exact h.mono λe w' ⟨x,T,C,M,he,hf,_,hb⟩=>⟨x,he,hf,hb⟩
theorem ajN (L:List Int) (w:World) (v1 v2:Value) (h1:Ints w w.heap.size v1 L) (h2:Ints w w.heap.size v2 L):Calls prog 19 #[v1,v2] w (bT (.bool true) w):=
 (aeV L L w v1 v2 h1 h2).mono λe w' ⟨r,he,hr,hb⟩=>⟨by rw[he,hr.2 rfl],hb⟩
theorem ajR (A1:Option Addr) (n1 c1:Nat) (A2:Option Addr) (n2 c2:Nat) (w:World) (Ky:za w w.heap.size A1 n1) (O2:za w w.heap.size A2 n2):
 Calls prog 4 #[.slice A1 n1 c1,.slice A2 n2 c2] w (bT (.bool true) w):=by
 by_cases hl:n1<=1048576/\n2<=1048576
 ·have HL:=I (ahg A1 n1 c1 A2 n2 c2 w hl.1 hl.2);have HS:=I (λm=>ail A1 n1 c1 (w.drewN m) Ky);have zC:=I O2;clear hl Ky O2;go_enter func4,ntmps4;go_wp2_with (fail);refine (HL.o).mono ?_;rintro e w1 ⟨rfl,m1,rfl⟩;go_wp2_with (fail);refine (HS.o m1).mono ?_;rintro e w2 ⟨x,a,T,C,M,rfl,-,cr,z',hb⟩;obtain ⟨At,ct,Ab,cb,Ac,cc,Am,cm,rfl⟩:=cr.o.r.slices;unfold eu;go_upto_region 4 with (fail)
  obtain ⟨W,hW⟩: ∃X,X=w2.alloc (.cells #[.int .i64 a.day,.int .i64 a.rule,.slice At a.af.length ct,.slice Ab a.base.length cb,.slice Ac a.av.length cc,.slice Am a.ao.length cm] 29):=⟨_,rfl⟩
  have a1:Row W w2.heap.size [.int .i64 a.day,.int .i64 a.rule,.slice At a.af.length ct,.slice Ab a.base.length cb,.slice Ac a.av.length cc,.slice Am a.ao.length cm]:=by rw[hW];exact Row.new w2 _ _
  have b2:Below w2.heap.size w2 W:=by rw[hW];exact (aae _ _).alloc (aad _) _
  have sW:w2.heap.size<W.heap.size:=by rw[hW];simp
  rw[<-hW];have bw:Below w.heap.size w w2:=(below_drewN (aae w.heap.size w) m1).trans hb;have gf:ag (Below w.heap.size w W):=I (bw.trans (b2.mono bw.size));have F7:=cr.o.r.on b2 b2.size;have HR:=I (λy:ar W=>F7.on y.ok y.ok.size)
  have Ut:ag (0<a.ao.length-> ∃b off,Am=some ⟨b,off,none⟩/\b<W.heap.size/\ ∀(k:Nat) (m:gu),a.ao[k]?=some m-> ∃A1 c1 A2 c2,Bs W W.heap.size b (off+k*8) m A1 c1 A2 c2):=I (by
   obtain ⟨A,c,hv,_,_,h⟩:=fQ F7.m;have hv:Value.slice Am a.ao.length cm= .slice A a.ao.length c:=hv;injection hv with e1 e2 e3
   rw[e1];exact h)
  have eT:ag (za W W.heap.size A2 n2):=I (zC.o.on gf.o gf.o.size);have HF:=I z';have fv:=I a1;have Zy:=I sW;have h6:=z'.ok.m6;have fD:=z'.ok.n12;have kM:=z'.ok.n1;clear HL HS zC cr z' hb bw F7 a1 b2 sW hW;obtain ⟨nz,V7⟩: ∃n,n=w2.heap.size:=⟨_,rfl⟩
  rw[<-V7]at fv Zy⊢;clear V7;have z0:=λy:ar W=>(fv.o.below y.ok Zy.o).cell 0 _ rfl;have z1:=λy:ar W=>(fv.o.below y.ok Zy.o).cell 1 _ rfl;have z2:=λy:ar W=>(fv.o.below y.ok Zy.o).cell 2 _ rfl;have z3:=λy:ar W=>(fv.o.below y.ok Zy.o).cell 3 _ rfl;have z4:=λy:ar W=>(fv.o.below y.ok Zy.o).cell 4 _ rfl;have z5:=λy:ar W=>(fv.o.below y.ok Zy.o).cell 5 _ rfl;refine yY λx0=>?_;clear eT;have ZO:=HF.o.d0;by_cases sy:a.day<999
  ·have eA: ¬(999:Int)<=a.day:=by omega
   obtain ⟨f1,f2,f3⟩:=ajL HF.o sy;have iG:=I (λk m (h:a.ao[k]?=some m)=>ah' HF.o h);have LW:=I f3;have Fh:=I (λy:ar W=>ajO HF.o sy _ y.val (HR.o y));unfold aiZ eu at Fh;generalize pz a=N at*;have s1:IntKind.i64.wrap (a.day+1)=a.day+1:=by rw[IntKind.wrap_i64];omega
   clear f3;go_wp2_with (fail);refine (Fh.o x0).mono ?_;rintro e w1 ⟨xv,T5,C5,M5,rfl,-,Z6,hb⟩;obtain ⟨Et,et,Eb,eb,Ec,ec,Em,em,rfl⟩:=Z6.o.r.slices;go_upto_region 8 with (fail)
   obtain ⟨D,hD⟩: ∃X,X=w1.alloc (.cells #[.int .i64 N.day,.int .i64 N.rule,.slice Et N.af.length et,.slice Eb N.base.length eb,.slice Ec N.av.length ec,.slice Em N.ao.length em] 29):=⟨_,rfl⟩
   have b5:Below w1.heap.size w1 D:=by rw[hD];exact (aae _ _).alloc (aad _) _
   have r5:Row D w1.heap.size [.int .i64 N.day,.int .i64 N.rule,.slice Et N.af.length et,.slice Eb N.base.length eb,.slice Ec N.av.length ec,.slice Em N.ao.length em]:=by rw[hD];exact Row.new w1 _ _
   have s5:w1.heap.size<D.heap.size:=by rw[hD];simp
   have hD2:=hD;rw[f1,f2]at hD2;rw[<-hD2];clear hD2;have hRX:=Z6.o.r.on b5 b5.size;obtain ⟨u0,qo⟩: ∃y:ar W,y.val=D:=⟨⟨D,(x0.ok.trans (hb.mono x0.ok.size)).trans (b5.mono (aaB x0.ok.size hb.size))⟩,rfl⟩
   obtain ⟨nx,hnx⟩: ∃n,n=w1.heap.size:=⟨_,rfl⟩
   rw[<-hnx]at r5 s5⊢;have HXR:=I r5;have ajS:=I hRX;have ajT:=I (HR.o u0);have Pa:=I (fv.o.below u0.ok Zy.o);have Sf:=I (show nz<D.heap.size by rw[<-qo];exact aar Zy.o u0.ok.size);have HZ:=I (gf.o.trans (u0.ok.mono gf.o.size));rw[qo]at ajT Pa HZ;clear hD hb b5 r5 Z6 qo hnx hRX Fh u0 z0 z1 z2 z3 z4 z5 Ut HR fv Zy gf x0
   have HGX:ag (0<N.ao.length-> ∃b off,Em=some ⟨b,off,none⟩/\b<D.heap.size/\ ∀(k:Nat) (m:gu),N.ao[k]?=some m-> ∃A1 c1 A2 c2,Bs D D.heap.size b (off+k*8) m A1 c1 A2 c2):=I (by
    obtain ⟨A,c,hv,_,_,h⟩:=fQ ajS.o.m;have hv:Value.slice Em N.ao.length em= .slice A N.ao.length c:=hv;injection hv with e1 e2 e3
    rw[e1];exact h)
   have HGA:ag (0<a.ao.length-> ∃b off,Am=some ⟨b,off,none⟩/\b<D.heap.size/\ ∀(k:Nat) (m:gu),a.ao[k]?=some m-> ∃A1 c1 A2 c2,Bs D D.heap.size b (off+k*8) m A1 c1 A2 c2):=I (by
    obtain ⟨A,c,hv,_,_,h⟩:=fQ ajT.o.m;have hv:Value.slice Am a.ao.length cm= .slice A a.ao.length c:=hv;injection hv with e1 e2 e3
    rw[e1];exact h)
   rw[f2]at HGX HXR;rw[f1]at HXR;have HRA:=I (λy:ar D=>ajT.o.on y.ok y.ok.size);have dW:=I (λy:ar D=>Pa.o.below y.ok Sf.o);have HXZ:=I (λy:ar D=>HXR.o.below y.ok s5);have HVX:=I (λy:ar D=>Gt N Et et Eb eb Ec ec Em em y.val (ajS.o.on y.ok y.ok.size) LW.o.sz);rw[LW.o.fI,f1,f2]at HVX;refine yY λy0=>?_;have z0:=λy:ar D=>(dW.o y).cell 0 _ rfl;have z5:=λy:ar D=>(dW.o y).cell 5 _ rfl;have v0:=λy:ar D=>(HXZ.o y).cell 0 _ rfl;have v1:=λy:ar D=>(HXZ.o y).cell 1 _ rfl;have v2:=λy:ar D=>(HXZ.o y).cell 2 _ rfl;have v3:=λy:ar D=>(HXZ.o y).cell 3 _ rfl;have v4:=λy:ar D=>(HXZ.o y).cell 4 _ rfl;have v5:=λy:ar D=>(HXZ.o y).cell 5 _ rfl;go_wp2_with (fail);refine (aq (HVX.o y0)).mono ?_;rintro e _ ⟨rfl,y1,rfl⟩;go_upto_region 11 with (fail)
   clear v1 v2 v3 v4 HVX ajS;go_wp2;go_loopw [10,11,12,13,14] (λajF i _ _ _ wr=> ∃(k:Nat) (f:Bool) (y:ar D),k<=a.ao.length/\i= .int .i64 (k:Int)/\ajF= .bool f/\(f=true-> ∀j q,j<k->a.ao[j]?=some q->q.aj≠a.day+1)/\wr=y.val) (λ_ i _ _ _ _=>a.ao.length-(intOf i).toNat);case atStart=>exact ⟨0,true,y1,aaf _,rfl,rfl,λ_ j q hj=>absurd hj (aa' _),rfl⟩
   case round=>
    obtain ⟨k,f,y,hk,rfl,rfl,hf,rfl⟩:=hrel;have V8:=I hf;clear hf;by_cases aI:k<a.ao.length
    ·have aH:a.ao[k]?=some a.ao[k]:=aag aI;obtain ⟨b2,off,rfl,cL,aC⟩:=HGA.o (by omega);obtain ⟨aiJ,d1,aiK,d2,hP⟩:=aC k _ aH;obtain ⟨r,hgN,mU,mV⟩:=iG.o k _ aH;obtain ⟨b3,of3,rfl,dB,ajQ⟩:=HGX.o (by omega);obtain ⟨ajG,g1,ajH,g2,hPN⟩:=ajQ k _ hgN;generalize a.ao[k]=m at*;have t0:=y.cell hP.k0;have t1:=y.cell hP.k1;have t2:=y.cell hP.k2;have t3:=y.cell hP.k3;have t4:=y.cell hP.k4;have t5:=y.cell hP.k5;have t6:=y.cell hP.k6;have t7:=y.cell hP.k7;have n6: ∀y:ar D,y.val.cell? ⟨b3,of3+k*8+6,none⟩=some (.slice ajH m.ax.length g2):=λy=>y.cell hPN.k6;have n7: ∀y:ar D,y.val.cell? ⟨b3,of3+k*8+7,none⟩=some (.int .i64 r):=λy=>y.cell hPN.k7;have HIA:=I (λy:ar D=>cz.on hP.ints (Pl.stays _) y.ok y.ok.size);have tY:ag (∀y:ar D,Ints y.val y.val.heap.size (.slice ajH m.ax.length g2) m.ax):=I (λy=>cz.on hPN.ints (Pl.stays _) y.ok y.ok.size);have mB:=I mU;have gj:=I mV;have HK:=I aH;have jA:(0:Int)<=(k:Int):=by omega
     have Hl:(k:Int)<(a.ao.length:Int):=by omega
     clear aC ajQ hP hPN aH hgN mU mV;go_upto_region 15 with (fail)
     obtain ⟨V,hV⟩: ∃X,X=y.val.alloc (.cells #[.string m.al,.int .i64 m.br,.slice aiJ m.pat.length d1,.int .i64 m.a8,.int .i64 m.fin,.int .i64 m.aj,.slice aiK m.ax.length d2,.int .i64 m.result] 35):=⟨_,rfl⟩
     have ajI:Below y.val.heap.size y.val V:=by rw[hV];exact (aae _ _).alloc (aad _) _
     have ajJ:Row V y.val.heap.size [.string m.al,.int .i64 m.br,.slice aiJ m.pat.length d1,.int .i64 m.a8,.int .i64 m.fin,.int .i64 m.aj,.slice aiK m.ax.length d2,.int .i64 m.result]:=by rw[hV];exact Row.new _ _ _
     have ajK:y.val.heap.size<V.heap.size:=by rw[hV];simp
     rw[<-hV];have HDV:=I (y.ok.trans (ajI.mono y.ok.size):Below D.heap.size D V);obtain ⟨na,jy⟩: ∃n,n=y.val.heap.size:=⟨_,rfl⟩
     rw[<-jy]at ajJ ajK⊢;have G4:=I (λu:ar V=>ajJ.below u.ok ajK);have T1:ag (∀u:ar V,∃y:ar D,y.val=u.val):=I (λu=>⟨⟨u.val,HDV.o.trans (u.ok.mono HDV.o.size)⟩,rfl⟩);have HNU:=I (λu:ar V=>(by obtain ⟨y,hy⟩:=T1.o u;rw[<-hy];exact ajN m.ax y.val _ _ (HIA.o y) (tY.o y):Calls prog 19 #[.slice aiK m.ax.length d2,.slice ajH m.ax.length g2] u.val (bT (.bool true) u.val)));have p0:=λu:ar V=>(G4.o u).cell 0 _ rfl;have p5:=λu:ar V=>(G4.o u).cell 5 _ rfl;have p6:=λu:ar V=>(G4.o u).cell 6 _ rfl;have p7:=λu:ar V=>(G4.o u).cell 7 _ rfl;have o6: ∀u:ar V,u.val.cell? ⟨b3,of3+k*8+6,none⟩=some (.slice ajH m.ax.length g2):=λu=>by obtain ⟨y,hy⟩:=T1.o u;rw[<-hy];exact n6 y
     have o7: ∀u:ar V,u.val.cell? ⟨b3,of3+k*8+7,none⟩=some (.int .i64 r):=λu=>by obtain ⟨y,hy⟩:=T1.o u;rw[<-hy];exact n7 y
     have c0: ∀u:ar V,u.val.cell? ⟨nz,0,none⟩=some (.int .i64 a.day):=λu=>by obtain ⟨y,hy⟩:=T1.o u;rw[<-hy];exact z0 y
     have e0: ∀u:ar V,u.val.cell? ⟨nx,0,none⟩=some (.int .i64 (a.day+1)):=λu=>by obtain ⟨y,hy⟩:=T1.o u;rw[<-hy];exact v0 y
     have e5: ∀u:ar V,u.val.cell? ⟨nx,5,none⟩=some (.slice (some ⟨b3,of3,none⟩) a.ao.length em):=λu=>by obtain ⟨y,hy⟩:=T1.o u;rw[<-hy];exact v5 y
     clear hV ajI ajJ ajK jy t0 t1 t2 t3 t4 t5 t6 t7 n6 n7;refine yY λu0=>?_;refine ap (by kernel_rfl) (by kernel_rfl) ?_
     repeat (go_big_quiet_step ((first|(go_at_call 19;exact aq (HNU.o _)))))
     refine aai ?_;rintro _ ⟨u1,rfl⟩;go_upto_region 17 with (fail)
     by_cases hc:m.aj=a.day+1
     ·have pQ:(m.aj !=a.day+1)=false:=by simp[hc]
      obtain ⟨yd,An,hrv⟩:=gj.o hc;have P4:=I (λu:ar V=>(by obtain ⟨y,hy⟩:=T1.o u;rw[<-hy];exact ai2 HF.o HK.o An _ y.val (HRA.o y):Calls prog 20 #[eu a ⟨.slice At a.af.length ct,.slice Ab a.base.length cb,.slice Ac a.av.length cc,.slice (some ⟨b2,off,none⟩) a.ao.length cm⟩,.string m.al] u.val (bT (.tuple #[.int .i64 (lY a m m.ax),.bool true]) u.val)));unfold eu at P4;have c1: ∀u:ar V,u.val.cell? ⟨nz,1,none⟩=some (.int .i64 a.rule):=λu=>by obtain ⟨y,hy⟩:=T1.o u;rw[<-hy];exact (dW.o y).cell 1 _ rfl
      have c2: ∀u:ar V,u.val.cell? ⟨nz,2,none⟩=some (.slice At a.af.length ct):=λu=>by obtain ⟨y,hy⟩:=T1.o u;rw[<-hy];exact (dW.o y).cell 2 _ rfl
      have c3: ∀u:ar V,u.val.cell? ⟨nz,3,none⟩=some (.slice Ab a.base.length cb):=λu=>by obtain ⟨y,hy⟩:=T1.o u;rw[<-hy];exact (dW.o y).cell 3 _ rfl
      have c4: ∀u:ar V,u.val.cell? ⟨nz,4,none⟩=some (.slice Ac a.av.length cc):=λu=>by obtain ⟨y,hy⟩:=T1.o u;rw[<-hy];exact (dW.o y).cell 4 _ rfl
      have c5: ∀u:ar V,u.val.cell? ⟨nz,5,none⟩=some (.slice (some ⟨b2,off,none⟩) a.ao.length cm):=λu=>by obtain ⟨y,hy⟩:=T1.o u;rw[<-hy];exact (dW.o y).cell 5 _ rfl
      have hrb:(r==0)=false:=by simpa using yd
      have hfv:f=true->r=lY a m m.ax:=λh=>hrv (V8.o h);clear hrv yd;go_wp2_with (fail);refine (aq (P4.o u1)).mono ?_;rintro e _ ⟨rfl,u2,rfl⟩;clear c1 c2 c3 c4 c5 P4;generalize lY a m m.ax=vv at*;have HUX:=I (T1.o u2);cases f with
      |true=>
       have hvr:(vv !=r)=false:=by rw[hfv rfl];simp
       clear hfv;obtain ⟨y',hy'⟩:=HUX.o;go_wp2;go_roundw;case rel=>exact ⟨k+1,false,y',by omega,by go_num,rfl,λh=>(by cases h),hy'.symm⟩
       case measure=>simp[intOf];omega
      |false=>
       clear hfv;obtain ⟨y',hy'⟩:=HUX.o;go_wp2;go_roundw;case rel=>exact ⟨k+1,false,y',by omega,by go_num,rfl,λh=>(by cases h),hy'.symm⟩
       case measure=>simp[intOf];omega
     have pQ:(m.aj !=a.day+1)=true:=by simp[hc]
     have hr:=mB.o hc;have hrr:(r !=m.result)=false:=by simp[hr]
     have ajV:ag (f=true-> ∀j q,j<k+1->a.ao[j]?=some q->q.aj≠a.day+1):=I (λh j q hj hq=>by
      by_cases e:j=k
      ·subst e;rw[HK.o]at hq;injection hq with hq
       rw[<-hq];exact hc
      exact V8.o h j q (by omega) hq)
     clear hr;go_upto_region 18 with (fail)
     refine ap (by kernel_rfl) (by kernel_rfl) ?_
     repeat (go_big_quiet_step (fail))
     refine aai ?_;rintro _ ⟨u2,rfl⟩;have HUX:=I (T1.o u2);obtain ⟨y',hy'⟩:=HUX.o;go_wp2;go_roundw;case rel=>exact ⟨k+1,f,y',by omega,by go_num,rfl,ajV.o,hy'.symm⟩
     case measure=>simp[intOf];omega
    have ajW: ¬(k:Int)<(a.ao.length:Int):=by omega
    go_wp2;go_ret;exact ⟨rfl,HZ.o.trans (y.ok.mono HZ.o.size)⟩
  have eA:(999:Int)<=a.day:=by omega
  have Fh:=I (λy:ar W=>ajP HF.o sy _ y.val (HR.o y));unfold ajU eu at Fh;have HV:=I (λy:ar W=>Gt a At ct Ab cb Ac cc Am cm y.val (HR.o y) HF.o.sz);rw[HF.o.fI]at HV;go_wp2_with (fail);refine (Fh.o x0).mono ?_;rintro e w1 ⟨xv,rfl,⟨Et,f1,et,Eb,f2,eb,Ec,f3,ec,Em,f4,em,rfl⟩,hb⟩;obtain ⟨x1,rfl⟩: ∃y:ar W,w1=y.val:=⟨⟨w1,x0.ok.trans (hb.mono x0.ok.size)⟩,rfl⟩
  clear hb;go_upto_region 6 with (fail)
  refine yY λy0=>?_;obtain ⟨x2,hx2⟩: ∃y:ar W,y.val=y0.val:=⟨⟨y0.val,x1.ok.trans ((((aae _ _).alloc (aad _) _).trans (y0.ok.mono (by simp))).mono x1.ok.size)⟩,rfl⟩
  rw[<-hx2];clear hx2;go_wp2_with (fail);refine (aq (HV.o x2)).mono ?_;rintro e _ ⟨rfl,x3,rfl⟩;go_wp2;go_ret;exact ⟨rfl,gf.o.trans (x3.ok.mono gf.o.size)⟩
 have HL:=I (agL A1 n1 c1 A2 n2 c2 w hl);clear hl;go_enter func4,ntmps4;go_wp2_with (fail);refine (HL.o).mono ?_;rintro e w1 ⟨rfl,m1,rfl⟩;go_wp2;go_ret;exact ⟨rfl,below_drewN (aae _ _) m1⟩
end Go.Proofs.YtbcggaldkihcaaaGreat
