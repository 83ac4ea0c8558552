/- FnFaithful, walked. -/
import Derived.Test.YtbcggaldkihcaaaGreatGh
set_option maxHeartbeats 16000000
set_option maxRecDepth 100000
namespace Go.Proofs.YtbcggaldkihcaaaGreat
open Tryz
open Go.RowKit Go.Lib
theorem ajC {p0 p1 p2 p3:Int} {n:Nat} (h0:0<=p0) (h1:0<=p1) (h2:0<=p2) (h3:0<=p3) (hs:p0+p1+p2+p3=(n:Int)) (hn:n<=12):IntKind.i64.wrap (p0+p1)=p0+p1/\IntKind.i64.wrap (p0+p1+p2)=p0+p1+p2/\IntKind.i64.wrap (p0+p1+p2+p3)=(n:Int):=by
 refine ⟨?_,?_,?_⟩<;>rw[IntKind.wrap_i64]<;>omega
theorem ajB (a:cp) (vs:List Int) (j:Nat):0<=(cO a vs).getD j 0:=(eY _ _ j).1
theorem ajD (A1:Option Addr) (n1 c1:Nat) (A2:Option Addr) (n2 c2:Nat) (w:World) (Ky:za w w.heap.size A1 n1) (O2:za w w.heap.size A2 n2):
 Calls prog 5 #[.slice A1 n1 c1,.slice A2 n2 c2] w (bT (.bool true) w):=by
 by_cases hl:n1<=1048576/\n2<=1048576
 ·have HL:=I (ahg A1 n1 c1 A2 n2 c2 w hl.1 hl.2);have HS:=I (λm=>ail A1 n1 c1 (w.drewN m) Ky);have zC:=I O2;clear hl Ky O2;go_enter func5,ntmps5;go_wp2_with (fail);refine (HL.o).mono ?_;rintro e w1 ⟨rfl,m1,rfl⟩;go_wp2_with (fail);refine (HS.o m1).mono ?_;rintro e w2 ⟨x,a,T,C,M,rfl,-,cr,z',hb⟩;obtain ⟨At,ct,Ab,cb,Ac,cc,Am,cm,rfl⟩:=cr.o.r.slices;unfold eu;go_upto_region 4 with (fail)
  obtain ⟨W,hW⟩: ∃X,X=w2.alloc (.cells #[.int .i64 a.day,.int .i64 a.rule,.slice At a.af.length ct,.slice Ab a.base.length cb,.slice Ac a.av.length cc,.slice Am a.ao.length cm] 29):=⟨_,rfl⟩
  have a1:Row W w2.heap.size [.int .i64 a.day,.int .i64 a.rule,.slice At a.af.length ct,.slice Ab a.base.length cb,.slice Ac a.av.length cc,.slice Am a.ao.length cm]:=by rw[hW];exact Row.new w2 _ _
  have b2:Below w2.heap.size w2 W:=by rw[hW];exact (aae _ _).alloc (aad _) _
  have sW:w2.heap.size<W.heap.size:=by rw[hW];simp
  rw[<-hW];have bw:Below w.heap.size w w2:=(below_drewN (aae w.heap.size w) m1).trans hb;have gf:ag (Below w.heap.size w W):=I (bw.trans (b2.mono bw.size));have F7:=cr.o.r.on b2 b2.size;have HR:=I (λy:ar W=>F7.on y.ok y.ok.size)
  have Ut:ag (0<a.ao.length-> ∃b off,Am=some ⟨b,off,none⟩/\b<W.heap.size/\ ∀(k:Nat) (m:gu),a.ao[k]?=some m-> ∃A1 c1 A2 c2,Bs W W.heap.size b (off+k*8) m A1 c1 A2 c2):=I (by
   obtain ⟨A,c,hv,_,_,h⟩:=fQ F7.m;have hv:Value.slice Am a.ao.length cm= .slice A a.ao.length c:=hv;injection hv with e1 e2 e3
   rw[e1];exact h)
  have eT:ag (za W W.heap.size A2 n2):=I (zC.o.on gf.o gf.o.size);have HF:=I z';have fv:=I a1;have Zy:=I sW;have h6:=z'.ok.m6;have fD:=z'.ok.n12;have kM:=z'.ok.n1;clear HL HS zC cr z' hb bw F7 a1 b2 sW hW;obtain ⟨nz,V7⟩: ∃n,n=w2.heap.size:=⟨_,rfl⟩
  rw[<-V7]at fv Zy⊢;clear V7;have z0:=λy:ar W=>(fv.o.below y.ok Zy.o).cell 0 _ rfl;have z1:=λy:ar W=>(fv.o.below y.ok Zy.o).cell 1 _ rfl;have z2:=λy:ar W=>(fv.o.below y.ok Zy.o).cell 2 _ rfl;have z3:=λy:ar W=>(fv.o.below y.ok Zy.o).cell 3 _ rfl;have z4:=λy:ar W=>(fv.o.below y.ok Zy.o).cell 4 _ rfl;have z5:=λy:ar W=>(fv.o.below y.ok Zy.o).cell 5 _ rfl;refine yY λx0=>?_;have eQ:=I (λy:ar W=>aiV a ⟨.slice At a.af.length ct,.slice Ab a.base.length cb,.slice Ac a.av.length cc,.slice Am a.ao.length cm⟩ y.val (HR.o y) h6);unfold aiO eu at eQ;go_wp2_with (fail);refine (eQ.o x0).mono ?_;rintro e w1 ⟨ajl,co,rfl,hio,hb⟩;have HME:=I (λz (hz:z∈aiL a)=>aiS hz);have YC:(aiL a).length<=a.ao.length:=acq _ _;generalize aiL a=O at*;obtain ⟨x1,rfl⟩: ∃y:ar W,w1=y.val:=⟨⟨w1,x0.ok.trans (hb.mono x0.ok.size)⟩,rfl⟩
  have ajr:ag (0<a.ao.length-> ∃b off,Am=some ⟨b,off,none⟩/\b<x1.val.heap.size/\ ∀(k:Nat) (m:gu),a.ao[k]?=some m-> ∃A1 c1 A2 c2,Bs x1.val x1.val.heap.size b (off+k*8) m A1 c1 A2 c2):=I (by
   obtain ⟨A,c,hv,_,_,h⟩:=fQ (HR.o x1).m;have hv:Value.slice Am a.ao.length cm= .slice A a.ao.length c:=hv;injection hv with e1 e2 e3
   rw[e1];exact h)
  have mB:=I (HR.o x1);have ajs:=I (eT.o.on x1.ok x1.ok.size);have JO:=I (fv.o.below x1.ok Zy.o);have ajt:=I (aar Zy.o x1.ok.size);have aju:=I (gf.o.trans (x1.ok.mono gf.o.size));have HIO:=I hio;clear hb hio eQ Ut HR eT fv Zy gf z0 z1 z2 z3 z4 z5;generalize x1.val=w3 at*;clear x1 x0;clear W;obtain ⟨W,hW⟩: ∃X,X=w3:=⟨_,rfl⟩
  rw[<-hW]at ajr mB ajs JO ajt aju HIO⊢;clear hW;have Ut:=ajr;have eT:=ajs;have fv:=JO;have Zy:=ajt;have gf:=aju;have HR:=I (λy:ar W=>mB.o.on y.ok y.ok.size);clear ajr ajs JO ajt aju mB;have z0:=λy:ar W=>(fv.o.below y.ok Zy.o).cell 0 _ rfl;have z1:=λy:ar W=>(fv.o.below y.ok Zy.o).cell 1 _ rfl;have z2:=λy:ar W=>(fv.o.below y.ok Zy.o).cell 2 _ rfl;have z3:=λy:ar W=>(fv.o.below y.ok Zy.o).cell 3 _ rfl;have z4:=λy:ar W=>(fv.o.below y.ok Zy.o).cell 4 _ rfl;have z5:=λy:ar W=>(fv.o.below y.ok Zy.o).cell 5 _ rfl;obtain ⟨x0,dp⟩: ∃y:ar W,y.val=W:=⟨⟨W,aae _ _⟩,rfl⟩
  rw[<-dp];clear dp;by_cases SL:O.length=0
  ·have e0:((O.length:Int)==0)=true:=by simp[SL]
   clear SL;have HV:=I (λy:ar W=>Gt a At ct Ab cb Ac cc Am cm y.val (HR.o y) HF.o.sz);rw[HF.o.fI]at HV;go_wp2_with (fail);refine (aq (HV.o x0)).mono ?_;rintro e _ ⟨rfl,x1,rfl⟩;go_wp2;go_ret;exact ⟨rfl,gf.o.trans (x1.ok.mono gf.o.size)⟩
  have e0:((O.length:Int)==0)=false:=by simp[SL]
  obtain ⟨ai5,dp,ei,iH⟩:=ai3 A2 n2 c2 0 (O.length:Int) W eT.o (by omega) (by omega) (by omega);obtain ⟨j,rfl⟩: ∃j:Nat,ai5=(j:Int):=⟨ai5.toNat,by omega⟩
  have uK:=I iH;have yb:j<O.length:=by omega
  have KJ:(0:Int)<=(j:Int):=by omega
  obtain ⟨ajm,ajn,rfl,hbo,ajo⟩:=cZ HIO.o (aag yb);obtain ⟨k,m,hz,aH,gD⟩:=HME.o _ (aax yb);rw[hz]at ajo;have qg:k<a.ao.length:=(aal.1 aH).1;clear iH SL hz dp;obtain ⟨b2,off,rfl,cL,aC⟩:=Ut.o (by omega);obtain ⟨aiJ,d1,aiK,d2,hP⟩:=aC k _ aH;have ajg:=gi.1 (HF.o.ok.ao k _ aH);have Hk:m.ax.length=a.af.length:=by have:=ajg.len;omega
  have HK:=I aH;have ZY:=I Hk;have O8:ag (∀z∈m.ax,0<=z/\z<=3):=I ajg.ax;have t6:=hP.k6;have iq:=hP.ints;rw[Hk]at t6 iq;have tY:ag (Ints W W.heap.size (.slice aiK a.af.length d2) m.ax):=I iq;have dl:ag (∀y:ar W,y.val.cell? ⟨nz,5,none⟩=some (.slice (some ⟨b2,off,none⟩) a.ao.length cm)/\y.val.cell? ⟨b2,off+k*8,none⟩=some (.string m.al)/\y.val.cell? ⟨b2,off+k*8+1,none⟩=some (.int .i64 m.br)/\y.val.cell? ⟨b2,off+k*8+2,none⟩=some (.slice aiJ m.pat.length d1)/\y.val.cell? ⟨b2,off+k*8+3,none⟩=some (.int .i64 m.a8)/\y.val.cell? ⟨b2,off+k*8+4,none⟩=some (.int .i64 m.fin)/\y.val.cell? ⟨b2,off+k*8+5,none⟩=some (.int .i64 m.aj)/\y.val.cell? ⟨b2,off+k*8+6,none⟩=some (.slice aiK a.af.length d2)/\y.val.cell? ⟨b2,off+k*8+7,none⟩=some (.int .i64 m.result)/\y.val.cell? ⟨ajm,ajn+j,none⟩=some (.int .i64 (k:Int))):=I (λy=>⟨z5 y,y.cell hP.k0,y.cell hP.k1,y.cell hP.k2,y.cell hP.k3,y.cell hP.k4,y.cell hP.k5,y.cell t6,y.cell hP.k7,y.cell ajo⟩);have jA:(0:Int)<=(k:Int):=by omega
  have Hl:(k:Int)<(a.ao.length:Int):=by omega
  clear aC hP ajg aH t6 iq Hk;have Z5:=I gD;clear ajo gD HIO HME;go_upto_region 7 with (fail)
  clear e0;go_cut [7] (λai6 wx=> ∃na,ai6= .pointer (some ⟨na,0,none⟩)/\Row wx na [.string m.al,.int .i64 m.br,.slice aiJ m.pat.length d1,.int .i64 m.a8,.int .i64 m.fin,.int .i64 m.aj,.slice aiK a.af.length d2,.int .i64 m.result]/\Below W.heap.size W wx/\na<wx.heap.size)
  case first=>
   refine dq 12 (λw'=>w'.cell? ⟨nz,5,none⟩=some (.slice (some ⟨b2,off,none⟩) a.ao.length cm)/\w'.cell? ⟨b2,off+k*8,none⟩=some (.string m.al)/\w'.cell? ⟨b2,off+k*8+1,none⟩=some (.int .i64 m.br)/\w'.cell? ⟨b2,off+k*8+2,none⟩=some (.slice aiJ m.pat.length d1)/\w'.cell? ⟨b2,off+k*8+3,none⟩=some (.int .i64 m.a8)/\w'.cell? ⟨b2,off+k*8+4,none⟩=some (.int .i64 m.fin)/\w'.cell? ⟨b2,off+k*8+5,none⟩=some (.int .i64 m.aj)/\w'.cell? ⟨b2,off+k*8+6,none⟩=some (.slice aiK a.af.length d2)/\w'.cell? ⟨b2,off+k*8+7,none⟩=some (.int .i64 m.result)/\w'.cell? ⟨ajm,ajn+j,none⟩=some (.int .i64 (k:Int))) (by kernel_rfl) ?_;obtain ⟨y0,Rf⟩: ∃y:ar W,y.val=(x0).val.drew:=⟨⟨_,(x0).ok.drew⟩,rfl⟩
   rw[<-Rf];clear Rf;have aE:=dl.o y0;refine cl 0 ?_
   try simp only[Act.put,aK,aM]
   refine cl 1 ?_
   try simp only[Act.put,aK,aM]
   refine cl 2 ?_
   try simp only[Act.put,aK,aM]
   refine cl 3 ?_
   try simp only[Act.put,aK,aM]
   refine cl 4 ?_
   try simp only[Act.put,aK,aM]
   refine cl 5 ?_
   try simp only[Act.put,aK,aM]
   clear aE;refine bZ (rs:=[6,11]) (by kernel_rfl) (by simp) ?_;refine aN.cons rfl (λK hK=>?_) (aN.cons rfl (λK hK=>?_) aN.nil)
   ·try simp only[aK]
    go_simp;go_at_call 11;refine (uK.o y0).mono ?_;rintro e w1 ⟨rfl,q,rfl⟩;have ai7:Below (y0).val.heap.size (y0).val ((y0).val.drewN q):=below_drewN (aae _ _) q
    try replace ch:=I (ch.o.below ai7 (by omega))
    try replace qg:=aaB qg ai7.size
    obtain ⟨y1,hc⟩: ∃y:ar W,y.val=(y0).val.drewN q:=⟨⟨_,below_drewN (y0).ok q⟩,rfl⟩
    try rw[<-hc]at ch
    try rw[<-hc]at qg
    rw[<-hc];clear hc ai7;refine hK.out _ _ (λ_=>dl.o y1) ?_;clear hK K
    try simp only[Act.put,aM]
    have aE:=dl.o y1;refine cl 7 ?_
    try simp only[Act.put,aK,aM]
    refine cl 8 ?_
    try simp only[Act.put,aK,aM]
    refine cl 9 ?_
    try simp only[Act.put,aK,aM]
    refine cl 10 ?_
    try simp only[Act.put,aK,aM]
    clear aE;refine cV 11 (λK hK=>?_)
    try simp only[aK]
    go_simp;have bk:Below (y1).val.heap.size (y1).val ((y1).val.alloc (.cells #[.string ⟨#[]⟩,.int .i64 0,.slice none 0 0,.int .i64 0,.int .i64 0,.int .i64 0,.slice none 0 0,.int .i64 0] 35)):=(aae _ _).alloc (aad _) _;have ch:ag (Row ((y1).val.alloc (.cells #[.string ⟨#[]⟩,.int .i64 0,.slice none 0 0,.int .i64 0,.int .i64 0,.int .i64 0,.slice none 0 0,.int .i64 0] 35)) (y1).val.heap.size [.string ⟨#[]⟩,.int .i64 0,.slice none 0 0,.int .i64 0,.int .i64 0,.int .i64 0,.slice none 0 0,.int .i64 0]):=I (Row.new _ _ _);have qg:(y1).val.heap.size+1<=((y1).val.alloc (.cells #[.string ⟨#[]⟩,.int .i64 0,.slice none 0 0,.int .i64 0,.int .i64 0,.int .i64 0,.slice none 0 0,.int .i64 0] 35)).heap.size:=by simp
    have Mk:=(y1).ok.size;obtain ⟨y2,hc⟩: ∃y:ar W,y.val=(y1).val.alloc (.cells #[.string ⟨#[]⟩,.int .i64 0,.slice none 0 0,.int .i64 0,.int .i64 0,.int .i64 0,.slice none 0 0,.int .i64 0] 35):=⟨⟨_,(y1).ok.trans (bk.mono (y1).ok.size)⟩,rfl⟩
    rw[<-hc]at ch qg⊢;clear hc bk;refine hK.out _ _ (λ_=>dl.o y2) ?_;clear hK K
    try simp only[Act.put,aM]
    refine cV 12 (λK hK=>?_)
    try simp only[aK]
    have a0:=ch.o.cell 0 _ rfl;have a1:=ch.o.cell 1 _ rfl;have a2:=ch.o.cell 2 _ rfl;have a3:=ch.o.cell 3 _ rfl;have a4:=ch.o.cell 4 _ rfl;have a5:=ch.o.cell 5 _ rfl;have a6:=ch.o.cell 6 _ rfl;have a7:=ch.o.cell 7 _ rfl;have f0:=ch.o.free 0 (by simp);have f1:=ch.o.free 1 (by simp);have f2:=ch.o.free 2 (by simp);have f3:=ch.o.free 3 (by simp);have f4:=ch.o.free 4 (by simp);have f5:=ch.o.free 5 (by simp);have f6:=ch.o.free 6 (by simp);have f7:=ch.o.free 7 (by simp);go_simp;obtain ⟨w9,Ag⟩: ∃X,X=(((((((((y2).val).setCell ⟨y1.val.heap.size,0,none⟩ (.string m.al)).setCell ⟨y1.val.heap.size,1,none⟩ (.int .i64 m.br)).setCell ⟨y1.val.heap.size,2,none⟩ (.slice aiJ m.pat.length d1)).setCell ⟨y1.val.heap.size,3,none⟩ (.int .i64 m.a8)).setCell ⟨y1.val.heap.size,4,none⟩ (.int .i64 m.fin)).setCell ⟨y1.val.heap.size,5,none⟩ (.int .i64 m.aj)).setCell ⟨y1.val.heap.size,6,none⟩ (.slice aiK a.af.length d2)).setCell ⟨y1.val.heap.size,7,none⟩ (.int .i64 m.result):=⟨_,rfl⟩
    have xo:Touch (λb=>b=y1.val.heap.size) (y2).val w9:=by
     rw[Ag]
     iterate 8 refine Touch.setCell (F:=λb=>b=y1.val.heap.size) ?_ rfl _
     exact Touch.refl _ _
    have CM:Row w9 y1.val.heap.size [.string m.al,.int .i64 m.br,.slice aiJ m.pat.length d1,.int .i64 m.a8,.int .i64 m.fin,.int .i64 m.aj,.slice aiK a.af.length d2,.int .i64 m.result]:=by
     rw[Ag];exact (((((((ch.o.set 0 _ (by simp)).set 1 _ (by simp)).set 2 _ (by simp)).set 3 _ (by simp)).set 4 _ (by simp)).set 5 _ (by simp)).set 6 _ (by simp)).set 7 _ (by simp)
    rw[<-Ag];clear Ag a0 a1 a2 a3 a4 a5 a6 a7 f0 f1 f2 f3 f4 f5 f6 f7;refine hK.out _ _ (λh=>by simp at h) ?_;clear hK K
    try simp only[Act.put,aM]
    refine dh (by kernel_rfl) ?_ _;have ZV:=xo.size;have iM:=I ((y2).ok.trans (xo.below (y2).ok.size (λb e=>by omega)):Below W.heap.size W w9);have W4:=I CM;clear xo CM;go_wp2;go_meet;case rel=>exact ⟨_,rfl,W4.o,iM.o,by omega⟩
   try simp only[aK]
   go_simp;have bk:Below (y0).val.heap.size (y0).val ((y0).val.alloc (.cells #[.string ⟨#[]⟩,.int .i64 0,.slice none 0 0,.int .i64 0,.int .i64 0,.int .i64 0,.slice none 0 0,.int .i64 0] 35)):=(aae _ _).alloc (aad _) _;have ch:ag (Row ((y0).val.alloc (.cells #[.string ⟨#[]⟩,.int .i64 0,.slice none 0 0,.int .i64 0,.int .i64 0,.int .i64 0,.slice none 0 0,.int .i64 0] 35)) (y0).val.heap.size [.string ⟨#[]⟩,.int .i64 0,.slice none 0 0,.int .i64 0,.int .i64 0,.int .i64 0,.slice none 0 0,.int .i64 0]):=I (Row.new _ _ _);have qg:(y0).val.heap.size+1<=((y0).val.alloc (.cells #[.string ⟨#[]⟩,.int .i64 0,.slice none 0 0,.int .i64 0,.int .i64 0,.int .i64 0,.slice none 0 0,.int .i64 0] 35)).heap.size:=by simp
   have Mk:=(y0).ok.size;obtain ⟨y1,hc⟩: ∃y:ar W,y.val=(y0).val.alloc (.cells #[.string ⟨#[]⟩,.int .i64 0,.slice none 0 0,.int .i64 0,.int .i64 0,.int .i64 0,.slice none 0 0,.int .i64 0] 35):=⟨⟨_,(y0).ok.trans (bk.mono (y0).ok.size)⟩,rfl⟩
   rw[<-hc]at ch qg⊢;clear hc bk;refine hK.out _ _ (λ_=>dl.o y1) ?_;clear hK K
   try simp only[Act.put,aM]
   refine cV 6 (λK hK=>?_)
   try simp only[aK]
   go_simp;go_at_call 11;refine (uK.o y1).mono ?_;rintro e w1 ⟨rfl,q,rfl⟩;have ai7:Below (y1).val.heap.size (y1).val ((y1).val.drewN q):=below_drewN (aae _ _) q
   try replace ch:=I (ch.o.below ai7 (by omega))
   try replace qg:=aaB qg ai7.size
   obtain ⟨y2,hc⟩: ∃y:ar W,y.val=(y1).val.drewN q:=⟨⟨_,below_drewN (y1).ok q⟩,rfl⟩
   try rw[<-hc]at ch
   try rw[<-hc]at qg
   rw[<-hc];clear hc ai7;refine hK.out _ _ (λ_=>dl.o y2) ?_;clear hK K
   try simp only[Act.put,aM]
   have aE:=dl.o y2;refine cl 7 ?_
   try simp only[Act.put,aK,aM]
   refine cl 8 ?_
   try simp only[Act.put,aK,aM]
   refine cl 9 ?_
   try simp only[Act.put,aK,aM]
   refine cl 10 ?_
   try simp only[Act.put,aK,aM]
   clear aE;refine cV 12 (λK hK=>?_)
   try simp only[aK]
   have a0:=ch.o.cell 0 _ rfl;have a1:=ch.o.cell 1 _ rfl;have a2:=ch.o.cell 2 _ rfl;have a3:=ch.o.cell 3 _ rfl;have a4:=ch.o.cell 4 _ rfl;have a5:=ch.o.cell 5 _ rfl;have a6:=ch.o.cell 6 _ rfl;have a7:=ch.o.cell 7 _ rfl;have f0:=ch.o.free 0 (by simp);have f1:=ch.o.free 1 (by simp);have f2:=ch.o.free 2 (by simp);have f3:=ch.o.free 3 (by simp);have f4:=ch.o.free 4 (by simp);have f5:=ch.o.free 5 (by simp);have f6:=ch.o.free 6 (by simp);have f7:=ch.o.free 7 (by simp);go_simp;obtain ⟨w9,Ag⟩: ∃X,X=(((((((((y2).val).setCell ⟨y0.val.heap.size,0,none⟩ (.string m.al)).setCell ⟨y0.val.heap.size,1,none⟩ (.int .i64 m.br)).setCell ⟨y0.val.heap.size,2,none⟩ (.slice aiJ m.pat.length d1)).setCell ⟨y0.val.heap.size,3,none⟩ (.int .i64 m.a8)).setCell ⟨y0.val.heap.size,4,none⟩ (.int .i64 m.fin)).setCell ⟨y0.val.heap.size,5,none⟩ (.int .i64 m.aj)).setCell ⟨y0.val.heap.size,6,none⟩ (.slice aiK a.af.length d2)).setCell ⟨y0.val.heap.size,7,none⟩ (.int .i64 m.result):=⟨_,rfl⟩
   have xo:Touch (λb=>b=y0.val.heap.size) (y2).val w9:=by
    rw[Ag]
    iterate 8 refine Touch.setCell (F:=λb=>b=y0.val.heap.size) ?_ rfl _
    exact Touch.refl _ _
   have CM:Row w9 y0.val.heap.size [.string m.al,.int .i64 m.br,.slice aiJ m.pat.length d1,.int .i64 m.a8,.int .i64 m.fin,.int .i64 m.aj,.slice aiK a.af.length d2,.int .i64 m.result]:=by
    rw[Ag];exact (((((((ch.o.set 0 _ (by simp)).set 1 _ (by simp)).set 2 _ (by simp)).set 3 _ (by simp)).set 4 _ (by simp)).set 5 _ (by simp)).set 6 _ (by simp)).set 7 _ (by simp)
   rw[<-Ag];clear Ag a0 a1 a2 a3 a4 a5 a6 a7 f0 f1 f2 f3 f4 f5 f6 f7;refine hK.out _ _ (λh=>by simp at h) ?_;clear hK K
   try simp only[Act.put,aM]
   refine dh (by kernel_rfl) ?_ _;have ZV:=xo.size;have iM:=I ((y2).ok.trans (xo.below (y2).ok.size (λb e=>by omega)):Below W.heap.size W w9);have W4:=I CM;clear xo CM;go_wp2;go_meet;case rel=>exact ⟨_,rfl,W4.o,iM.o,by omega⟩
  case rest=>
   obtain ⟨na,rfl,bi,ajh,Ij⟩:=hcut;have R4:=I ajh;have G4:=I bi;have J2:=I Ij;clear bi ajh Ij dl z0 z1 z2 z3 z4 z5;have tF:ag (∀y:ar wc,Below W.heap.size W y.val):=I (λy=>R4.o.trans (y.ok.mono R4.o.size));have mR:=I (λy:ar wc=>fv.o.below (tF.o y) Zy.o);have z0:=λy:ar wc=>(mR.o y).cell 0 _ rfl;have z1:=λy:ar wc=>(mR.o y).cell 1 _ rfl;have z2:=λy:ar wc=>(mR.o y).cell 2 _ rfl;have z3:=λy:ar wc=>(mR.o y).cell 3 _ rfl;have z4:=λy:ar wc=>(mR.o y).cell 4 _ rfl;have z5:=λy:ar wc=>(mR.o y).cell 5 _ rfl;have m0:=λy:ar wc=>(G4.o.below y.ok J2.o).cell 0 _ rfl;have m6:=λy:ar wc=>(G4.o.below y.ok J2.o).cell 6 _ rfl;have gj:ag (∀y:ar wc,jv y.val y.val.heap.size ⟨.slice At a.af.length ct,.slice Ab a.base.length cb,.slice Ac a.av.length cc,.slice (some ⟨b2,off,none⟩) a.ao.length cm⟩ a):=I (λy=>HR.o ⟨y.val,tF.o y⟩);have ajk:=I (λy:ar wc=>eT.o.on (tF.o y) (tF.o y).size);have aji:=I (λy:ar wc=>cz.on tY.o (Pl.stays _) (tF.o y) (tF.o y).size);have Ph:=I (λy:ar wc=>gf.o.trans ((tF.o y).mono gf.o.size));go_upto_region 8 with (fail)
   refine yY λx0=>?_;clear uK;obtain ⟨ajp,Rf,YS,iH⟩:=ai3 A2 n2 c2 1 (a.af.length:Int) wc (eT.o.on R4.o R4.o.size) (by omega) (by omega) (by omega);obtain ⟨q,rfl⟩: ∃q:Nat,ajp=(q:Int):=⟨ajp.toNat,by omega⟩
   have Cj:=I iH;have mw:q<a.af.length:=by omega
   have S0:(0:Int)<=(q:Int):=by omega
   clear iH Rf;go_wp2_with (fail);refine (az (Cj.o x0)).mono ?_;rintro e _ ⟨rfl,x1,rfl⟩;obtain ⟨l1,l2⟩:=ah8 HF.o HK.o mw;have Lc:ag (m.al.size<=maxLen):=I (aiX HF.o HK.o);have Z8:=I (λy:ar wc=>ai2 HF.o HK.o Z5.o _ y.val (gj.o y));have UY:=I (λy:ar wc=>aiT HF.o HK.o _ y.val (gj.o y));unfold eu at Z8;unfold YM eu at UY;have HP:=I (λj=>ajB a m.ax j);have WQ:ag ((cO a m.ax).length=4):=I (qM _ _);have ajE:ag ((cO a (m.ax.set q 1)).length=4):=I (qM _ _);have Hk:=ZY.o;rw[Hk]at l1;have HL1:=I l1;have HL2:=I l2;clear l1 l2;have Hr:=I (ai4 (show q<m.ax.length by omega));clear Hk;generalize hC:cO a m.ax=ajx at*;generalize ajy:lY a m m.ax=y1 at*;clear hC ajy;go_wp2_with (fail);refine (Z8.o x1).mono ?_;rintro e w1 ⟨rfl,hb⟩
   try replace fs:=I (cz.on fs.o (Pl.stays _) hb hb.size)
   try replace ie:=I (cz.on ie.o (Pl.stays _) hb hb.size)
   try replace o8:=I (cz.on o8.o (Pl.stays _) hb hb.size)
   obtain ⟨x2,rfl⟩: ∃y:ar wc,w1=y.val:=⟨⟨w1,(x1).ok.trans (hb.mono (x1).ok.size)⟩,rfl⟩
   clear hb;go_wp2_with (fail);refine (UY.o x2).mono ?_;rintro e w1 ⟨v,rfl,hv,hb⟩
   try replace fs:=I (cz.on fs.o (Pl.stays _) hb hb.size)
   try replace ie:=I (cz.on ie.o (Pl.stays _) hb hb.size)
   try replace o8:=I (cz.on o8.o (Pl.stays _) hb hb.size)
   have fs:ag (Ints w1 w1.heap.size v ajx):=I (ay.mo (size:=1) (λ_=>rfl) hv);obtain ⟨B1,e1,rfl,-⟩:=hv;obtain ⟨x3,rfl⟩: ∃y:ar wc,w1=y.val:=⟨⟨w1,(x2).ok.trans (hb.mono (x2).ok.size)⟩,rfl⟩
   clear hb;rw[WQ.o];have hN:=aji.o x3;obtain ⟨bv,ov,rfl,JA,qv⟩:=cZ hN Hr.o;have hq3:(q:Int)<(a.af.length:Int):=by omega
   generalize hvv:m.ax.getD q 0=vv at*;clear hN Hr hvv;go_upto_region 13 with (fail)
   cases hv:(vv==0)with
   |true=>
    have hs:=HL1.o (by simpa using hv);obtain ⟨s1,s2,s3⟩:=ajC (HP.o 0) (HP.o 1) (HP.o 2) (HP.o 3) hs (by omega);obtain ⟨b4,o4,rfl,l8,q0,q1,q2,q3⟩:=aiU fs.o WQ.o;have HZ:=I (Ph.o x3);have d6:=m6 x3;generalize ajx.getD 0 0=p0 at*;generalize ajx.getD 1 0=p1 at*;generalize ajx.getD 2 0=p2 at*;generalize ajx.getD 3 0=p3 at*;clear fs HL1 HL2 HP hs z0 z1 z2 z3 z4 z5 m0 m6 gj aji Ph mR tF ajk;generalize x3.val=Z at*;have t6:=λy:ar Z=>y.cell d6;have t0:=λy:ar Z=>y.cell q0;have t1:=λy:ar Z=>y.cell q1;have t2:=λy:ar Z=>y.cell q2;have t3:=λy:ar Z=>y.cell q3;have tv:=λy:ar Z=>y.cell qv;clear d6 q0 q1 q2 q3 qv l8 JA;obtain ⟨y0,Rf⟩: ∃y:ar Z,y.val=Z:=⟨⟨Z,aae _ _⟩,rfl⟩
    rw[<-Rf];clear Rf;go_upto_region 14 with (fail)
    refine ap (by kernel_rfl) (by kernel_rfl) ?_
    repeat (go_big_quiet_step (fail))
    refine aai ?_;rintro _ ⟨y1,rfl⟩;go_wp2;go_ret;exact ⟨rfl,HZ.o.trans (y1.ok.mono HZ.o.size)⟩
   |false=>
    go_upto_region 15 with (fail)
    have Fh:=I (ai0 HF.o HK.o Z5.o mw (v:=1) (by omega) (by omega) _ (x3).val (gj.o x3) Lc.o);unfold aiZ eu at Fh;go_wp2_with (fail);refine Fh.o.mono ?_;rintro e w1 ⟨xv,T5,C5,M5,rfl,⟨Et,f1,et,Eb,f2,eb,Ec,f3,ec,Em,f4,em,rfl⟩,Z6,hb⟩
    try replace fs:=I (cz.on fs.o (Pl.stays _) hb hb.size)
    try replace ie:=I (cz.on ie.o (Pl.stays _) hb hb.size)
    try replace o8:=I (cz.on o8.o (Pl.stays _) hb hb.size)
    go_upto_region 16 with (fail)
    obtain ⟨D,hD⟩: ∃X,X=w1.alloc (.cells #[.int .i64 (ahN a k m q 1).day,.int .i64 (ahN a k m q 1).rule,.slice Et f1 et,.slice Eb f2 eb,.slice Ec f3 ec,.slice Em f4 em] 29):=⟨_,rfl⟩
    have b5:Below w1.heap.size w1 D:=by rw[hD];exact (aae _ _).alloc (aad _) _
    have r5:Row D w1.heap.size [.int .i64 (ahN a k m q 1).day,.int .i64 (ahN a k m q 1).rule,.slice Et f1 et,.slice Eb f2 eb,.slice Ec f3 ec,.slice Em f4 em]:=by rw[hD];exact Row.new w1 _ _
    have s5:w1.heap.size<D.heap.size:=by rw[hD];simp
    have hd:D=w1.alloc (.cells #[.int .i64 a.day,.int .i64 a.rule,.slice Et f1 et,.slice Eb f2 eb,.slice Ec f3 ec,.slice Em f4 em] 29):=hD;have HX5:=I (Z6.o.r.on b5 b5.size);obtain ⟨u0,qo⟩: ∃y:ar wc,y.val=D:=⟨⟨D,((x3).ok.trans (hb.mono (x3).ok.size)).trans (b5.mono (aaB (x3).ok.size hb.size))⟩,rfl⟩
    obtain ⟨nx,hnx⟩: ∃n,n=w1.heap.size:=⟨_,rfl⟩
    have hb:=b5
    try replace fs:=I (cz.on fs.o (Pl.stays _) hb hb.size)
    try replace ie:=I (cz.on ie.o (Pl.stays _) hb hb.size)
    try replace o8:=I (cz.on o8.o (Pl.stays _) hb hb.size)
    have EY:=I r5;first|rw[<-hD]|rw[<-hd]
    have Z4:=I (Ph.o u0);have G7:=I (gj.o u0);have ajw:=I (aji.o u0);have P5:=I ((G4.o.below u0.ok J2.o));have R2:=I ((mR.o u0));have HNA:=I (show na<D.heap.size by rw[<-qo];exact aar J2.o u0.ok.size);have Sf:=I (show nz<D.heap.size by rw[<-qo];exact aar (aar Zy.o R4.o.size) u0.ok.size);rw[qo]at Z4 G7 ajw P5 R2;rw[<-hnx]at EY s5⊢;clear hd hD hb b5 r5 Z6 qo hnx Fh u0 z0 z1 z2 z3 z4 z5 m0 m6 gj aji Ph mR tF ajk;have HRA:=I (λy:ar D=>G7.o.on y.ok y.ok.size);have Xw:=I (λy:ar D=>HX5.o.on y.ok y.ok.size);have z0:=λy:ar D=>(R2.o.below y.ok Sf.o).cell 0 _ rfl;have z1:=λy:ar D=>(R2.o.below y.ok Sf.o).cell 1 _ rfl;have z2:=λy:ar D=>(R2.o.below y.ok Sf.o).cell 2 _ rfl;have z3:=λy:ar D=>(R2.o.below y.ok Sf.o).cell 3 _ rfl;have z4:=λy:ar D=>(R2.o.below y.ok Sf.o).cell 4 _ rfl;have z5:=λy:ar D=>(R2.o.below y.ok Sf.o).cell 5 _ rfl;have m0:=λy:ar D=>(P5.o.below y.ok HNA.o).cell 0 _ rfl;have m6:=λy:ar D=>(P5.o.below y.ok HNA.o).cell 6 _ rfl;have v0:=λy:ar D=>(EY.o.below y.ok s5).cell 0 _ rfl;have v1:=λy:ar D=>(EY.o.below y.ok s5).cell 1 _ rfl;have v2:=λy:ar D=>(EY.o.below y.ok s5).cell 2 _ rfl;have v3:=λy:ar D=>(EY.o.below y.ok s5).cell 3 _ rfl;have v4:=λy:ar D=>(EY.o.below y.ok s5).cell 4 _ rfl;have v5:=λy:ar D=>(EY.o.below y.ok s5).cell 5 _ rfl;have M7:=I (λy:ar D=>aiR HF.o HK.o Z5.o mw (v:=1) (by omega) (by omega) _ y.val (Xw.o y));have HCR:=I (λy:ar D=>aiP HF.o HK.o Z5.o mw (v:=1) (by omega) (by omega) _ y.val (Xw.o y));unfold YM eu at HCR;unfold eu at M7;refine yY λd0=>?_;have hvn:vv≠0:=by simpa using hv
    have HF2:=I (HL2.o hvn);obtain ⟨b4,o4,rfl,l8,q0,q1,q2,q3⟩:=aiU fs.o WQ.o;have t0:=λy:ar D=>y.cell q0;have t1:=λy:ar D=>y.cell q1;have t2:=λy:ar D=>y.cell q2;have t3:=λy:ar D=>y.cell q3;clear q0 q1 q2 q3 l8 fs HL1 HL2 HP hvn hv qv;generalize cO a (m.ax.set q 1)=ajz at*;generalize lY a m (m.ax.set q 1)=y2 at*;go_wp2_with (fail);refine (M7.o d0).mono ?_;rintro e w1 ⟨rfl,hb⟩
    try replace fs:=I (cz.on fs.o (Pl.stays _) hb hb.size)
    try replace ie:=I (cz.on ie.o (Pl.stays _) hb hb.size)
    try replace o8:=I (cz.on o8.o (Pl.stays _) hb hb.size)
    obtain ⟨d1,rfl⟩: ∃y:ar D,w1=y.val:=⟨⟨w1,(d0).ok.trans (hb.mono (d0).ok.size)⟩,rfl⟩
    clear hb;go_wp2_with (fail);refine (HCR.o d1).mono ?_;rintro e w1 ⟨v,rfl,hv,hb⟩
    try replace fs:=I (cz.on fs.o (Pl.stays _) hb hb.size)
    try replace ie:=I (cz.on ie.o (Pl.stays _) hb hb.size)
    try replace o8:=I (cz.on o8.o (Pl.stays _) hb hb.size)
    have ie:ag (Ints w1 w1.heap.size v ajz):=I (ay.mo (size:=1) (λ_=>rfl) hv);obtain ⟨B2,e2,rfl,-⟩:=hv;obtain ⟨d2,rfl⟩: ∃y:ar D,w1=y.val:=⟨⟨w1,(d1).ok.trans (hb.mono (d1).ok.size)⟩,rfl⟩
    clear hb;rw[ajE.o];obtain ⟨b5,o5,rfl,zd,q0,q1,q2,q3⟩:=aiU ie.o ajE.o;have HZ:=I (Z4.o.trans (d2.ok.mono Z4.o.size));have g0:=t0 d2;have g1:=t1 d2;have g2:=t2 d2;have g3:=t3 d2;clear t0 t1 t2 t3 z0 z1 z2 z3 z4 z5 m0 m6 v0 v1 v2 v3 v4 v5 ie;generalize d2.val=Z at*;have t0:=λy:ar Z=>y.cell g0;have t1:=λy:ar Z=>y.cell g1;have t3:=λy:ar Z=>y.cell g3;have u0:=λy:ar Z=>y.cell q0;have u1:=λy:ar Z=>y.cell q1;have u3:=λy:ar Z=>y.cell q3;clear g0 g1 g2 g3 q0 q1 q2 q3 zd;obtain ⟨f1,f0,f3,ajA⟩:=HF2.o;clear HF2;generalize ajx.getD 0 0=p0 at*;generalize ajx.getD 1 0=p1 at*;generalize ajx.getD 3 0=p3 at*;generalize ajz.getD 0 0=r0 at*;generalize ajz.getD 1 0=r1 at*;generalize ajz.getD 3 0=r3 at*;have i1:decide (r1<p1)=false:=by simp;omega
    have i0:decide (p0<r0)=false:=by simp;omega
    have i3:(r3 !=p3)=false:=by rw[f3];simp
    clear f1 f0 f3;obtain ⟨e0,pq⟩: ∃y:ar Z,y.val=Z:=⟨⟨Z,aae _ _⟩,rfl⟩
    rw[<-pq];clear pq;go_upto_region 18 with (fail)
    refine ap (by kernel_rfl) (by kernel_rfl) ?_
    repeat (go_big_quiet_step (fail))
    refine aai ?_;rintro _ ⟨e1,rfl⟩;clear t0 t1 t3 u0 u1 u3 i1 i0 i3;cases hy:(y2==y1)with
    |true=>
     go_wp2;go_ret;exact ⟨rfl,HZ.o.trans (e1.ok.mono HZ.o.size)⟩
    |false=>
     have YT:y1≠1/\y1≠4:=by
      rcases ajA with ajA|ajA
      ·rw[ajA]at hy;simp at hy
      exact ajA
     have h1:(y1 !=1)=true:=by simp;exact YT.1
     have h4:(y1 !=4)=true:=by simp;exact YT.2
     go_wp2;go_ret;exact ⟨rfl,HZ.o.trans (e1.ok.mono HZ.o.size)⟩
 have HL:=I (agL A1 n1 c1 A2 n2 c2 w hl);clear hl;go_enter func5,ntmps5;go_wp2_with (fail);refine (HL.o).mono ?_;rintro e w1 ⟨rfl,m1,rfl⟩;go_wp2;go_ret;exact ⟨rfl,below_drewN (aae _ _) m1⟩
end Go.Proofs.YtbcggaldkihcaaaGreat
