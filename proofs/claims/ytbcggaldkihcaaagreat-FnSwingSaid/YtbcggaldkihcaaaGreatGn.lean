/- FnSwing, walked. -/
import Derived.Test.YtbcggaldkihcaaaGreatGh
import Derived.Test.YtbcggaldkihcaaaGreatYW
import Derived.Test.YtbcggaldkihcaaaGreatYE
set_option maxHeartbeats 16000000
set_option maxRecDepth 100000
namespace Go.Proofs.YtbcggaldkihcaaaGreat
open Tryz
open Go.RowKit Go.Lib
theorem ajq (A1:Option Addr) (n1 c1:Nat) (A2:Option Addr) (n2 c2:Nat) (w:World) (Ky:za w w.heap.size A1 n1) (O2:za w w.heap.size A2 n2):
 Calls prog 6 #[.slice A1 n1 c1,.slice A2 n2 c2] w (bT (.bool true) w):=by
 by_cases hl:n1<=1048576/\n2<=1048576
 ·have HL:=I (ahg A1 n1 c1 A2 n2 c2 w hl.1 hl.2);have HS:=I (λm=>ail A1 n1 c1 (w.drewN m) Ky);have zC:=I O2;clear hl Ky O2;go_enter func6,ntmps6;go_wp2_with (fail);refine (HL.o).mono ?_;rintro e w1 ⟨rfl,m1,rfl⟩;go_wp2_with (fail);refine (HS.o m1).mono ?_;rintro e w2 ⟨x,a,T,C,M,rfl,-,cr,z',hb⟩;obtain ⟨At,ct,Ab,cb,Ac,cc,Am,cm,rfl⟩:=cr.o.r.slices;unfold eu;go_upto_region 4 with (fail)
  obtain ⟨W,hW⟩: ∃X,X=w2.alloc (.cells #[.int .i64 a.day,.int .i64 a.rule,.slice At a.af.length ct,.slice Ab a.base.length cb,.slice Ac a.av.length cc,.slice Am a.ao.length cm] 29):=⟨_,rfl⟩
  have a1:Row W w2.heap.size [.int .i64 a.day,.int .i64 a.rule,.slice At a.af.length ct,.slice Ab a.base.length cb,.slice Ac a.av.length cc,.slice Am a.ao.length cm]:=by rw[hW];exact Row.new w2 _ _
  have b2:Below w2.heap.size w2 W:=by rw[hW];exact (aae _ _).alloc (aad _) _
  have sW:w2.heap.size<W.heap.size:=by rw[hW];simp
  rw[<-hW];have bw:Below w.heap.size w w2:=(below_drewN (aae w.heap.size w) m1).trans hb;have gf:ag (Below w.heap.size w W):=I (bw.trans (b2.mono bw.size));have F7:=cr.o.r.on b2 b2.size;have HR:=I (λy:ar W=>F7.on y.ok y.ok.size)
  have Ut:ag (0<a.ao.length-> ∃b off,Am=some ⟨b,off,none⟩/\b<W.heap.size/\ ∀(k:Nat) (m:gu),a.ao[k]?=some m-> ∃A1 c1 A2 c2,Bs W W.heap.size b (off+k*8) m A1 c1 A2 c2):=I (by
   obtain ⟨A,c,hv,_,_,h⟩:=fQ F7.m;have hv:Value.slice Am a.ao.length cm= .slice A a.ao.length c:=hv;injection hv with e1 e2 e3
   rw[e1];exact h)
  have eT:ag (za W W.heap.size A2 n2):=I (zC.o.on gf.o gf.o.size);have HF:=I z';have fv:=I a1;have Zy:=I sW;have h6:=z'.ok.m6;have fD:=z'.ok.n12;have kM:=z'.ok.n1;clear HL HS zC cr z' hb bw F7 a1 b2 sW hW;obtain ⟨nz,V7⟩: ∃n,n=w2.heap.size:=⟨_,rfl⟩
  rw[<-V7]at fv Zy⊢;clear V7;have z0:=λy:ar W=>(fv.o.below y.ok Zy.o).cell 0 _ rfl;have z1:=λy:ar W=>(fv.o.below y.ok Zy.o).cell 1 _ rfl;have z2:=λy:ar W=>(fv.o.below y.ok Zy.o).cell 2 _ rfl;have z3:=λy:ar W=>(fv.o.below y.ok Zy.o).cell 3 _ rfl;have z4:=λy:ar W=>(fv.o.below y.ok Zy.o).cell 4 _ rfl;have z5:=λy:ar W=>(fv.o.below y.ok Zy.o).cell 5 _ rfl;refine yY λx0=>?_;have eQ:=I (λy:ar W=>aiV a ⟨.slice At a.af.length ct,.slice Ab a.base.length cb,.slice Ac a.av.length cc,.slice Am a.ao.length cm⟩ y.val (HR.o y) h6);unfold aiO eu at eQ;go_wp2_with (fail);refine (eQ.o x0).mono ?_;rintro e w1 ⟨ajl,co,rfl,hio,hb⟩;have HME:=I (λz (hz:z∈aiL a)=>aiS hz);have YC:(aiL a).length<=a.ao.length:=acq _ _;generalize aiL a=O at*;obtain ⟨x1,rfl⟩: ∃y:ar W,w1=y.val:=⟨⟨w1,x0.ok.trans (hb.mono x0.ok.size)⟩,rfl⟩
  have ajr:ag (0<a.ao.length-> ∃b off,Am=some ⟨b,off,none⟩/\b<x1.val.heap.size/\ ∀(k:Nat) (m:gu),a.ao[k]?=some m-> ∃A1 c1 A2 c2,Bs x1.val x1.val.heap.size b (off+k*8) m A1 c1 A2 c2):=I (by
   obtain ⟨A,c,hv,_,_,h⟩:=fQ (HR.o x1).m;have hv:Value.slice Am a.ao.length cm= .slice A a.ao.length c:=hv;injection hv with e1 e2 e3
   rw[e1];exact h)
  have mB:=I (HR.o x1);have ajs:=I (eT.o.on x1.ok x1.ok.size);have JO:=I (fv.o.below x1.ok Zy.o);have ajt:=I (aar Zy.o x1.ok.size);have aju:=I (gf.o.trans (x1.ok.mono gf.o.size));have HIO:=I hio;clear hb hio eQ Ut HR eT fv Zy gf z0 z1 z2 z3 z4 z5;generalize x1.val=w3 at*;clear x1 x0;clear W;obtain ⟨W,hW⟩: ∃X,X=w3:=⟨_,rfl⟩
  rw[<-hW]at ajr mB ajs JO ajt aju HIO⊢;clear hW;have Ut:=ajr;have eT:=ajs;have fv:=JO;have Zy:=ajt;have gf:=aju;have HR:=I (λy:ar W=>mB.o.on y.ok y.ok.size);clear ajr ajs JO ajt aju mB;have z0:=λy:ar W=>(fv.o.below y.ok Zy.o).cell 0 _ rfl;have z1:=λy:ar W=>(fv.o.below y.ok Zy.o).cell 1 _ rfl;have z2:=λy:ar W=>(fv.o.below y.ok Zy.o).cell 2 _ rfl;have z3:=λy:ar W=>(fv.o.below y.ok Zy.o).cell 3 _ rfl;have z4:=λy:ar W=>(fv.o.below y.ok Zy.o).cell 4 _ rfl;have z5:=λy:ar W=>(fv.o.below y.ok Zy.o).cell 5 _ rfl;obtain ⟨x0,dp⟩: ∃y:ar W,y.val=W:=⟨⟨W,aae _ _⟩,rfl⟩
  rw[<-dp];clear dp;by_cases SL:O.length=0
  ·have e0:((O.length:Int)==0)=true:=by simp[SL]
   clear SL;have HV:=I (λy:ar W=>Gt a At ct Ab cb Ac cc Am cm y.val (HR.o y) HF.o.sz);rw[HF.o.fI]at HV;go_wp2_with (fail);refine (aq (HV.o x0)).mono ?_;rintro e _ ⟨rfl,x1,rfl⟩;go_wp2;go_ret;exact ⟨rfl,gf.o.trans (x1.ok.mono gf.o.size)⟩
  have e0:((O.length:Int)==0)=false:=by simp[SL]
  obtain ⟨ai5,dp,ei,iH⟩:=ai3 A2 n2 c2 0 (O.length:Int) W eT.o (by omega) (by omega) (by omega);obtain ⟨j,rfl⟩: ∃j:Nat,ai5=(j:Int):=⟨ai5.toNat,by omega⟩
  have uK:=I iH;have yb:j<O.length:=by omega
  have KJ:(0:Int)<=(j:Int):=by omega
  obtain ⟨ajm,ajn,rfl,hbo,ajo⟩:=cZ HIO.o (aag yb);obtain ⟨k,m,hz,aH,gD⟩:=HME.o _ (aax yb);rw[hz]at ajo;have qg:k<a.ao.length:=(aal.1 aH).1;clear iH SL hz dp;obtain ⟨b2,off,rfl,cL,aC⟩:=Ut.o (by omega);obtain ⟨aiJ,d1,aiK,d2,hP⟩:=aC k _ aH;have ajg:=gi.1 (HF.o.ok.ao k _ aH);have Hk:m.ax.length=a.af.length:=by have:=ajg.len;omega
  have HK:=I aH;have ZY:=I Hk;have O8:ag (∀z∈m.ax,0<=z/\z<=3):=I ajg.ax;have t6:=hP.k6;have iq:=hP.ints;rw[Hk]at t6 iq;have tY:ag (Ints W W.heap.size (.slice aiK a.af.length d2) m.ax):=I iq;have dl:ag (∀y:ar W,y.val.cell? ⟨nz,5,none⟩=some (.slice (some ⟨b2,off,none⟩) a.ao.length cm)/\y.val.cell? ⟨b2,off+k*8,none⟩=some (.string m.al)/\y.val.cell? ⟨b2,off+k*8+1,none⟩=some (.int .i64 m.br)/\y.val.cell? ⟨b2,off+k*8+2,none⟩=some (.slice aiJ m.pat.length d1)/\y.val.cell? ⟨b2,off+k*8+3,none⟩=some (.int .i64 m.a8)/\y.val.cell? ⟨b2,off+k*8+4,none⟩=some (.int .i64 m.fin)/\y.val.cell? ⟨b2,off+k*8+5,none⟩=some (.int .i64 m.aj)/\y.val.cell? ⟨b2,off+k*8+6,none⟩=some (.slice aiK a.af.length d2)/\y.val.cell? ⟨b2,off+k*8+7,none⟩=some (.int .i64 m.result)/\y.val.cell? ⟨ajm,ajn+j,none⟩=some (.int .i64 (k:Int))):=I (λy=>⟨z5 y,y.cell hP.k0,y.cell hP.k1,y.cell hP.k2,y.cell hP.k3,y.cell hP.k4,y.cell hP.k5,y.cell t6,y.cell hP.k7,y.cell ajo⟩);have jA:(0:Int)<=(k:Int):=by omega
  have Hl:(k:Int)<(a.ao.length:Int):=by omega
  clear aC hP ajg aH t6 iq Hk;have Z5:=I gD;clear ajo gD HIO HME;go_upto_region 7 with (fail)
  clear e0;go_cut [7] (λai6 wx=> ∃na,ai6= .pointer (some ⟨na,0,none⟩)/\Row wx na [.string m.al,.int .i64 m.br,.slice aiJ m.pat.length d1,.int .i64 m.a8,.int .i64 m.fin,.int .i64 m.aj,.slice aiK a.af.length d2,.int .i64 m.result]/\Below W.heap.size W wx/\na<wx.heap.size)
  case first=>
   refine dq 12 (λw'=>w'.cell? ⟨nz,5,none⟩=some (.slice (some ⟨b2,off,none⟩) a.ao.length cm)/\w'.cell? ⟨b2,off+k*8,none⟩=some (.string m.al)/\w'.cell? ⟨b2,off+k*8+1,none⟩=some (.int .i64 m.br)/\w'.cell? ⟨b2,off+k*8+2,none⟩=some (.slice aiJ m.pat.length d1)/\w'.cell? ⟨b2,off+k*8+3,none⟩=some (.int .i64 m.a8)/\w'.cell? ⟨b2,off+k*8+4,none⟩=some (.int .i64 m.fin)/\w'.cell? ⟨b2,off+k*8+5,none⟩=some (.int .i64 m.aj)/\w'.cell? ⟨b2,off+k*8+6,none⟩=some (.slice aiK a.af.length d2)/\w'.cell? ⟨b2,off+k*8+7,none⟩=some (.int .i64 m.result)/\w'.cell? ⟨ajm,ajn+j,none⟩=some (.int .i64 (k:Int))) (by kernel_rfl) ?_;obtain ⟨y0,Rf⟩: ∃y:ar W,y.val=(x0).val.drew:=⟨⟨_,(x0).ok.drew⟩,rfl⟩
   rw[<-Rf];clear Rf;have aE:=dl.o y0;refine cl 0 ?_
   try simp only[Act.put,aK,aM]
   refine cl 1 ?_
   try simp only[Act.put,aK,aM]
   refine cl 2 ?_
   try simp only[Act.put,aK,aM]
   refine cl 3 ?_
   try simp only[Act.put,aK,aM]
   refine cl 4 ?_
   try simp only[Act.put,aK,aM]
   refine cl 5 ?_
   try simp only[Act.put,aK,aM]
   clear aE;refine bZ (rs:=[6,11]) (by kernel_rfl) (by simp) ?_;refine aN.cons rfl (λK hK=>?_) (aN.cons rfl (λK hK=>?_) aN.nil)
   ·try simp only[aK]
    go_simp;go_at_call 11;refine (uK.o y0).mono ?_;rintro e w1 ⟨rfl,q,rfl⟩;have ai7:Below (y0).val.heap.size (y0).val ((y0).val.drewN q):=below_drewN (aae _ _) q
    try replace ch:=I (ch.o.below ai7 (by omega))
    try replace qg:=aaB qg ai7.size
    obtain ⟨y1,hc⟩: ∃y:ar W,y.val=(y0).val.drewN q:=⟨⟨_,below_drewN (y0).ok q⟩,rfl⟩
    try rw[<-hc]at ch
    try rw[<-hc]at qg
    rw[<-hc];clear hc ai7;refine hK.out _ _ (λ_=>dl.o y1) ?_;clear hK K
    try simp only[Act.put,aM]
    have aE:=dl.o y1;refine cl 7 ?_
    try simp only[Act.put,aK,aM]
    refine cl 8 ?_
    try simp only[Act.put,aK,aM]
    refine cl 9 ?_
    try simp only[Act.put,aK,aM]
    refine cl 10 ?_
    try simp only[Act.put,aK,aM]
    clear aE;refine cV 11 (λK hK=>?_)
    try simp only[aK]
    go_simp;have bk:Below (y1).val.heap.size (y1).val ((y1).val.alloc (.cells #[.string ⟨#[]⟩,.int .i64 0,.slice none 0 0,.int .i64 0,.int .i64 0,.int .i64 0,.slice none 0 0,.int .i64 0] 35)):=(aae _ _).alloc (aad _) _;have ch:ag (Row ((y1).val.alloc (.cells #[.string ⟨#[]⟩,.int .i64 0,.slice none 0 0,.int .i64 0,.int .i64 0,.int .i64 0,.slice none 0 0,.int .i64 0] 35)) (y1).val.heap.size [.string ⟨#[]⟩,.int .i64 0,.slice none 0 0,.int .i64 0,.int .i64 0,.int .i64 0,.slice none 0 0,.int .i64 0]):=I (Row.new _ _ _);have qg:(y1).val.heap.size+1<=((y1).val.alloc (.cells #[.string ⟨#[]⟩,.int .i64 0,.slice none 0 0,.int .i64 0,.int .i64 0,.int .i64 0,.slice none 0 0,.int .i64 0] 35)).heap.size:=by simp
    have Mk:=(y1).ok.size;obtain ⟨y2,hc⟩: ∃y:ar W,y.val=(y1).val.alloc (.cells #[.string ⟨#[]⟩,.int .i64 0,.slice none 0 0,.int .i64 0,.int .i64 0,.int .i64 0,.slice none 0 0,.int .i64 0] 35):=⟨⟨_,(y1).ok.trans (bk.mono (y1).ok.size)⟩,rfl⟩
    rw[<-hc]at ch qg⊢;clear hc bk;refine hK.out _ _ (λ_=>dl.o y2) ?_;clear hK K
    try simp only[Act.put,aM]
    refine cV 12 (λK hK=>?_)
    try simp only[aK]
    have a0:=ch.o.cell 0 _ rfl;have a1:=ch.o.cell 1 _ rfl;have a2:=ch.o.cell 2 _ rfl;have a3:=ch.o.cell 3 _ rfl;have a4:=ch.o.cell 4 _ rfl;have a5:=ch.o.cell 5 _ rfl;have a6:=ch.o.cell 6 _ rfl;have a7:=ch.o.cell 7 _ rfl;have f0:=ch.o.free 0 (by simp);have f1:=ch.o.free 1 (by simp);have f2:=ch.o.free 2 (by simp);have f3:=ch.o.free 3 (by simp);have f4:=ch.o.free 4 (by simp);have f5:=ch.o.free 5 (by simp);have f6:=ch.o.free 6 (by simp);have f7:=ch.o.free 7 (by simp);go_simp;obtain ⟨w9,Ag⟩: ∃X,X=(((((((((y2).val).setCell ⟨y1.val.heap.size,0,none⟩ (.string m.al)).setCell ⟨y1.val.heap.size,1,none⟩ (.int .i64 m.br)).setCell ⟨y1.val.heap.size,2,none⟩ (.slice aiJ m.pat.length d1)).setCell ⟨y1.val.heap.size,3,none⟩ (.int .i64 m.a8)).setCell ⟨y1.val.heap.size,4,none⟩ (.int .i64 m.fin)).setCell ⟨y1.val.heap.size,5,none⟩ (.int .i64 m.aj)).setCell ⟨y1.val.heap.size,6,none⟩ (.slice aiK a.af.length d2)).setCell ⟨y1.val.heap.size,7,none⟩ (.int .i64 m.result):=⟨_,rfl⟩
    have xo:Touch (λb=>b=y1.val.heap.size) (y2).val w9:=by
     rw[Ag]
     iterate 8 refine Touch.setCell (F:=λb=>b=y1.val.heap.size) ?_ rfl _
     exact Touch.refl _ _
    have CM:Row w9 y1.val.heap.size [.string m.al,.int .i64 m.br,.slice aiJ m.pat.length d1,.int .i64 m.a8,.int .i64 m.fin,.int .i64 m.aj,.slice aiK a.af.length d2,.int .i64 m.result]:=by
     rw[Ag];exact (((((((ch.o.set 0 _ (by simp)).set 1 _ (by simp)).set 2 _ (by simp)).set 3 _ (by simp)).set 4 _ (by simp)).set 5 _ (by simp)).set 6 _ (by simp)).set 7 _ (by simp)
    rw[<-Ag];clear Ag a0 a1 a2 a3 a4 a5 a6 a7 f0 f1 f2 f3 f4 f5 f6 f7;refine hK.out _ _ (λh=>by simp at h) ?_;clear hK K
    try simp only[Act.put,aM]
    refine dh (by kernel_rfl) ?_ _;have ZV:=xo.size;have iM:=I ((y2).ok.trans (xo.below (y2).ok.size (λb e=>by omega)):Below W.heap.size W w9);have W4:=I CM;clear xo CM;go_wp2;go_meet;case rel=>exact ⟨_,rfl,W4.o,iM.o,by omega⟩
   try simp only[aK]
   go_simp;have bk:Below (y0).val.heap.size (y0).val ((y0).val.alloc (.cells #[.string ⟨#[]⟩,.int .i64 0,.slice none 0 0,.int .i64 0,.int .i64 0,.int .i64 0,.slice none 0 0,.int .i64 0] 35)):=(aae _ _).alloc (aad _) _;have ch:ag (Row ((y0).val.alloc (.cells #[.string ⟨#[]⟩,.int .i64 0,.slice none 0 0,.int .i64 0,.int .i64 0,.int .i64 0,.slice none 0 0,.int .i64 0] 35)) (y0).val.heap.size [.string ⟨#[]⟩,.int .i64 0,.slice none 0 0,.int .i64 0,.int .i64 0,.int .i64 0,.slice none 0 0,.int .i64 0]):=I (Row.new _ _ _);have qg:(y0).val.heap.size+1<=((y0).val.alloc (.cells #[.string ⟨#[]⟩,.int .i64 0,.slice none 0 0,.int .i64 0,.int .i64 0,.int .i64 0,.slice none 0 0,.int .i64 0] 35)).heap.size:=by simp
   have Mk:=(y0).ok.size;obtain ⟨y1,hc⟩: ∃y:ar W,y.val=(y0).val.alloc (.cells #[.string ⟨#[]⟩,.int .i64 0,.slice none 0 0,.int .i64 0,.int .i64 0,.int .i64 0,.slice none 0 0,.int .i64 0] 35):=⟨⟨_,(y0).ok.trans (bk.mono (y0).ok.size)⟩,rfl⟩
   rw[<-hc]at ch qg⊢;clear hc bk;refine hK.out _ _ (λ_=>dl.o y1) ?_;clear hK K
   try simp only[Act.put,aM]
   refine cV 6 (λK hK=>?_)
   try simp only[aK]
   go_simp;go_at_call 11;refine (uK.o y1).mono ?_;rintro e w1 ⟨rfl,q,rfl⟩;have ai7:Below (y1).val.heap.size (y1).val ((y1).val.drewN q):=below_drewN (aae _ _) q
   try replace ch:=I (ch.o.below ai7 (by omega))
   try replace qg:=aaB qg ai7.size
   obtain ⟨y2,hc⟩: ∃y:ar W,y.val=(y1).val.drewN q:=⟨⟨_,below_drewN (y1).ok q⟩,rfl⟩
   try rw[<-hc]at ch
   try rw[<-hc]at qg
   rw[<-hc];clear hc ai7;refine hK.out _ _ (λ_=>dl.o y2) ?_;clear hK K
   try simp only[Act.put,aM]
   have aE:=dl.o y2;refine cl 7 ?_
   try simp only[Act.put,aK,aM]
   refine cl 8 ?_
   try simp only[Act.put,aK,aM]
   refine cl 9 ?_
   try simp only[Act.put,aK,aM]
   refine cl 10 ?_
   try simp only[Act.put,aK,aM]
   clear aE;refine cV 12 (λK hK=>?_)
   try simp only[aK]
   have a0:=ch.o.cell 0 _ rfl;have a1:=ch.o.cell 1 _ rfl;have a2:=ch.o.cell 2 _ rfl;have a3:=ch.o.cell 3 _ rfl;have a4:=ch.o.cell 4 _ rfl;have a5:=ch.o.cell 5 _ rfl;have a6:=ch.o.cell 6 _ rfl;have a7:=ch.o.cell 7 _ rfl;have f0:=ch.o.free 0 (by simp);have f1:=ch.o.free 1 (by simp);have f2:=ch.o.free 2 (by simp);have f3:=ch.o.free 3 (by simp);have f4:=ch.o.free 4 (by simp);have f5:=ch.o.free 5 (by simp);have f6:=ch.o.free 6 (by simp);have f7:=ch.o.free 7 (by simp);go_simp;obtain ⟨w9,Ag⟩: ∃X,X=(((((((((y2).val).setCell ⟨y0.val.heap.size,0,none⟩ (.string m.al)).setCell ⟨y0.val.heap.size,1,none⟩ (.int .i64 m.br)).setCell ⟨y0.val.heap.size,2,none⟩ (.slice aiJ m.pat.length d1)).setCell ⟨y0.val.heap.size,3,none⟩ (.int .i64 m.a8)).setCell ⟨y0.val.heap.size,4,none⟩ (.int .i64 m.fin)).setCell ⟨y0.val.heap.size,5,none⟩ (.int .i64 m.aj)).setCell ⟨y0.val.heap.size,6,none⟩ (.slice aiK a.af.length d2)).setCell ⟨y0.val.heap.size,7,none⟩ (.int .i64 m.result):=⟨_,rfl⟩
   have xo:Touch (λb=>b=y0.val.heap.size) (y2).val w9:=by
    rw[Ag]
    iterate 8 refine Touch.setCell (F:=λb=>b=y0.val.heap.size) ?_ rfl _
    exact Touch.refl _ _
   have CM:Row w9 y0.val.heap.size [.string m.al,.int .i64 m.br,.slice aiJ m.pat.length d1,.int .i64 m.a8,.int .i64 m.fin,.int .i64 m.aj,.slice aiK a.af.length d2,.int .i64 m.result]:=by
    rw[Ag];exact (((((((ch.o.set 0 _ (by simp)).set 1 _ (by simp)).set 2 _ (by simp)).set 3 _ (by simp)).set 4 _ (by simp)).set 5 _ (by simp)).set 6 _ (by simp)).set 7 _ (by simp)
   rw[<-Ag];clear Ag a0 a1 a2 a3 a4 a5 a6 a7 f0 f1 f2 f3 f4 f5 f6 f7;refine hK.out _ _ (λh=>by simp at h) ?_;clear hK K
   try simp only[Act.put,aM]
   refine dh (by kernel_rfl) ?_ _;have ZV:=xo.size;have iM:=I ((y2).ok.trans (xo.below (y2).ok.size (λb e=>by omega)):Below W.heap.size W w9);have W4:=I CM;clear xo CM;go_wp2;go_meet;case rel=>exact ⟨_,rfl,W4.o,iM.o,by omega⟩
  case rest=>
   obtain ⟨na,rfl,bi,ajh,Ij⟩:=hcut;have R4:=I ajh;have G4:=I bi;have J2:=I Ij;clear bi ajh Ij dl z0 z1 z2 z3 z4 z5;have tF:ag (∀y:ar wc,Below W.heap.size W y.val):=I (λy=>R4.o.trans (y.ok.mono R4.o.size));have mR:=I (λy:ar wc=>fv.o.below (tF.o y) Zy.o);have z0:=λy:ar wc=>(mR.o y).cell 0 _ rfl;have z1:=λy:ar wc=>(mR.o y).cell 1 _ rfl;have z2:=λy:ar wc=>(mR.o y).cell 2 _ rfl;have z3:=λy:ar wc=>(mR.o y).cell 3 _ rfl;have z4:=λy:ar wc=>(mR.o y).cell 4 _ rfl;have z5:=λy:ar wc=>(mR.o y).cell 5 _ rfl;have m0:=λy:ar wc=>(G4.o.below y.ok J2.o).cell 0 _ rfl;have m6:=λy:ar wc=>(G4.o.below y.ok J2.o).cell 6 _ rfl;have gj:ag (∀y:ar wc,jv y.val y.val.heap.size ⟨.slice At a.af.length ct,.slice Ab a.base.length cb,.slice Ac a.av.length cc,.slice (some ⟨b2,off,none⟩) a.ao.length cm⟩ a):=I (λy=>HR.o ⟨y.val,tF.o y⟩);have ajk:=I (λy:ar wc=>eT.o.on (tF.o y) (tF.o y).size);have aji:=I (λy:ar wc=>cz.on tY.o (Pl.stays _) (tF.o y) (tF.o y).size);have Ph:=I (λy:ar wc=>gf.o.trans ((tF.o y).mono gf.o.size));go_upto_region 8 with (fail)
   refine yY λx0=>?_;clear uK;obtain ⟨ajp,Rf,YS,iH⟩:=ai3 A2 n2 c2 1 (a.af.length:Int) wc (eT.o.on R4.o R4.o.size) (by omega) (by omega) (by omega);obtain ⟨q,rfl⟩: ∃q:Nat,ajp=(q:Int):=⟨ajp.toNat,by omega⟩
   have Cj:=I iH;have mw:q<a.af.length:=by omega
   have S0:(0:Int)<=(q:Int):=by omega
   clear iH Rf;go_wp2_with (fail);refine (az (Cj.o x0)).mono ?_;rintro e _ ⟨rfl,x1,rfl⟩;obtain ⟨l1,l2,l3,l4⟩:=ah7 HF.o HK.o Z5.o mw;have Lc:ag (m.al.size<=maxLen):=I (aiX HF.o HK.o);have MM:=I (λy:ar wc=>afQ a _ m.al y.val (gj.o y) HF.o.sz);rw[l1]at MM;have Z8:=I (λy:ar wc=>ai2 HF.o HK.o Z5.o _ y.val (gj.o y));unfold YM eu at MM;unfold eu at Z8;have ajv:=I l2;have HL3:=I l3;have HL4:=I l4;generalize acR a m.al=L1 at*;clear l1 l2 l3 l4;go_wp2_with (fail);refine (MM.o x1).mono ?_;rintro e w1 ⟨v,rfl,hv,hb⟩
   try replace fs:=I (cz.on fs.o (Pl.stays _) hb hb.size)
   try replace ie:=I (cz.on ie.o (Pl.stays _) hb hb.size)
   try replace o8:=I (cz.on o8.o (Pl.stays _) hb hb.size)
   have fs:ag (Ints w1 w1.heap.size v L1):=I (ay.mo (size:=1) (λ_=>rfl) hv);obtain ⟨B1,e1,rfl,-⟩:=hv;obtain ⟨x2,rfl⟩: ∃y:ar wc,w1=y.val:=⟨⟨w1,(x1).ok.trans (hb.mono (x1).ok.size)⟩,rfl⟩
   clear hb;go_wp2_with (fail);refine (Z8.o x2).mono ?_;rintro e w1 ⟨rfl,hb⟩
   try replace fs:=I (cz.on fs.o (Pl.stays _) hb hb.size)
   try replace ie:=I (cz.on ie.o (Pl.stays _) hb hb.size)
   try replace o8:=I (cz.on o8.o (Pl.stays _) hb hb.size)
   obtain ⟨x3,rfl⟩: ∃y:ar wc,w1=y.val:=⟨⟨w1,(x2).ok.trans (hb.mono (x2).ok.size)⟩,rfl⟩
   clear hb;have Fh:=I (ai0 HF.o HK.o Z5.o mw (v:=0) (by omega) (by omega) _ (x3).val (gj.o x3) Lc.o);unfold aiZ eu at Fh;go_wp2_with (fail);refine Fh.o.mono ?_;rintro e w1 ⟨xv,T5,C5,M5,rfl,⟨Et,f1,et,Eb,f2,eb,Ec,f3,ec,Em,f4,em,rfl⟩,Z6,hb⟩
   try replace fs:=I (cz.on fs.o (Pl.stays _) hb hb.size)
   try replace ie:=I (cz.on ie.o (Pl.stays _) hb hb.size)
   try replace o8:=I (cz.on o8.o (Pl.stays _) hb hb.size)
   go_upto_region 12 with (fail)
   obtain ⟨D,hD⟩: ∃X,X=w1.alloc (.cells #[.int .i64 (ahN a k m q 0).day,.int .i64 (ahN a k m q 0).rule,.slice Et f1 et,.slice Eb f2 eb,.slice Ec f3 ec,.slice Em f4 em] 29):=⟨_,rfl⟩
   have b5:Below w1.heap.size w1 D:=by rw[hD];exact (aae _ _).alloc (aad _) _
   have r5:Row D w1.heap.size [.int .i64 (ahN a k m q 0).day,.int .i64 (ahN a k m q 0).rule,.slice Et f1 et,.slice Eb f2 eb,.slice Ec f3 ec,.slice Em f4 em]:=by rw[hD];exact Row.new w1 _ _
   have s5:w1.heap.size<D.heap.size:=by rw[hD];simp
   have hd:D=w1.alloc (.cells #[.int .i64 a.day,.int .i64 a.rule,.slice Et f1 et,.slice Eb f2 eb,.slice Ec f3 ec,.slice Em f4 em] 29):=hD;have HX5:=I (Z6.o.r.on b5 b5.size);obtain ⟨u0,qo⟩: ∃y:ar wc,y.val=D:=⟨⟨D,((x3).ok.trans (hb.mono (x3).ok.size)).trans (b5.mono (aaB (x3).ok.size hb.size))⟩,rfl⟩
   obtain ⟨nx,hnx⟩: ∃n,n=w1.heap.size:=⟨_,rfl⟩
   have hb:=b5
   try replace fs:=I (cz.on fs.o (Pl.stays _) hb hb.size)
   try replace ie:=I (cz.on ie.o (Pl.stays _) hb hb.size)
   try replace o8:=I (cz.on o8.o (Pl.stays _) hb hb.size)
   have EY:=I r5;first|rw[<-hD]|rw[<-hd]
   have Z4:=I (Ph.o u0);have G7:=I (gj.o u0);have ajw:=I (aji.o u0);have P5:=I ((G4.o.below u0.ok J2.o));have R2:=I ((mR.o u0));have HNA:=I (show na<D.heap.size by rw[<-qo];exact aar J2.o u0.ok.size);have Sf:=I (show nz<D.heap.size by rw[<-qo];exact aar (aar Zy.o R4.o.size) u0.ok.size);rw[qo]at Z4 G7 ajw P5 R2;rw[<-hnx]at EY s5⊢;clear hd hD hb b5 r5 Z6 qo hnx Fh u0 z0 z1 z2 z3 z4 z5 m0 m6 gj aji Ph mR tF ajk;have HRA:=I (λy:ar D=>G7.o.on y.ok y.ok.size);have Xw:=I (λy:ar D=>HX5.o.on y.ok y.ok.size);have z0:=λy:ar D=>(R2.o.below y.ok Sf.o).cell 0 _ rfl;have z1:=λy:ar D=>(R2.o.below y.ok Sf.o).cell 1 _ rfl;have z2:=λy:ar D=>(R2.o.below y.ok Sf.o).cell 2 _ rfl;have z3:=λy:ar D=>(R2.o.below y.ok Sf.o).cell 3 _ rfl;have z4:=λy:ar D=>(R2.o.below y.ok Sf.o).cell 4 _ rfl;have z5:=λy:ar D=>(R2.o.below y.ok Sf.o).cell 5 _ rfl;have m0:=λy:ar D=>(P5.o.below y.ok HNA.o).cell 0 _ rfl;have m6:=λy:ar D=>(P5.o.below y.ok HNA.o).cell 6 _ rfl;have v0:=λy:ar D=>(EY.o.below y.ok s5).cell 0 _ rfl;have v1:=λy:ar D=>(EY.o.below y.ok s5).cell 1 _ rfl;have v2:=λy:ar D=>(EY.o.below y.ok s5).cell 2 _ rfl;have v3:=λy:ar D=>(EY.o.below y.ok s5).cell 3 _ rfl;have v4:=λy:ar D=>(EY.o.below y.ok s5).cell 4 _ rfl;have v5:=λy:ar D=>(EY.o.below y.ok s5).cell 5 _ rfl;have M7:=I (λy:ar D=>aiR HF.o HK.o Z5.o mw (v:=0) (by omega) (by omega) _ y.val (Xw.o y));have HCR:=I (λy:ar D=>aiP HF.o HK.o Z5.o mw (v:=0) (by omega) (by omega) _ y.val (Xw.o y));unfold YM eu at HCR;unfold eu at M7;refine yY λd0=>?_;have HJ1:=I (λy:ar D=>cz.on fs.o (Pl.stays _) y.ok y.ok.size);clear fs;have IX:=I (λy:ar D=>aeZ a _ m.al (q:Int) y.val (HRA.o y) HF.o.sz);rw[HL3.o,HL4.o]at IX;unfold YM eu at IX;have Hk:=ZY.o;obtain ⟨bv,ov,rfl,JA,qv⟩:=cZ ajw.o (ai4 (show q<m.ax.length by omega));have tv:=λy:ar D=>y.cell qv;have hq3:(q:Int)<(a.af.length:Int):=by omega
   have Qz:=I (λy:ar D=>ahf L1 (q:Int) y.val _ (HJ1.o y));rw[ajv.o]at Qz;clear qv JA Hk ajv HL3 HL4;generalize cO a (m.ax.set q 0)=L2 at*;generalize m.ax.getD q 0=vv at*;generalize lY a m (m.ax.set q 0)=y2 at*;generalize lY a m m.ax=y1 at*;go_wp2_with (fail);refine (M7.o d0).mono ?_;rintro e w1 ⟨rfl,hb⟩
   try replace fs:=I (cz.on fs.o (Pl.stays _) hb hb.size)
   try replace ie:=I (cz.on ie.o (Pl.stays _) hb hb.size)
   try replace o8:=I (cz.on o8.o (Pl.stays _) hb hb.size)
   obtain ⟨d1,rfl⟩: ∃y:ar D,w1=y.val:=⟨⟨w1,(d0).ok.trans (hb.mono (d0).ok.size)⟩,rfl⟩
   clear hb;go_wp2_with (fail);refine (HCR.o d1).mono ?_;rintro e w1 ⟨v,rfl,hv,hb⟩
   try replace fs:=I (cz.on fs.o (Pl.stays _) hb hb.size)
   try replace ie:=I (cz.on ie.o (Pl.stays _) hb hb.size)
   try replace o8:=I (cz.on o8.o (Pl.stays _) hb hb.size)
   have ie:ag (Ints w1 w1.heap.size v L2):=I (ay.mo (size:=1) (λ_=>rfl) hv);obtain ⟨B2,e2,rfl,-⟩:=hv;obtain ⟨d2,rfl⟩: ∃y:ar D,w1=y.val:=⟨⟨w1,(d1).ok.trans (hb.mono (d1).ok.size)⟩,rfl⟩
   clear hb;go_wp2_with (fail);refine (IX.o d2).mono ?_;rintro e w1 ⟨v,rfl,hv,hb⟩
   try replace fs:=I (cz.on fs.o (Pl.stays _) hb hb.size)
   try replace ie:=I (cz.on ie.o (Pl.stays _) hb hb.size)
   try replace o8:=I (cz.on o8.o (Pl.stays _) hb hb.size)
   have o8:ag (Ints w1 w1.heap.size v L2):=I (ay.mo (size:=1) (λ_=>rfl) hv);obtain ⟨B3,e3,rfl,-⟩:=hv;obtain ⟨d3,rfl⟩: ∃y:ar D,w1=y.val:=⟨⟨w1,(d2).ok.trans (hb.mono (d2).ok.size)⟩,rfl⟩
   clear hb;have HNU:=I (aeV L2 L2 d3.val _ _ ie.o o8.o);unfold QC at HNU;go_wp2_with (fail);refine HNU.o.mono ?_;rintro e w1 ⟨r,rfl,hr,hb⟩;obtain rfl:r=true:=by simpa using hr
   obtain ⟨d4,rfl⟩: ∃y:ar D,w1=y.val:=⟨⟨w1,d3.ok.trans (hb.mono d3.ok.size)⟩,rfl⟩
   clear hr hb HNU ie o8;go_upto_region 17 with (fail)
   cases hv:(vv==0)with
   |true=>
    have Dc:(vv !=0)=false:=by rw[bne,hv];rfl
    rw[hv]at Qz;simp only[Bool.not_true,Bool.false_and]at Qz;refine ap (by kernel_rfl) (by kernel_rfl) ?_
    repeat (go_big_quiet_step ((first|(go_at_call 17;exact az (Qz.o _)))))
    refine aai ?_;rintro _ ⟨d5,rfl⟩;go_wp2;go_ret;exact ⟨rfl,Z4.o.trans (d5.ok.mono Z4.o.size)⟩
   |false=>
    have Dc:(vv !=0)=true:=by rw[bne,hv];rfl
    rw[hv]at Qz;simp only[Bool.not_false,aaD]at Qz;cases hy:(y2==y1)with
    |true=>
     have YS:(y1 !=y2)=false:=by rw[ajZ]at hy;simp[hy]
     rw[hy]at Qz;simp only[Bool.not_true]at Qz;refine ap (by kernel_rfl) (by kernel_rfl) ?_
     repeat (go_big_quiet_step ((first|(go_at_call 17;exact az (Qz.o _)))))
     refine aai ?_;rintro _ ⟨d5,rfl⟩;go_wp2;go_ret;exact ⟨rfl,Z4.o.trans (d5.ok.mono Z4.o.size)⟩
    |false=>
     have YS:(y1 !=y2)=true:=by rw[abY]at hy;simp;exact λe=>hy e.symm
     rw[hy]at Qz;simp only[Bool.not_false]at Qz;refine ap (by kernel_rfl) (by kernel_rfl) ?_
     repeat (go_big_quiet_step ((first|(go_at_call 17;exact az (Qz.o _)))))
     refine aai ?_;rintro _ ⟨d5,rfl⟩;go_wp2;go_ret;exact ⟨rfl,Z4.o.trans (d5.ok.mono Z4.o.size)⟩
 have HL:=I (agL A1 n1 c1 A2 n2 c2 w hl);clear hl;go_enter func6,ntmps6;go_wp2_with (fail);refine (HL.o).mono ?_;rintro e w1 ⟨rfl,m1,rfl⟩;go_wp2;go_ret;exact ⟨rfl,below_drewN (aae _ _) m1⟩
end Go.Proofs.YtbcggaldkihcaaaGreat
