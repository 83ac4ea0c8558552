/- FnCounted, walked. -/
import Derived.Test.YtbcggaldkihcaaaGreatGh
set_option maxHeartbeats 16000000
set_option maxRecDepth 100000
namespace Go.Proofs.YtbcggaldkihcaaaGreat
open Tryz
open Go.RowKit Go.Lib
theorem aje {w:World} {g:Nat} {L:List Int} (hr:Row w g (L.map (Value.int .i64))) (hg:g<w.heap.size) (hl:L.length<=1048576):Ints w w.heap.size (.slice (some ⟨g,0,none⟩) L.length L.length) L:=
 cz.CS ak (λ_=>rfl) (by rw[je];exact hr) hg (aad _) (by unfold maxLen;omega)
theorem ajf (A1:Option Addr) (n1 c1:Nat) (A2:Option Addr) (n2 c2:Nat) (w:World) (Ky:za w w.heap.size A1 n1) (O2:za w w.heap.size A2 n2):
 Calls prog 3 #[.slice A1 n1 c1,.slice A2 n2 c2] w (bT (.bool true) w):=by
 by_cases hl:n1<=1048576/\n2<=1048576
 ·have HL:=I (ahg A1 n1 c1 A2 n2 c2 w hl.1 hl.2);have HS:=I (λm=>ail A1 n1 c1 (w.drewN m) Ky);have zC:=I O2;clear hl Ky O2;go_enter func3,ntmps3;go_wp2_with (fail);refine (HL.o).mono ?_;rintro e w1 ⟨rfl,m1,rfl⟩;go_wp2_with (fail);refine (HS.o m1).mono ?_;rintro e w2 ⟨x,a,T,C,M,rfl,-,cr,z',hb⟩;obtain ⟨At,ct,Ab,cb,Ac,cc,Am,cm,rfl⟩:=cr.o.r.slices;unfold eu;go_upto_region 4 with (fail)
  obtain ⟨W,hW⟩: ∃X,X=w2.alloc (.cells #[.int .i64 a.day,.int .i64 a.rule,.slice At a.af.length ct,.slice Ab a.base.length cb,.slice Ac a.av.length cc,.slice Am a.ao.length cm] 29):=⟨_,rfl⟩
  have a1:Row W w2.heap.size [.int .i64 a.day,.int .i64 a.rule,.slice At a.af.length ct,.slice Ab a.base.length cb,.slice Ac a.av.length cc,.slice Am a.ao.length cm]:=by rw[hW];exact Row.new w2 _ _
  have b2:Below w2.heap.size w2 W:=by rw[hW];exact (aae _ _).alloc (aad _) _
  have sW:w2.heap.size<W.heap.size:=by rw[hW];simp
  rw[<-hW];have bw:Below w.heap.size w w2:=(below_drewN (aae w.heap.size w) m1).trans hb;have gf:ag (Below w.heap.size w W):=I (bw.trans (b2.mono bw.size));have F7:=cr.o.r.on b2 b2.size;have HR:=I (λy:ar W=>F7.on y.ok y.ok.size)
  have Ut:ag (0<a.ao.length-> ∃b off,Am=some ⟨b,off,none⟩/\b<W.heap.size/\ ∀(k:Nat) (m:gu),a.ao[k]?=some m-> ∃A1 c1 A2 c2,Bs W W.heap.size b (off+k*8) m A1 c1 A2 c2):=I (by
   obtain ⟨A,c,hv,_,_,h⟩:=fQ F7.m;have hv:Value.slice Am a.ao.length cm= .slice A a.ao.length c:=hv;injection hv with e1 e2 e3
   rw[e1];exact h)
  have eT:ag (za W W.heap.size A2 n2):=I (zC.o.on gf.o gf.o.size);have HF:=I z';have fv:=I a1;have Zy:=I sW;have h6:=z'.ok.m6;have fD:=z'.ok.n12;have kM:=z'.ok.n1;clear HL HS zC cr z' hb bw F7 a1 b2 sW hW;obtain ⟨nz,V7⟩: ∃n,n=w2.heap.size:=⟨_,rfl⟩
  rw[<-V7]at fv Zy⊢;clear V7;have z0:=λy:ar W=>(fv.o.below y.ok Zy.o).cell 0 _ rfl;have z1:=λy:ar W=>(fv.o.below y.ok Zy.o).cell 1 _ rfl;have z2:=λy:ar W=>(fv.o.below y.ok Zy.o).cell 2 _ rfl;have z3:=λy:ar W=>(fv.o.below y.ok Zy.o).cell 3 _ rfl;have z4:=λy:ar W=>(fv.o.below y.ok Zy.o).cell 4 _ rfl;have z5:=λy:ar W=>(fv.o.below y.ok Zy.o).cell 5 _ rfl;refine yY λx0=>?_;by_cases SL:a.ao.length=0
  ·have e0:((a.ao.length:Int)==0)=true:=by simp[SL]
   clear SL;have HV:=I (λy:ar W=>Gt a At ct Ab cb Ac cc Am cm y.val (HR.o y) HF.o.sz);rw[HF.o.fI]at HV;go_wp2_with (fail);refine (aq (HV.o x0)).mono ?_;rintro e _ ⟨rfl,x1,rfl⟩;go_wp2;go_ret;exact ⟨rfl,gf.o.trans (x1.ok.mono gf.o.size)⟩
  have e0:((a.ao.length:Int)==0)=false:=by simp[SL]
  obtain ⟨ai5,dp,ei,iH⟩:=ai3 A2 n2 c2 0 (a.ao.length:Int) W eT.o (by omega) (by omega) (by omega);obtain ⟨k,rfl⟩: ∃k:Nat,ai5=(k:Int):=⟨ai5.toNat,by omega⟩
  have uK:=I iH;have qg:k<a.ao.length:=by omega
  have aH:a.ao[k]?=some a.ao[k]:=aag qg;generalize a.ao[k]=m at*;clear iH SL qg;obtain ⟨b2,off,rfl,cL,aC⟩:=Ut.o (by omega);obtain ⟨aiJ,d1,aiK,d2,hP⟩:=aC k _ aH;have ajg:=gi.1 (HF.o.ok.ao k _ aH);have Hk:m.ax.length=a.af.length:=by have:=ajg.len;omega
  have HK:=I aH;have ZY:=I Hk;have O8:ag (∀z∈m.ax,0<=z/\z<=3):=I ajg.ax;have t6:=hP.k6;have iq:=hP.ints;rw[Hk]at t6 iq;have tY:ag (Ints W W.heap.size (.slice aiK a.af.length d2) m.ax):=I iq;have dl:ag (∀y:ar W,y.val.cell? ⟨nz,5,none⟩=some (.slice (some ⟨b2,off,none⟩) a.ao.length cm)/\y.val.cell? ⟨b2,off+k*8,none⟩=some (.string m.al)/\y.val.cell? ⟨b2,off+k*8+1,none⟩=some (.int .i64 m.br)/\y.val.cell? ⟨b2,off+k*8+2,none⟩=some (.slice aiJ m.pat.length d1)/\y.val.cell? ⟨b2,off+k*8+3,none⟩=some (.int .i64 m.a8)/\y.val.cell? ⟨b2,off+k*8+4,none⟩=some (.int .i64 m.fin)/\y.val.cell? ⟨b2,off+k*8+5,none⟩=some (.int .i64 m.aj)/\y.val.cell? ⟨b2,off+k*8+6,none⟩=some (.slice aiK a.af.length d2)/\y.val.cell? ⟨b2,off+k*8+7,none⟩=some (.int .i64 m.result)):=I (λy=>⟨z5 y,y.cell hP.k0,y.cell hP.k1,y.cell hP.k2,y.cell hP.k3,y.cell hP.k4,y.cell hP.k5,y.cell t6,y.cell hP.k7⟩);have jA:(0:Int)<=(k:Int):=by omega
  have Hl:(k:Int)<(a.ao.length:Int):=by omega
  clear aC hP ajg aH t6 iq Hk;go_upto_region 6 with (fail)
  clear e0;go_cut [6] (λai6 wx=> ∃na,ai6= .pointer (some ⟨na,0,none⟩)/\Row wx na [.string m.al,.int .i64 m.br,.slice aiJ m.pat.length d1,.int .i64 m.a8,.int .i64 m.fin,.int .i64 m.aj,.slice aiK a.af.length d2,.int .i64 m.result]/\Below W.heap.size W wx/\na<wx.heap.size)
  case first=>
   refine dq 10 (λw'=>w'.cell? ⟨nz,5,none⟩=some (.slice (some ⟨b2,off,none⟩) a.ao.length cm)/\w'.cell? ⟨b2,off+k*8,none⟩=some (.string m.al)/\w'.cell? ⟨b2,off+k*8+1,none⟩=some (.int .i64 m.br)/\w'.cell? ⟨b2,off+k*8+2,none⟩=some (.slice aiJ m.pat.length d1)/\w'.cell? ⟨b2,off+k*8+3,none⟩=some (.int .i64 m.a8)/\w'.cell? ⟨b2,off+k*8+4,none⟩=some (.int .i64 m.fin)/\w'.cell? ⟨b2,off+k*8+5,none⟩=some (.int .i64 m.aj)/\w'.cell? ⟨b2,off+k*8+6,none⟩=some (.slice aiK a.af.length d2)/\w'.cell? ⟨b2,off+k*8+7,none⟩=some (.int .i64 m.result)) (by kernel_rfl) ?_;obtain ⟨y0,Rf⟩: ∃y:ar W,y.val=(x0).val.drew:=⟨⟨_,(x0).ok.drew⟩,rfl⟩
   rw[<-Rf];clear Rf;have aE:=dl.o y0;refine cl 0 ?_
   try simp only[Act.put,aK,aM]
   refine cl 1 ?_
   try simp only[Act.put,aK,aM]
   refine cl 2 ?_
   try simp only[Act.put,aK,aM]
   refine cl 3 ?_
   try simp only[Act.put,aK,aM]
   refine cl 4 ?_
   try simp only[Act.put,aK,aM]
   refine cl 5 ?_
   try simp only[Act.put,aK,aM]
   clear aE;refine bZ (rs:=[6,9]) (by kernel_rfl) (by simp) ?_;refine aN.cons rfl (λK hK=>?_) (aN.cons rfl (λK hK=>?_) aN.nil)
   ·try simp only[aK]
    go_simp;go_at_call 11;refine (uK.o y0).mono ?_;rintro e w1 ⟨rfl,q,rfl⟩;have ai7:Below (y0).val.heap.size (y0).val ((y0).val.drewN q):=below_drewN (aae _ _) q
    try replace ch:=I (ch.o.below ai7 (by omega))
    try replace qg:=aaB qg ai7.size
    obtain ⟨y1,hc⟩: ∃y:ar W,y.val=(y0).val.drewN q:=⟨⟨_,below_drewN (y0).ok q⟩,rfl⟩
    try rw[<-hc]at ch
    try rw[<-hc]at qg
    rw[<-hc];clear hc ai7;refine hK.out _ _ (λ_=>dl.o y1) ?_;clear hK K
    try simp only[Act.put,aM]
    have aE:=dl.o y1;refine cl 7 ?_
    try simp only[Act.put,aK,aM]
    refine cl 8 ?_
    try simp only[Act.put,aK,aM]
    clear aE;refine cV 9 (λK hK=>?_)
    try simp only[aK]
    go_simp;have bk:Below (y1).val.heap.size (y1).val ((y1).val.alloc (.cells #[.string ⟨#[]⟩,.int .i64 0,.slice none 0 0,.int .i64 0,.int .i64 0,.int .i64 0,.slice none 0 0,.int .i64 0] 35)):=(aae _ _).alloc (aad _) _;have ch:ag (Row ((y1).val.alloc (.cells #[.string ⟨#[]⟩,.int .i64 0,.slice none 0 0,.int .i64 0,.int .i64 0,.int .i64 0,.slice none 0 0,.int .i64 0] 35)) (y1).val.heap.size [.string ⟨#[]⟩,.int .i64 0,.slice none 0 0,.int .i64 0,.int .i64 0,.int .i64 0,.slice none 0 0,.int .i64 0]):=I (Row.new _ _ _);have qg:(y1).val.heap.size+1<=((y1).val.alloc (.cells #[.string ⟨#[]⟩,.int .i64 0,.slice none 0 0,.int .i64 0,.int .i64 0,.int .i64 0,.slice none 0 0,.int .i64 0] 35)).heap.size:=by simp
    have Mk:=(y1).ok.size;obtain ⟨y2,hc⟩: ∃y:ar W,y.val=(y1).val.alloc (.cells #[.string ⟨#[]⟩,.int .i64 0,.slice none 0 0,.int .i64 0,.int .i64 0,.int .i64 0,.slice none 0 0,.int .i64 0] 35):=⟨⟨_,(y1).ok.trans (bk.mono (y1).ok.size)⟩,rfl⟩
    rw[<-hc]at ch qg⊢;clear hc bk;refine hK.out _ _ (λ_=>dl.o y2) ?_;clear hK K
    try simp only[Act.put,aM]
    refine cV 10 (λK hK=>?_)
    try simp only[aK]
    have a0:=ch.o.cell 0 _ rfl;have a1:=ch.o.cell 1 _ rfl;have a2:=ch.o.cell 2 _ rfl;have a3:=ch.o.cell 3 _ rfl;have a4:=ch.o.cell 4 _ rfl;have a5:=ch.o.cell 5 _ rfl;have a6:=ch.o.cell 6 _ rfl;have a7:=ch.o.cell 7 _ rfl;have f0:=ch.o.free 0 (by simp);have f1:=ch.o.free 1 (by simp);have f2:=ch.o.free 2 (by simp);have f3:=ch.o.free 3 (by simp);have f4:=ch.o.free 4 (by simp);have f5:=ch.o.free 5 (by simp);have f6:=ch.o.free 6 (by simp);have f7:=ch.o.free 7 (by simp);go_simp;obtain ⟨w9,Ag⟩: ∃X,X=(((((((((y2).val).setCell ⟨y1.val.heap.size,0,none⟩ (.string m.al)).setCell ⟨y1.val.heap.size,1,none⟩ (.int .i64 m.br)).setCell ⟨y1.val.heap.size,2,none⟩ (.slice aiJ m.pat.length d1)).setCell ⟨y1.val.heap.size,3,none⟩ (.int .i64 m.a8)).setCell ⟨y1.val.heap.size,4,none⟩ (.int .i64 m.fin)).setCell ⟨y1.val.heap.size,5,none⟩ (.int .i64 m.aj)).setCell ⟨y1.val.heap.size,6,none⟩ (.slice aiK a.af.length d2)).setCell ⟨y1.val.heap.size,7,none⟩ (.int .i64 m.result):=⟨_,rfl⟩
    have xo:Touch (λb=>b=y1.val.heap.size) (y2).val w9:=by
     rw[Ag]
     iterate 8 refine Touch.setCell (F:=λb=>b=y1.val.heap.size) ?_ rfl _
     exact Touch.refl _ _
    have CM:Row w9 y1.val.heap.size [.string m.al,.int .i64 m.br,.slice aiJ m.pat.length d1,.int .i64 m.a8,.int .i64 m.fin,.int .i64 m.aj,.slice aiK a.af.length d2,.int .i64 m.result]:=by
     rw[Ag];exact (((((((ch.o.set 0 _ (by simp)).set 1 _ (by simp)).set 2 _ (by simp)).set 3 _ (by simp)).set 4 _ (by simp)).set 5 _ (by simp)).set 6 _ (by simp)).set 7 _ (by simp)
    rw[<-Ag];clear Ag a0 a1 a2 a3 a4 a5 a6 a7 f0 f1 f2 f3 f4 f5 f6 f7;refine hK.out _ _ (λh=>by simp at h) ?_;clear hK K
    try simp only[Act.put,aM]
    refine dh (by kernel_rfl) ?_ _;have ZV:=xo.size;have iM:=I ((y2).ok.trans (xo.below (y2).ok.size (λb e=>by omega)):Below W.heap.size W w9);have W4:=I CM;clear xo CM;go_wp2;go_meet;case rel=>exact ⟨_,rfl,W4.o,iM.o,by omega⟩
   try simp only[aK]
   go_simp;have bk:Below (y0).val.heap.size (y0).val ((y0).val.alloc (.cells #[.string ⟨#[]⟩,.int .i64 0,.slice none 0 0,.int .i64 0,.int .i64 0,.int .i64 0,.slice none 0 0,.int .i64 0] 35)):=(aae _ _).alloc (aad _) _;have ch:ag (Row ((y0).val.alloc (.cells #[.string ⟨#[]⟩,.int .i64 0,.slice none 0 0,.int .i64 0,.int .i64 0,.int .i64 0,.slice none 0 0,.int .i64 0] 35)) (y0).val.heap.size [.string ⟨#[]⟩,.int .i64 0,.slice none 0 0,.int .i64 0,.int .i64 0,.int .i64 0,.slice none 0 0,.int .i64 0]):=I (Row.new _ _ _);have qg:(y0).val.heap.size+1<=((y0).val.alloc (.cells #[.string ⟨#[]⟩,.int .i64 0,.slice none 0 0,.int .i64 0,.int .i64 0,.int .i64 0,.slice none 0 0,.int .i64 0] 35)).heap.size:=by simp
   have Mk:=(y0).ok.size;obtain ⟨y1,hc⟩: ∃y:ar W,y.val=(y0).val.alloc (.cells #[.string ⟨#[]⟩,.int .i64 0,.slice none 0 0,.int .i64 0,.int .i64 0,.int .i64 0,.slice none 0 0,.int .i64 0] 35):=⟨⟨_,(y0).ok.trans (bk.mono (y0).ok.size)⟩,rfl⟩
   rw[<-hc]at ch qg⊢;clear hc bk;refine hK.out _ _ (λ_=>dl.o y1) ?_;clear hK K
   try simp only[Act.put,aM]
   refine cV 6 (λK hK=>?_)
   try simp only[aK]
   go_simp;go_at_call 11;refine (uK.o y1).mono ?_;rintro e w1 ⟨rfl,q,rfl⟩;have ai7:Below (y1).val.heap.size (y1).val ((y1).val.drewN q):=below_drewN (aae _ _) q
   try replace ch:=I (ch.o.below ai7 (by omega))
   try replace qg:=aaB qg ai7.size
   obtain ⟨y2,hc⟩: ∃y:ar W,y.val=(y1).val.drewN q:=⟨⟨_,below_drewN (y1).ok q⟩,rfl⟩
   try rw[<-hc]at ch
   try rw[<-hc]at qg
   rw[<-hc];clear hc ai7;refine hK.out _ _ (λ_=>dl.o y2) ?_;clear hK K
   try simp only[Act.put,aM]
   have aE:=dl.o y2;refine cl 7 ?_
   try simp only[Act.put,aK,aM]
   refine cl 8 ?_
   try simp only[Act.put,aK,aM]
   clear aE;refine cV 10 (λK hK=>?_)
   try simp only[aK]
   have a0:=ch.o.cell 0 _ rfl;have a1:=ch.o.cell 1 _ rfl;have a2:=ch.o.cell 2 _ rfl;have a3:=ch.o.cell 3 _ rfl;have a4:=ch.o.cell 4 _ rfl;have a5:=ch.o.cell 5 _ rfl;have a6:=ch.o.cell 6 _ rfl;have a7:=ch.o.cell 7 _ rfl;have f0:=ch.o.free 0 (by simp);have f1:=ch.o.free 1 (by simp);have f2:=ch.o.free 2 (by simp);have f3:=ch.o.free 3 (by simp);have f4:=ch.o.free 4 (by simp);have f5:=ch.o.free 5 (by simp);have f6:=ch.o.free 6 (by simp);have f7:=ch.o.free 7 (by simp);go_simp;obtain ⟨w9,Ag⟩: ∃X,X=(((((((((y2).val).setCell ⟨y0.val.heap.size,0,none⟩ (.string m.al)).setCell ⟨y0.val.heap.size,1,none⟩ (.int .i64 m.br)).setCell ⟨y0.val.heap.size,2,none⟩ (.slice aiJ m.pat.length d1)).setCell ⟨y0.val.heap.size,3,none⟩ (.int .i64 m.a8)).setCell ⟨y0.val.heap.size,4,none⟩ (.int .i64 m.fin)).setCell ⟨y0.val.heap.size,5,none⟩ (.int .i64 m.aj)).setCell ⟨y0.val.heap.size,6,none⟩ (.slice aiK a.af.length d2)).setCell ⟨y0.val.heap.size,7,none⟩ (.int .i64 m.result):=⟨_,rfl⟩
   have xo:Touch (λb=>b=y0.val.heap.size) (y2).val w9:=by
    rw[Ag]
    iterate 8 refine Touch.setCell (F:=λb=>b=y0.val.heap.size) ?_ rfl _
    exact Touch.refl _ _
   have CM:Row w9 y0.val.heap.size [.string m.al,.int .i64 m.br,.slice aiJ m.pat.length d1,.int .i64 m.a8,.int .i64 m.fin,.int .i64 m.aj,.slice aiK a.af.length d2,.int .i64 m.result]:=by
    rw[Ag];exact (((((((ch.o.set 0 _ (by simp)).set 1 _ (by simp)).set 2 _ (by simp)).set 3 _ (by simp)).set 4 _ (by simp)).set 5 _ (by simp)).set 6 _ (by simp)).set 7 _ (by simp)
   rw[<-Ag];clear Ag a0 a1 a2 a3 a4 a5 a6 a7 f0 f1 f2 f3 f4 f5 f6 f7;refine hK.out _ _ (λh=>by simp at h) ?_;clear hK K
   try simp only[Act.put,aM]
   refine dh (by kernel_rfl) ?_ _;have ZV:=xo.size;have iM:=I ((y2).ok.trans (xo.below (y2).ok.size (λb e=>by omega)):Below W.heap.size W w9);have W4:=I CM;clear xo CM;go_wp2;go_meet;case rel=>exact ⟨_,rfl,W4.o,iM.o,by omega⟩
  case rest=>
   obtain ⟨na,rfl,bi,ajh,Ij⟩:=hcut;have R4:=I ajh;have G4:=I bi;have J2:=I Ij;clear bi ajh Ij dl z0 z1 z2 z3 z4 z5;have tF:ag (∀y:ar wc,Below W.heap.size W y.val):=I (λy=>R4.o.trans (y.ok.mono R4.o.size));have mR:=I (λy:ar wc=>fv.o.below (tF.o y) Zy.o);have z0:=λy:ar wc=>(mR.o y).cell 0 _ rfl;have z1:=λy:ar wc=>(mR.o y).cell 1 _ rfl;have z2:=λy:ar wc=>(mR.o y).cell 2 _ rfl;have z3:=λy:ar wc=>(mR.o y).cell 3 _ rfl;have z4:=λy:ar wc=>(mR.o y).cell 4 _ rfl;have z5:=λy:ar wc=>(mR.o y).cell 5 _ rfl;have m0:=λy:ar wc=>(G4.o.below y.ok J2.o).cell 0 _ rfl;have m6:=λy:ar wc=>(G4.o.below y.ok J2.o).cell 6 _ rfl;have gj:ag (∀y:ar wc,jv y.val y.val.heap.size ⟨.slice At a.af.length ct,.slice Ab a.base.length cb,.slice Ac a.av.length cc,.slice (some ⟨b2,off,none⟩) a.ao.length cm⟩ a):=I (λy=>HR.o ⟨y.val,tF.o y⟩);have ajk:=I (λy:ar wc=>eT.o.on (tF.o y) (tF.o y).size);have aji:=I (λy:ar wc=>cz.on tY.o (Pl.stays _) (tF.o y) (tF.o y).size);have Ph:=I (λy:ar wc=>gf.o.trans ((tF.o y).mono gf.o.size));go_upto_region 7 with (fail)
   refine yY λx0=>?_;have ajd:=I (ahL HF.o ZY.o O8.o);have H1:=I (λy:ar wc=>ai1 HF.o HK.o _ 1 (by omega) (by omega) y.val (gj.o y));have H2:=I (λy:ar wc=>ai1 HF.o HK.o _ 2 (by omega) (by omega) y.val (gj.o y));have H3:=I (λy:ar wc=>ai1 HF.o HK.o _ 3 (by omega) (by omega) y.val (gj.o y));have H4:=I (λy:ar wc=>aiT HF.o HK.o _ y.val (gj.o y));have HV:=I (λy:ar wc=>aiQ HF.o HK.o _ y.val (gj.o y));have ai8:=I (λy:ar wc=>aiW HF.o HK.o _ y.val (gj.o y));unfold YM eu at H1 H2 H3 H4 HV ai8;have hvo:=HF.o.ok.Jx ZY.o;have lV:=I (λ(W':World) (vv:Value) (hv:mN W' W'.heap.size vv (eF m.ax a.af))=>ac5 (eF m.ax a.af) a.rule vv W' HF.o.ok.rule.1 HF.o.ok.rule.2 hv hvo);unfold acN at lV;have hvn:=ew ZY.o;rw[hvn]at lV;have hlw:=ajd.o.lw;unfold agV at lV;clear hvo uK HR eT tY Ut fv tF mR;generalize forM a m.ax 1=L1 at*;generalize forM a m.ax 2=L2 at*;generalize forM a m.ax 3=L3 at*;generalize cO a m.ax=L4 at*;generalize kh (eF m.ax a.af) a.rule=L5 at*;generalize adQ a m.ax=ai9 at*;go_wp2_with (fail);refine (H1.o x0).mono ?_;rintro e w1 ⟨v,rfl,hv,hb⟩
   try replace fs:=I (cz.on fs.o (Pl.stays _) hb hb.size)
   try replace ie:=I (cz.on ie.o (Pl.stays _) hb hb.size)
   try replace o8:=I (cz.on o8.o (Pl.stays _) hb hb.size)
   try replace P1:=I (cz.on P1.o (Pl.stays _) hb hb.size)
   try replace O3:=I (cz.on O3.o (Pl.stays _) hb hb.size)
   have fs:ag (Ints w1 w1.heap.size v L1):=I (ay.mo (size:=1) (λ_=>rfl) hv);obtain ⟨B1,e1,rfl,-⟩:=hv;obtain ⟨x1,rfl⟩: ∃y:ar wc,w1=y.val:=⟨⟨w1,(x0).ok.trans (hb.mono (x0).ok.size)⟩,rfl⟩
   clear hb H1;go_wp2_with (fail);refine (H2.o x1).mono ?_;rintro e w1 ⟨v,rfl,hv,hb⟩
   try replace fs:=I (cz.on fs.o (Pl.stays _) hb hb.size)
   try replace ie:=I (cz.on ie.o (Pl.stays _) hb hb.size)
   try replace o8:=I (cz.on o8.o (Pl.stays _) hb hb.size)
   try replace P1:=I (cz.on P1.o (Pl.stays _) hb hb.size)
   try replace O3:=I (cz.on O3.o (Pl.stays _) hb hb.size)
   have ie:ag (Ints w1 w1.heap.size v L2):=I (ay.mo (size:=1) (λ_=>rfl) hv);obtain ⟨B2,e2,rfl,-⟩:=hv;obtain ⟨x2,rfl⟩: ∃y:ar wc,w1=y.val:=⟨⟨w1,(x1).ok.trans (hb.mono (x1).ok.size)⟩,rfl⟩
   clear hb H2;go_wp2_with (fail);refine (H3.o x2).mono ?_;rintro e w1 ⟨v,rfl,hv,hb⟩
   try replace fs:=I (cz.on fs.o (Pl.stays _) hb hb.size)
   try replace ie:=I (cz.on ie.o (Pl.stays _) hb hb.size)
   try replace o8:=I (cz.on o8.o (Pl.stays _) hb hb.size)
   try replace P1:=I (cz.on P1.o (Pl.stays _) hb hb.size)
   try replace O3:=I (cz.on O3.o (Pl.stays _) hb hb.size)
   have o8:ag (Ints w1 w1.heap.size v L3):=I (ay.mo (size:=1) (λ_=>rfl) hv);obtain ⟨B3,e3,rfl,-⟩:=hv;obtain ⟨x3,rfl⟩: ∃y:ar wc,w1=y.val:=⟨⟨w1,(x2).ok.trans (hb.mono (x2).ok.size)⟩,rfl⟩
   clear hb H3;go_wp2_with (fail);refine (H4.o x3).mono ?_;rintro e w1 ⟨v,rfl,hv,hb⟩
   try replace fs:=I (cz.on fs.o (Pl.stays _) hb hb.size)
   try replace ie:=I (cz.on ie.o (Pl.stays _) hb hb.size)
   try replace o8:=I (cz.on o8.o (Pl.stays _) hb hb.size)
   try replace P1:=I (cz.on P1.o (Pl.stays _) hb hb.size)
   try replace O3:=I (cz.on O3.o (Pl.stays _) hb hb.size)
   have P1:ag (Ints w1 w1.heap.size v L4):=I (ay.mo (size:=1) (λ_=>rfl) hv);obtain ⟨B4,e4,rfl,-⟩:=hv;obtain ⟨x4,rfl⟩: ∃y:ar wc,w1=y.val:=⟨⟨w1,(x3).ok.trans (hb.mono (x3).ok.size)⟩,rfl⟩
   clear hb H4;go_wp2_with (fail);refine (HV.o x4).mono ?_;rintro e w1 ⟨v,rfl,⟨ai',Av,ev,rfl,S1,hvt⟩,hb⟩
   try replace fs:=I (cz.on fs.o (Pl.stays _) hb hb.size)
   try replace ie:=I (cz.on ie.o (Pl.stays _) hb hb.size)
   try replace o8:=I (cz.on o8.o (Pl.stays _) hb hb.size)
   try replace P1:=I (cz.on P1.o (Pl.stays _) hb hb.size)
   try replace O3:=I (cz.on O3.o (Pl.stays _) hb hb.size)
   have BZ:=I (lV.o w1 _ (S1▸hvt.Jx));obtain ⟨x5,rfl⟩: ∃y:ar wc,w1=y.val:=⟨⟨w1,x4.ok.trans (hb.mono x4.ok.size)⟩,rfl⟩
   clear hb S1 hvt HV lV;go_wp2_with (fail);refine BZ.o.mono ?_;rintro e w1 ⟨g5,rfl,⟨-,fG,iK⟩,hb⟩
   try replace fs:=I (cz.on fs.o (Pl.stays _) hb hb.size)
   try replace ie:=I (cz.on ie.o (Pl.stays _) hb hb.size)
   try replace o8:=I (cz.on o8.o (Pl.stays _) hb hb.size)
   try replace P1:=I (cz.on P1.o (Pl.stays _) hb hb.size)
   try replace O3:=I (cz.on O3.o (Pl.stays _) hb hb.size)
   have O3:ag (Ints w1 w1.heap.size (.slice (some ⟨g5,0,none⟩) a.af.length a.af.length) L5):=I (by
    have h:=aje iK fG (by omega);rw[hlw]at h;exact h)
   obtain ⟨x6,rfl⟩: ∃y:ar wc,w1=y.val:=⟨⟨w1,x5.ok.trans (hb.mono x5.ok.size)⟩,rfl⟩
   clear hb BZ fG iK;go_wp2_with (fail);refine (ai8.o x6).mono ?_;rintro e w1 ⟨v,rfl,hv,hb⟩
   try replace fs:=I (cz.on fs.o (Pl.stays _) hb hb.size)
   try replace ie:=I (cz.on ie.o (Pl.stays _) hb hb.size)
   try replace o8:=I (cz.on o8.o (Pl.stays _) hb hb.size)
   try replace P1:=I (cz.on P1.o (Pl.stays _) hb hb.size)
   try replace O3:=I (cz.on O3.o (Pl.stays _) hb hb.size)
   have HI6:ag (Ints w1 w1.heap.size v ai9):=I (ay.mo (size:=1) (λ_=>rfl) hv);obtain ⟨B6,e6,rfl,-⟩:=hv;obtain ⟨x7,rfl⟩: ∃y:ar wc,w1=y.val:=⟨⟨w1,(x6).ok.trans (hb.mono (x6).ok.size)⟩,rfl⟩
   clear hb ai8;have Vs:=ajd.o.lc;have xE:=ajd.o.c0;have pQ:=ajd.o.c1;have E4:=ajd.o.c2;obtain ⟨r,hr6⟩: ∃r,((ai9.length:Int)==0)=r:=⟨_,rfl⟩
   have Nz:(L4.getD 3 0==(a.af.length:Int))=r:=by
    rw[<-hr6];have h3:=ajd.o.c3;by_cases hz:ai9.length=0
    ·rw[show ((ai9.length:Int)==0)=true by simp[hz],ajZ];exact h3.1 hz
    rw[show ((ai9.length:Int)==0)=false by simp[hz],abY];exact λe=>hz (h3.2 e)
   obtain ⟨b4,o4,rfl,l8,q0,q1,q2,q3⟩:=aiU P1.o Vs;rw[<-xE]at q0;rw[<-pQ]at q1;rw[<-E4]at q2;rw[Vs];clear xE pQ E4 P1;generalize L4.getD 3 0=p3 at*;obtain ⟨Z,hZ⟩: ∃Z,Z=x7.val:=⟨_,rfl⟩
   have HZB:ag (Below w.heap.size w Z):=I (by rw[hZ];exact Ph.o x7);have ajj:=I (aji.o x7);rw[<-hZ]at fs ie o8 O3 HI6 ajj;have WS:=I (λy:ar Z=>cz.on ie.o (Pl.stays _) y.ok y.ok.size);have WT:=I (λy:ar Z=>cz.on o8.o (Pl.stays _) y.ok y.ok.size);have d6:=m6 x7;rw[<-hZ]at d6 q0 q1 q2 q3⊢;have s6:=λy:ar Z=>y.cell d6;have s0:=λy:ar Z=>y.cell q0;have s1:=λy:ar Z=>y.cell q1;have s2:=λy:ar Z=>y.cell q2;have s3:=λy:ar Z=>y.cell q3;clear hZ d6 q0 q1 q2 q3 m0 m6 z0 z1 z2 z3 z4 z5 l8;have hL1:L1.length<=9223372036854775807:=by have:=fB fs.o;omega
   have hL6:ai9.length<=9223372036854775807:=by have:=fB HI6.o;omega
   clear aji ie o8 gj ajk Ph;obtain ⟨y0,Rf⟩: ∃y:ar Z,y.val=Z:=⟨⟨Z,aae _ _⟩,rfl⟩
   rw[<-Rf];clear Rf;go_upto_region 16 with (fail)
   refine ap (by kernel_rfl) (by kernel_rfl) ?_
   repeat (go_big_quiet_step (fail))
   refine aai ?_;rintro _ ⟨y1,rfl⟩;clear s0 s1 s2 s3 hr6 Nz;go_wp2;go_loopw [21] (λi wr=> ∃(j:Nat) (y:ar Z),j<=L1.length/\i= .int .i64 (j:Int)/\wr=y.val) (λi _=>L1.length-(intOf i).toNat);case atStart=>exact ⟨0,y1,aaf _,rfl,rfl⟩
   case round=>
    obtain ⟨j,y,hj,rfl,rfl⟩:=hrel;by_cases aI:j<L1.length
    ·obtain ⟨b1,o1,rfl,bw,q1⟩:=cZ fs.o (aag aI);have rf:decide (L1[j]∈L2)=false:=aba (ajd.o.apart _ (aax aI)).1;have O5:decide (L1[j]∈L3)=false:=aba (ajd.o.apart _ (aax aI)).2;generalize L1[j]=d at*;have s1:=λy:ar Z=>y.cell q1;have HH2:=I (λy:ar Z=>ahf L2 d y.val _ (WS.o y));have HH3:=I (λy:ar Z=>ahf L3 d y.val _ (WT.o y));rw[rf]at HH2;rw[O5]at HH3;clear rf O5 q1 bw;go_wp2_with (fail);refine (az (HH2.o y)).mono ?_;rintro e _ ⟨rfl,u1,rfl⟩;go_wp2_with (fail);refine (az (HH3.o u1)).mono ?_;rintro e _ ⟨rfl,u2,rfl⟩;go_wp2;go_roundw;case rel=>exact ⟨j+1,u2,by omega,by go_num,rfl⟩
     case measure=>simp[intOf];omega
    have eA: ¬(j:Int)<(L1.length:Int):=by omega
    clear WS WT;go_wp2;go_loopw [22] (λi wr=> ∃(j:Nat) (y:ar Z),j<=ai9.length/\i= .int .i64 (j:Int)/\wr=y.val) (λi _=>ai9.length-(intOf i).toNat);case atStart=>exact ⟨0,y,aaf _,rfl,rfl⟩
    case round=>
     obtain ⟨i,u,hi,rfl,rfl⟩:=hrel;by_cases aI:i<ai9.length
     ·obtain ⟨aja,o6,rfl,En,q6⟩:=cZ HI6.o (aag aI);obtain ⟨q,hz,hq,hv,hw⟩:=ajd.o.lead _ (aax aI);rw[hz]at q6;obtain ⟨bv,ov,rfl,JA,qv⟩:=cZ ajj.o (ai4 (show q<m.ax.length by rw[ZY.o];exact hq));have hv0:(m.ax.getD q 0==0)=false:=by simpa using hv
      generalize m.ax.getD q 0=vv at*;have q5:=aiY O3.o (ai4 (show q<L5.length by omega));generalize L5.getD q 0=wq at q5 hw;have HW:=I hw;have t6:=λy:ar Z=>y.cell q6;have tv:=λy:ar Z=>y.cell qv;have t5:=λy:ar Z=>y.cell q5;have S0:decide ((q:Int)<0)=false:=by simp
      have MY:decide ((a.af.length:Int)<=(q:Int))=false:=by simp;omega
      have Rn:decide (a.af.length<=q)=false:=by simp;omega
      have Tf:(0:Int)<=(q:Int):=by omega
      have hq3:(q:Int)<(a.af.length:Int):=by omega
      clear hz hv hw q6 qv q5 En JA;go_upto_region 26 with (fail)
      refine ap (by kernel_rfl) (by kernel_rfl) ?_
      repeat (go_big_quiet_step (fail))
      refine aai ?_;rintro _ ⟨u1,rfl⟩;clear tv hv0;go_wp2;go_loopw [23] (λi wr=> ∃(j:Nat) (y:ar Z),j<=a.af.length/\i= .int .i64 (j:Int)/\wr=y.val) (λi _=>a.af.length-(intOf i).toNat);case atStart=>exact ⟨0,u1,aaf _,rfl,rfl⟩
      case round=>
       obtain ⟨kk,z,uu,rfl,rfl⟩:=hrel;by_cases aI:kk<a.af.length
       ·have ajb:=aiY O3.o (ai4 (show kk<L5.length by omega));have ajX:=HW.o kk aI;generalize L5.getD kk 0=wQ at ajb ajX;have XR:decide (wq<wQ)=false:=by simp;omega
        have ajc:=λy:ar Z=>y.cell ajb;have rc:(0:Int)<=(kk:Int):=by omega
        have H0:(kk:Int)<(a.af.length:Int):=by omega
        clear ajb ajX;go_upto_region 31 with (fail)
        refine ap (by kernel_rfl) (by kernel_rfl) ?_
        repeat (go_big_quiet_step (fail))
        refine aai ?_;rintro _ ⟨z1,rfl⟩;clear ajc XR;go_wp2;go_roundw;case rel=>exact ⟨kk+1,z1,by omega,by go_num,rfl⟩
        case measure=>simp[intOf];omega
       have eA: ¬(kk:Int)<(a.af.length:Int):=by omega
       go_wp2;go_roundw;case rel=>exact ⟨i+1,z,by omega,by go_num,rfl⟩
       case measure=>simp[intOf];omega
     have eA: ¬(i:Int)<(ai9.length:Int):=by omega
     go_wp2;go_ret;exact ⟨rfl,HZB.o.trans (u.ok.mono HZB.o.size)⟩
 have HL:=I (agL A1 n1 c1 A2 n2 c2 w hl);clear hl;go_enter func3,ntmps3;go_wp2_with (fail);refine (HL.o).mono ?_;rintro e w1 ⟨rfl,m1,rfl⟩;go_wp2;go_ret;exact ⟨rfl,below_drewN (aae _ _) m1⟩
end Go.Proofs.YtbcggaldkihcaaaGreat
