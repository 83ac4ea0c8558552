/- Whose vote turns the verdict: plain, and walked: the reference's. -/
import Derived.Test.YtbcggaldkihcaaaGreatYV
import Derived.Test.YtbcggaldkihcaaaGreatYE
set_option maxHeartbeats 8000000
set_option maxRecDepth 100000
namespace Go.Proofs.YtbcggaldkihcaaaGreat
open Tryz
open Go.RowKit Go.Lib
def acv (p:Nat->Bool):Nat->List Int
 |0=>[]
 |k+1=>acv p k++(if p k=true then [(k:Int)]else [])
theorem acQ (p:Nat->Bool): ∀k,(acv p k).length<=k
 |0=>aad _
 |k+1=>by
  have:=acQ p k;unfold acv;rw[aak]
  split<;>simp<;>omega
theorem aeD {p:Nat->Bool} {k:Nat} (h:p k=true):acv p (k+1)=acv p k++[(k:Int)]:=by rw[acv,aaj h]
theorem adS {p:Nat->Bool} {k:Nat} (h:p k=false):acv p (k+1)=acv p k:=by rw[acv,aah (by rw[h];simp),abv]
noncomputable def ac7 (a:cp) (m:gu) (k:Nat):Bool:=!(m.ax.getD k 0==0)&&!(lY a m (m.ax.set k 0)==lY a m m.ax)
noncomputable def acw (a:cp) (t:ByteArray):Bool:=Jz a t&&((jU a t).result==0)
noncomputable def swM (a:cp) (m:gu):List Int:=acv (ac7 a m) m.ax.length
noncomputable def acR (a:cp) (t:ByteArray):List Int:=if acw a t=true then swM a (jU a t)else []
theorem ac8 {a:cp} {t:ByteArray} (h:acw a t=false):acR a t=[]:=by unfold acR;rw[aah (by rw[h];simp)]
theorem adt {a:cp} {t:ByteArray} (h:acw a t=true):acR a t=swM a (jU a t):=by unfold acR;rw[aaj h]
theorem afQ (a:cp) (x:cS) (t:ByteArray) (w:World) (h:jv w w.heap.size x a) (hs:ua a):Calls prog 22 #[eu a x,.string t] w (YM (YW (acR a t)).own (acw a t) w):=by
 obtain ⟨At,ct,Ab,cb,Ac,cc,Am,cm,rfl⟩:=h.slices;unfold eu;obtain ⟨W,hW⟩: ∃W:World,W=w.alloc (.cells #[.int .i64 a.day,.int .i64 a.rule,.slice At a.af.length ct,.slice Ab a.base.length cb,.slice Ac a.av.length cc,.slice Am a.ao.length cm] 29):=⟨_,rfl⟩
 have bW:Below w.heap.size w W:=by rw[hW];exact (aae _ _).alloc (aad _) _
 have a1:Row W w.heap.size [.int .i64 a.day,.int .i64 a.rule,.slice At a.af.length ct,.slice Ab a.base.length cb,.slice Ac a.av.length cc,.slice Am a.ao.length cm]:=by rw[hW];exact Row.new w _ _
 have z0:=λy:ar W=>y.cell (a1.cell 0 _ rfl);have z1:=λy:ar W=>y.cell (a1.cell 1 _ rfl);have z2:=λy:ar W=>y.cell (a1.cell 2 _ rfl);have z3:=λy:ar W=>y.cell (a1.cell 3 _ rfl);have z4:=λy:ar W=>y.cell (a1.cell 4 _ rfl);have z5:=λy:ar W=>y.cell (a1.cell 5 _ rfl);have F7:=h.on bW bW.size;have HR:=I (λy:ar W=>h.on (aJ bW y) (aJ bW y).size)
 have Ut:ag (0<a.ao.length-> ∃b off,Am=some ⟨b,off,none⟩/\b<W.heap.size/\ ∀(k:Nat) (m:gu),a.ao[k]?=some m-> ∃A1 c1 A2 c2,Bs W W.heap.size b (off+k*8) m A1 c1 A2 c2):=I (by
  obtain ⟨A,c,hv,_,_,h⟩:=fQ F7.m;have hv:Value.slice Am a.ao.length cm= .slice A a.ao.length c:=hv;injection hv with e1 e2 e3
  rw[e1];exact h)
 have HW:=I hW;have fv:=I a1;have sW:w.heap.size<W.heap.size:=by rw[hW];simp
 obtain ⟨x0,dp⟩: ∃y:ar W,y.val=W:=⟨⟨W,aae _ _⟩,rfl⟩
 have RD:=I dp;have RY:=I (λy:ar W=>kw a At ct Ab cb Ac cc Am cm t y.val (HR.o y) hs);clear h hW a1 dp F7 hs;cases hk:Jz a t with
 |false=>
  have Tn:acw a t=false:=by unfold acw;rw[hk];rfl
  have HN:=I (ac8 Tn);rw[Tn];rw[hk]at RY;clear hk Tn;go_enter func22,ntmps22;go_wp2_with (fail);rw[<-HW.o,<-RD.o];refine (aq (RY.o x0)).mono ?_;rintro e _ ⟨rfl,x1,rfl⟩;go_wp2;go_ret2;exact ⟨_,rfl,by show ay ak (acR a t) _ _ _;rw[HN.o];exact ay.nil _ _ _,aJ bW x1⟩
 |true=>
  rw[hk]at RY;obtain ⟨hv,k,K0,qg,Up⟩:=j4 hk;have cy:=JC hv;have ads:=BF hv;have Hk:=cy.ax Up;have adK:=B7 (cy.ao _ _ Up);have fD:=cy.n12;rw[K0]at RY;obtain ⟨b2,off,rfl,cL,aC⟩:=Ut.o (by omega);obtain ⟨A1,c1,A2,c2,hP⟩:=aC k _ Up;have jA:(0:Int)<=(k:Int):=by omega
  have Hl:(k:Int)<(a.ao.length:Int):=by omega
  obtain ⟨m,hm⟩: ∃m,m=jU a t:=⟨_,rfl⟩
  rw[<-hm]at adK Hk hP;have t0:=λy:ar W=>y.cell hP.k0;have t1:=λy:ar W=>y.cell hP.k1;have t2:=λy:ar W=>y.cell hP.k2;have t3:=λy:ar W=>y.cell hP.k3;have t4:=λy:ar W=>y.cell hP.k4;have t5:=λy:ar W=>y.cell hP.k5;have t6:=λy:ar W=>y.cell hP.k6;have t7:=λy:ar W=>y.cell hP.k7;have Ve:=I (λy:ar W=>hP.on y.ok y.ok.size cL);by_cases yd:m.result=0
  case neg=>
   have hq:(m.result==0)=false:=by simp[yd]
   have Tn:acw a t=false:=by unfold acw;rw[hk,<-hm,hq];rfl
   have HN:=I (ac8 Tn);rw[Tn];have MY:(m.result !=0)=true:=by rw[bne,hq];rfl
   clear hk hv K0 Up aC hP Hk adK ads Tn hm yd cy;go_enter func22,ntmps22;go_wp2_with (fail);rw[<-HW.o,<-RD.o];refine (aq (RY.o x0)).mono ?_;rintro e _ ⟨rfl,x1,rfl⟩;go_wp2;go_ret2;exact ⟨_,rfl,by show ay ak (acR a t) _ _ _;rw[HN.o];exact ay.nil _ _ _,aJ bW x1⟩
  have hq:(m.result==0)=true:=by simp[yd]
  have Tn:acw a t=true:=by unfold acw;rw[hk,<-hm,hq];rfl
  have HY:=I (show acR a t=acv (ac7 a m) m.ax.length by rw[adt Tn,hm];rfl);rw[Tn];have U6:m.ax.length<=12:=by omega
  have HVI:=I (λ(y:ar W) (vs:List Int) (Av:Option Addr) (cv:Nat) (hi:Ints y.val y.val.heap.size (.slice Av vs.length cv) vs) (hl:vs.length=a.af.length)=>(⟨(HR.o y).t,(HR.o y).b,(HR.o y).c,(Ve.o y).fF,hi,hl,cy,ads.1,ads.2.1,adK⟩:yM a m vs y.val At ct Ab cb Ac cc A1 c1 Av cv));have MY:(m.result !=0)=false:=by rw[bne,hq];rfl
  have ZY:=I Hk;clear hk hv K0 Up aC hP adK ads Tn hm yd cy Hk;go_enter func22,ntmps22;go_wp2_with (fail);rw[<-HW.o,<-RD.o];refine (aq (RY.o x0)).mono ?_;rintro e _ ⟨rfl,x1,rfl⟩;obtain ⟨i0,hi,dK,ez,ek⟩:=aaq iD;go_upto_region 5 with (fail)
  obtain ⟨w4,Ap⟩: ∃w4,w4=x1.val:=⟨_,rfl⟩
  have kC:ag (Below W.heap.size W w4):=I (by rw[Ap];exact x1.ok);rw[<-Ap];clear Ap;obtain ⟨V,hV⟩: ∃V,V=(w4.alloc (.cells #[] 2)).alloc (.cells #[.string m.al,.int .i64 m.br,.slice A1 m.pat.length c1,.int .i64 m.a8,.int .i64 m.fin,.int .i64 m.aj,.slice A2 m.ax.length c2,.int .i64 m.result] 35):=⟨_,rfl⟩
  have ri:Below w4.heap.size w4 (w4.alloc (.cells #[] 2)):=(aae _ _).alloc (aad _) _;have hb:Below w4.heap.size w4 V:=by rw[hV];exact ri.alloc ri.size _
  have hsV:w4.heap.size+1<V.heap.size:=by rw[hV];simp
  have hr:Row V (w4.heap.size+1) [.string m.al,.int .i64 m.br,.slice A1 m.pat.length c1,.int .i64 m.a8,.int .i64 m.fin,.int .i64 m.aj,.slice A2 m.ax.length c2,.int .i64 m.result]:=by rw[hV];simpa using Row.new (w4.alloc (.cells #[] 2)) [.string m.al,.int .i64 m.br,.slice A1 m.pat.length c1,.int .i64 m.a8,.int .i64 m.fin,.int .i64 m.aj,.slice A2 m.ax.length c2,.int .i64 m.result].toArray 35
  have SQ:ag (iX V w4.heap.size w4.heap.size 0 []):=I (by rw[hV];exact (iX.start w4).row.alloc _);have HBV:=I hb;have P8:=I hr;have y6:=hr.cell 6 _ rfl;rw[<-hV];clear hV hb hr ri z0 z1 z2 z3 z4 z5 t0 t1 t2 t3 t4 t5 t6 t7;obtain ⟨bm,KU⟩: ∃bm,bm=w4.heap.size+1:=⟨_,rfl⟩
  rw[<-KU]at P8 y6 hsV⊢;have ahG:w4.heap.size<bm:=by omega
  clear KU;obtain ⟨now,agZ⟩: ∃n,n=lY a m m.ax:=⟨_,rfl⟩
  have ag0:=I agZ;clear agZ;go_wp2;clear y6;go_loopw [9,10,11,38] (λvo _ _ i wr=> ∃(k:Nat) (L:List Int) (g2 zM:Nat),k<=m.ax.length/\i= .int .i64 (k:Int)/\vo= .slice (some ⟨g2,0,none⟩) L.length zM/\L=acv (ac7 a m) k/\iX wr w4.heap.size g2 zM L/\Below w4.heap.size w4 wr/\Row wr bm [.string m.al,.int .i64 m.br,.slice A1 m.pat.length c1,.int .i64 m.a8,.int .i64 m.fin,.int .i64 m.aj,.slice A2 m.ax.length c2,.int .i64 m.result]/\bm≠g2/\bm<wr.heap.size) (λ_ _ _ i _=>m.ax.length-(intOf i).toNat);case atStart=>exact ⟨0,[],_,0,aaf _,rfl,rfl,rfl,SQ.o,HBV.o,P8.o,by omega,hsV⟩
  case round=>
   obtain ⟨k,L,g2,zM,hk,rfl,rfl,tf,ho,hb,Rz,YO,hlw⟩:=hrel;have HO:=I ho;have HB:=I hb;have cT:=I tf.symm;have Rt:L.length<=k:=by rw[tf];exact acQ _ _
   have gf:=I (kC.o.trans (hb.mono kC.o.size));have kW:=I Rz;clear ho tf hb Rz;by_cases aI:k<m.ax.length
   ·obtain ⟨bv,ov,O2,JA,e0⟩:=cZ ((Ve.o ⟨wr,gf.o⟩).ints) (aag aI);subst O2;have Hl:(k:Int)<(m.ax.length:Int):=by omega
    have jA:(0:Int)<=(k:Int):=by omega
    have xZ:m.ax.getD k 0=m.ax[k]:=by simp[List.getD,aI]
    have Zy:ag (ac7 a m k=(!(m.ax[k]==0)&&!(lY a m (m.ax.set k 0)==now))):=I (by unfold ac7;rw[xZ,ag0.o]);have vW:ag ((m.ax.set k 0).length=m.ax.length):=I aaE;have tY:=I (λ(W':World) (h:Below wr.heap.size wr W')=>(Ve.o ⟨W',gf.o.trans (h.mono gf.o.size)⟩).ints);have IX:=I (λ(W':World) (h:Below wr.heap.size wr W')=>adR m.ax k ⟨bv,ov,none⟩ c2 W' (tY.o W' h) aI (by omega));unfold ac6 at IX
    have HVD:=I (λ(W':World) (h:Below wr.heap.size wr W') (vs:List Int) (Av:Option Addr) (cv:Nat) (hi:Ints W' W'.heap.size (.slice Av vs.length cv) vs) (hl:vs.length=a.af.length)=>
     zQ a m vs At ct Ab cb Ac cc (some ⟨b2,off,none⟩) cm A1 c1 (some ⟨bv,ov,none⟩) c2 Av cv W' (HVI.o ⟨W',gf.o.trans (h.mono gf.o.size)⟩ vs Av cv hi hl))
    have Z8:=I (λ(W':World) (h:Below wr.heap.size wr W')=>HVD.o W' h m.ax (some ⟨bv,ov,none⟩) c2 (tY.o W' h) ZY.o);rw[<-ag0.o]at Z8;clear xZ;obtain ⟨y,hy⟩: ∃y,y=m.ax[k]:=⟨_,rfl⟩
    rw[<-hy]at Zy e0;clear hy;cases Rf:(y==0)with
    |true=>
     have acM:=I (adS (show ac7 a m k=false by rw[Zy.o,Rf];rfl));have YS:(y !=0)=false:=by rw[bne,Rf];rfl
     go_upto_region 8 with (fail)
     clear e0;refine yY λu0=>?_;refine ap (by kernel_rfl) (by kernel_rfl) ?_
     repeat (go_big_quiet_step (fail))
     refine aai ?_;rintro _ ⟨u,rfl⟩;have zl:=I (HO.o.below u.ok);have F9:=I (HB.o.trans (u.ok.mono HB.o.size));have G7:=I (kW.o.below u.ok hlw);have hl6:bm<u.val.heap.size:=aar hlw u.ok.size;go_wp2;go_roundw;case rel=>exact ⟨k+1,L,g2,zM,by omega,by go_num,rfl,by rw[acM.o,cT.o],zl.o,F9.o,G7.o,YO,hl6⟩
     case measure=>simp[intOf];omega
    |false=>
     have YS:(y !=0)=true:=by rw[bne,Rf];rfl
     go_upto_region 8 with (fail)
     clear e0
     have bX:ag (∀w',Below wr.heap.size wr w'->w'.cell? ⟨w.heap.size,0,none⟩=some (.int .i64 a.day)/\w'.cell? ⟨w.heap.size,1,none⟩=some (.int .i64 a.rule)/\w'.cell? ⟨w.heap.size,2,none⟩=some (.slice At a.af.length ct)/\w'.cell? ⟨w.heap.size,3,none⟩=some (.slice Ab a.base.length cb)/\w'.cell? ⟨w.heap.size,4,none⟩=some (.slice Ac a.av.length cc)/\w'.cell? ⟨w.heap.size,5,none⟩=some (.slice (some ⟨b2,off,none⟩) a.ao.length cm)/\w'.cell? ⟨bm,0,none⟩=some (.string m.al)/\w'.cell? ⟨bm,1,none⟩=some (.int .i64 m.br)/\w'.cell? ⟨bm,2,none⟩=some (.slice A1 m.pat.length c1)/\w'.cell? ⟨bm,3,none⟩=some (.int .i64 m.a8)/\w'.cell? ⟨bm,4,none⟩=some (.int .i64 m.fin)/\w'.cell? ⟨bm,5,none⟩=some (.int .i64 m.aj)/\w'.cell? ⟨bm,6,none⟩=some (.slice (some ⟨bv,ov,none⟩) m.ax.length c2)/\w'.cell? ⟨bm,7,none⟩=some (.int .i64 m.result)):=I (λX hX=>by
      have h1:=fv.o.below (gf.o.trans (hX.mono gf.o.size)) sW;have h2:=kW.o.below hX hlw;exact ⟨h1.cell 0 _ rfl,h1.cell 1 _ rfl,h1.cell 2 _ rfl,h1.cell 3 _ rfl,h1.cell 4 _ rfl,h1.cell 5 _ rfl,h2.cell 0 _ rfl,h2.cell 1 _ rfl,h2.cell 2 _ rfl,h2.cell 3 _ rfl,h2.cell 4 _ rfl,h2.cell 5 _ rfl,h2.cell 6 _ rfl,h2.cell 7 _ rfl⟩)
     have jo:Below wr.heap.size wr wr:=aae _ _;refine abM (S:=λw'=>w'.cell? ⟨w.heap.size,0,none⟩=some (.int .i64 a.day)/\w'.cell? ⟨w.heap.size,1,none⟩=some (.int .i64 a.rule)/\w'.cell? ⟨w.heap.size,2,none⟩=some (.slice At a.af.length ct)/\w'.cell? ⟨w.heap.size,3,none⟩=some (.slice Ab a.base.length cb)/\w'.cell? ⟨w.heap.size,4,none⟩=some (.slice Ac a.av.length cc)/\w'.cell? ⟨w.heap.size,5,none⟩=some (.slice (some ⟨b2,off,none⟩) a.ao.length cm)/\w'.cell? ⟨bm,0,none⟩=some (.string m.al)/\w'.cell? ⟨bm,1,none⟩=some (.int .i64 m.br)/\w'.cell? ⟨bm,2,none⟩=some (.slice A1 m.pat.length c1)/\w'.cell? ⟨bm,3,none⟩=some (.int .i64 m.a8)/\w'.cell? ⟨bm,4,none⟩=some (.int .i64 m.fin)/\w'.cell? ⟨bm,5,none⟩=some (.int .i64 m.aj)/\w'.cell? ⟨bm,6,none⟩=some (.slice (some ⟨bv,ov,none⟩) m.ax.length c2)/\w'.cell? ⟨bm,7,none⟩=some (.int .i64 m.result)) (by kernel_rfl) (bX.o _ jo.drew) (λaE=>?_);refine aZ 0 ?_
     try simp only[Act.put,aK,aM]
     refine aZ 1 ?_
     try simp only[Act.put,aK,aM]
     refine aZ 2 ?_
     try simp only[Act.put,aK,aM]
     refine aZ 3 ?_
     try simp only[Act.put,aK,aM]
     refine aZ 4 ?_
     try simp only[Act.put,aK,aM]
     refine aZ 5 ?_
     try simp only[Act.put,aK,aM]
     refine aZ 6 ?_
     try simp only[Act.put,aK,aM]
     refine aZ 7 ?_
     try simp only[Act.put,aK,aM]
     refine aZ 10 ?_
     try simp only[Act.put,aK,aM]
     refine aZ 11 ?_
     try simp only[Act.put,aK,aM]
     refine aZ 12 ?_
     try simp only[Act.put,aK,aM]
     refine aZ 13 ?_
     try simp only[Act.put,aK,aM]
     have xR:=jo.drew;refine aav (rs:=[8]) (by kernel_rfl) (by simp) ?_;refine aat rfl (λK hK=>?_) aaw
     try simp only[aK]
     go_simp;go_at_call 57;refine aaM (IX.o _ xR) ?_;rintro e w5 ⟨g5,c5,rfl,hO5,zd⟩;have Ek:=xR.trans (zd.mono xR.size);have hi5:Ints w5 w5.heap.size (.slice (some ⟨g5,0,none⟩) (m.ax.set k 0).length c5) (m.ax.set k 0):=by rw[vW.o];exact ay.mo (size:=1) (λ_=>rfl) hO5
     have HD:=I (HVD.o w5 Ek (m.ax.set k 0) (some ⟨g5,0,none⟩) c5 hi5 (by rw[vW.o];exact ZY.o));rw[vW.o]at HD;clear hi5 hO5 zd;refine hK.out _ _ (bX.o _ Ek) (λau=>?_);clear hK K aE;have aE:=au;clear au
     try simp only[Act.put,aM]
     refine aav (rs:=[9]) (by kernel_rfl) (by simp) ?_;refine aat rfl (λK hK=>?_) aaw
     try simp only[aK]
     go_simp;go_at_call 56;refine aaM HD.o ?_;rintro e w6 ⟨rfl,En⟩;have Eo:=Ek.trans (En.mono Ek.size);clear En;refine hK.out _ _ (bX.o _ Eo) (λau=>?_);clear hK K aE;have aE:=au;clear au
     try simp only[Act.put,aM]
     refine aav (rs:=[14]) (by kernel_rfl) (by simp) ?_;refine aat rfl (λK hK=>?_) aaw
     try simp only[aK]
     go_simp;go_at_call 56;refine aaM (Z8.o w6 Eo) ?_;rintro e w7 ⟨rfl,hb7⟩;have wH:=Eo.trans (hb7.mono Eo.size);have zl:=I (HO.o.below wH);have F9:=I (HB.o.trans (wH.mono HB.o.size));have G7:=I (kW.o.below wH hlw);have hl6:bm<w7.heap.size:=aar hlw wH.size;clear hb7;refine hK.out _ _ (bX.o _ wH) (λau=>?_);clear hK K aE;have aE:=au;clear au
     try simp only[Act.put,aM]
     generalize lY a m (m.ax.set k 0)=u1 at*;cases hu:(u1==now)with
     |true=>
      have acM:=I (adS (show ac7 a m k=false by rw[Zy.o,hu,Rf];rfl));have hu1:(u1 !=now)=false:=by rw[bne,hu];rfl
      refine aZ 15 ?_
      try simp only[Act.put,aK,aM]
      refine aZ 16 ?_
      try simp only[Act.put,aK,aM]
      refine abz (by kernel_rfl) ?_ _;clear aE;go_wp2;go_roundw;case rel=>exact ⟨k+1,L,g2,zM,by omega,by go_num,rfl,by rw[acM.o,cT.o],zl.o,F9.o,G7.o,YO,hl6⟩
      case measure=>simp[intOf];omega
     |false=>
      have xB:=I (aeD (show ac7 a m k=true by rw[Zy.o,hu,Rf];rfl));have hu1:(u1 !=now)=true:=by rw[bne,hu];rfl
      refine aZ 15 ?_
      try simp only[Act.put,aK,aM]
      refine aZ 16 ?_
      try simp only[Act.put,aK,aM]
      refine abz (by kernel_rfl) ?_ _;clear aE;go_wp2_with (at_builtin;refine aaH _ rfl _ _ 33 rfl w4.heap.size 2 i0 (.int .i64 0) 1 8 underlying33 hi dK ez ek rfl (by decide) _ _ _ rfl (zl.o.row.alloc _) ⟨w7.heap.size,0,none⟩ 1 1 (ak (k:Int)) rfl rfl (λj u hj=>fS hj) (λu hu=>cf _ hu) ?c3 ?c4 (aS F9.o.size) ?_);case c3=>unfold maxLen;omega
      case c4=>omega
      intro v' w9 aG aA aU iH;obtain ⟨g9,gM,rfl,zE,zF⟩:=bG aG (by simpa using aU);have iM:=I ((F9.o.alloc F9.o.size (.cells #[.int .i64 (k:Int)] 2)).grown aA (aS F9.o.size) (λj hj=>(zl.o.row.lt j hj).1))
      have zG:ag (iX w9 w4.heap.size g9 gM (L++[(k:Int)])):=I (by
       unfold iX;rw[cq,aak];exact aG)
      have ri:Below w7.heap.size w7 (w7.alloc (.cells #[.int .i64 (k:Int)] 2)):=(aae _ _).alloc (aad _) _;have Li:bm<(w7.alloc (.cells #[.int .i64 (k:Int)] 2)).heap.size:=aar hl6 ri.size;have T3:=I (Row.only (G7.o.below ri hl6) Li YO aA);have hl9:bm<w9.heap.size:=aar Li aA.size
      have ahv:bm≠g9:=by
       rcases iH with e|e
       ·injection e with e
        have e:g9=g2:=e;omega
       injection e with e
       have e:g9=(w7.alloc (.cells #[.int .i64 (k:Int)] 2)).heap.size:=by simpa using e
       omega
      clear ri Li;clear aG aA aU iH;go_wp2;go_roundw;case rel=>exact ⟨k+1,L++[(k:Int)],g9,gM,by omega,by go_num,by rw[aak];rfl,by rw[xB.o,cT.o],zG.o,iM.o,T3.o,ahv,hl9⟩
      case measure=>simp[intOf];omega
   have eA: ¬(k:Int)<(m.ax.length:Int):=by omega
   have V8:ag (L=acR a t):=I (by
    have:k=m.ax.length:=by omega
    rw[HY.o,<-this];exact cT.o.symm)
   have xu:=bW.trans (gf.o.mono bW.size);have HOO:=I (HO.o.own.less (aaB bW.size kC.o.size));go_wp2;go_ret2;exact ⟨_,rfl,by show ay ak (acR a t) _ _ _;rw[<-V8.o];exact HOO.o,xu⟩
end Go.Proofs.YtbcggaldkihcaaaGreat
