/- An assembly drawn by deeds; the statements' assembly: walked. -/
import Derived.Test.YtbcggaldkihcaaaGreatGk
import Derived.Test.YtbcggaldkihcaaaGreatZr
set_option maxHeartbeats 4000000
set_option maxRecDepth 100000
namespace Go.Proofs.YtbcggaldkihcaaaGreat
open Tryz
open Go.RowKit Go.Lib
def air (B:Nat) (w:World) (b k:Nat) (e:Ending) (w':World):Prop:= ∃x a T C M,e= .returned (eu a x)/\Tt x/\dM w.heap.size w' x a T C M/\dJ a/\Src B w' b k/\iJ b w w'
theorem ck.less {b base ba:Nat} {w:World} {x:cS} {a:cp} {T:List bR} {C:List bu} {M:List bH} (h:ck base ba w x a T C M) (hb:b<=base):ck b ba w x a T C M:=⟨h.row,h.own.less hb,h.lt,h.nf,by have:=h.bb;omega⟩
theorem aid (B b k:Nat) (w:World) (h:Src B w b k) (hk:k<=30000):
 Calls prog 36 #[.pointer (some ⟨b,0,none⟩)] w (air B w b (k+6000)):=by
 obtain ⟨W0,ku⟩: ∃X,X=w.alloc (.cells #[.int .i64 0,.int .i64 0,.slice none 0 0,.slice none 0 0,.slice none 0 0,.slice none 0 0] 29):=⟨_,rfl⟩
 have Kn:W0.heap.size=w.heap.size+1:=by rw[ku];simp
 have xu:Below w.heap.size w W0:=by rw[ku];exact (aae _ _).alloc (aad _) _
 have DX:ag (Row W0 w.heap.size [.int .i64 0,.int .i64 0,.slice none 0 0,.slice none 0 0,.slice none 0 0,.slice none 0 0]):=I (by rw[ku];exact Row.new w _ _);have HB:=I h.lt.1;have kX:=I (m5 xu:iJ b w W0);have Zy:=I (h.below xu h.lt.1);clear h xu;go_enter func36,ntmps36;go_upto_region 1 with (fail)
 rw[<-ku];have KC:w.heap.size+1<=W0.heap.size:=by omega
 have KD:W0.heap.size<=w.heap.size+1:=by omega
 clear ku Kn;go_wp2_with (fail);refine (zZ B b k W0 Zy.o (by omega)).mono ?_;rintro e w1 ⟨x,a,T,C,M,rfl,⟨At,n1,ct,Ab,n2,cb,Ac,n3,cc,Am,n4,cm,rfl⟩,cr,z',hf0,CB,tU⟩;have eH:=I cr;have HFU:=I z';have BE:=I hf0;have tN:=I CB;have jh:=I tU;clear cr z' hf0 CB tU;unfold eu;go_upto_region 2 with (fail)
 obtain ⟨w2,P7⟩: ∃X,X=w1.alloc (.cells #[.int .i64 a.day,.int .i64 a.rule,.slice At n1 ct,.slice Ab n2 cb,.slice Ac n3 cc,.slice Am n4 cm] 29):=⟨_,rfl⟩
 have mV:Row w2 w1.heap.size [.int .i64 a.day,.int .i64 a.rule,.slice At n1 ct,.slice Ab n2 cb,.slice Ac n3 cc,.slice Am n4 cm]:=by rw[P7];exact Row.new w1 _ _
 have cL:Below w1.heap.size w1 w2:=by rw[P7];exact (aae _ _).alloc (aad _) _
 have tO:w1.heap.size<w2.heap.size:=by rw[P7];simp
 rw[<-P7];clear P7;have Ha:=jh.o.size;have LG:ag (ck W0.heap.size w1.heap.size w2 ⟨.slice At n1 ct,.slice Ab n2 cb,.slice Ac n3 cc,.slice Am n4 cm⟩ a T C M):=I ⟨mV,eH.o.below cL,tO,λc hc e=>by have:=(eH.o.o.lt hc).2;omega,Ha⟩;have Nr:=I (tN.o.below cL tN.o.lt.1);have ju:=I (ll jh.o (m5 cL));clear mV cL tN jh eH;have ox:b<W0.heap.size:=by have:=HB.o;omega
 go_wp2_with (fail);refine (jb B b _ 12 w2 Nr.o (by omega) (by omega) (by omega)).mono ?_;rintro e w3 ⟨y,rfl,W9,PL⟩;have b0:=I W9;have Ls:=I (ll ju.o PL);have dI:=I (LG.o.only ox PL);clear W9 PL Nr ju LG;go_upto_if 9 with (fail)
 go_cut [] (λwx=> ∃x a T C M,ck W0.heap.size w1.heap.size wx x a T C M/\dJ a/\Src B wx b (k+230)/\iJ b W0 wx)
 case first=>
  cases y with
  |true=>
   go_wp2_with (fail);refine (sE (λx=>0<=x/\x<=999) B b _ w3.heap.size 3 3 _ (b0.o.alloc _) (by omega) (by omega) (by omega) (by simp) (by have:=b0.o.lt.1;omega) (rb _ w3 2 [999,998,500] (by decide))).mono ?_;rintro e w4 ⟨d,⟨ZO,Ho⟩,rfl,cm,EQ⟩;have aie:=ll (m5 ((aae w3.heap.size w3).alloc (aad _) (.cells #[.int .i64 999,.int .i64 998,.int .i64 500] 2))) EQ;have KY:=dI.o.only ox aie;have x0:=KY.row.cell 0 _ rfl;have f0:=KY.row.free 0 (by simp);have HB5:=I (KY.Ko d);have QP:=I (ll Ls.o aie);have ht5:Touch (λc=>c=w1.heap.size) w4 (w4.setCell ⟨w1.heap.size,0,none⟩ (.int .i64 d)):=Touch.setCell (F:=λc=>c=w1.heap.size) (Touch.refl _ w4) rfl _;have b1:=I (xq QP.o ht5 Ha);have bx:=I (cm.keep (ht5.block b cm.lt.1 (by omega)) (λi hi=>ht5.block i (by have:=cm.lt;omega) (by have:=cm.lt;omega)));have HFD:=I (HFU.o d ZO Ho);clear cm EQ aie KY ht5;go_wp2;go_meet;case rel=>exact ⟨_,_,T,C,M,HB5.o,HFD.o,bx.o.more (by omega),b1.o⟩
  |false=>
   go_wp2;go_meet;case rel=>exact ⟨_,a,T,C,M,dI.o,BE.o,b0.o.more (by omega),Ls.o⟩
 case rest=>
  obtain ⟨x,a,T,C,M,hB6,hF6,Xv,Xb⟩:=hcut;have F9:=I hB6;have HF6:=I hF6;have c9:=I Xv;have zl:=I Xb;clear hB6 hF6 Xv Xb dI b0 Ls HFU BE;go_wp2_with (fail);refine (tX B b _ 14 wc c9.o (by omega) (by omega) (by omega)).mono ?_;rintro e w7 ⟨n,hn,rfl,XH,XI⟩;have T0:=I XH;have Uf:=I (ll zl.o XI);have Ug:=I (F9.o.only ox XI);clear XH XI c9 zl F9;go_wp2;go_loopw [4] (λc wr=> ∃(m:Nat) (x:cS) (a:cp) (T:List bR) (C:List bu) (M:List bH),c= .int .i64 (m:Int)/\m<=17/\ck W0.heap.size w1.heap.size wr x a T C M/\dJ a/\Src B wr b (k+240+310*(17-m))/\iJ b W0 wr) (λc _=>(intOf c).toNat);case atStart=>exact ⟨4+n,x,a,T,C,M,by go_num,by omega,Ug.o,HF6.o,T0.o.more (by omega),Uf.o⟩
  case round=>
   obtain ⟨m,x,a,T,C,M,rfl,aij,hB,hF,hs,ho⟩:=hrel;obtain ⟨wX,Bo⟩: ∃X,X=wr:=⟨_,rfl⟩
   rw[<-Bo]at hB hs ho⊢;clear Bo;have rj:=I hB;have MU:=I hF;have HSR:=I hs;have Ss:=I ho;clear hB hF hs ho;by_cases hm:0<m
   ·obtain ⟨m,rfl⟩: ∃q,m=q+1:=⟨m-1,by omega⟩
    have EU:(0:Int)<((m+1:Nat):Int):=by omega
    go_wp2_with (fail);refine (Qh B b _ W0.heap.size w1.heap.size a x T C M wX HSR.o (by omega) rj.o MU.o ox).mono ?_;rintro e w8 ⟨d,A1,c1,A2,c2,rfl,hT,hP,ja,kJ,M0,K3⟩;have kx:=I (rj.o.only ox K3);have T9:=I (ll Ss.o K3);have I1:=I M0;have O0:=I hT;have HP8:=I hP;have lr:=I ja;have gQ:=I kJ;clear hT hP ja kJ M0 K3;unfold gw;go_upto_region 8 with (fail)
    obtain ⟨w9,Ag⟩: ∃X,X=w8.alloc (.cells #[.int .i64 d.kind,.int .i64 d.member,.slice A1 d.af.length c1,.string d.al,.int .i64 d.bO,.slice A2 d.patch.length c2,.int .i64 d.start,.int .i64 d.aB,.int .i64 d.aj] 48):=⟨_,rfl⟩
    have W6:Row w9 w8.heap.size [.int .i64 d.kind,.int .i64 d.member,.slice A1 d.af.length c1,.string d.al,.int .i64 d.bO,.slice A2 d.patch.length c2,.int .i64 d.start,.int .i64 d.aB,.int .i64 d.aj]:=by rw[Ag];exact Row.new w8 _ _
    have wZ:Below w8.heap.size w8 w9:=by rw[Ag];exact (aae _ _).alloc (aad _) _
    rw[<-Ag];clear Ag;have Sh:ag (fp w9 w8.heap.size 0 d A1 c1 A2 c2):=I (fp.row W6 ((O0.o.on wZ).mo (size:=1) λ_=>rfl) ((HP8.o.on wZ).mo (size:=4) λ_=>rfl) lr.o gQ.o);have iM:=I (kx.o.below wZ);have zG:=I (ll T9.o (m5 wZ));have B8:=I (I1.o.below wZ I1.o.lt.1);clear W6 wZ O0 HP8 lr gQ kx T9 I1;have sJ:=I (Fy d w8.heap.size 0 A1 c1 A2 c2 w9 Sh.o);cases hd:cA d with
    |false=>
     rw[hd]at sJ;clear hd;go_wp2_with (fail);refine (sJ.o).mono ?_;rintro e Ti ⟨rfl,wB⟩;have Ca:=I (iM.o.below wB);have aif:=I (ll zG.o (m5 wB));have aih:=I (B8.o.below wB B8.o.lt.1);clear wB;go_wp2;go_roundw;case rel=>exact ⟨m,x,a,T,C,M,by go_num,by omega,Ca.o,MU.o,aih.o.more (by omega),aif.o⟩
     case measure=>simp[intOf]<;>omega
    |true=>
     rw[hd]at sJ;have aii:=I hd;clear hd;go_wp2_with (fail);refine (sJ.o).mono ?_;rintro e Ti ⟨rfl,wB⟩;have Ca:=I (iM.o.below wB);have aif:=I (ll zG.o (m5 wB));have aih:=I (B8.o.below wB B8.o.lt.1);have B9:ag (fp Ti w8.heap.size 0 d A1 c1 A2 c2):=I (Sh.o.km ⟨Ti,wB⟩);clear wB;have Fh:=I (Kx a d x T C M W0.heap.size w1.heap.size w8.heap.size 0 A1 c1 A2 c2 Ti Ca.o MU.o aii.o B9.o);have LW:=I (λc (hc:mW a d=some c)=>L0 MU.o aii.o hc);generalize mW a d=o at*;unfold Qd at Fh;go_wp2_with (fail);refine Fh.o.mono ?_;rintro e KX ⟨rfl,⟨x',T',C',M',ain⟩,aim⟩;have wD:=I ain;have aio:=I (dd aif.o aim (aad _));have aip:=I (aih.o.below aim ox)
     have aiq:ag (dJ (o.getD a)):=I (by
      cases o with
      |none=>exact MU.o
      |some c=>exact LW.o c rfl)
     clear ain aim Fh LW;go_wp2;go_roundw;case rel=>exact ⟨m,x',o.getD a,T',C',M',by go_num,by omega,wD.o,aiq.o,aip.o.more (by omega),aio.o⟩
     case measure=>simp[intOf]<;>omega
   obtain rfl:m=0:=by omega
   have EU: ¬(0:Int)<((0:Nat):Int):=by omega
   obtain ⟨Bt,dt,Bb,db,Bc,dc,Bm,dm,rfl⟩:=rj.o.own.o.r.slices;have LP:Row wX w1.heap.size [.int .i64 a.day,.int .i64 a.rule,.slice Bt a.af.length dt,.slice Bb a.base.length db,.slice Bc a.av.length dc,.slice Bm a.ao.length dm]:=rj.o.row;have hR:=DX.o.only (by have:=HB.o;omega) (by have:=HB.o;omega) Ss.o;have hwr:=Ss.o.size;have q0:=LP.cell 0 _ rfl;have q1:=LP.cell 1 _ rfl;have q2:=LP.cell 2 _ rfl;have q3:=LP.cell 3 _ rfl;have q4:=LP.cell 4 _ rfl;have q5:=LP.cell 5 _ rfl;have r0:=hR.cell 0 _ rfl;have r1:=hR.cell 1 _ rfl;have r2:=hR.cell 2 _ rfl;have r3:=hR.cell 3 _ rfl;have r4:=hR.cell 4 _ rfl;have r5:=hR.cell 5 _ rfl;have s0:=hR.free 0 (by simp);have s1:=hR.free 1 (by simp);have s2:=hR.free 2 (by simp);have s3:=hR.free 3 (by simp);have s4:=hR.free 4 (by simp);have s5:=hR.free 5 (by simp);clear LP hR;go_wp2
   have gD: ∀(ac:Go.Act) (w':World),ac.tmps[2]?=some (.pointer (some ⟨w.heap.size,0,none⟩))->w'.cell? ⟨w.heap.size,0,none⟩=some (.int .i64 a.day)->w'.cell? ⟨w.heap.size,1,none⟩=some (.int .i64 a.rule)->w'.cell? ⟨w.heap.size,2,none⟩=some (.slice Bt a.af.length dt)->w'.cell? ⟨w.heap.size,3,none⟩=some (.slice Bb a.base.length db)->w'.cell? ⟨w.heap.size,4,none⟩=some (.slice Bc a.av.length dc)->w'.cell? ⟨w.heap.size,5,none⟩=some (.slice Bm a.ao.length dm)->(results f36 ac.tmps).run prog w'= .ok (.agg #[.int .i64 a.day,.int .i64 a.rule,.slice Bt a.af.length dt,.slice Bb a.base.length db,.slice Bc a.av.length dc,.slice Bm a.ao.length dm]) w':=by
    intro ac w' ha nB nC nE ob oc od;simp[results,results36,go_sem,ha,nB,nC,nE,ob,oc,od]
   refine aaT (gD _ _ rfl (by simp[go_sem,r0]) (by simp[go_sem,r1]) (by simp[go_sem,r2]) (by simp[go_sem,r3]) (by simp[go_sem,r4]) (by simp[go_sem,r5])) rfl ?_
   have Cr:Touch (λc=>c=w.heap.size) wX ((((((wX.setCell ⟨w.heap.size,0,none⟩ (.int .i64 a.day)).setCell ⟨w.heap.size,1,none⟩ (.int .i64 a.rule)).setCell ⟨w.heap.size,2,none⟩ (.slice Bt a.af.length dt)).setCell ⟨w.heap.size,3,none⟩ (.slice Bb a.base.length db)).setCell ⟨w.heap.size,4,none⟩ (.slice Bc a.av.length dc)).setCell ⟨w.heap.size,5,none⟩ (.slice Bm a.ao.length dm)):=by
    iterate 6 refine Touch.setCell (F:=λb=>b=w.heap.size) ?_ rfl _
    exact Touch.refl _ _
   refine ⟨⟨.slice Bt a.af.length dt,.slice Bb a.base.length db,.slice Bc a.av.length dc,.slice Bm a.ao.length dm⟩,a,T,C,M,rfl,⟨_,_,_,_,_,_,_,_,_,_,_,_,rfl⟩,(rj.o.own.aD Cr (λc hc e=>by have:=(rj.o.own.o.lt hc).1;omega)).less (by omega),MU.o,?_,?_⟩
   ·exact (HSR.o.more (by omega)).keep (Cr.block b (by omega) (by have:=HB.o;omega)) (λi hi=>Cr.block i (by have:=HSR.o.lt;omega) (by have:=HSR.o.lt;omega))
   exact xq (ll kX.o Ss.o) Cr (aad _)
def aik (w:World) (e:Ending) (w':World):Prop:= ∃x a T C M,e= .returned (eu a x)/\Tt x/\dM w.heap.size w' x a T C M/\dJ a/\Below w.heap.size w w'
theorem ail (A:Option Addr) (n c:Nat) (w:World) (h:za w w.heap.size A n):Calls prog 9 #[.slice A n c] w (aik w):=by
 obtain ⟨W0,ku⟩: ∃X,X=w.alloc (.cells #[.int .i64 0,.int .i64 0,.slice none 0 0,.slice none 0 0,.slice none 0 0,.slice none 0 0] 29):=⟨_,rfl⟩
 have Kn:W0.heap.size=w.heap.size+1:=by rw[ku];simp
 have xu:Below w.heap.size w W0:=by rw[ku];exact (aae _ _).alloc (aad _) _
 have DX:ag (Row W0 w.heap.size [.int .i64 0,.int .i64 0,.slice none 0 0,.slice none 0 0,.slice none 0 0,.slice none 0 0]):=I (by rw[ku];exact Row.new w _ _);have gf:=I xu
 have eT:ag (za W0 W0.heap.size A n):=I (by
  have q:=ab' h xu;refine ⟨q.1,λh0=>?_⟩;obtain ⟨b,o,e,hb,hc⟩:=q.2 h0;exact ⟨b,o,e,by omega,hc⟩)
 clear h xu;go_enter func9,ntmps9;go_upto_region 1 with (fail)
 rw[<-ku];have KC:w.heap.size+1<=W0.heap.size:=by omega
 have KD:W0.heap.size<=w.heap.size+1:=by omega
 clear ku Kn;go_wp2_with (fail);refine (agz A n c W0 eT.o).mono ?_;rintro e w1 ⟨rfl,CB,bw⟩;have tN:=I CB;have da:=I bw;clear CB bw;go_wp2_with (fail);refine (aid _ _ 0 w1 tN.o (by omega)).mono ?_;rintro e w2 ⟨x,a,T,C,M,rfl,-,cr,z',wY,CD⟩;obtain ⟨At,ct,Ab,cb,Ac,cc,Am,cm,rfl⟩:=cr.o.r.slices;have eH:=I cr;have HF:=I z';have sj:Below W0.heap.size W0 w2:=⟨CD.os.trans da.o.os,CD.tape.trans da.o.tape,CD.output.trans da.o.output,aaB da.o.size CD.size,λi hi=>(CD.block i (aar hi da.o.size) (λe=>by injection e;omega)).trans (da.o.block i hi)⟩
 have dy:=I sj;clear cr z' wY CD sj tN;unfold eu;go_upto_region 3 with (fail)
 obtain ⟨w3,LV⟩: ∃X,X=w2.alloc (.cells #[.int .i64 a.day,.int .i64 a.rule,.slice At a.af.length ct,.slice Ab a.base.length cb,.slice Ac a.av.length cc,.slice Am a.ao.length cm] 29):=⟨_,rfl⟩
 have Ik:Row w3 w2.heap.size [.int .i64 a.day,.int .i64 a.rule,.slice At a.af.length ct,.slice Ab a.base.length cb,.slice Ac a.av.length cc,.slice Am a.ao.length cm]:=by rw[LV];exact Row.new w2 _ _
 have dB:Below w2.heap.size w2 w3:=by rw[LV];exact (aae _ _).alloc (aad _) _
 have hl3:w2.heap.size<w3.heap.size:=by rw[LV];simp
 rw[<-LV];clear LV;have ait:=I (eH.o.below dB);have fU:=I Ik;have ez:=da.o.size;have dI:=I (dy.o.trans (dB.mono dy.o.size));have ii:=I (LC a _ w2.heap.size 0 w3 (Ik.cell 0 _ rfl) (Ik.cell 1 _ rfl) (Ik.cell 2 _ rfl) (Ik.cell 3 _ rfl) (Ik.cell 4 _ rfl) (Ik.cell 5 _ rfl) ait.o.o.r HF.o.sz);rw[HF.o.fI]at ii;clear Ik dB eH dy;go_wp2_with (fail);refine (ii.o).mono ?_;rintro e w4 ⟨rfl,l8⟩;have OG:=fU.o.below l8 hl3;have V5:=DX.o.below (dI.o.trans (l8.mono dI.o.size)) (by omega);have QP:=I (ait.o.below l8);have kC:=I (dI.o.trans (l8.mono dI.o.size));have WC:=kC.o.size;have q0:=OG.cell 0 _ rfl;have q1:=OG.cell 1 _ rfl;have q2:=OG.cell 2 _ rfl;have q3:=OG.cell 3 _ rfl;have q4:=OG.cell 4 _ rfl;have q5:=OG.cell 5 _ rfl;have r0:=V5.cell 0 _ rfl;have r1:=V5.cell 1 _ rfl;have r2:=V5.cell 2 _ rfl;have r3:=V5.cell 3 _ rfl;have r4:=V5.cell 4 _ rfl;have r5:=V5.cell 5 _ rfl;have s0:=V5.free 0 (by simp);have s1:=V5.free 1 (by simp);have s2:=V5.free 2 (by simp);have s3:=V5.free 3 (by simp);have s4:=V5.free 4 (by simp);have s5:=V5.free 5 (by simp);clear OG V5 l8 ii ait fU;go_wp2
 have gD: ∀(ac:Go.Act) (w':World),ac.tmps[2]?=some (.pointer (some ⟨w.heap.size,0,none⟩))->w'.cell? ⟨w.heap.size,0,none⟩=some (.int .i64 a.day)->w'.cell? ⟨w.heap.size,1,none⟩=some (.int .i64 a.rule)->w'.cell? ⟨w.heap.size,2,none⟩=some (.slice At a.af.length ct)->w'.cell? ⟨w.heap.size,3,none⟩=some (.slice Ab a.base.length cb)->w'.cell? ⟨w.heap.size,4,none⟩=some (.slice Ac a.av.length cc)->w'.cell? ⟨w.heap.size,5,none⟩=some (.slice Am a.ao.length cm)->(results f9 ac.tmps).run prog w'= .ok (.agg #[.int .i64 a.day,.int .i64 a.rule,.slice At a.af.length ct,.slice Ab a.base.length cb,.slice Ac a.av.length cc,.slice Am a.ao.length cm]) w':=by
  intro ac w' ha nB nC nE ob oc od;simp[results,results9,go_sem,ha,nB,nC,nE,ob,oc,od]
 refine aaT (gD _ _ rfl (by simp[go_sem,r0]) (by simp[go_sem,r1]) (by simp[go_sem,r2]) (by simp[go_sem,r3]) (by simp[go_sem,r4]) (by simp[go_sem,r5])) rfl ?_
 have Cr:Touch (λc=>c=w.heap.size) w4 ((((((w4.setCell ⟨w.heap.size,0,none⟩ (.int .i64 a.day)).setCell ⟨w.heap.size,1,none⟩ (.int .i64 a.rule)).setCell ⟨w.heap.size,2,none⟩ (.slice At a.af.length ct)).setCell ⟨w.heap.size,3,none⟩ (.slice Ab a.base.length cb)).setCell ⟨w.heap.size,4,none⟩ (.slice Ac a.av.length cc)).setCell ⟨w.heap.size,5,none⟩ (.slice Am a.ao.length cm)):=by
  iterate 6 refine Touch.setCell (F:=λb=>b=w.heap.size) ?_ rfl _
  exact Touch.refl _ _
 refine ⟨⟨.slice At a.af.length ct,.slice Ab a.base.length cb,.slice Ac a.av.length cc,.slice Am a.ao.length cm⟩,a,T,C,M,rfl,⟨_,_,_,_,_,_,_,_,_,_,_,_,rfl⟩,(QP.o.aD Cr (λc hc e=>by have:=(QP.o.o.lt hc).1;omega)).less (by omega),HF.o,?_⟩;exact (gf.o.trans (kC.o.mono gf.o.size)).trans (Cr.below (by omega) (λc e=>by omega))
end Go.Proofs.YtbcggaldkihcaaaGreat
