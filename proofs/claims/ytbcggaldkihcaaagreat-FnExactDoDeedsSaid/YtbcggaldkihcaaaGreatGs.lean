/- Deeds done one after the other by the program; DoDeeds of both, walked. -/
import Derived.Test.YtbcggaldkihcaaaGreatGm
import Derived.Test.YtbcggaldkihcaaaGreatZe
import Derived.Test.YtbcggaldkihcaaaGreatZf
set_option maxHeartbeats 16000000
set_option maxRecDepth 100000
namespace Go.Proofs.YtbcggaldkihcaaaGreat
open Tryz
open Go.RowKit Go.Lib
def anD (R:cp) (k:Nat) (w:World) (e:Ending) (w':World):Prop:=
 ∃x T C M,e= .returned (.tuple #[eu R x,.int .i64 (k:Int)])/\Tt x/\dM w.heap.size w' x R T C M/\Below w.heap.size w w'
def am5 (R:cp) (k:Nat) (XE:Bool) (w:World) (e:Ending) (w':World):Prop:=
 ∃x T C M,e= .returned (.tuple #[eu R x,.int .i64 (k:Int),.bool XE])/\Tt x/\dM w.heap.size w' x R T C M/\Below w.heap.size w w'
def six (W:World) (g:Nat) (d r:Int) (v2 v3 v4 v5:Value):World:=(((((W.setCell ⟨g,0,none⟩ (.int .i64 d)).setCell ⟨g,1,none⟩ (.int .i64 r)).setCell ⟨g,2,none⟩ v2).setCell ⟨g,3,none⟩ v3).setCell ⟨g,4,none⟩ v4).setCell ⟨g,5,none⟩ v5
theorem ad2 (W:World) (g:Nat) (d r:Int) (v2 v3 v4 v5:Value):Touch (λb=>b=g) W (six W g d r v2 v3 v4 v5):=by
 unfold six
 iterate 6 refine Touch.setCell (F:=λb=>b=g) ?_ rfl _
 exact Touch.refl _ _
theorem amY {W:World} {g:Nat} {L:List Value} (h:Row W g L) (hl:L.length=6) (d r:Int) (v2 v3 v4 v5:Value):Row (six W g d r v2 v3 v4 v5) g [.int .i64 d,.int .i64 r,v2,v3,v4,v5]:=by
 obtain ⟨a0,a1,a2,a3,a4,a5,rfl⟩: ∃a0 a1 a2 a3 a4 a5,L=[a0,a1,a2,a3,a4,a5]:=by
  rcases L with _|⟨a0,_|⟨a1,_|⟨a2,_|⟨a3,_|⟨a4,_|⟨a5,_|⟨a6,L⟩⟩⟩⟩⟩⟩⟩<;>simp at hl;exact ⟨_,_,_,_,_,_,rfl⟩
 unfold six;exact (((((h.set 0 _ (by simp)).set 1 _ (by simp)).set 2 _ (by simp)).set 3 _ (by simp)).set 4 _ (by simp)).set 5 _ (by simp)
theorem amJ (W:World) (g:Nat) (d r:Int) (v2 v3 v4 v5:Value):(((((W.setCell ⟨g,0,none⟩ (.int .i64 d)).setCell ⟨g,1,none⟩ (.int .i64 r)).setCell ⟨g,2,none⟩ v2).setCell ⟨g,3,none⟩ v3).setCell ⟨g,4,none⟩ v4).setCell ⟨g,5,none⟩ v5=six W g d r v2 v3 v4 v5:=rfl
theorem am6 (a:cp) (ds:List dr) (x:cS) (A:Option Addr) (n c:Nat) (w0:World) (hR:jv w0 w0.heap.size x a) (hF:dJ a) (hs:ua a) (cy:amH ds=true) (hD:ve w0 w0.heap.size (.slice A n c) ds):
 Calls prog 26 #[eu a x,.slice A n c] w0 (am5 (amF a ds).1 (amF a ds).2 true w0):=by
 obtain ⟨At,ct,Ab,cb,Ac,cc,Am,cm,rfl⟩:=hR.slices;obtain ⟨W0,ku⟩: ∃W:World,W=w0.alloc (.cells #[.int .i64 a.day,.int .i64 a.rule,.slice At a.af.length ct,.slice Ab a.base.length cb,.slice Ac a.av.length cc,.slice Am a.ao.length cm] 29):=⟨_,rfl⟩
 obtain ⟨w,hW⟩: ∃W:World,W=W0.alloc (.cells #[.int .i64 0,.int .i64 0,.slice none 0 0,.slice none 0 0,.slice none 0 0,.slice none 0 0] 29):=⟨_,rfl⟩
 have b0:Below w0.heap.size w0 W0:=by rw[ku];exact (aae _ _).alloc (aad _) _
 have s0:W0.heap.size=w0.heap.size+1:=by rw[ku];simp
 have b2:Below W0.heap.size W0 w:=by rw[hW];exact (aae _ _).alloc (aad _) _
 have s2:w.heap.size=w0.heap.size+2:=by rw[hW];simp[s0]
 have bW:Below w0.heap.size w0 w:=b0.trans (b2.mono b0.size);have HZ:ag (Row w (w0.heap.size+1) [.int .i64 0,.int .i64 0,.slice none 0 0,.slice none 0 0,.slice none 0 0,.slice none 0 0]):=I (by rw[hW,<-s0];exact Row.new W0 _ _);have rj:ag (Row w w0.heap.size [.int .i64 a.day,.int .i64 a.rule,.slice At a.af.length ct,.slice Ab a.base.length cb,.slice Ac a.av.length cc,.slice Am a.ao.length cm]):=I ((show Row W0 w0.heap.size _ by rw[ku];exact Row.new w0 _ _).below b2 (by omega));have kW:ag (jv w w.heap.size ⟨.slice At a.af.length ct,.slice Ab a.base.length cb,.slice Ac a.av.length cc,.slice Am a.ao.length cm⟩ a):=I (hR.on bW bW.size);have B5:ag (ve w w.heap.size (.slice A n c) ds):=I (cz.on hD amA.stays bW bW.size);have gf:=I bW;have lV:=I (show (w0.alloc (.cells #[.int .i64 a.day,.int .i64 a.rule,.slice At a.af.length ct,.slice Ab a.base.length cb,.slice Ac a.av.length cc,.slice Am a.ao.length cm] 29)).alloc (.cells #[.int .i64 0,.int .i64 0,.slice none 0 0,.slice none 0 0,.slice none 0 0,.slice none 0 0] 29)=w by rw[hW,ku]);clear hR hD hW ku b0 b2 bW s0;have sw:w0.heap.size+2<=w.heap.size:=by omega
 clear s2;have Mj:=I (λy:ar w=>kW.o.on y.ok y.ok.size);have uq:=I (λy:ar w=>rj.o.below y.ok (by omega));have Aq:=I (λy:ar w=>HZ.o.below y.ok (by omega));have fC:ag (∀y:ar w,ve y.val y.val.heap.size (.slice A n c) ds):=I (λy=>cz.on B5.o amA.stays y.ok y.ok.size);have mS:=I (λy:ar w=>(gf.o.trans (y.ok.mono (by omega)):Below w0.heap.size w0 y.val));unfold eu;obtain ⟨R,hR⟩: ∃R,amF a ds=R:=⟨_,rfl⟩
 have OD:=I hR;rw[hR];clear hR;have xd:=I (λy:ar w=>LC a _ w0.heap.size 0 y.val ((uq.o y).cell 0 _ rfl) ((uq.o y).cell 1 _ rfl) ((uq.o y).cell 2 _ rfl) ((uq.o y).cell 3 _ rfl) ((uq.o y).cell 4 _ rfl) ((uq.o y).cell 5 _ rfl) (Mj.o y) hs);have jO:=I (λy:ar w=>amT ds A n c y.val (fC.o y));obtain ⟨n1,n2,n3,n4,n5,n6⟩:=hF.sizes;have kX:=I (λy:ar w=>G3 a _ w0.heap.size 0 y.val ((uq.o y).cell 0 _ rfl) ((uq.o y).cell 1 _ rfl) ((uq.o y).cell 2 _ rfl) ((uq.o y).cell 3 _ rfl) ((uq.o y).cell 4 _ rfl) ((uq.o y).cell 5 _ rfl) (Mj.o y) n1 hF.av n2 n3 n4 n5 n6);have HF:=I hF;have Si:=I (amQ.1 cy).2;rw[hF.fI]at xd;rw[cy]at jO;clear hF hs n1 n2 n3 n4 n5 n6 cy;unfold Cn at kX;go_enter func26,ntmps26;go_upto_region 1 with (fail)
 rw[lV.o];refine yY λx0=>?_;go_wp2_with (fail);refine (aq (xd.o x0)).mono ?_;rintro e _ ⟨rfl,x1,rfl⟩;go_wp2_with (fail);refine (aq (jO.o x1)).mono ?_;rintro e _ ⟨rfl,x2,rfl⟩;go_wp2_with (fail);refine (kX.o x2).mono ?_;rintro e w1 ⟨x',T,C,M,rfl,Ky,bw⟩;obtain ⟨Bt,dt,Bb,db,Bc,dc,Bm,dm,rfl⟩:=Ky.o.r.slices;have Cj:=I Ky;have Ha:=bw.size;have da:=I bw;obtain ⟨x3,rfl⟩: ∃y:ar w,w1=y.val:=⟨⟨w1,x2.ok.trans (bw.mono x2.ok.size)⟩,rfl⟩
 clear bw Ky;unfold eu;go_upto_region 4 with (fail)
 obtain ⟨w4,Ap⟩: ∃X,X=x3.val.alloc (.cells #[.int .i64 a.day,.int .i64 a.rule,.slice Bt a.af.length dt,.slice Bb a.base.length db,.slice Bc a.av.length dc,.slice Bm a.ao.length dm] 29):=⟨_,rfl⟩
 have b4:Below x3.val.heap.size x3.val w4:=by rw[Ap];exact (aae _ _).alloc (aad _) _
 have Nz:Row w4 x3.val.heap.size [.int .i64 a.day,.int .i64 a.rule,.slice Bt a.af.length dt,.slice Bb a.base.length db,.slice Bc a.av.length dc,.slice Bm a.ao.length dm]:=by rw[Ap];exact Row.new x3.val _ _
 have Vs:x3.val.heap.size<w4.heap.size:=by rw[Ap];simp
 rw[<-Ap];clear Ap;have b24:Below x2.val.heap.size x2.val w4:=da.o.trans (b4.mono Ha);obtain ⟨x4,rfl⟩: ∃y:ar w,w4=y.val:=⟨⟨w4,x3.ok.trans (b4.mono x3.ok.size)⟩,rfl⟩
 have KY:=ck.of Cj.o b4 Nz Vs Ha;have Fh:=I (anC a ds _ T C M x2.val.heap.size x3.val.heap.size A n c x4.val KY HF.o Si.o (cz.on (fC.o x2) amA.stays b24 (aad _)));have F4:=x2.ok.size;clear KY Nz b4 b24;unfold anT at Fh;rw[OD.o]at Fh;obtain ⟨c',kN⟩:=R;clear OD;go_wp2_with (fail);refine Fh.o.mono ?_;rintro e w5 ⟨rfl,⟨x5v,T5,C5,M5,hB5⟩,zd⟩;obtain ⟨x5,rfl⟩: ∃y:ar w,w5=y.val:=⟨⟨w5,x4.ok.trans (zd.mono x2.ok.size)⟩,rfl⟩
 clear zd;have hB5:ck x2.val.heap.size x3.val.heap.size x5.val x5v c' T5 C5 M5:=hB5;obtain ⟨Et,et,Eb,eb,Ec,ec,Em,em,rfl⟩:=hB5.own.o.r.slices;have mx:=I hB5.row;have Kz:=I hB5.own;clear hB5;have eO:=Aq.o x5;have Hd:=(x5).ok.size;have r0:=eO.cell 0 _ rfl;have r1:=eO.cell 1 _ rfl;have r2:=eO.cell 2 _ rfl;have r3:=eO.cell 3 _ rfl;have r4:=eO.cell 4 _ rfl;have r5:=eO.cell 5 _ rfl;have s0:=eO.free 0 (by simp);have s1:=eO.free 1 (by simp);have s2:=eO.free 2 (by simp);have s3:=eO.free 3 (by simp);have s4:=eO.free 4 (by simp);have s5:=eO.free 5 (by simp);have q0:=mx.o.cell 0 _ rfl;have q1:=mx.o.cell 1 _ rfl;have q2:=mx.o.cell 2 _ rfl;have q3:=mx.o.cell 3 _ rfl;have q4:=mx.o.cell 4 _ rfl;have q5:=mx.o.cell 5 _ rfl;go_wp2
 have gD: ∀(ac:Go.Act) (w':World),ac.tmps[4]?=some (.pointer (some ⟨(w0.heap.size+1),0,none⟩))->ac.tmps[5]?=some (.int .i64 ((kN:Nat):Int))->ac.tmps[6]?=some (.bool true)->w'.cell? ⟨(w0.heap.size+1),0,none⟩=some (.int .i64 c'.day)->w'.cell? ⟨(w0.heap.size+1),1,none⟩=some (.int .i64 c'.rule)->w'.cell? ⟨(w0.heap.size+1),2,none⟩=some (.slice Et c'.af.length et)->w'.cell? ⟨(w0.heap.size+1),3,none⟩=some (.slice Eb c'.base.length eb)->w'.cell? ⟨(w0.heap.size+1),4,none⟩=some (.slice Ec c'.av.length ec)->w'.cell? ⟨(w0.heap.size+1),5,none⟩=some (.slice Em c'.ao.length em)->(results f26 ac.tmps).run prog w'= .ok (.tuple #[.agg #[.int .i64 c'.day,.int .i64 c'.rule,.slice Et c'.af.length et,.slice Eb c'.base.length eb,.slice Ec c'.av.length ec,.slice Em c'.ao.length em],.int .i64 ((kN:Nat):Int),.bool true]) w':=by
  intro ac w' ha hf hg nB nC nE ob oc od;simp[results,results26,go_sem,ha,hf,hg,nB,nC,nE,ob,oc,od]
 refine aaT (gD _ _ rfl rfl rfl (by simp[go_sem,r0]) (by simp[go_sem,r1]) (by simp[go_sem,r2]) (by simp[go_sem,r3]) (by simp[go_sem,r4]) (by simp[go_sem,r5])) rfl ?_;have Cr:=ad2 (x5).val (w0.heap.size+1) c'.day c'.rule (.slice Et c'.af.length et) (.slice Eb c'.base.length eb) (.slice Ec c'.av.length ec) (.slice Em c'.ao.length em);rw[amJ];refine ⟨⟨.slice Et c'.af.length et,.slice Eb c'.base.length eb,.slice Ec c'.av.length ec,.slice Em c'.ao.length em⟩,_,_,_,rfl,⟨_,_,_,_,_,_,_,_,_,_,_,_,rfl⟩,(Kz.o.aD Cr (λb hb e=>by have:=(Kz.o.o.lt hb).1;omega)).less (by omega),?_⟩;exact (mS.o x5).trans (Cr.below (by omega) (λb e=>by omega))
theorem anu (a:cp) (ds:List dr) (x:cS) (A:Option Addr) (n c:Nat) (w0:World) (hR:jv w0 w0.heap.size x a) (hF:dJ a) (cy: ∀d∈ds,cA d=true) (hD:ve w0 w0.heap.size (.slice A n c) ds):
 Calls prog 72 #[eu a x,.slice A n c] w0 (anD (amF a ds).1 (amF a ds).2 w0):=by
 obtain ⟨hn,hc,hm⟩:=fB hD;have Mq:n<=9223372036854775807:=by omega
 obtain ⟨At,ct,Ab,cb,Ac,cc,Am,cm,rfl⟩:=hR.slices;obtain ⟨W0,ku⟩: ∃W:World,W=w0.alloc (.cells #[.int .i64 a.day,.int .i64 a.rule,.slice At a.af.length ct,.slice Ab a.base.length cb,.slice Ac a.av.length cc,.slice Am a.ao.length cm] 29):=⟨_,rfl⟩
 obtain ⟨w,hW⟩: ∃W:World,W=W0.alloc (.cells #[.int .i64 0,.int .i64 0,.slice none 0 0,.slice none 0 0,.slice none 0 0,.slice none 0 0] 29):=⟨_,rfl⟩
 have b0:Below w0.heap.size w0 W0:=by rw[ku];exact (aae _ _).alloc (aad _) _
 have s0:W0.heap.size=w0.heap.size+1:=by rw[ku];simp
 have b2:Below W0.heap.size W0 w:=by rw[hW];exact (aae _ _).alloc (aad _) _
 have s2:w.heap.size=w0.heap.size+2:=by rw[hW];simp[s0]
 have bW:Below w0.heap.size w0 w:=b0.trans (b2.mono b0.size);have HZ:ag (Row w (w0.heap.size+1) [.int .i64 0,.int .i64 0,.slice none 0 0,.slice none 0 0,.slice none 0 0,.slice none 0 0]):=I (by rw[hW,<-s0];exact Row.new W0 _ _);have rj:ag (Row w w0.heap.size [.int .i64 a.day,.int .i64 a.rule,.slice At a.af.length ct,.slice Ab a.base.length cb,.slice Ac a.av.length cc,.slice Am a.ao.length cm]):=I ((show Row W0 w0.heap.size _ by rw[ku];exact Row.new w0 _ _).below b2 (by omega));have kW:ag (jv w w.heap.size ⟨.slice At a.af.length ct,.slice Ab a.base.length cb,.slice Ac a.av.length cc,.slice Am a.ao.length cm⟩ a):=I (hR.on bW bW.size);have B5:ag (ve w w.heap.size (.slice A n c) ds):=I (cz.on hD amA.stays bW bW.size);have gf:=I bW;have lV:=I (show (w0.alloc (.cells #[.int .i64 a.day,.int .i64 a.rule,.slice At a.af.length ct,.slice Ab a.base.length cb,.slice Ac a.av.length cc,.slice Am a.ao.length cm] 29)).alloc (.cells #[.int .i64 0,.int .i64 0,.slice none 0 0,.slice none 0 0,.slice none 0 0,.slice none 0 0] 29)=w by rw[hW,ku]);clear hR hD hW ku b0 b2 bW s0;have sw:w0.heap.size+2<=w.heap.size:=by omega
 clear s2;have Mj:=I (λy:ar w=>kW.o.on y.ok y.ok.size);have uq:=I (λy:ar w=>rj.o.below y.ok (by omega));have Aq:=I (λy:ar w=>HZ.o.below y.ok (by omega));have fC:ag (∀y:ar w,ve y.val y.val.heap.size (.slice A n c) ds):=I (λy=>cz.on B5.o amA.stays y.ok y.ok.size);have mS:=I (λy:ar w=>(gf.o.trans (y.ok.mono (by omega)):Below w0.heap.size w0 y.val));unfold eu;subst hn;obtain ⟨R,hR⟩: ∃R,amF a ds=R:=⟨_,rfl⟩
 have OD:=I hR;rw[hR];clear hR;obtain ⟨n1,n2,n3,n4,n5,n6⟩:=hF.sizes;have anP:=I (λy:ar w=>Cq a _ y.val (Mj.o y) n1 hF.av n2 n3 n4 n5 n6);have HF:=I hF;have ii:=I cy;clear hF cy n1 n2 n3 n4 n5 n6;unfold Cn eu at anP;have y0:=λy:ar w=>(uq.o y).cell 0 _ rfl;have y1:=λy:ar w=>(uq.o y).cell 1 _ rfl;have y2:=λy:ar w=>(uq.o y).cell 2 _ rfl;have y3:=λy:ar w=>(uq.o y).cell 3 _ rfl;have y4:=λy:ar w=>(uq.o y).cell 4 _ rfl;have y5:=λy:ar w=>(uq.o y).cell 5 _ rfl;go_enter func72,ntmps72;go_upto_region 1 with (fail)
 rw[lV.o];refine yY λx0=>?_;go_wp2_with (fail);refine (anP.o x0).mono ?_;rintro e w1 ⟨x',T,C,M,rfl,Ky,bw⟩;obtain ⟨Bt,dt,Bb,db,Bc,dc,Bm,dm,rfl⟩:=Ky.o.r.slices;have Ha:=bw.size;go_upto_region 2 with (fail)
 obtain ⟨w4,Ap⟩: ∃X,X=w1.alloc (.cells #[.int .i64 a.day,.int .i64 a.rule,.slice Bt a.af.length dt,.slice Bb a.base.length db,.slice Bc a.av.length dc,.slice Bm a.ao.length dm] 29):=⟨_,rfl⟩
 have b4:Below w1.heap.size w1 w4:=by rw[Ap];exact (aae _ _).alloc (aad _) _
 have Nz:Row w4 w1.heap.size [.int .i64 a.day,.int .i64 a.rule,.slice Bt a.af.length dt,.slice Bb a.base.length db,.slice Bc a.av.length dc,.slice Bm a.ao.length dm]:=by rw[Ap];exact Row.new w1 _ _
 have Vs:w1.heap.size<w4.heap.size:=by rw[Ap];simp
 rw[<-Ap];clear Ap;have KY:=ck.of Ky b4 Nz Vs Ha;have dp:=x0.ok.size;have HL4:ag (Below w.heap.size w w4):=I (x0.ok.trans ((bw.trans (b4.mono Ha)).mono dp));obtain ⟨ba,ri⟩: ∃k,k=w1.heap.size:=⟨_,rfl⟩
 rw[<-ri]at KY⊢;obtain ⟨b0,xu⟩: ∃k,k=x0.val.heap.size:=⟨_,rfl⟩
 rw[<-xu]at KY dp;have kC:=I KY;clear Ky bw b4 Nz Vs KY ri xu Ha y0 y1 y2 y3 y4 y5 anP x0;go_wp2;go_loopw [7,8,9,10,15] (λ_ _ _ _ i wr=> ∃(k:Nat) (x:cS) (q:cp) (T:List bR) (C:List bu) (M:List bH),k<=ds.length/\i= .int .i64 (k:Int)/\ck b0 ba wr x q T C M/\dJ q/\amI a ds q k/\Below w.heap.size w wr) (λ_ _ _ _ i _=>ds.length-(intOf i).toNat);case atStart=>exact ⟨0,_,a,T,C,M,aaf _,rfl,kC.o,HF.o,amI.init a ds,HL4.o⟩
 case round=>
  obtain ⟨k,x,q,T,C,M,hk,rfl,hB,hF,hr,hb⟩:=hrel;obtain ⟨Ot,ot,Ob,ob,Oc,oc,Om,om,rfl⟩:=hB.own.o.r.slices;have HB:=I hB;have HQ:=I hF;have HR:=I hr;have Rv:=I hb;have j7:=hB.bb;have bD:=hB.lt;clear hB hF hr hb;by_cases aI:k<ds.length
  ·have aH:ds[k]?=some ds[k]:=aag aI;obtain ⟨bd,od,A1,c1,A2,c2,rfl,Gz,hP⟩:=amE (cz.on B5.o amA.stays Rv.o Rv.o.size) aH;have HG:=I aH;have Si:=I (ii.o _ (aax aI));have jA:(0:Int)<=(k:Int):=by omega
   have Hl:(k:Int)<(ds.length:Int):=by omega
   clear aH;generalize ds[k]=d at*;have k0:=hP.k0;have k1:=hP.k1;have k2:=hP.k2;have k3:=hP.k3;have k4:=hP.k4;have k5:=hP.k5;have k6:=hP.k6;have k7:=hP.k7;have k8:=hP.k8;have HP:=I hP;clear hP;go_upto_region 5 with (fail)
   clear k0 k1 k2 k3 k4 k5 k6 k7 k8;obtain ⟨V,hV⟩: ∃X,X=wr.alloc (.cells #[.int .i64 d.kind,.int .i64 d.member,.slice A1 d.af.length c1,.string d.al,.int .i64 d.bO,.slice A2 d.patch.length c2,.int .i64 d.start,.int .i64 d.aB,.int .i64 d.aj] 48):=⟨_,rfl⟩
   have ajI:Below wr.heap.size wr V:=by rw[hV];exact (aae _ _).alloc (aad _) _
   have ajJ:Row V wr.heap.size [.int .i64 d.kind,.int .i64 d.member,.slice A1 d.af.length c1,.string d.al,.int .i64 d.bO,.slice A2 d.patch.length c2,.int .i64 d.start,.int .i64 d.aB,.int .i64 d.aj]:=by rw[hV];exact Row.new _ _ _
   have ajK:wr.heap.size<V.heap.size:=by rw[hV];simp
   rw[<-hV];have HDV:ag (fp V wr.heap.size 0 d A1 c1 A2 c2):=I (fp.row ajJ (cz.on HP.o.ints (Pl.stays _) ajI ajI.size) (cz.on HP.o.fF (Pl.stays _) ajI ajI.size) HP.o.sizes HP.o.al);have HBV:=I (HB.o.below ajI);have HLV:=I (Rv.o.trans (ajI.mono Rv.o.size));obtain ⟨nd,hnd⟩: ∃z,z=wr.heap.size:=⟨_,rfl⟩
   rw[<-hnd]at HDV ajJ ajK⊢;have IJ:ba<nd:=by omega
   have aoe:ba<V.heap.size:=by omega
   have Sh:=I (λy:ar V=>HDV.o.km y);have eT:=I (λy:ar V=>HBV.o.below y.ok);have P8:=I (λy:ar V=>ajJ.below y.ok ajK);have dl:ag (∀y:ar V,y.val.cell? ⟨ba,0,none⟩=some (.int .i64 q.day)/\y.val.cell? ⟨ba,1,none⟩=some (.int .i64 q.rule)/\y.val.cell? ⟨ba,2,none⟩=some (.slice Ot q.af.length ot)/\y.val.cell? ⟨ba,3,none⟩=some (.slice Ob q.base.length ob)/\y.val.cell? ⟨ba,4,none⟩=some (.slice Oc q.av.length oc)/\y.val.cell? ⟨ba,5,none⟩=some (.slice Om q.ao.length om)/\y.val.cell? ⟨nd,0,none⟩=some (.int .i64 d.kind)/\y.val.cell? ⟨nd,1,none⟩=some (.int .i64 d.member)/\y.val.cell? ⟨nd,2,none⟩=some (.slice A1 d.af.length c1)/\y.val.cell? ⟨nd,3,none⟩=some (.string d.al)/\y.val.cell? ⟨nd,4,none⟩=some (.int .i64 d.bO)/\y.val.cell? ⟨nd,5,none⟩=some (.slice A2 d.patch.length c2)/\y.val.cell? ⟨nd,6,none⟩=some (.int .i64 d.start)/\y.val.cell? ⟨nd,7,none⟩=some (.int .i64 d.aB)/\y.val.cell? ⟨nd,8,none⟩=some (.int .i64 d.aj)):=I (λy=>⟨(eT.o y).row.cell 0 _ rfl,(eT.o y).row.cell 1 _ rfl,(eT.o y).row.cell 2 _ rfl,(eT.o y).row.cell 3 _ rfl,(eT.o y).row.cell 4 _ rfl,(eT.o y).row.cell 5 _ rfl,(P8.o y).cell 0 _ rfl,(P8.o y).cell 1 _ rfl,(P8.o y).cell 2 _ rfl,(P8.o y).cell 3 _ rfl,(P8.o y).cell 4 _ rfl,(P8.o y).cell 5 _ rfl,(P8.o y).cell 6 _ rfl,(P8.o y).cell 7 _ rfl,(P8.o y).cell 8 _ rfl⟩);obtain ⟨n1,n2,n3,n4,n5,n6⟩:=HQ.o.sizes;have tx:=I (λy:ar V=>Cq q _ y.val (eT.o y).own.o.r n1 HQ.o.av n2 n3 n4 n5 n6);unfold Cn eu at tx;obtain ⟨o,ho⟩: ∃o,o=mW q d:=⟨_,rfl⟩
   have HO:=I ho.symm;have hY:=I (λh:o=none=>HR.o.no HG.o (ho▸h));have uB:=I (λb (h:o=some b)=>And.intro (HR.o.go (b:=b) HG.o (ho▸h)) (L0 HQ.o Si.o (ho▸h)));clear hV ajI ajJ ajK hnd ho HP n1 n2 n3 n4 n5 n6;go_cut [9,10] (λs9 s10 wx=> ∃na b Et n1 et Eb n2 eb Ec n3 ec Em n4 em,s9= .pointer (some ⟨na,0,none⟩)/\s10= .bool o.isSome/\Row wx na [.int .i64 b.day,.int .i64 b.rule,.slice Et n1 et,.slice Eb n2 eb,.slice Ec n3 ec,.slice Em n4 em]/\(∀c2,o=some c2->b=c2/\ ∃T C M,dM V.heap.size wx ⟨.slice Et n1 et,.slice Eb n2 eb,.slice Ec n3 ec,.slice Em n4 em⟩ c2 T C M)/\Below V.heap.size V wx/\na<wx.heap.size)
   case first=>
    refine yY λx2=>?_;refine dq 8 (λw'=>w'.cell? ⟨ba,0,none⟩=some (.int .i64 q.day)/\w'.cell? ⟨ba,1,none⟩=some (.int .i64 q.rule)/\w'.cell? ⟨ba,2,none⟩=some (.slice Ot q.af.length ot)/\w'.cell? ⟨ba,3,none⟩=some (.slice Ob q.base.length ob)/\w'.cell? ⟨ba,4,none⟩=some (.slice Oc q.av.length oc)/\w'.cell? ⟨ba,5,none⟩=some (.slice Om q.ao.length om)/\w'.cell? ⟨nd,0,none⟩=some (.int .i64 d.kind)/\w'.cell? ⟨nd,1,none⟩=some (.int .i64 d.member)/\w'.cell? ⟨nd,2,none⟩=some (.slice A1 d.af.length c1)/\w'.cell? ⟨nd,3,none⟩=some (.string d.al)/\w'.cell? ⟨nd,4,none⟩=some (.int .i64 d.bO)/\w'.cell? ⟨nd,5,none⟩=some (.slice A2 d.patch.length c2)/\w'.cell? ⟨nd,6,none⟩=some (.int .i64 d.start)/\w'.cell? ⟨nd,7,none⟩=some (.int .i64 d.aB)/\w'.cell? ⟨nd,8,none⟩=some (.int .i64 d.aj)) (by kernel_rfl) ?_;obtain ⟨x3,yS⟩: ∃y:ar V,y.val=x2.val.drew:=⟨⟨x2.val.drew,x2.ok.drew⟩,rfl⟩
    rw[<-yS];clear yS;have aE:=dl.o x3;refine cl 0 ?_
    try simp only[Act.put,aK,aM]
    refine cl 2 ?_
    try simp only[Act.put,aK,aM]
    clear aE;have W9:=x3.ok.size;refine bZ (rs:=[1,7]) (by kernel_rfl) (by simp) ?_;refine aN.cons rfl (λK hK=>?_) (aN.cons rfl (λK hK=>?_) aN.nil)
    ·try simp only[aK]
     go_simp;go_at_call 54;refine (tx.o x3).mono ?_;rintro e w1 ⟨x',T',C',M',rfl,Ky,bw⟩;obtain ⟨Bt,dt,Bb,db,Bc,dc,Bm,dm,rfl⟩:=Ky.o.r.slices;have Cj:=I Ky;have Ha:=bw.size
     try replace eP:=I (eP.o.below bw (by omega))
     obtain ⟨x4,rfl⟩: ∃y:ar V,w1=y.val:=⟨⟨w1,(x3).ok.trans (bw.mono (x3).ok.size)⟩,rfl⟩
     clear bw Ky;refine hK.out _ _ (λ_=>dl.o x4) ?_;clear hK K
     try simp only[]
     have cm:=x4.ok.size;refine bZ (rs:=[3,7]) (by kernel_rfl) (by simp) ?_;refine aN.cons rfl (λK hK=>?_) (aN.cons rfl (λK hK=>?_) aN.nil)
     ·try simp only[aK]
      go_simp;have Fh:=I (Ae q d _ T' C' M' (x3).val.heap.size A1 c1 A2 c2 (x4).val Cj.o HQ.o (by omega) Si.o (Sh.o x4).ints (Sh.o x4).fF (Sh.o x4).sizes (Sh.o x4).al (λ_=>False) (λ_ h=>h.elim) (λ_ _ h=>h));rw[HO.o]at Fh;unfold Ks eu gw at Fh;go_at_call 55;refine Fh.o.mono ?_;rintro e w1 ⟨b,xv,rfl,⟨Et,n1,et,Eb,n2,eb,Ec,n3,ec,Em,n4,em,rfl⟩,hc,hb,M4,uw⟩;skip;have Ni:=I hc;have Sj:=(x3).ok.size;obtain ⟨x5,rfl⟩: ∃y:ar V,w1=y.val:=⟨⟨w1,(x4).ok.trans (hb.mono Sj)⟩,rfl⟩
      clear hc hb M4 Fh;refine hK.out _ _ (λ_=>dl.o x5) ?_;clear hK K
      try simp only[]
      refine eS 4 (λ_=>dl.o x5) ?_
      try simp only[Act.put,aK,aM]
      refine eS 5 (λ_=>dl.o x5) ?_
      try simp only[Act.put,aK,aM]
      refine eS 6 (λ_=>dl.o x5) ?_
      try simp only[Act.put,aK,aM]
      refine cV 7 (λK hK=>?_)
      try simp only[aK]
      go_simp;have bk:Below (x5).val.heap.size (x5).val ((x5).val.alloc (.cells #[.int .i64 0,.int .i64 0,.slice none 0 0,.slice none 0 0,.slice none 0 0,.slice none 0 0] 29)):=(aae _ _).alloc (aad _) _;have eP:ag (Row ((x5).val.alloc (.cells #[.int .i64 0,.int .i64 0,.slice none 0 0,.slice none 0 0,.slice none 0 0,.slice none 0 0] 29)) (x5).val.heap.size [.int .i64 0,.int .i64 0,.slice none 0 0,.slice none 0 0,.slice none 0 0,.slice none 0 0]):=I (Row.new _ _ _);have qg:(x5).val.heap.size+1<=((x5).val.alloc (.cells #[.int .i64 0,.int .i64 0,.slice none 0 0,.slice none 0 0,.slice none 0 0,.slice none 0 0] 29)).heap.size:=by simp
      obtain ⟨x6,hc⟩: ∃y:ar V,y.val=(x5).val.alloc (.cells #[.int .i64 0,.int .i64 0,.slice none 0 0,.slice none 0 0,.slice none 0 0,.slice none 0 0] 29):=⟨⟨_,(x5).ok.trans (bk.mono (x5).ok.size)⟩,rfl⟩
      rw[<-hc]at bk eP qg⊢;clear hc;have Mk:=(x5).ok.size
      replace Ni:=I (λc h=>(⟨(Ni.o c h).1,by obtain ⟨_,T',C',M',Tw,_⟩:=Ni.o c h;exact ⟨T',C',M',Tw.below bk,λb hb=>by have:=(Tw.o.lt hb).2;omega⟩⟩:b=c/\ ∃T C M,dM x3.val.heap.size x6.val ⟨.slice Et n1 et,.slice Eb n2 eb,.slice Ec n3 ec,.slice Em n4 em⟩ c T C M/\ ∀b',bz ⟨.slice Et n1 et,.slice Eb n2 eb,.slice Ec n3 ec,.slice Em n4 em⟩ c T C M b'-> ¬b'=x5.val.heap.size))
      try replace Cj:=I (Cj.o.below bk)
      clear bk;refine hK.out _ _ (λ_=>dl.o x6) ?_;clear hK K
      try simp only[Act.put,aM]
      refine cV 8 (λK hK=>?_)
      try simp only[aK]
      have a0:=eP.o.cell 0 _ rfl;have a1:=eP.o.cell 1 _ rfl;have a2:=eP.o.cell 2 _ rfl;have a3:=eP.o.cell 3 _ rfl;have a4:=eP.o.cell 4 _ rfl;have a5:=eP.o.cell 5 _ rfl;have f0:=eP.o.free 0 (by simp);have f1:=eP.o.free 1 (by simp);have f2:=eP.o.free 2 (by simp);have f3:=eP.o.free 3 (by simp);have f4:=eP.o.free 4 (by simp);have f5:=eP.o.free 5 (by simp);go_simp;rw[amJ];have xo:=ad2 (x6).val x5.val.heap.size b.day b.rule (.slice Et n1 et) (.slice Eb n2 eb) (.slice Ec n3 ec) (.slice Em n4 em);have CM:=amY eP.o rfl b.day b.rule (.slice Et n1 et) (.slice Eb n2 eb) (.slice Ec n3 ec) (.slice Em n4 em);generalize six (x6).val x5.val.heap.size b.day b.rule (.slice Et n1 et) (.slice Eb n2 eb) (.slice Ec n3 ec) (.slice Em n4 em)=w9 at*;have hkV:V.heap.size<=x5.val.heap.size:=by omega
      have hbV:V.heap.size<=(x3).val.heap.size:=(x3).ok.size;have RC:=xo.size;have iM:ag (Below V.heap.size V w9):=I ((x6).ok.trans (xo.below (x6).ok.size (λb e=>by omega)));have W4:=I CM
      have Qf:ag (∀c2,o=some c2->b=c2/\ ∃T C M,dM V.heap.size w9 ⟨.slice Et n1 et,.slice Eb n2 eb,.slice Ec n3 ec,.slice Em n4 em⟩ c2 T C M):=I (λc2 h=>by
       obtain ⟨e,T5,C5,M5,Nj,Nk⟩:=Ni.o c2 h;exact ⟨e,T5,C5,M5,(Nj.aD xo (λb hb e=>Nk b hb e)).less hbV⟩)
      clear xo CM a0 a1 a2 a3 a4 a5 f0 f1 f2 f3 f4 f5;refine hK.out _ _ (λh=>by simp at h) ?_;clear hK K
      try simp only[Act.put,aM]
      refine cV 9 (λK hK=>?_)
      try simp only[aK]
      go_simp;refine hK.out _ _ (λh=>by simp at h) ?_;clear hK K
      try simp only[Act.put,aM]
      refine dh (by kernel_rfl) ?_ _;go_wp2;go_meet;case rel=>exact ⟨_,b,Et,n1,et,Eb,n2,eb,Ec,n3,ec,Em,n4,em,rfl,rfl,W4.o,Qf.o,iM.o,by omega⟩
     try simp only[aK]
     go_simp;have bk:Below (x4).val.heap.size (x4).val ((x4).val.alloc (.cells #[.int .i64 0,.int .i64 0,.slice none 0 0,.slice none 0 0,.slice none 0 0,.slice none 0 0] 29)):=(aae _ _).alloc (aad _) _;have eP:ag (Row ((x4).val.alloc (.cells #[.int .i64 0,.int .i64 0,.slice none 0 0,.slice none 0 0,.slice none 0 0,.slice none 0 0] 29)) (x4).val.heap.size [.int .i64 0,.int .i64 0,.slice none 0 0,.slice none 0 0,.slice none 0 0,.slice none 0 0]):=I (Row.new _ _ _);have qg:(x4).val.heap.size+1<=((x4).val.alloc (.cells #[.int .i64 0,.int .i64 0,.slice none 0 0,.slice none 0 0,.slice none 0 0,.slice none 0 0] 29)).heap.size:=by simp
     obtain ⟨x5,hc⟩: ∃y:ar V,y.val=(x4).val.alloc (.cells #[.int .i64 0,.int .i64 0,.slice none 0 0,.slice none 0 0,.slice none 0 0,.slice none 0 0] 29):=⟨⟨_,(x4).ok.trans (bk.mono (x4).ok.size)⟩,rfl⟩
     rw[<-hc]at bk eP qg⊢;clear hc;have Mk:=(x4).ok.size;have jE: ∀b,bz ⟨.slice Bt q.af.length dt,.slice Bb q.base.length db,.slice Bc q.av.length dc,.slice Bm q.ao.length dm⟩ q T' C' M' b-> ¬b=x4.val.heap.size:=λb hb=>by have:=(Cj.o.o.lt hb).2;omega
     try replace Cj:=I (Cj.o.below bk)
     clear bk;refine hK.out _ _ (λ_=>dl.o x5) ?_;clear hK K
     try simp only[Act.put,aM]
     refine cV 3 (λK hK=>?_)
     try simp only[aK]
     go_simp;have Fh:=I (Ae q d _ T' C' M' (x3).val.heap.size A1 c1 A2 c2 (x5).val Cj.o HQ.o (by omega) Si.o (Sh.o x5).ints (Sh.o x5).fF (Sh.o x5).sizes (Sh.o x5).al (λb=>b=x4.val.heap.size) (λ_ h=>by omega) (λb hb h=>jE b hb h));rw[HO.o]at Fh;unfold Ks eu gw at Fh;go_at_call 55;refine Fh.o.mono ?_;rintro e w1 ⟨b,xv,rfl,⟨Et,n1,et,Eb,n2,eb,Ec,n3,ec,Em,n4,em,rfl⟩,hc,hb,M4,uw⟩
     replace eP:=I (M4 _ rfl _ eP.o)
     have Ni:=I hc;have Sj:=(x3).ok.size;obtain ⟨x6,rfl⟩: ∃y:ar V,w1=y.val:=⟨⟨w1,(x5).ok.trans (hb.mono Sj)⟩,rfl⟩
     clear hc hb M4 Fh;refine hK.out _ _ (λ_=>dl.o x6) ?_;clear hK K
     try simp only[]
     refine eS 4 (λ_=>dl.o x6) ?_
     try simp only[Act.put,aK,aM]
     refine eS 5 (λ_=>dl.o x6) ?_
     try simp only[Act.put,aK,aM]
     refine eS 6 (λ_=>dl.o x6) ?_
     try simp only[Act.put,aK,aM]
     refine cV 8 (λK hK=>?_)
     try simp only[aK]
     have a0:=eP.o.cell 0 _ rfl;have a1:=eP.o.cell 1 _ rfl;have a2:=eP.o.cell 2 _ rfl;have a3:=eP.o.cell 3 _ rfl;have a4:=eP.o.cell 4 _ rfl;have a5:=eP.o.cell 5 _ rfl;have f0:=eP.o.free 0 (by simp);have f1:=eP.o.free 1 (by simp);have f2:=eP.o.free 2 (by simp);have f3:=eP.o.free 3 (by simp);have f4:=eP.o.free 4 (by simp);have f5:=eP.o.free 5 (by simp);go_simp;rw[amJ];have xo:=ad2 (x6).val x4.val.heap.size b.day b.rule (.slice Et n1 et) (.slice Eb n2 eb) (.slice Ec n3 ec) (.slice Em n4 em);have CM:=amY eP.o rfl b.day b.rule (.slice Et n1 et) (.slice Eb n2 eb) (.slice Ec n3 ec) (.slice Em n4 em);generalize six (x6).val x4.val.heap.size b.day b.rule (.slice Et n1 et) (.slice Eb n2 eb) (.slice Ec n3 ec) (.slice Em n4 em)=w9 at*;have hkV:V.heap.size<=x4.val.heap.size:=by omega
     have hbV:V.heap.size<=(x3).val.heap.size:=(x3).ok.size;have RC:=xo.size;have iM:ag (Below V.heap.size V w9):=I ((x6).ok.trans (xo.below (x6).ok.size (λb e=>by omega)));have W4:=I CM
     have Qf:ag (∀c2,o=some c2->b=c2/\ ∃T C M,dM V.heap.size w9 ⟨.slice Et n1 et,.slice Eb n2 eb,.slice Ec n3 ec,.slice Em n4 em⟩ c2 T C M):=I (λc2 h=>by
      obtain ⟨e,T5,C5,M5,Nj,Nk⟩:=Ni.o c2 h;exact ⟨e,T5,C5,M5,(Nj.aD xo (λb hb e=>Nk b hb e)).less hbV⟩)
     clear xo CM a0 a1 a2 a3 a4 a5 f0 f1 f2 f3 f4 f5;refine hK.out _ _ (λh=>by simp at h) ?_;clear hK K
     try simp only[Act.put,aM]
     refine cV 9 (λK hK=>?_)
     try simp only[aK]
     go_simp;refine hK.out _ _ (λh=>by simp at h) ?_;clear hK K
     try simp only[Act.put,aM]
     refine dh (by kernel_rfl) ?_ _;go_wp2;go_meet;case rel=>exact ⟨_,b,Et,n1,et,Eb,n2,eb,Ec,n3,ec,Em,n4,em,rfl,rfl,W4.o,Qf.o,iM.o,by omega⟩
    try simp only[aK]
    go_simp;have bk:Below (x3).val.heap.size (x3).val ((x3).val.alloc (.cells #[.int .i64 0,.int .i64 0,.slice none 0 0,.slice none 0 0,.slice none 0 0,.slice none 0 0] 29)):=(aae _ _).alloc (aad _) _;have eP:ag (Row ((x3).val.alloc (.cells #[.int .i64 0,.int .i64 0,.slice none 0 0,.slice none 0 0,.slice none 0 0,.slice none 0 0] 29)) (x3).val.heap.size [.int .i64 0,.int .i64 0,.slice none 0 0,.slice none 0 0,.slice none 0 0,.slice none 0 0]):=I (Row.new _ _ _);have qg:(x3).val.heap.size+1<=((x3).val.alloc (.cells #[.int .i64 0,.int .i64 0,.slice none 0 0,.slice none 0 0,.slice none 0 0,.slice none 0 0] 29)).heap.size:=by simp
    obtain ⟨x4,hc⟩: ∃y:ar V,y.val=(x3).val.alloc (.cells #[.int .i64 0,.int .i64 0,.slice none 0 0,.slice none 0 0,.slice none 0 0,.slice none 0 0] 29):=⟨⟨_,(x3).ok.trans (bk.mono (x3).ok.size)⟩,rfl⟩
    rw[<-hc]at bk eP qg⊢;clear hc;have Mk:=(x3).ok.size;skip
    try replace Cj:=I (Cj.o.below bk)
    clear bk;refine hK.out _ _ (λ_=>dl.o x4) ?_;clear hK K
    try simp only[Act.put,aM]
    have cm:=x4.ok.size;refine cV 1 (λK hK=>?_)
    try simp only[aK]
    go_simp;go_at_call 54;refine (tx.o x4).mono ?_;rintro e w1 ⟨x',T',C',M',rfl,Ky,bw⟩;obtain ⟨Bt,dt,Bb,db,Bc,dc,Bm,dm,rfl⟩:=Ky.o.r.slices;have Cj:=I Ky;have Ha:=bw.size
    try replace eP:=I (eP.o.below bw (by omega))
    obtain ⟨x5,rfl⟩: ∃y:ar V,w1=y.val:=⟨⟨w1,(x4).ok.trans (bw.mono (x4).ok.size)⟩,rfl⟩
    clear bw Ky;refine hK.out _ _ (λ_=>dl.o x5) ?_;clear hK K
    try simp only[]
    refine cV 3 (λK hK=>?_)
    try simp only[aK]
    go_simp;have Fh:=I (Ae q d _ T' C' M' (x4).val.heap.size A1 c1 A2 c2 (x5).val Cj.o HQ.o (by omega) Si.o (Sh.o x5).ints (Sh.o x5).fF (Sh.o x5).sizes (Sh.o x5).al (λb=>b=x3.val.heap.size) (λ_ h=>by omega) (λb hb h=>by have:=(Cj.o.o.lt hb).1;omega));rw[HO.o]at Fh;unfold Ks eu gw at Fh;go_at_call 55;refine Fh.o.mono ?_;rintro e w1 ⟨b,xv,rfl,⟨Et,n1,et,Eb,n2,eb,Ec,n3,ec,Em,n4,em,rfl⟩,hc,hb,M4,uw⟩
    replace eP:=I (M4 _ rfl _ eP.o)
    have Ni:=I hc;have Sj:=(x4).ok.size;obtain ⟨x6,rfl⟩: ∃y:ar V,w1=y.val:=⟨⟨w1,(x5).ok.trans (hb.mono Sj)⟩,rfl⟩
    clear hc hb M4 Fh;refine hK.out _ _ (λ_=>dl.o x6) ?_;clear hK K
    try simp only[]
    refine eS 4 (λ_=>dl.o x6) ?_
    try simp only[Act.put,aK,aM]
    refine eS 5 (λ_=>dl.o x6) ?_
    try simp only[Act.put,aK,aM]
    refine eS 6 (λ_=>dl.o x6) ?_
    try simp only[Act.put,aK,aM]
    refine cV 8 (λK hK=>?_)
    try simp only[aK]
    have a0:=eP.o.cell 0 _ rfl;have a1:=eP.o.cell 1 _ rfl;have a2:=eP.o.cell 2 _ rfl;have a3:=eP.o.cell 3 _ rfl;have a4:=eP.o.cell 4 _ rfl;have a5:=eP.o.cell 5 _ rfl;have f0:=eP.o.free 0 (by simp);have f1:=eP.o.free 1 (by simp);have f2:=eP.o.free 2 (by simp);have f3:=eP.o.free 3 (by simp);have f4:=eP.o.free 4 (by simp);have f5:=eP.o.free 5 (by simp);go_simp;rw[amJ];have xo:=ad2 (x6).val x3.val.heap.size b.day b.rule (.slice Et n1 et) (.slice Eb n2 eb) (.slice Ec n3 ec) (.slice Em n4 em);have CM:=amY eP.o rfl b.day b.rule (.slice Et n1 et) (.slice Eb n2 eb) (.slice Ec n3 ec) (.slice Em n4 em);generalize six (x6).val x3.val.heap.size b.day b.rule (.slice Et n1 et) (.slice Eb n2 eb) (.slice Ec n3 ec) (.slice Em n4 em)=w9 at*;have hkV:V.heap.size<=x3.val.heap.size:=by omega
    have hbV:V.heap.size<=(x4).val.heap.size:=(x4).ok.size;have RC:=xo.size;have iM:ag (Below V.heap.size V w9):=I ((x6).ok.trans (xo.below (x6).ok.size (λb e=>by omega)));have W4:=I CM
    have Qf:ag (∀c2,o=some c2->b=c2/\ ∃T C M,dM V.heap.size w9 ⟨.slice Et n1 et,.slice Eb n2 eb,.slice Ec n3 ec,.slice Em n4 em⟩ c2 T C M):=I (λc2 h=>by
     obtain ⟨e,T5,C5,M5,Nj,Nk⟩:=Ni.o c2 h;exact ⟨e,T5,C5,M5,(Nj.aD xo (λb hb e=>Nk b hb e)).less hbV⟩)
    clear xo CM a0 a1 a2 a3 a4 a5 f0 f1 f2 f3 f4 f5;refine hK.out _ _ (λh=>by simp at h) ?_;clear hK K
    try simp only[Act.put,aM]
    refine cV 9 (λK hK=>?_)
    try simp only[aK]
    go_simp;refine hK.out _ _ (λh=>by simp at h) ?_;clear hK K
    try simp only[Act.put,aM]
    refine dh (by kernel_rfl) ?_ _;go_wp2;go_meet;case rel=>exact ⟨_,b,Et,n1,et,Eb,n2,eb,Ec,n3,ec,Em,n4,em,rfl,rfl,W4.o,Qf.o,iM.o,by omega⟩
   case rest=>
    obtain ⟨na,b,Et,n1,et,Eb,n2,eb,Ec,n3,ec,Em,n4,em,rfl,rfl,hrn,hcd,O5,Ij⟩:=hcut;have Xr:=O5.size;have HBC:=I (HBV.o.below O5);have HLC:=I (HLV.o.trans (O5.mono HLV.o.size));have HRN:=I hrn;have Ni:=I hcd;clear hrn hcd O5 dl tx eT P8 Sh HO HBV HLV;cases o with
    |none=>
     have h0:=hY.o rfl;have mx:=I HBC.o.row;have Kz:=I HBC.o.own;obtain ⟨y,hy⟩: ∃y:ar w,y.val=wc:=⟨⟨wc,HLC.o⟩,rfl⟩
     rw[<-hy]at mx Kz⊢;have hwy:=y.ok.size;obtain rfl:R=(q,k):=OD.o.symm.trans h0;clear h0 hY uB hy OD;have eO:=Aq.o y;have Hd:=(y).ok.size;have r0:=eO.cell 0 _ rfl;have r1:=eO.cell 1 _ rfl;have r2:=eO.cell 2 _ rfl;have r3:=eO.cell 3 _ rfl;have r4:=eO.cell 4 _ rfl;have r5:=eO.cell 5 _ rfl;have s0:=eO.free 0 (by simp);have s1:=eO.free 1 (by simp);have s2:=eO.free 2 (by simp);have s3:=eO.free 3 (by simp);have s4:=eO.free 4 (by simp);have s5:=eO.free 5 (by simp);have q0:=mx.o.cell 0 _ rfl;have q1:=mx.o.cell 1 _ rfl;have q2:=mx.o.cell 2 _ rfl;have q3:=mx.o.cell 3 _ rfl;have q4:=mx.o.cell 4 _ rfl;have q5:=mx.o.cell 5 _ rfl;go_wp2
     have gD: ∀(ac:Go.Act) (w':World),ac.tmps[4]?=some (.pointer (some ⟨(w0.heap.size+1),0,none⟩))->ac.tmps[5]?=some (.int .i64 ((k:Nat):Int))->w'.cell? ⟨(w0.heap.size+1),0,none⟩=some (.int .i64 q.day)->w'.cell? ⟨(w0.heap.size+1),1,none⟩=some (.int .i64 q.rule)->w'.cell? ⟨(w0.heap.size+1),2,none⟩=some (.slice Ot q.af.length ot)->w'.cell? ⟨(w0.heap.size+1),3,none⟩=some (.slice Ob q.base.length ob)->w'.cell? ⟨(w0.heap.size+1),4,none⟩=some (.slice Oc q.av.length oc)->w'.cell? ⟨(w0.heap.size+1),5,none⟩=some (.slice Om q.ao.length om)->(results f72 ac.tmps).run prog w'= .ok (.tuple #[.agg #[.int .i64 q.day,.int .i64 q.rule,.slice Ot q.af.length ot,.slice Ob q.base.length ob,.slice Oc q.av.length oc,.slice Om q.ao.length om],.int .i64 ((k:Nat):Int)]) w':=by
      intro ac w' ha hf nB nC nE ob oc od;simp[results,results72,go_sem,ha,hf,nB,nC,nE,ob,oc,od]
     refine aaT (gD _ _ rfl rfl (by simp[go_sem,r0]) (by simp[go_sem,r1]) (by simp[go_sem,r2]) (by simp[go_sem,r3]) (by simp[go_sem,r4]) (by simp[go_sem,r5])) rfl ?_;have Cr:=ad2 (y).val (w0.heap.size+1) q.day q.rule (.slice Ot q.af.length ot) (.slice Ob q.base.length ob) (.slice Oc q.av.length oc) (.slice Om q.ao.length om);rw[amJ];refine ⟨⟨.slice Ot q.af.length ot,.slice Ob q.base.length ob,.slice Oc q.av.length oc,.slice Om q.ao.length om⟩,_,_,_,rfl,⟨_,_,_,_,_,_,_,_,_,_,_,_,rfl⟩,(Kz.o.aD Cr (λb hb e=>by have:=(Kz.o.o.lt hb).1;omega)).less (by omega),?_⟩;exact (mS.o y).trans (Cr.below (by omega) (λb e=>by omega))
    |some c2=>
     obtain ⟨rfl,T5,C5,M5,hA5⟩:=Ni.o c2 rfl;obtain ⟨qt,hfu⟩:=uB.o _ rfl;have hR0:=HBC.o.row;have hRN:=HRN.o;have q0:=hRN.cell 0 _ rfl;have q1:=hRN.cell 1 _ rfl;have q2:=hRN.cell 2 _ rfl;have q3:=hRN.cell 3 _ rfl;have q4:=hRN.cell 4 _ rfl;have q5:=hRN.cell 5 _ rfl;have a0:=hR0.cell 0 _ rfl;have a1:=hR0.cell 1 _ rfl;have a2:=hR0.cell 2 _ rfl;have a3:=hR0.cell 3 _ rfl;have a4:=hR0.cell 4 _ rfl;have a5:=hR0.cell 5 _ rfl;have f0:=hR0.free 0 (by simp);have f1:=hR0.free 1 (by simp);have f2:=hR0.free 2 (by simp);have f3:=hR0.free 3 (by simp);have f4:=hR0.free 4 (by simp);have f5:=hR0.free 5 (by simp);have Cr:=ad2 wc ba b.day b.rule (.slice Et n1 et) (.slice Eb n2 eb) (.slice Ec n3 ec) (.slice Em n4 em);have hk6:=amY hR0 rfl b.day b.rule (.slice Et n1 et) (.slice Eb n2 eb) (.slice Ec n3 ec) (.slice Em n4 em);have hbV:=HBC.o.lt;have HNB:ag (ck b0 ba (six wc ba b.day b.rule (.slice Et n1 et) (.slice Eb n2 eb) (.slice Ec n3 ec) (.slice Em n4 em)) ⟨.slice Et n1 et,.slice Eb n2 eb,.slice Ec n3 ec,.slice Em n4 em⟩ b T5 C5 M5):=I ⟨hk6,(hA5.aD Cr (λz hz e=>by have:=(hA5.o.lt hz).1;omega)).less (by omega),aar hbV Cr.size,λz hz e=>by have:=(hA5.o.lt hz).1;omega,j7⟩;have WQ:ag (Below w.heap.size w (six wc ba b.day b.rule (.slice Et n1 et) (.slice Eb n2 eb) (.slice Ec n3 ec) (.slice Em n4 em))):=I (HLC.o.trans (Cr.below HLC.o.size (λz e=>by omega)));have HGG:=I (And.intro qt hfu);clear qt hfu hR0 hRN Cr hk6 hA5 hY uB Ni HBC HRN;go_wp2;rw[amJ];go_roundw;case rel=>exact ⟨k+1,_,b,T5,C5,M5,by omega,by go_num,HNB.o,HGG.o.2,HGG.o.1,WQ.o⟩
     case measure=>simp[intOf];omega
  have eA: ¬(k:Int)<(ds.length:Int):=by omega
  obtain rfl:k=ds.length:=by omega
  have h0:=HR.o.fin;have mx:=I HB.o.row;have Kz:=I HB.o.own;obtain ⟨y,hy⟩: ∃y:ar w,y.val=wr:=⟨⟨wr,Rv.o⟩,rfl⟩
  rw[<-hy]at mx Kz⊢;obtain rfl:R=(q,ds.length):=OD.o.symm.trans h0;clear h0 hy OD;have eO:=Aq.o y;have Hd:=(y).ok.size;have r0:=eO.cell 0 _ rfl;have r1:=eO.cell 1 _ rfl;have r2:=eO.cell 2 _ rfl;have r3:=eO.cell 3 _ rfl;have r4:=eO.cell 4 _ rfl;have r5:=eO.cell 5 _ rfl;have s0:=eO.free 0 (by simp);have s1:=eO.free 1 (by simp);have s2:=eO.free 2 (by simp);have s3:=eO.free 3 (by simp);have s4:=eO.free 4 (by simp);have s5:=eO.free 5 (by simp);have q0:=mx.o.cell 0 _ rfl;have q1:=mx.o.cell 1 _ rfl;have q2:=mx.o.cell 2 _ rfl;have q3:=mx.o.cell 3 _ rfl;have q4:=mx.o.cell 4 _ rfl;have q5:=mx.o.cell 5 _ rfl;go_wp2
  have gD: ∀(ac:Go.Act) (w':World),ac.tmps[4]?=some (.pointer (some ⟨(w0.heap.size+1),0,none⟩))->ac.tmps[5]?=some (.int .i64 ((ds.length:Nat):Int))->w'.cell? ⟨(w0.heap.size+1),0,none⟩=some (.int .i64 q.day)->w'.cell? ⟨(w0.heap.size+1),1,none⟩=some (.int .i64 q.rule)->w'.cell? ⟨(w0.heap.size+1),2,none⟩=some (.slice Ot q.af.length ot)->w'.cell? ⟨(w0.heap.size+1),3,none⟩=some (.slice Ob q.base.length ob)->w'.cell? ⟨(w0.heap.size+1),4,none⟩=some (.slice Oc q.av.length oc)->w'.cell? ⟨(w0.heap.size+1),5,none⟩=some (.slice Om q.ao.length om)->(results f72 ac.tmps).run prog w'= .ok (.tuple #[.agg #[.int .i64 q.day,.int .i64 q.rule,.slice Ot q.af.length ot,.slice Ob q.base.length ob,.slice Oc q.av.length oc,.slice Om q.ao.length om],.int .i64 ((ds.length:Nat):Int)]) w':=by
   intro ac w' ha hf nB nC nE ob oc od;simp[results,results72,go_sem,ha,hf,nB,nC,nE,ob,oc,od]
  refine aaT (gD _ _ rfl rfl (by simp[go_sem,r0]) (by simp[go_sem,r1]) (by simp[go_sem,r2]) (by simp[go_sem,r3]) (by simp[go_sem,r4]) (by simp[go_sem,r5])) rfl ?_;have Cr:=ad2 (y).val (w0.heap.size+1) q.day q.rule (.slice Ot q.af.length ot) (.slice Ob q.base.length ob) (.slice Oc q.av.length oc) (.slice Om q.ao.length om);rw[amJ];refine ⟨⟨.slice Ot q.af.length ot,.slice Ob q.base.length ob,.slice Oc q.av.length oc,.slice Om q.ao.length om⟩,_,_,_,rfl,⟨_,_,_,_,_,_,_,_,_,_,_,_,rfl⟩,(Kz.o.aD Cr (λb hb e=>by have:=(Kz.o.o.lt hb).1;omega)).less (by omega),?_⟩;exact (mS.o y).trans (Cr.below (by omega) (λb e=>by omega))
end Go.Proofs.YtbcggaldkihcaaaGreat
