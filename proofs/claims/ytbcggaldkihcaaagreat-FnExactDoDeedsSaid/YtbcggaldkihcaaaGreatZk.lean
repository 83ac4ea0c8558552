/- A deed done in an assembly of the call's own, walked: the program's. -/
import Derived.Test.YtbcggaldkihcaaaGreatZh
import Derived.Test.YtbcggaldkihcaaaGreatZi
import Derived.Test.YtbcggaldkihcaaaGreatZj
import Derived.Test.YtbcggaldkihcaaaGreatQI
set_option maxHeartbeats 8000000
set_option maxRecDepth 100000
namespace Go.Proofs.YtbcggaldkihcaaaGreat
open Tryz
open Go.RowKit Go.Lib
def gw (d:dr) (A1:Option Addr) (c1:Nat) (A2:Option Addr) (c2:Nat):Value:= .agg #[.int .i64 d.kind,.int .i64 d.member,.slice A1 d.af.length c1,.string d.al,.int .i64 d.bO,.slice A2 d.patch.length c2,.int .i64 d.start,.int .i64 d.aB,.int .i64 d.aj]
theorem fp.row {w:World} {b:Nat} {d:dr} {A1:Option Addr} {c1:Nat} {A2:Option Addr} {c2:Nat} (h:Row w b [.int .i64 d.kind,.int .i64 d.member,.slice A1 d.af.length c1,.string d.al,.int .i64 d.bO,.slice A2 d.patch.length c2,.int .i64 d.start,.int .i64 d.aB,.int .i64 d.aj])
 (hT:Ints w w.heap.size (.slice A1 d.af.length c1) d.af) (hP:bg w w.heap.size (.slice A2 d.patch.length c2) d.patch) (hS:bS d.patch) (kJ:d.al.size<=maxLen):fp w b 0 d A1 c1 A2 c2:=
 ⟨h.cell 0 _ rfl,h.cell 1 _ rfl,h.cell 2 _ rfl,h.cell 3 _ rfl,h.cell 4 _ rfl,h.cell 5 _ rfl,h.cell 6 _ rfl,h.cell 7 _ rfl,h.cell 8 _ rfl,hT,hP,hS,kJ⟩
theorem ml {p:Prop} (h:p:=by
 have eO:=Aq.o y;have Hd:=(y).ok.size;have r0:=eO.cell 0 _ rfl;have r1:=eO.cell 1 _ rfl;have r2:=eO.cell 2 _ rfl;have r3:=eO.cell 3 _ rfl;have r4:=eO.cell 4 _ rfl;have r5:=eO.cell 5 _ rfl;have s0:=eO.free 0 (by simp);have s1:=eO.free 1 (by simp);have s2:=eO.free 2 (by simp);have s3:=eO.free 3 (by simp);have s4:=eO.free 4 (by simp);have s5:=eO.free 5 (by simp);go_wp2
 have gD: ∀(ac:Go.Act) (w':World),ac.tmps[4]?=some (.pointer (some ⟨(w0.heap.size+2),0,none⟩))->ac.tmps[5]?=some (.bool false)->w'.cell? ⟨(w0.heap.size+2),0,none⟩=some (.int .i64 a.day)->w'.cell? ⟨(w0.heap.size+2),1,none⟩=some (.int .i64 a.rule)->w'.cell? ⟨(w0.heap.size+2),2,none⟩=some (.slice At a.af.length ct)->w'.cell? ⟨(w0.heap.size+2),3,none⟩=some (.slice Ab a.base.length cb)->w'.cell? ⟨(w0.heap.size+2),4,none⟩=some (.slice Ac a.av.length cc)->w'.cell? ⟨(w0.heap.size+2),5,none⟩=some (.slice Am a.ao.length cm)->(results f55 ac.tmps).run prog w'= .ok (.tuple #[.agg #[.int .i64 a.day,.int .i64 a.rule,.slice At a.af.length ct,.slice Ab a.base.length cb,.slice Ac a.av.length cc,.slice Am a.ao.length cm],.bool false]) w':=by
  intro ac w' ha hf nB nC nE ob oc od;simp[results,results55,go_sem,ha,hf,nB,nC,nE,ob,oc,od]
 refine aaT (gD _ _ rfl rfl (by simp[go_sem,r0]) (by simp[go_sem,r1]) (by simp[go_sem,r2]) (by simp[go_sem,r3]) (by simp[go_sem,r4]) (by simp[go_sem,r5])) rfl ?_;refine ⟨a,⟨.slice At a.af.length ct,.slice Ab a.base.length cb,.slice Ac a.av.length cc,.slice Am a.ao.length cm⟩,rfl,⟨_,_,_,_,_,_,_,_,_,_,_,_,rfl⟩,(λc h=>by cases h),?_,?_,by simp[World.setCell];omega⟩
 ·refine (mS.o y).trans (Touch.below (F:=λb=>b=w0.heap.size+2) ?_ (by omega) (λb e=>by omega))
  iterate 6 refine Touch.setCell (F:=λb=>b=w0.heap.size+2) ?_ rfl _
  exact Touch.refl _ _
 ·refine (Mi.o.below (λz hz=>by have:=oA.o z hz;omega) (y).ok).aD (F:=λb=>b=w0.heap.size+2) (λz hz=>by have:=oA.o z hz;omega) ?_ (λz hz e=>by have:=oA.o z hz;omega)
  iterate 6 refine Touch.setCell (F:=λb=>b=w0.heap.size+2) ?_ rfl _
  exact Touch.refl _ _
 ):p:=h
theorem Ps (a:cp) (d:dr) (x:cS) (T:List bR) (C:List bu) (M:List bH) (base:Nat) (A1:Option Addr) (c1:Nat) (A2:Option Addr) (c2:Nat) (w0:World) (hA:dM base w0 x a T C M) (hF:dJ a) (dC:base<=w0.heap.size)
 (hT:Ints w0 w0.heap.size (.slice A1 d.af.length c1) d.af) (hP:bg w0 w0.heap.size (.slice A2 d.patch.length c2) d.patch) (hS:bS d.patch) (kJ:d.al.size<=maxLen) (Z:Nat->Prop) (uR: ∀z,Z z->z<w0.heap.size) (xl: ∀b,bz x a T C M b-> ¬Z b) (hk:d.kind=4):
 Calls prog 55 #[eu a x,gw d A1 c1 A2 c2] w0 (Ks a (mW a d) base Z w0):=by
 obtain ⟨At,ct,Ab,cb,Ac,cc,Am,cm,rfl⟩:=hA.o.r.slices;obtain ⟨W0,ku⟩: ∃W:World,W=w0.alloc (.cells #[.int .i64 a.day,.int .i64 a.rule,.slice At a.af.length ct,.slice Ab a.base.length cb,.slice Ac a.av.length cc,.slice Am a.ao.length cm] 29):=⟨_,rfl⟩
 obtain ⟨W1,eG⟩: ∃W:World,W=W0.alloc (.cells #[.int .i64 d.kind,.int .i64 d.member,.slice A1 d.af.length c1,.string d.al,.int .i64 d.bO,.slice A2 d.patch.length c2,.int .i64 d.start,.int .i64 d.aB,.int .i64 d.aj] 48):=⟨_,rfl⟩
 obtain ⟨w,hW⟩: ∃W:World,W=W1.alloc (.cells #[.int .i64 0,.int .i64 0,.slice none 0 0,.slice none 0 0,.slice none 0 0,.slice none 0 0] 29):=⟨_,rfl⟩
 have b0:Below w0.heap.size w0 W0:=by rw[ku];exact (aae _ _).alloc (aad _) _
 have s0:W0.heap.size=w0.heap.size+1:=by rw[ku];simp
 have b1:Below W0.heap.size W0 W1:=by rw[eG];exact (aae _ _).alloc (aad _) _
 have s1:W1.heap.size=w0.heap.size+2:=by rw[eG];simp[s0]
 have b2:Below W1.heap.size W1 w:=by rw[hW];exact (aae _ _).alloc (aad _) _
 have s2:w.heap.size=w0.heap.size+3:=by rw[hW];simp[s1]
 have tM:Below W0.heap.size W0 w:=b1.trans (b2.mono b1.size);have bW:Below w0.heap.size w0 w:=b0.trans (tM.mono b0.size);have HZ:ag (Row w (w0.heap.size+2) [.int .i64 0,.int .i64 0,.slice none 0 0,.slice none 0 0,.slice none 0 0,.slice none 0 0]):=I (by rw[hW,<-s1];exact Row.new W1 _ _);have hB:ck base w0.heap.size w ⟨.slice At a.af.length ct,.slice Ab a.base.length cb,.slice Ac a.av.length cc,.slice Am a.ao.length cm⟩ a T C M:=ck.of hA bW ((show Row W0 w0.heap.size _ by rw[ku];exact Row.new w0 _ _).below tM (by omega)) (by omega) dC;have hD:fp w (w0.heap.size+1) 0 d A1 c1 A2 c2:=fp.row ((show Row W1 (w0.heap.size+1) _ by rw[eG,<-s0];exact Row.new W0 _ _).below b2 (by omega)) (hT.on (Pl.stays _) bW bW.size) (hP.on (Pl.stays _) bW bW.size) hS kJ;have CK:ag (Row w (w0.heap.size+1) [.int .i64 d.kind,.int .i64 d.member,.slice A1 d.af.length c1,.string d.al,.int .i64 d.bO,.slice A2 d.patch.length c2,.int .i64 d.start,.int .i64 d.aB,.int .i64 d.aj]):=I ((show Row W1 (w0.heap.size+1) _ by rw[eG,<-s0];exact Row.new W0 _ _).below b2 (by omega));have uG:ag (∀b,bz ⟨.slice At a.af.length ct,.slice Ab a.base.length cb,.slice Ac a.av.length cc,.slice Am a.ao.length cm⟩ a T C M b->b<w0.heap.size):=I (λb hb=>(hA.o.lt hb).2);have Mi:ag (iY Z w0 w):=I (iY.of uR bW);have oA:=I uR;have G9:=I xl;have Tv:=I (hA.below bW);have gf:=I bW;have lV:=I (show ((w0.alloc (.cells #[.int .i64 a.day,.int .i64 a.rule,.slice At a.af.length ct,.slice Ab a.base.length cb,.slice Ac a.av.length cc,.slice Am a.ao.length cm] 29)).alloc (.cells #[.int .i64 d.kind,.int .i64 d.member,.slice A1 d.af.length c1,.string d.al,.int .i64 d.bO,.slice A2 d.patch.length c2,.int .i64 d.start,.int .i64 d.aB,.int .i64 d.aj] 48)).alloc (.cells #[.int .i64 0,.int .i64 0,.slice none 0 0,.slice none 0 0,.slice none 0 0,.slice none 0 0] 29)=w by rw[hW,eG,ku]);have lr:=I s2;clear uR xl hA hT hP hS kJ hW ku eG b0 b1 b2 tM bW s0 s1;have sw:w0.heap.size+3<=w.heap.size:=by omega
 clear s2;unfold eu gw;have HN:=I (G8 a _ T C M base w Tv.o hF (by omega) (λb=>Z b\/b=w0.heap.size+2) (λz hz=>hz.elim (λh=>by have:=oA.o z h;omega) (λh=>by omega)) (λb hb hz=>hz.elim (G9.o b hb) (λh=>by have:=uG.o b hb;omega)))
 have Xp:mW a d=if a.day<999 then some (pz a)else none:=by
  by_cases h:a.day<999
  ·rw[zR hk h,aaj h]
  rw[zS hk h,aah h]
 rw[Xp];generalize (if a.day<999 then some (pz a)else none)=o at*;have k0:=hD.k0;rw[Nat.add_zero,hk]at k0;have q0:=hB.row.cell 0 _ rfl;have q1:=hB.row.cell 1 _ rfl;have q2:=hB.row.cell 2 _ rfl;have q3:=hB.row.cell 3 _ rfl;have q4:=hB.row.cell 4 _ rfl;have q5:=hB.row.cell 5 _ rfl;unfold Ks eu at HN;clear hB hD hF Xp hk;go_enter func55,ntmps55;go_upto_region 1 with (fail)
 rw[lV.o];go_wp2_with (fail);refine HN.o.mono ?_;rintro e w1 ⟨b,x,rfl,⟨Bt,n1,dt,Bb,n2,db,Bc,n3,dc,Bm,n4,dm,rfl⟩,hc,hb,hz,hs⟩;have HC:=I hc;have Ph:=I hb;have Hs:=I (hz _ (.inr rfl) _ HZ.o);have L9:ag (iY Z w0 w1):=I (λz h zs hr=>hz z (.inl h) zs (Mi.o z h zs hr));have r0:=Hs.o.cell 0 _ rfl;have r1:=Hs.o.cell 1 _ rfl;have r2:=Hs.o.cell 2 _ rfl;have r3:=Hs.o.cell 3 _ rfl;have r4:=Hs.o.cell 4 _ rfl;have r5:=Hs.o.cell 5 _ rfl;have s0:=Hs.o.free 0 (by simp);have s1:=Hs.o.free 1 (by simp);have s2:=Hs.o.free 2 (by simp);have s3:=Hs.o.free 3 (by simp);have s4:=Hs.o.free 4 (by simp);have s5:=Hs.o.free 5 (by simp);clear hc hb hz q0 q1 q2 q3 q4 q5 k0;go_wp2
 have gD: ∀(ac:Go.Act) (w':World),ac.tmps[4]?=some (.pointer (some ⟨(w0.heap.size+2),0,none⟩))->ac.tmps[5]?=some (.bool o.isSome)->w'.cell? ⟨(w0.heap.size+2),0,none⟩=some (.int .i64 b.day)->w'.cell? ⟨(w0.heap.size+2),1,none⟩=some (.int .i64 b.rule)->w'.cell? ⟨(w0.heap.size+2),2,none⟩=some (.slice Bt n1 dt)->w'.cell? ⟨(w0.heap.size+2),3,none⟩=some (.slice Bb n2 db)->w'.cell? ⟨(w0.heap.size+2),4,none⟩=some (.slice Bc n3 dc)->w'.cell? ⟨(w0.heap.size+2),5,none⟩=some (.slice Bm n4 dm)->(results f55 ac.tmps).run prog w'= .ok (.tuple #[.agg #[.int .i64 b.day,.int .i64 b.rule,.slice Bt n1 dt,.slice Bb n2 db,.slice Bc n3 dc,.slice Bm n4 dm],.bool o.isSome]) w':=by
  intro ac w' ha hf nB nC nE ob oc od;simp[results,results55,go_sem,ha,hf,nB,nC,nE,ob,oc,od]
 refine aaT (gD _ _ rfl rfl (by simp[go_sem,r0]) (by simp[go_sem,r1]) (by simp[go_sem,r2]) (by simp[go_sem,r3]) (by simp[go_sem,r4]) (by simp[go_sem,r5])) rfl ?_;refine ⟨b,_,rfl,⟨_,_,_,_,_,_,_,_,_,_,_,_,rfl⟩,?_,?_,?_,by simp[World.setCell];omega⟩
 ·intro c hc;obtain ⟨rfl,T',C',M',Tw,N5⟩:=HC.o c hc;refine ⟨rfl,T',C',M',Tw.aD (F:=λb=>b=w0.heap.size+2) ?_ (λb hb e=>N5 b hb (.inr e)),λb hb e=>N5 b hb (.inl e)⟩
  iterate 6 refine Touch.setCell (F:=λb=>b=w0.heap.size+2) ?_ rfl _
  exact Touch.refl _ _
 ·refine ((gf.o.mono dC).trans Ph.o).trans (Touch.below (F:=λb=>b=w0.heap.size+2) ?_ (by omega) (λb e=>by omega))
  iterate 6 refine Touch.setCell (F:=λb=>b=w0.heap.size+2) ?_ rfl _
  exact Touch.refl _ _
 refine L9.o.aD (F:=λb=>b=w0.heap.size+2) (λz hz=>by have:=oA.o z hz;omega) ?_ (λz hz e=>by have:=oA.o z hz;omega)
 iterate 6 refine Touch.setCell (F:=λb=>b=w0.heap.size+2) ?_ rfl _
 exact Touch.refl _ _
theorem Pt (a:cp) (d:dr) (x:cS) (T:List bR) (C:List bu) (M:List bH) (base:Nat) (A1:Option Addr) (c1:Nat) (A2:Option Addr) (c2:Nat) (w0:World) (hA:dM base w0 x a T C M) (hF:dJ a) (dC:base<=w0.heap.size) (hd:cA d=true)
 (hT:Ints w0 w0.heap.size (.slice A1 d.af.length c1) d.af) (hP:bg w0 w0.heap.size (.slice A2 d.patch.length c2) d.patch) (hS:bS d.patch) (kJ:d.al.size<=maxLen) (Z:Nat->Prop) (uR: ∀z,Z z->z<w0.heap.size) (xl: ∀b,bz x a T C M b-> ¬Z b) (hk:d.kind=1):
 Calls prog 55 #[eu a x,gw d A1 c1 A2 c2] w0 (Ks a (mW a d) base Z w0):=by
 obtain ⟨At,ct,Ab,cb,Ac,cc,Am,cm,rfl⟩:=hA.o.r.slices;obtain ⟨W0,ku⟩: ∃W:World,W=w0.alloc (.cells #[.int .i64 a.day,.int .i64 a.rule,.slice At a.af.length ct,.slice Ab a.base.length cb,.slice Ac a.av.length cc,.slice Am a.ao.length cm] 29):=⟨_,rfl⟩
 obtain ⟨W1,eG⟩: ∃W:World,W=W0.alloc (.cells #[.int .i64 d.kind,.int .i64 d.member,.slice A1 d.af.length c1,.string d.al,.int .i64 d.bO,.slice A2 d.patch.length c2,.int .i64 d.start,.int .i64 d.aB,.int .i64 d.aj] 48):=⟨_,rfl⟩
 obtain ⟨w,hW⟩: ∃W:World,W=W1.alloc (.cells #[.int .i64 0,.int .i64 0,.slice none 0 0,.slice none 0 0,.slice none 0 0,.slice none 0 0] 29):=⟨_,rfl⟩
 have b0:Below w0.heap.size w0 W0:=by rw[ku];exact (aae _ _).alloc (aad _) _
 have s0:W0.heap.size=w0.heap.size+1:=by rw[ku];simp
 have b1:Below W0.heap.size W0 W1:=by rw[eG];exact (aae _ _).alloc (aad _) _
 have s1:W1.heap.size=w0.heap.size+2:=by rw[eG];simp[s0]
 have b2:Below W1.heap.size W1 w:=by rw[hW];exact (aae _ _).alloc (aad _) _
 have s2:w.heap.size=w0.heap.size+3:=by rw[hW];simp[s1]
 have tM:Below W0.heap.size W0 w:=b1.trans (b2.mono b1.size);have bW:Below w0.heap.size w0 w:=b0.trans (tM.mono b0.size);have HZ:ag (Row w (w0.heap.size+2) [.int .i64 0,.int .i64 0,.slice none 0 0,.slice none 0 0,.slice none 0 0,.slice none 0 0]):=I (by rw[hW,<-s1];exact Row.new W1 _ _);have hB:ck base w0.heap.size w ⟨.slice At a.af.length ct,.slice Ab a.base.length cb,.slice Ac a.av.length cc,.slice Am a.ao.length cm⟩ a T C M:=ck.of hA bW ((show Row W0 w0.heap.size _ by rw[ku];exact Row.new w0 _ _).below tM (by omega)) (by omega) dC;have hD:fp w (w0.heap.size+1) 0 d A1 c1 A2 c2:=fp.row ((show Row W1 (w0.heap.size+1) _ by rw[eG,<-s0];exact Row.new W0 _ _).below b2 (by omega)) (hT.on (Pl.stays _) bW bW.size) (hP.on (Pl.stays _) bW bW.size) hS kJ;have CK:ag (Row w (w0.heap.size+1) [.int .i64 d.kind,.int .i64 d.member,.slice A1 d.af.length c1,.string d.al,.int .i64 d.bO,.slice A2 d.patch.length c2,.int .i64 d.start,.int .i64 d.aB,.int .i64 d.aj]):=I ((show Row W1 (w0.heap.size+1) _ by rw[eG,<-s0];exact Row.new W0 _ _).below b2 (by omega));have uG:ag (∀b,bz ⟨.slice At a.af.length ct,.slice Ab a.base.length cb,.slice Ac a.av.length cc,.slice Am a.ao.length cm⟩ a T C M b->b<w0.heap.size):=I (λb hb=>(hA.o.lt hb).2);have Mi:ag (iY Z w0 w):=I (iY.of uR bW);have oA:=I uR;have G9:=I xl;have Tv:=I (hA.below bW);have gf:=I bW;have lV:=I (show ((w0.alloc (.cells #[.int .i64 a.day,.int .i64 a.rule,.slice At a.af.length ct,.slice Ab a.base.length cb,.slice Ac a.av.length cc,.slice Am a.ao.length cm] 29)).alloc (.cells #[.int .i64 d.kind,.int .i64 d.member,.slice A1 d.af.length c1,.string d.al,.int .i64 d.bO,.slice A2 d.patch.length c2,.int .i64 d.start,.int .i64 d.aB,.int .i64 d.aj] 48)).alloc (.cells #[.int .i64 0,.int .i64 0,.slice none 0 0,.slice none 0 0,.slice none 0 0,.slice none 0 0] 29)=w by rw[hW,eG,ku]);have lr:=I s2;clear uR xl hA hT hP hS kJ hW ku eG b0 b1 b2 tM bW s0 s1;have sw:w0.heap.size+3<=w.heap.size:=by omega
 clear s2;unfold eu gw;obtain ⟨j,hj⟩: ∃j:Nat,d.member=(j:Int):=⟨d.member.toNat,by have:=il hd;omega⟩
 have j7:=hB.bb;have bD:=hB.lt;have fD:=hF.ok.n12;have kM:=hF.ok.n1;have Cv:=hF.d0;have Cw:=hF.d1;have HJ:=I hj;have HB:=I hB;have HF:=I hF;have ii:=I hd;have eT:=I (λy:ar w=>hB.below y.ok);have mS:=I (λy:ar w=>(gf.o.mono dC).trans (aaV y.ok (by omega):Below base w y.val));have fC:=I (λy:ar w=>hD.km y);have Aq:=I (λy:ar w=>HZ.o.below y.ok (by omega));have k0: ∀y:ar w,y.val.cell? ⟨w0.heap.size+1,0,none⟩=some (.int .i64 d.kind):=λy=>(fC.o y).k0;have k1: ∀y:ar w,y.val.cell? ⟨w0.heap.size+1,1,none⟩=some (.int .i64 (j:Int)):=λy=>by have:=(fC.o y).k1;rw[hj]at this;rw[<-this,aan]
 have k2: ∀y:ar w,y.val.cell? ⟨w0.heap.size+1,2,none⟩=some (.slice A1 d.af.length c1):=λy=>by have:=(fC.o y).k2;rw[<-this,aan]
 have k3: ∀y:ar w,y.val.cell? ⟨w0.heap.size+1,3,none⟩=some (.string d.al):=λy=>by have:=(fC.o y).k3;rw[<-this,aan]
 have k4: ∀y:ar w,y.val.cell? ⟨w0.heap.size+1,4,none⟩=some (.int .i64 d.bO):=λy=>by have:=(fC.o y).k4;rw[<-this,aan]
 have k5: ∀y:ar w,y.val.cell? ⟨w0.heap.size+1,5,none⟩=some (.slice A2 d.patch.length c2):=λy=>by have:=(fC.o y).k5;rw[<-this,aan]
 have k6: ∀y:ar w,y.val.cell? ⟨w0.heap.size+1,6,none⟩=some (.int .i64 d.start):=λy=>by have:=(fC.o y).k6;rw[<-this,aan]
 have k7: ∀y:ar w,y.val.cell? ⟨w0.heap.size+1,7,none⟩=some (.int .i64 d.aB):=λy=>by have:=(fC.o y).k7;rw[<-this,aan]
 have k8: ∀y:ar w,y.val.cell? ⟨w0.heap.size+1,8,none⟩=some (.int .i64 d.aj):=λy=>by have:=(fC.o y).k8;rw[<-this,aan]
 have q0:=λy:ar w=>(eT.o y).row.cell 0 _ rfl;have q1:=λy:ar w=>(eT.o y).row.cell 1 _ rfl;have q2:=λy:ar w=>(eT.o y).row.cell 2 _ rfl;have q3:=λy:ar w=>(eT.o y).row.cell 3 _ rfl;have q4:=λy:ar w=>(eT.o y).row.cell 4 _ rfl;have q5:=λy:ar w=>(eT.o y).row.cell 5 _ rfl;have nH:=I (λy:ar w=>pe a At ct Ab cb Ac cc Am cm d.al y.val (eT.o y).own.o.r.m);clear hB hF hd hD;rw[hk]at k0;have ZW:(d.kind==4)=false:=by rw[hk];rfl
 by_cases hw:(a.af.length:Int)<=d.member
 ·rw[qY (by omega) hw];have Kt:(a.af.length:Int)<=(j:Int):=by rw[<-hj];exact hw
  clear hk hw hj;go_enter func55,ntmps55;go_upto_region 1 with (fail)
  rw[lV.o];obtain ⟨x0,dp⟩: ∃y:ar w,y.val=w:=⟨⟨w,aae _ _⟩,rfl⟩
  rw[<-dp];clear dp;revert x0;intro y;exact ml
 have Kt: ¬(a.af.length:Int)<=(j:Int):=by rw[<-hj];exact hw
 have yb:j<a.af.length:=by omega
 cases ht:cF d.af d.member a.af.length with
 |false=>
  rw[pE hk hw ht];rw[hj]at ht;have HT:=I (λy:ar w=>(ht▸nc d.af (j:Int) a.af.length y.val _ (fC.o y).ints (by omega) (by omega):Calls prog 41 #[.slice A1 d.af.length c1,.int .i64 (j:Int),.int .i64 (a.af.length:Int)] y.val (f' (.bool false) y.val)));clear hk hw hj ht;go_enter func55,ntmps55;go_upto_region 1 with (fail)
  rw[lV.o];obtain ⟨x0,dp⟩: ∃y:ar w,y.val=w:=⟨⟨w,aae _ _⟩,rfl⟩
  rw[<-dp];clear dp;go_wp2_with (fail);refine (aq (nH.o x0)).mono ?_;rintro e _ ⟨rfl,x1,rfl⟩;go_wp2_with (fail);refine (az (HT.o _)).mono ?_;rintro e _ ⟨rfl,x2,rfl⟩;revert x2;intro y;exact ml
 |true=>
  rw[wN hk hw ht];rw[hj]at ht
  have yh:d.af.length<=4:=by
   have h:=ht;rw[fo,aay]at h;exact aa3 h.2
  have HT:=I (λy:ar w=>(ht▸nc d.af (j:Int) a.af.length y.val _ (fC.o y).ints (by omega) (by omega):Calls prog 41 #[.slice A1 d.af.length c1,.int .i64 (j:Int),.int .i64 (a.af.length:Int)] y.val (f' (.bool true) y.val)));have Ak:(d.member.toNat:Nat)=j:=by rw[hj];omega
  rw[Ak];clear hk hw hj ht;go_enter func55,ntmps55;go_upto_region 1 with (fail)
  rw[lV.o];obtain ⟨x0,dp⟩: ∃y:ar w,y.val=w:=⟨⟨w,aae _ _⟩,rfl⟩
  rw[<-dp];clear dp;go_wp2_with (fail);refine (aq (nH.o x0)).mono ?_;rintro e _ ⟨rfl,x1,rfl⟩;go_wp2_with (fail);refine (az (HT.o _)).mono ?_;rintro e _ ⟨rfl,x2,rfl⟩;go_upto_region 10 with (fail)
  have Dd:T.length=a.af.length:=by rw[<-HB.o.own.o.tm,aap]
  have Md:T[j]?=some (T[j]'(by omega)):=aag (by omega);obtain ⟨gT,cT,VG,_,_,Pm,_,_⟩:=HB.o.own.o.t.cell Md;injection VG with e1 e2 e3
  clear e2;subst e1;subst e3;generalize (T[j]'(by omega))=yT at*
  have Sa:ag (∀y:ar w,y.val.cell? ⟨gT,j,none⟩=some yT.v/\y.val.frozen? ⟨gT,j,none⟩=false):=I (λy=>by
   obtain ⟨g',c',hv,_,_,_,_,hc⟩:=(eT.o y).own.o.t.cell Md;injection hv with e1 _ _
   injection e1 with e1
   injection e1 with e1
   have:=hc 0 yT.v rfl;rw[<-e1,show j*dX.size+0=j by show j*1+0=j;omega]at this;exact this)
  have Pn:=I Md;clear Dd Md;have KJ:(0:Int)<=(j:Int):=aa8 _;have VH:(j:Int)<(a.af.length:Int):=by omega
  obtain ⟨j0,Ip,Sd,Se,N0⟩:=aaq iD;have TH:=I Ip;have PC:=I Sd;have HJ1:=I Se;have HJ2:=I N0;clear Ip Sd Se N0;refine dq 9 (λw'=>w'.cell? ⟨w0.heap.size,2,none⟩=some (.slice (some ⟨gT,0,none⟩) a.af.length ct)/\w'.cell? ⟨w0.heap.size+1,1,none⟩=some (.int .i64 (j:Int))/\w'.cell? ⟨w0.heap.size+1,2,none⟩=some (.slice A1 d.af.length c1)) (by kernel_rfl) ?_;obtain ⟨x3,yS⟩: ∃y:ar w,y.val=x2.val.drew:=⟨⟨x2.val.drew,x2.ok.drew⟩,rfl⟩
  rw[<-yS];clear yS;have dl:=I (λy:ar w=>(⟨q2 y,k1 y,k2 y⟩:y.val.cell? ⟨w0.heap.size,2,none⟩=some (.slice (some ⟨gT,0,none⟩) a.af.length ct)/\y.val.cell? ⟨w0.heap.size+1,1,none⟩=some (.int .i64 (j:Int))/\y.val.cell? ⟨w0.heap.size+1,2,none⟩=some (.slice A1 d.af.length c1)));have aE:=dl.o x3;clear k0 k1 k2 k3 k4 k5 k6 k7 k8 q0 q1 q2 q3 q4 q5;refine cl 0 ?_
  try simp only[Act.put,aK,aM]
  refine cl 1 ?_
  try simp only[Act.put,aK,aM]
  refine cl 2 ?_
  try simp only[Act.put,aK,aM]
  refine cl 3 ?_
  try simp only[Act.put,aK,aM]
  refine cl 5 ?_
  try simp only[Act.put,aK,aM]
  refine cl 6 ?_
  try simp only[Act.put,aK,aM]
  clear aE;refine cV 4 (λK hK=>?_)
  try simp only[aK]
  go_simp;have b4:Below x3.val.heap.size x3.val (x3.val.alloc (.cells #[] 2)):=(aae _ _).alloc (aad _) _;have uE:ag ((x3.val.alloc (.cells #[] 2)).ownsRow x3.val.heap.size 2 1 (.slice (some ⟨x3.val.heap.size,0,none⟩) 0 0) 0 []):=I (by simpa using aaz (base:=x3.val.heap.size) x3.val #[] 0 (aad _) (aaf _) rfl);obtain ⟨x4,Xq⟩: ∃y:ar w,y.val=x3.val.alloc (.cells #[] 2):=⟨⟨_,x3.ok.trans (b4.mono x3.ok.size)⟩,rfl⟩
  rw[<-Xq]at b4 uE⊢;clear Xq;refine hK.out _ _ (λ_=>dl.o x4) ?_;clear hK K
  try simp only[Act.put,aM]
  refine cV 7 (λK hK=>?_)
  try simp only[aK]
  refine aQ ak (by rfl) _ _ 33 (by rfl) x3.val.heap.size 2 j0 (.int .i64 0) 1 8 underlying33 TH.o PC.o HJ1.o HJ2.o rfl (by decide) _ _ _ (by rfl) uE.o _ d.af _ (by rfl) (fC.o x4).ints (λ_=>rfl) (λy u hu=>cf _ hu) (by unfold maxLen;omega) (by omega) b4.size ?_;intro v2 w5 aY aw cY ci;have hO:ay ak d.af x3.val.heap.size w5 v2:=ay.bI ak (size:=1) (λ_=>rfl) (by simpa using aY);have zd:Below x3.val.heap.size x3.val w5:=b4.grown aw b4.size (λj hj=>(uE.o.lt j hj).1);obtain ⟨x5,rfl⟩: ∃y:ar w,w5=y.val:=⟨⟨w5,x3.ok.trans (zd.mono x3.ok.size)⟩,rfl⟩
  have h9:=dM.py ((eT.o x3).below zd).own Pn.o rfl hO (λb hb=>(eT.o x3).O6 b hb) (by have:=x3.ok.size;omega) ((eT.o x3).O6 gT (.inl (.inl ⟨λe=>by have h:=Pn.o;rw[e]at h;simp at h,rfl⟩)));have Nb:=uG.o gT (.inl (.inl ⟨λe=>by have h:=Pn.o;rw[e]at h;simp at h,rfl⟩))
  have Sf:ag (∀b,bz ⟨.slice (some ⟨gT,0,none⟩) a.af.length ct,.slice Ab a.base.length cb,.slice Ac a.av.length cc,.slice Am a.ao.length cm⟩ {a with af:=a.af.set j d.af} (T.set j ⟨d.af,v2⟩) C M b->b≠w0.heap.size+2):=I (λb hb e=>by
   rcases h9.2 b hb with q|q
   ·have:=uG.o b q;omega
   have q1:=(ay.dw hO q).1;have q2:=x3.ok.size;omega)
  have Hr:ag (∀b,bz ⟨.slice (some ⟨gT,0,none⟩) a.af.length ct,.slice Ab a.base.length cb,.slice Ac a.av.length cc,.slice Am a.ao.length cm⟩ {a with af:=a.af.set j d.af} (T.set j ⟨d.af,v2⟩) C M b-> ¬Z b):=I (λb hb e=>by
   rcases h9.2 b hb with q|q
   ·exact G9.o b q e
   have q1:=(ay.dw hO q).1;have q2:=x3.ok.size;have q3:=oA.o b e;omega)
  have R9:=G9.o gT (.inl (.inl ⟨λe=>by have h:=Pn.o;rw[e]at h;simp at h,rfl⟩));have Sg:ag (iY Z w0 (x5.val.setCell ⟨gT,j,none⟩ v2)):=I ((Mi.o.below (λz hz=>by have:=oA.o z hz;omega) x5.ok).nP (p:=⟨gT,j,none⟩) _ (λz hz e=>R9 (by show Z gT;rw[show gT=z from e];exact hz)));have HR:=I ((eT.o x3).py zd Pn.o rfl hO (aad _));have nZ:ag (Row (x5.val.setCell ⟨gT,j,none⟩ v2) (w0.heap.size+2) [.int .i64 0,.int .i64 0,.slice none 0 0,.slice none 0 0,.slice none 0 0,.slice none 0 0]):=I ((Aq.o x5).nP (p:=⟨gT,j,none⟩) _ (by show gT≠_;omega));have HL:ag (Below base w0 (x5.val.setCell ⟨gT,j,none⟩ v2)):=I ((mS.o x5).setCell (p:=⟨gT,j,none⟩) Pm _);have Hd:w.heap.size<=(x5.val.setCell ⟨gT,j,none⟩ v2).heap.size:=by simpa [World.setCell]using x5.ok.size
  obtain ⟨A3,c3,rfl,_⟩:=hO;clear aY aw cY ci zd h9 b4;have VO:=dl.o x5;refine hK.out _ _ (λ_=>VO) ?_;clear hK K
  try simp only[Act.put,aM]
  refine eS 8 (λ_=>VO) ?_
  try simp only[Act.put,aK,aM]
  refine cV 9 (λK hK=>?_)
  try simp only[aK]
  have m7:=(Sa.o x5).1;have K5:=(Sa.o x5).2;go_simp;refine hK.out _ _ (λh=>by simp at h) ?_;clear hK K
  try simp only[Act.put,aM]
  refine dh (by kernel_rfl) ?_ _;clear VO m7 K5;have r0:=nZ.o.cell 0 _ rfl;have r1:=nZ.o.cell 1 _ rfl;have r2:=nZ.o.cell 2 _ rfl;have r3:=nZ.o.cell 3 _ rfl;have r4:=nZ.o.cell 4 _ rfl;have r5:=nZ.o.cell 5 _ rfl;have s0:=nZ.o.free 0 (by simp);have s1:=nZ.o.free 1 (by simp);have s2:=nZ.o.free 2 (by simp);have s3:=nZ.o.free 3 (by simp);have s4:=nZ.o.free 4 (by simp);have s5:=nZ.o.free 5 (by simp);have q0:=HR.o.row.cell 0 _ rfl;have q1:=HR.o.row.cell 1 _ rfl;have q2:=HR.o.row.cell 2 _ rfl;have q3:=HR.o.row.cell 3 _ rfl;have q4:=HR.o.row.cell 4 _ rfl;have q5:=HR.o.row.cell 5 _ rfl;go_wp2
  have gD: ∀(ac:Go.Act) (w':World),ac.tmps[4]?=some (.pointer (some ⟨(w0.heap.size+2),0,none⟩))->ac.tmps[5]?=some (.bool true)->w'.cell? ⟨(w0.heap.size+2),0,none⟩=some (.int .i64 a.day)->w'.cell? ⟨(w0.heap.size+2),1,none⟩=some (.int .i64 a.rule)->w'.cell? ⟨(w0.heap.size+2),2,none⟩=some (.slice (some ⟨gT,0,none⟩) a.af.length ct)->w'.cell? ⟨(w0.heap.size+2),3,none⟩=some (.slice Ab a.base.length cb)->w'.cell? ⟨(w0.heap.size+2),4,none⟩=some (.slice Ac a.av.length cc)->w'.cell? ⟨(w0.heap.size+2),5,none⟩=some (.slice Am a.ao.length cm)->(results f55 ac.tmps).run prog w'= .ok (.tuple #[.agg #[.int .i64 a.day,.int .i64 a.rule,.slice (some ⟨gT,0,none⟩) a.af.length ct,.slice Ab a.base.length cb,.slice Ac a.av.length cc,.slice Am a.ao.length cm],.bool true]) w':=by
   intro ac w' ha hf nB nC nE ob oc od;simp[results,results55,go_sem,ha,hf,nB,nC,nE,ob,oc,od]
  refine aaT (gD _ _ rfl rfl (by simp[go_sem,r0]) (by simp[go_sem,r1]) (by simp[go_sem,r2]) (by simp[go_sem,r3]) (by simp[go_sem,r4]) (by simp[go_sem,r5])) rfl ?_;refine ⟨{a with af:=a.af.set j d.af},⟨.slice (some ⟨gT,0,none⟩) a.af.length ct,.slice Ab a.base.length cb,.slice Ac a.av.length cc,.slice Am a.ao.length cm⟩,rfl,⟨_,_,_,_,_,_,_,_,_,_,_,_,rfl⟩,?_,?_,?_,by simp[World.setCell]at Hd⊢;omega⟩
  ·intro c hc;injection hc with hc
   subst hc;refine ⟨rfl,_,_,_,HR.o.own.aD (F:=λb=>b=w0.heap.size+2) ?_ (λb hb e=>Sf.o b hb e),Hr.o⟩
   iterate 6 refine Touch.setCell (F:=λb=>b=w0.heap.size+2) ?_ rfl _
   exact Touch.refl _ _
  ·refine HL.o.trans (Touch.below (F:=λb=>b=w0.heap.size+2) ?_ (by omega) (λb e=>by omega))
   iterate 6 refine Touch.setCell (F:=λb=>b=w0.heap.size+2) ?_ rfl _
   exact Touch.refl _ _
  refine Sg.o.aD (F:=λb=>b=w0.heap.size+2) (λz hz=>by have:=oA.o z hz;omega) ?_ (λz hz e=>by have:=oA.o z hz;omega)
  iterate 6 refine Touch.setCell (F:=λb=>b=w0.heap.size+2) ?_ rfl _
  exact Touch.refl _ _
theorem Pu (a:cp) (d:dr) (x:cS) (T:List bR) (C:List bu) (M:List bH) (base:Nat) (A1:Option Addr) (c1:Nat) (A2:Option Addr) (c2:Nat) (w0:World) (hA:dM base w0 x a T C M) (hF:dJ a) (dC:base<=w0.heap.size) (hd:cA d=true)
 (hT:Ints w0 w0.heap.size (.slice A1 d.af.length c1) d.af) (hP:bg w0 w0.heap.size (.slice A2 d.patch.length c2) d.patch) (hS:bS d.patch) (kJ:d.al.size<=maxLen) (Z:Nat->Prop) (uR: ∀z,Z z->z<w0.heap.size) (xl: ∀b,bz x a T C M b-> ¬Z b) (hk:d.kind=2):
 Calls prog 55 #[eu a x,gw d A1 c1 A2 c2] w0 (Ks a (mW a d) base Z w0):=by
 obtain ⟨At,ct,Ab,cb,Ac,cc,Am,cm,rfl⟩:=hA.o.r.slices;obtain ⟨W0,ku⟩: ∃W:World,W=w0.alloc (.cells #[.int .i64 a.day,.int .i64 a.rule,.slice At a.af.length ct,.slice Ab a.base.length cb,.slice Ac a.av.length cc,.slice Am a.ao.length cm] 29):=⟨_,rfl⟩
 obtain ⟨W1,eG⟩: ∃W:World,W=W0.alloc (.cells #[.int .i64 d.kind,.int .i64 d.member,.slice A1 d.af.length c1,.string d.al,.int .i64 d.bO,.slice A2 d.patch.length c2,.int .i64 d.start,.int .i64 d.aB,.int .i64 d.aj] 48):=⟨_,rfl⟩
 obtain ⟨w,hW⟩: ∃W:World,W=W1.alloc (.cells #[.int .i64 0,.int .i64 0,.slice none 0 0,.slice none 0 0,.slice none 0 0,.slice none 0 0] 29):=⟨_,rfl⟩
 have b0:Below w0.heap.size w0 W0:=by rw[ku];exact (aae _ _).alloc (aad _) _
 have s0:W0.heap.size=w0.heap.size+1:=by rw[ku];simp
 have b1:Below W0.heap.size W0 W1:=by rw[eG];exact (aae _ _).alloc (aad _) _
 have s1:W1.heap.size=w0.heap.size+2:=by rw[eG];simp[s0]
 have b2:Below W1.heap.size W1 w:=by rw[hW];exact (aae _ _).alloc (aad _) _
 have s2:w.heap.size=w0.heap.size+3:=by rw[hW];simp[s1]
 have tM:Below W0.heap.size W0 w:=b1.trans (b2.mono b1.size);have bW:Below w0.heap.size w0 w:=b0.trans (tM.mono b0.size);have HZ:ag (Row w (w0.heap.size+2) [.int .i64 0,.int .i64 0,.slice none 0 0,.slice none 0 0,.slice none 0 0,.slice none 0 0]):=I (by rw[hW,<-s1];exact Row.new W1 _ _);have hB:ck base w0.heap.size w ⟨.slice At a.af.length ct,.slice Ab a.base.length cb,.slice Ac a.av.length cc,.slice Am a.ao.length cm⟩ a T C M:=ck.of hA bW ((show Row W0 w0.heap.size _ by rw[ku];exact Row.new w0 _ _).below tM (by omega)) (by omega) dC;have hD:fp w (w0.heap.size+1) 0 d A1 c1 A2 c2:=fp.row ((show Row W1 (w0.heap.size+1) _ by rw[eG,<-s0];exact Row.new W0 _ _).below b2 (by omega)) (hT.on (Pl.stays _) bW bW.size) (hP.on (Pl.stays _) bW bW.size) hS kJ;have CK:ag (Row w (w0.heap.size+1) [.int .i64 d.kind,.int .i64 d.member,.slice A1 d.af.length c1,.string d.al,.int .i64 d.bO,.slice A2 d.patch.length c2,.int .i64 d.start,.int .i64 d.aB,.int .i64 d.aj]):=I ((show Row W1 (w0.heap.size+1) _ by rw[eG,<-s0];exact Row.new W0 _ _).below b2 (by omega));have uG:ag (∀b,bz ⟨.slice At a.af.length ct,.slice Ab a.base.length cb,.slice Ac a.av.length cc,.slice Am a.ao.length cm⟩ a T C M b->b<w0.heap.size):=I (λb hb=>(hA.o.lt hb).2);have Mi:ag (iY Z w0 w):=I (iY.of uR bW);have oA:=I uR;have G9:=I xl;have Tv:=I (hA.below bW);have gf:=I bW;have lV:=I (show ((w0.alloc (.cells #[.int .i64 a.day,.int .i64 a.rule,.slice At a.af.length ct,.slice Ab a.base.length cb,.slice Ac a.av.length cc,.slice Am a.ao.length cm] 29)).alloc (.cells #[.int .i64 d.kind,.int .i64 d.member,.slice A1 d.af.length c1,.string d.al,.int .i64 d.bO,.slice A2 d.patch.length c2,.int .i64 d.start,.int .i64 d.aB,.int .i64 d.aj] 48)).alloc (.cells #[.int .i64 0,.int .i64 0,.slice none 0 0,.slice none 0 0,.slice none 0 0,.slice none 0 0] 29)=w by rw[hW,eG,ku]);have lr:=I s2;clear uR xl hA hT hP hS kJ hW ku eG b0 b1 b2 tM bW s0 s1;have sw:w0.heap.size+3<=w.heap.size:=by omega
 clear s2;unfold eu gw;obtain ⟨j,hj⟩: ∃j:Nat,d.member=(j:Int):=⟨d.member.toNat,by have:=il hd;omega⟩
 have j7:=hB.bb;have bD:=hB.lt;have fD:=hF.ok.n12;have kM:=hF.ok.n1;have Cv:=hF.d0;have Cw:=hF.d1;have HJ:=I hj;have HB:=I hB;have HF:=I hF;have ii:=I hd;have eT:=I (λy:ar w=>hB.below y.ok);have mS:=I (λy:ar w=>(gf.o.mono dC).trans (aaV y.ok (by omega):Below base w y.val));have fC:=I (λy:ar w=>hD.km y);have Aq:=I (λy:ar w=>HZ.o.below y.ok (by omega));have k0: ∀y:ar w,y.val.cell? ⟨w0.heap.size+1,0,none⟩=some (.int .i64 d.kind):=λy=>(fC.o y).k0;have k1: ∀y:ar w,y.val.cell? ⟨w0.heap.size+1,1,none⟩=some (.int .i64 (j:Int)):=λy=>by have:=(fC.o y).k1;rw[hj]at this;rw[<-this,aan]
 have k2: ∀y:ar w,y.val.cell? ⟨w0.heap.size+1,2,none⟩=some (.slice A1 d.af.length c1):=λy=>by have:=(fC.o y).k2;rw[<-this,aan]
 have k3: ∀y:ar w,y.val.cell? ⟨w0.heap.size+1,3,none⟩=some (.string d.al):=λy=>by have:=(fC.o y).k3;rw[<-this,aan]
 have k4: ∀y:ar w,y.val.cell? ⟨w0.heap.size+1,4,none⟩=some (.int .i64 d.bO):=λy=>by have:=(fC.o y).k4;rw[<-this,aan]
 have k5: ∀y:ar w,y.val.cell? ⟨w0.heap.size+1,5,none⟩=some (.slice A2 d.patch.length c2):=λy=>by have:=(fC.o y).k5;rw[<-this,aan]
 have k6: ∀y:ar w,y.val.cell? ⟨w0.heap.size+1,6,none⟩=some (.int .i64 d.start):=λy=>by have:=(fC.o y).k6;rw[<-this,aan]
 have k7: ∀y:ar w,y.val.cell? ⟨w0.heap.size+1,7,none⟩=some (.int .i64 d.aB):=λy=>by have:=(fC.o y).k7;rw[<-this,aan]
 have k8: ∀y:ar w,y.val.cell? ⟨w0.heap.size+1,8,none⟩=some (.int .i64 d.aj):=λy=>by have:=(fC.o y).k8;rw[<-this,aan]
 have q0:=λy:ar w=>(eT.o y).row.cell 0 _ rfl;have q1:=λy:ar w=>(eT.o y).row.cell 1 _ rfl;have q2:=λy:ar w=>(eT.o y).row.cell 2 _ rfl;have q3:=λy:ar w=>(eT.o y).row.cell 3 _ rfl;have q4:=λy:ar w=>(eT.o y).row.cell 4 _ rfl;have q5:=λy:ar w=>(eT.o y).row.cell 5 _ rfl;have nH:=I (λy:ar w=>pe a At ct Ab cb Ac cc Am cm d.al y.val (eT.o y).own.o.r.m);clear hB hF hd hD;rw[hk]at k0;by_cases hw:(a.af.length:Int)<=d.member
 ·rw[qY (by omega) hw];have Kt:(a.af.length:Int)<=(j:Int):=by rw[<-hj];exact hw
  clear hk hw hj;go_enter func55,ntmps55;go_upto_region 1 with (fail)
  rw[lV.o];obtain ⟨x0,dp⟩: ∃y:ar w,y.val=w:=⟨⟨w,aae _ _⟩,rfl⟩
  rw[<-dp];clear dp;revert x0;intro y;exact ml
 have Kt: ¬(a.af.length:Int)<=(j:Int):=by rw[<-hj];exact hw
 have yb:j<a.af.length:=by omega
 by_cases hf:0<=fX a.ao d.al
 case neg=>
  rw[qZ hk hw (by omega)];have ZX:fX a.ao d.al<0:=by omega
  generalize fX a.ao d.al=f at*;clear hk hw hj hf;go_enter func55,ntmps55;go_upto_region 1 with (fail)
  rw[lV.o];obtain ⟨x0,dp⟩: ∃y:ar w,y.val=w:=⟨⟨w,aae _ _⟩,rfl⟩
  rw[<-dp];clear dp;go_wp2_with (fail);refine (aq (nH.o x0)).mono ?_;rintro e _ ⟨rfl,x1,rfl⟩;revert x1;intro y;exact ml
 by_cases hr:(jU a d.al).result=0
 case neg=>
  rw[tG hk hw hr];obtain ⟨i,hi,Tm,hg⟩:=pF hf;obtain ⟨g,cap,y,B1,b1,B2,b2,hM,kd,qp⟩:=HB.o.ko hg;have VI:=I hg;rw[hi]at nH;have J':=hM.row;injection J' with e1 e2 e3
  clear e2;subst e1;subst e3;have CL:=I hM.get;have Po:=I hM.P9;have Hk:=HF.o.ok.ax hg;have AN: ¬(i:Int)<0:=by omega
  have VJ:(0:Int)<=(i:Int):=aa8 _;have VK:(i:Int)<(a.ao.length:Int):=by omega
  have HI:=I hi;have bi:=hM.row;have G':ag (∀y':ar w,∀q u,(cK y)[q]?=some u->y'.val.cell? ⟨g,i*8+q,none⟩=some u/\y'.val.frozen? ⟨g,i*8+q,none⟩=false):=I (λy' q u hu=>(eT.o y').sB CL.o rfl hu);generalize jU a d.al=m at*;obtain ⟨ym,yp,yt⟩:=y;have Kq:ym=m:=Po.o;subst Kq;have hq:(ym.result !=0)=true:=by simp[hr]
  have z7: ∀y':ar w,y'.val.cell? ⟨g,i*8+7,none⟩=some (.int .i64 ym.result):=λy'=>(G'.o y' 7 _ rfl).1;clear hk hw hj hf hr hM qp bi hg hi;go_enter func55,ntmps55;go_upto_region 1 with (fail)
  rw[lV.o];obtain ⟨x0,dp⟩: ∃y:ar w,y.val=w:=⟨⟨w,aae _ _⟩,rfl⟩
  rw[<-dp];clear dp;go_wp2_with (fail);refine (aq (nH.o x0)).mono ?_;rintro e _ ⟨rfl,x1,rfl⟩;have eO:=Aq.o x1;have Hd:=(x1).ok.size;have r0:=eO.cell 0 _ rfl;have r1:=eO.cell 1 _ rfl;have r2:=eO.cell 2 _ rfl;have r3:=eO.cell 3 _ rfl;have r4:=eO.cell 4 _ rfl;have r5:=eO.cell 5 _ rfl;have s0:=eO.free 0 (by simp);have s1:=eO.free 1 (by simp);have s2:=eO.free 2 (by simp);have s3:=eO.free 3 (by simp);have s4:=eO.free 4 (by simp);have s5:=eO.free 5 (by simp);go_wp2
  have gD: ∀(ac:Go.Act) (w':World),ac.tmps[4]?=some (.pointer (some ⟨(w0.heap.size+2),0,none⟩))->ac.tmps[5]?=some (.bool false)->w'.cell? ⟨(w0.heap.size+2),0,none⟩=some (.int .i64 a.day)->w'.cell? ⟨(w0.heap.size+2),1,none⟩=some (.int .i64 a.rule)->w'.cell? ⟨(w0.heap.size+2),2,none⟩=some (.slice At a.af.length ct)->w'.cell? ⟨(w0.heap.size+2),3,none⟩=some (.slice Ab a.base.length cb)->w'.cell? ⟨(w0.heap.size+2),4,none⟩=some (.slice Ac a.av.length cc)->w'.cell? ⟨(w0.heap.size+2),5,none⟩=some (.slice (some ⟨g,0,none⟩) a.ao.length cm)->(results f55 ac.tmps).run prog w'= .ok (.tuple #[.agg #[.int .i64 a.day,.int .i64 a.rule,.slice At a.af.length ct,.slice Ab a.base.length cb,.slice Ac a.av.length cc,.slice (some ⟨g,0,none⟩) a.ao.length cm],.bool false]) w':=by
   intro ac w' ha hf nB nC nE ob oc od;simp[results,results55,go_sem,ha,hf,nB,nC,nE,ob,oc,od]
  refine aaT (gD _ _ rfl rfl (by simp[go_sem,r0]) (by simp[go_sem,r1]) (by simp[go_sem,r2]) (by simp[go_sem,r3]) (by simp[go_sem,r4]) (by simp[go_sem,r5])) rfl ?_;refine ⟨a,⟨.slice At a.af.length ct,.slice Ab a.base.length cb,.slice Ac a.av.length cc,.slice (some ⟨g,0,none⟩) a.ao.length cm⟩,rfl,⟨_,_,_,_,_,_,_,_,_,_,_,_,rfl⟩,(λc h=>by cases h),?_,?_,by simp[World.setCell];omega⟩
  ·refine (mS.o x1).trans (Touch.below (F:=λb=>b=w0.heap.size+2) ?_ (by omega) (λb e=>by omega))
   iterate 6 refine Touch.setCell (F:=λb=>b=w0.heap.size+2) ?_ rfl _
   exact Touch.refl _ _
  refine (Mi.o.below (λz hz=>by have:=oA.o z hz;omega) (x1).ok).aD (F:=λb=>b=w0.heap.size+2) (λz hz=>by have:=oA.o z hz;omega) ?_ (λz hz e=>by have:=oA.o z hz;omega)
  iterate 6 refine Touch.setCell (F:=λb=>b=w0.heap.size+2) ?_ rfl _
  exact Touch.refl _ _
 rw[zT hk hw hf hr];have Ak:(d.member.toNat:Nat)=j:=by rw[hj];omega
 rw[Ak];obtain ⟨i,hi,Tm,hg⟩:=pF hf;obtain ⟨g,cap,y,B1,b1,B2,b2,hM,kd,qp⟩:=HB.o.ko hg;have VI:=I hg;rw[hi]at nH;have J':=hM.row;injection J' with e1 e2 e3
 clear e2;subst e1;subst e3;have CL:=I hM.get;have Po:=I hM.P9;have Hk:=HF.o.ok.ax hg;have AN: ¬(i:Int)<0:=by omega
 have VJ:(0:Int)<=(i:Int):=aa8 _;have VK:(i:Int)<(a.ao.length:Int):=by omega
 have HI:=I hi;have bi:=hM.row;have G':ag (∀y':ar w,∀q u,(cK y)[q]?=some u->y'.val.cell? ⟨g,i*8+q,none⟩=some u/\y'.val.frozen? ⟨g,i*8+q,none⟩=false):=I (λy' q u hu=>(eT.o y').sB CL.o rfl hu);generalize jU a d.al=m at*;obtain ⟨ym,yp,yt⟩:=y;have Kq:ym=m:=Po.o;subst Kq;rw[hi,Int.toNat_natCast];have hq:(ym.result !=0)=false:=by simp[hr]
 have Mf:j<ym.ax.length:=by omega
 obtain ⟨gv,cv,Pp,JA⟩:=HB.o.Ku CL.o Mf;have Pp:yt= .slice (some ⟨gv,0,none⟩) ym.ax.length cv:=Pp;subst Pp;have VL:=I (λy':ar w=>(eT.o y').Cx CL.o Mf rfl);have z7: ∀y':ar w,y'.val.cell? ⟨g,i*8+7,none⟩=some (.int .i64 ym.result):=λy'=>(G'.o y' 7 _ rfl).1;have z6: ∀y':ar w,y'.val.cell? ⟨g,i*8+6,none⟩=some (.slice (some ⟨gv,0,none⟩) ym.ax.length cv):=λy'=>(G'.o y' 6 _ rfl).1;have KJ:(0:Int)<=(j:Int):=aa8 _;have VM:(j:Int)<(ym.ax.length:Int):=by omega
 have Qe:=I Mf;have ZY:=I Hk;clear hk hw hj hf hr hM qp bi hg hi Hk Mf Ak;go_enter func55,ntmps55;go_upto_region 1 with (fail)
 rw[lV.o];obtain ⟨x0,dp⟩: ∃y:ar w,y.val=w:=⟨⟨w,aae _ _⟩,rfl⟩
 rw[<-dp];clear dp;go_wp2_with (fail);refine (aq (nH.o x0)).mono ?_;rintro e _ ⟨rfl,x1,rfl⟩;go_upto_region 15 with (fail)
 go_still_tail 10,(by kernel_rfl)
 change wpList _ _ _ _ _ x1.val.drew;obtain ⟨x3,yS⟩: ∃y:ar w,y.val=x1.val.drew:=⟨⟨x1.val.drew,x1.ok.drew⟩,rfl⟩
 rw[<-yS];clear yS;obtain ⟨⟨u7,m7⟩,K5⟩:=VL.o x3;have HR:=I ((eT.o x3).sv CL.o rfl Qe.o d.bO);have h9:=dM.sv (eT.o x3).own CL.o rfl Qe.o d.bO;have Nb:=uG.o gv (.inr (.inr (.inr (.inr ⟨_,aaC CL.o,.inr ⟨λe=>by have h:=Qe.o;rw[e]at h;simp at h,rfl⟩⟩))));have Sf:=I (λb hb=>(λe=>by have:=uG.o b ((h9.2 b).1 hb);omega:b≠w0.heap.size+2));have Hr:=I (λb hb=>(λe=>G9.o b ((h9.2 b).1 hb) e: ¬Z b));have R9:=G9.o gv (.inr (.inr (.inr (.inr ⟨_,aaC CL.o,.inr ⟨λe=>by have h:=Qe.o;rw[e]at h;simp at h,rfl⟩⟩))));have Sg:ag (iY Z w0 (x3.val.setCell ⟨gv,j,none⟩ (.int .i64 d.bO))):=I ((Mi.o.below (λz hz=>by have:=oA.o z hz;omega) x3.ok).nP (p:=⟨gv,j,none⟩) _ (λz hz e=>R9 (by show Z gv;rw[show gv=z from e];exact hz)));have nZ:ag (Row (x3.val.setCell ⟨gv,j,none⟩ (.int .i64 d.bO)) (w0.heap.size+2) [.int .i64 0,.int .i64 0,.slice none 0 0,.slice none 0 0,.slice none 0 0,.slice none 0 0]):=I ((Aq.o x3).nP (p:=⟨gv,j,none⟩) _ (by show gv≠_;omega));have HL:ag (Below base w0 (x3.val.setCell ⟨gv,j,none⟩ (.int .i64 d.bO))):=I ((mS.o x3).setCell (p:=⟨gv,j,none⟩) JA _);have Hd:w.heap.size<=(x3.val.setCell ⟨gv,j,none⟩ (.int .i64 d.bO)).heap.size:=by simpa [World.setCell]using x3.ok.size
 clear h9;go_upto_region 16 with (fail)
 clear k0 k1 k2 k3 k4 k5 k6 k7 k8 q0 q1 q2 q3 q4 q5 z6 z7 m7 K5;have r0:=nZ.o.cell 0 _ rfl;have r1:=nZ.o.cell 1 _ rfl;have r2:=nZ.o.cell 2 _ rfl;have r3:=nZ.o.cell 3 _ rfl;have r4:=nZ.o.cell 4 _ rfl;have r5:=nZ.o.cell 5 _ rfl;have s0:=nZ.o.free 0 (by simp);have s1:=nZ.o.free 1 (by simp);have s2:=nZ.o.free 2 (by simp);have s3:=nZ.o.free 3 (by simp);have s4:=nZ.o.free 4 (by simp);have s5:=nZ.o.free 5 (by simp);have q0:=HR.o.row.cell 0 _ rfl;have q1:=HR.o.row.cell 1 _ rfl;have q2:=HR.o.row.cell 2 _ rfl;have q3:=HR.o.row.cell 3 _ rfl;have q4:=HR.o.row.cell 4 _ rfl;have q5:=HR.o.row.cell 5 _ rfl;go_wp2
 have gD: ∀(ac:Go.Act) (w':World),ac.tmps[4]?=some (.pointer (some ⟨(w0.heap.size+2),0,none⟩))->ac.tmps[5]?=some (.bool true)->w'.cell? ⟨(w0.heap.size+2),0,none⟩=some (.int .i64 a.day)->w'.cell? ⟨(w0.heap.size+2),1,none⟩=some (.int .i64 a.rule)->w'.cell? ⟨(w0.heap.size+2),2,none⟩=some (.slice At a.af.length ct)->w'.cell? ⟨(w0.heap.size+2),3,none⟩=some (.slice Ab a.base.length cb)->w'.cell? ⟨(w0.heap.size+2),4,none⟩=some (.slice Ac a.av.length cc)->w'.cell? ⟨(w0.heap.size+2),5,none⟩=some (.slice (some ⟨g,0,none⟩) a.ao.length cm)->(results f55 ac.tmps).run prog w'= .ok (.tuple #[.agg #[.int .i64 a.day,.int .i64 a.rule,.slice At a.af.length ct,.slice Ab a.base.length cb,.slice Ac a.av.length cc,.slice (some ⟨g,0,none⟩) a.ao.length cm],.bool true]) w':=by
  intro ac w' ha hf nB nC nE ob oc od;simp[results,results55,go_sem,ha,hf,nB,nC,nE,ob,oc,od]
 refine aaT (gD _ _ rfl rfl (by simp[go_sem,r0]) (by simp[go_sem,r1]) (by simp[go_sem,r2]) (by simp[go_sem,r3]) (by simp[go_sem,r4]) (by simp[go_sem,r5])) rfl ?_;refine ⟨{a with ao:=a.ao.set i (wK ym j d.bO)},⟨.slice At a.af.length ct,.slice Ab a.base.length cb,.slice Ac a.av.length cc,.slice (some ⟨g,0,none⟩) a.ao.length cm⟩,rfl,⟨_,_,_,_,_,_,_,_,_,_,_,_,rfl⟩,?_,?_,?_,by simp[World.setCell]at Hd⊢;omega⟩
 ·intro c hc;injection hc with hc
  subst hc;refine ⟨rfl,_,_,_,HR.o.own.aD (F:=λb=>b=w0.heap.size+2) ?_ (λb hb e=>Sf.o b hb e),Hr.o⟩
  iterate 6 refine Touch.setCell (F:=λb=>b=w0.heap.size+2) ?_ rfl _
  exact Touch.refl _ _
 ·refine HL.o.trans (Touch.below (F:=λb=>b=w0.heap.size+2) ?_ (by omega) (λb e=>by omega))
  iterate 6 refine Touch.setCell (F:=λb=>b=w0.heap.size+2) ?_ rfl _
  exact Touch.refl _ _
 refine Sg.o.aD (F:=λb=>b=w0.heap.size+2) (λz hz=>by have:=oA.o z hz;omega) ?_ (λz hz e=>by have:=oA.o z hz;omega)
 iterate 6 refine Touch.setCell (F:=λb=>b=w0.heap.size+2) ?_ rfl _
 exact Touch.refl _ _
end Go.Proofs.YtbcggaldkihcaaaGreat
