/- A deed done, the reference's and the program's walked whole. -/
import Derived.Test.YtbcggaldkihcaaaGreatZr
import Derived.Test.YtbcggaldkihcaaaGreatZe
import Derived.Test.YtbcggaldkihcaaaGreatZf
set_option maxHeartbeats 8000000
set_option maxRecDepth 100000
namespace Go.Proofs.YtbcggaldkihcaaaGreat
open Tryz
open Go.RowKit Go.Lib
theorem sD {p:Prop} (h:p:=by
 have eO:=Aq.o y;have Hd:=(y).ok.size;have r0:=eO.cell 0 _ rfl;have r1:=eO.cell 1 _ rfl;have r2:=eO.cell 2 _ rfl;have r3:=eO.cell 3 _ rfl;have r4:=eO.cell 4 _ rfl;have r5:=eO.cell 5 _ rfl;have s0:=eO.free 0 (by simp);have s1:=eO.free 1 (by simp);have s2:=eO.free 2 (by simp);have s3:=eO.free 3 (by simp);have s4:=eO.free 4 (by simp);have s5:=eO.free 5 (by simp);go_wp2
 have gD: ∀(ac:Go.Act) (w':World),ac.tmps[4]?=some (.pointer (some ⟨(w0.heap.size+2),0,none⟩))->ac.tmps[5]?=some (.bool false)->w'.cell? ⟨(w0.heap.size+2),0,none⟩=some (.int .i64 0)->w'.cell? ⟨(w0.heap.size+2),1,none⟩=some (.int .i64 0)->w'.cell? ⟨(w0.heap.size+2),2,none⟩=some (.slice none 0 0)->w'.cell? ⟨(w0.heap.size+2),3,none⟩=some (.slice none 0 0)->w'.cell? ⟨(w0.heap.size+2),4,none⟩=some (.slice none 0 0)->w'.cell? ⟨(w0.heap.size+2),5,none⟩=some (.slice none 0 0)->(results f18 ac.tmps).run prog w'= .ok (.tuple #[.agg #[.int .i64 0,.int .i64 0,.slice none 0 0,.slice none 0 0,.slice none 0 0,.slice none 0 0],.bool false]) w':=by
  intro ac w' ha hf nB nC nE ob oc od;simp[results,results18,go_sem,ha,hf,nB,nC,nE,ob,oc,od]
 refine aaT (gD _ _ rfl rfl (by simp[go_sem,r0]) (by simp[go_sem,r1]) (by simp[go_sem,r2]) (by simp[go_sem,r3]) (by simp[go_sem,r4]) (by simp[go_sem,r5])) rfl ?_;refine ⟨⟨.slice none 0 0,.slice none 0 0,.slice none 0 0,.slice none 0 0⟩,[],[],[],by rw[HG.o];rfl,⟨_,_,_,_,_,_,_,_,_,_,_,_,rfl⟩,by rw[HG.o];exact dM.zero _ _,?_⟩;refine (mS.o y).trans (Touch.below (F:=λb=>b=w0.heap.size+2) ?_ (by omega) (λb e=>by omega))
 iterate 6 refine Touch.setCell (F:=λb=>b=w0.heap.size+2) ?_ rfl _
 exact Touch.refl _ _
 ):p:=h
theorem Cz (a:cp) (d:dr) (x:cS) (A1:Option Addr) (c1:Nat) (A2:Option Addr) (c2:Nat) (w0:World) (hR:jv w0 w0.heap.size x a) (hs:ua a)
 (hT:Ints w0 w0.heap.size (.slice A1 d.af.length c1) d.af) (hP:bg w0 w0.heap.size (.slice A2 d.patch.length c2) d.patch) (hS:bS d.patch) (kJ:d.al.size<=maxLen):
 Calls prog 18 #[eu a x,gw d A1 c1 A2 c2] w0 (Nh a d w0):=by
 obtain ⟨At,ct,Ab,cb,Ac,cc,Am,cm,rfl⟩:=hR.slices;obtain ⟨W0,ku⟩: ∃W:World,W=w0.alloc (.cells #[.int .i64 a.day,.int .i64 a.rule,.slice At a.af.length ct,.slice Ab a.base.length cb,.slice Ac a.av.length cc,.slice Am a.ao.length cm] 29):=⟨_,rfl⟩
 obtain ⟨W1,eG⟩: ∃W:World,W=W0.alloc (.cells #[.int .i64 d.kind,.int .i64 d.member,.slice A1 d.af.length c1,.string d.al,.int .i64 d.bO,.slice A2 d.patch.length c2,.int .i64 d.start,.int .i64 d.aB,.int .i64 d.aj] 48):=⟨_,rfl⟩
 obtain ⟨w,hW⟩: ∃W:World,W=W1.alloc (.cells #[.int .i64 0,.int .i64 0,.slice none 0 0,.slice none 0 0,.slice none 0 0,.slice none 0 0] 29):=⟨_,rfl⟩
 have b0:Below w0.heap.size w0 W0:=by rw[ku];exact (aae _ _).alloc (aad _) _
 have s0:W0.heap.size=w0.heap.size+1:=by rw[ku];simp
 have b1:Below W0.heap.size W0 W1:=by rw[eG];exact (aae _ _).alloc (aad _) _
 have s1:W1.heap.size=w0.heap.size+2:=by rw[eG];simp[s0]
 have b2:Below W1.heap.size W1 w:=by rw[hW];exact (aae _ _).alloc (aad _) _
 have s2:w.heap.size=w0.heap.size+3:=by rw[hW];simp[s1]
 have tM:Below W0.heap.size W0 w:=b1.trans (b2.mono b1.size);have bW:Below w0.heap.size w0 w:=b0.trans (tM.mono b0.size);have HZ:ag (Row w (w0.heap.size+2) [.int .i64 0,.int .i64 0,.slice none 0 0,.slice none 0 0,.slice none 0 0,.slice none 0 0]):=I (by rw[hW,<-s1];exact Row.new W1 _ _);have rj:ag (Row w w0.heap.size [.int .i64 a.day,.int .i64 a.rule,.slice At a.af.length ct,.slice Ab a.base.length cb,.slice Ac a.av.length cc,.slice Am a.ao.length cm]):=I ((show Row W0 w0.heap.size _ by rw[ku];exact Row.new w0 _ _).below tM (by omega));have CK:ag (Row w (w0.heap.size+1) [.int .i64 d.kind,.int .i64 d.member,.slice A1 d.af.length c1,.string d.al,.int .i64 d.bO,.slice A2 d.patch.length c2,.int .i64 d.start,.int .i64 d.aB,.int .i64 d.aj]):=I ((show Row W1 (w0.heap.size+1) _ by rw[eG,<-s0];exact Row.new W0 _ _).below b2 (by omega));have Sh:ag (fp w (w0.heap.size+1) 0 d A1 c1 A2 c2):=I (fp.row CK.o (hT.on (Pl.stays _) bW bW.size) (hP.on (Pl.stays _) bW bW.size) hS kJ);have kW:ag (jv w w.heap.size ⟨.slice At a.af.length ct,.slice Ab a.base.length cb,.slice Ac a.av.length cc,.slice Am a.ao.length cm⟩ a):=I (hR.on bW bW.size);have gf:=I bW;have lV:=I (show ((w0.alloc (.cells #[.int .i64 a.day,.int .i64 a.rule,.slice At a.af.length ct,.slice Ab a.base.length cb,.slice Ac a.av.length cc,.slice Am a.ao.length cm] 29)).alloc (.cells #[.int .i64 d.kind,.int .i64 d.member,.slice A1 d.af.length c1,.string d.al,.int .i64 d.bO,.slice A2 d.patch.length c2,.int .i64 d.start,.int .i64 d.aB,.int .i64 d.aj] 48)).alloc (.cells #[.int .i64 0,.int .i64 0,.slice none 0 0,.slice none 0 0,.slice none 0 0,.slice none 0 0] 29)=w by rw[hW,eG,ku]);clear hR hT hP hS kJ hW ku eG b0 b1 b2 tM bW s0 s1;have sw:w0.heap.size+3<=w.heap.size:=by omega
 clear s2;have Mj:=I (λy:ar w=>kW.o.on y.ok y.ok.size);have uq:=I (λy:ar w=>rj.o.below y.ok (by omega));have yU:=I (λy:ar w=>CK.o.below y.ok (by omega));have Aq:=I (λy:ar w=>HZ.o.below y.ok (by omega));have fC:=I (λy:ar w=>Sh.o.km y);have mS:=I (λy:ar w=>(gf.o.trans (y.ok.mono (by omega)):Below w0.heap.size w0 y.val));unfold eu gw;have xd:=I (λy:ar w=>Gt a At ct Ab cb Ac cc Am cm y.val (Mj.o y) hs);have jO:=I (λy:ar w=>Fs d A1 c1 A2 c2 y.val (fC.o y).ints (fC.o y).fF (fC.o y).sizes (fC.o y).al);have dl:ag (∀y:ar w,y.val.cell? ⟨w0.heap.size,0,none⟩=some (.int .i64 a.day)/\y.val.cell? ⟨w0.heap.size,1,none⟩=some (.int .i64 a.rule)/\y.val.cell? ⟨w0.heap.size,2,none⟩=some (.slice At a.af.length ct)/\y.val.cell? ⟨w0.heap.size,3,none⟩=some (.slice Ab a.base.length cb)/\y.val.cell? ⟨w0.heap.size,4,none⟩=some (.slice Ac a.av.length cc)/\y.val.cell? ⟨w0.heap.size,5,none⟩=some (.slice Am a.ao.length cm)/\y.val.cell? ⟨w0.heap.size+1,0,none⟩=some (.int .i64 d.kind)/\y.val.cell? ⟨w0.heap.size+1,1,none⟩=some (.int .i64 d.member)/\y.val.cell? ⟨w0.heap.size+1,2,none⟩=some (.slice A1 d.af.length c1)/\y.val.cell? ⟨w0.heap.size+1,3,none⟩=some (.string d.al)/\y.val.cell? ⟨w0.heap.size+1,4,none⟩=some (.int .i64 d.bO)/\y.val.cell? ⟨w0.heap.size+1,5,none⟩=some (.slice A2 d.patch.length c2)/\y.val.cell? ⟨w0.heap.size+1,6,none⟩=some (.int .i64 d.start)/\y.val.cell? ⟨w0.heap.size+1,7,none⟩=some (.int .i64 d.aB)/\y.val.cell? ⟨w0.heap.size+1,8,none⟩=some (.int .i64 d.aj)):=I (λy=>⟨(uq.o y).cell 0 _ rfl,(uq.o y).cell 1 _ rfl,(uq.o y).cell 2 _ rfl,(uq.o y).cell 3 _ rfl,(uq.o y).cell 4 _ rfl,(uq.o y).cell 5 _ rfl,(yU.o y).cell 0 _ rfl,(yU.o y).cell 1 _ rfl,(yU.o y).cell 2 _ rfl,(yU.o y).cell 3 _ rfl,(yU.o y).cell 4 _ rfl,(yU.o y).cell 5 _ rfl,(yU.o y).cell 6 _ rfl,(yU.o y).cell 7 _ rfl,(yU.o y).cell 8 _ rfl⟩);clear hs;cases h1:fI a with
 |false=>
  rw[h1]at xd;have HG:ag (wW a d=none):=I (by unfold wW;rw[aah (by rw[h1];simp)]);clear h1;go_enter func18,ntmps18;go_upto_region 1 with (fail)
  rw[lV.o];obtain ⟨x0,dp⟩: ∃y:ar w,y.val=w:=⟨⟨w,aae _ _⟩,rfl⟩
  rw[<-dp];clear dp;have hH:=dl.o x0;go_wp2_with (fail);refine (aq (xd.o x0)).mono ?_;rintro e _ ⟨rfl,x1,rfl⟩;clear hH;revert x1;intro y;exact sD
 |true=>
  rw[h1]at xd;cases h2:cA d with
  |false=>
   rw[h2]at jO;have HG:ag (wW a d=none):=I (by unfold wW;rw[aah (by rw[h2];simp)]);clear h1 h2;go_enter func18,ntmps18;go_upto_region 1 with (fail)
   rw[lV.o];obtain ⟨x0,dp⟩: ∃y:ar w,y.val=w:=⟨⟨w,aae _ _⟩,rfl⟩
   rw[<-dp];clear dp;have hH:=dl.o x0;go_wp2_with (fail);refine (aq (xd.o x0)).mono ?_;rintro e _ ⟨rfl,x1,rfl⟩;clear hH;have hH:=dl.o x1;go_wp2_with (fail);refine (aq (jO.o x1)).mono ?_;rintro e _ ⟨rfl,x2,rfl⟩;clear hH;revert x2;intro y;exact sD
  |true=>
   rw[h2]at jO;have hF:=qX h1;obtain ⟨n1,n2,n3,n4,n5,n6⟩:=hF.sizes;have tx:=I (λy:ar w=>Cq a _ y.val (Mj.o y) n1 hF.av n2 n3 n4 n5 n6);have HG:ag (wW a d=mW a d):=I (by unfold wW;rw[aaj ⟨h1,h2⟩]);have HF:=I hF;have Si:=I h2;clear h1 h2 hF n1 n2 n3 n4 n5 n6;unfold Cn eu at tx;go_enter func18,ntmps18;go_upto_region 1 with (fail)
   rw[lV.o];obtain ⟨x0,dp⟩: ∃y:ar w,y.val=w:=⟨⟨w,aae _ _⟩,rfl⟩
   rw[<-dp];clear dp;have hH:=dl.o x0;go_wp2_with (fail);refine (aq (xd.o x0)).mono ?_;rintro e _ ⟨rfl,x1,rfl⟩;clear hH;have hH:=dl.o x1;go_wp2_with (fail);refine (aq (jO.o x1)).mono ?_;rintro e _ ⟨rfl,x2,rfl⟩;clear hH;go_upto_region 3 with (fail)
   refine dq 8 (λw'=>w'.cell? ⟨w0.heap.size,0,none⟩=some (.int .i64 a.day)/\w'.cell? ⟨w0.heap.size,1,none⟩=some (.int .i64 a.rule)/\w'.cell? ⟨w0.heap.size,2,none⟩=some (.slice At a.af.length ct)/\w'.cell? ⟨w0.heap.size,3,none⟩=some (.slice Ab a.base.length cb)/\w'.cell? ⟨w0.heap.size,4,none⟩=some (.slice Ac a.av.length cc)/\w'.cell? ⟨w0.heap.size,5,none⟩=some (.slice Am a.ao.length cm)/\w'.cell? ⟨w0.heap.size+1,0,none⟩=some (.int .i64 d.kind)/\w'.cell? ⟨w0.heap.size+1,1,none⟩=some (.int .i64 d.member)/\w'.cell? ⟨w0.heap.size+1,2,none⟩=some (.slice A1 d.af.length c1)/\w'.cell? ⟨w0.heap.size+1,3,none⟩=some (.string d.al)/\w'.cell? ⟨w0.heap.size+1,4,none⟩=some (.int .i64 d.bO)/\w'.cell? ⟨w0.heap.size+1,5,none⟩=some (.slice A2 d.patch.length c2)/\w'.cell? ⟨w0.heap.size+1,6,none⟩=some (.int .i64 d.start)/\w'.cell? ⟨w0.heap.size+1,7,none⟩=some (.int .i64 d.aB)/\w'.cell? ⟨w0.heap.size+1,8,none⟩=some (.int .i64 d.aj)) (by kernel_rfl) ?_;obtain ⟨x3,yS⟩: ∃y:ar w,y.val=x2.val.drew:=⟨⟨x2.val.drew,x2.ok.drew⟩,rfl⟩
   rw[<-yS];clear yS;have aE:=dl.o x3;refine cl 0 ?_
   try simp only[Act.put,aK,aM]
   refine cl 2 ?_
   try simp only[Act.put,aK,aM]
   clear aE;have W9:=x3.ok.size;refine bZ (rs:=[1,7]) (by kernel_rfl) (by simp) ?_;refine aN.cons rfl (λK hK=>?_) (aN.cons rfl (λK hK=>?_) aN.nil)
   ·try simp only[aK]
    go_simp;go_at_call 54;refine (tx.o x3).mono ?_;rintro e w1 ⟨x',T,C,M,rfl,Ky,bw⟩;obtain ⟨Bt,dt,Bb,db,Bc,dc,Bm,dm,rfl⟩:=Ky.o.r.slices;have Cj:=I Ky;have Ha:=bw.size
    try replace eP:=I (eP.o.below bw (by omega))
    obtain ⟨x4,rfl⟩: ∃y:ar w,w1=y.val:=⟨⟨w1,(x3).ok.trans (bw.mono (x3).ok.size)⟩,rfl⟩
    clear bw Ky;refine hK.out _ _ (λ_=>dl.o x4) ?_;clear hK K
    try simp only[]
    have cm:=x4.ok.size;refine bZ (rs:=[3,7]) (by kernel_rfl) (by simp) ?_;refine aN.cons rfl (λK hK=>?_) (aN.cons rfl (λK hK=>?_) aN.nil)
    ·try simp only[aK]
     go_simp;have Fh:=I (Ae a d _ T C M (x3).val.heap.size A1 c1 A2 c2 (x4).val Cj.o HF.o (by omega) Si.o (fC.o x4).ints (fC.o x4).fF (fC.o x4).sizes (fC.o x4).al (λ_=>False) (λ_ h=>h.elim) (λ_ _ h=>h));generalize mW a d=o at*;unfold Ks eu gw at Fh;go_at_call 55;refine Fh.o.mono ?_;rintro e w1 ⟨b,xv,rfl,⟨Et,n1,et,Eb,n2,eb,Ec,n3,ec,Em,n4,em,rfl⟩,hc,hb,M4,uw⟩;skip;have Ni:=I hc;have Sj:=(x3).ok.size;obtain ⟨x5,rfl⟩: ∃y:ar w,w1=y.val:=⟨⟨w1,(x4).ok.trans (hb.mono Sj)⟩,rfl⟩
     clear hc hb M4 Fh;refine hK.out _ _ (λ_=>dl.o x5) ?_;clear hK K
     try simp only[]
     refine eS 4 (λ_=>dl.o x5) ?_
     try simp only[Act.put,aK,aM]
     refine eS 5 (λ_=>dl.o x5) ?_
     try simp only[Act.put,aK,aM]
     refine eS 6 (λ_=>dl.o x5) ?_
     try simp only[Act.put,aK,aM]
     refine cV 7 (λK hK=>?_)
     try simp only[aK]
     go_simp;have bk:Below (x5).val.heap.size (x5).val ((x5).val.alloc (.cells #[.int .i64 0,.int .i64 0,.slice none 0 0,.slice none 0 0,.slice none 0 0,.slice none 0 0] 29)):=(aae _ _).alloc (aad _) _;have eP:ag (Row ((x5).val.alloc (.cells #[.int .i64 0,.int .i64 0,.slice none 0 0,.slice none 0 0,.slice none 0 0,.slice none 0 0] 29)) (x5).val.heap.size [.int .i64 0,.int .i64 0,.slice none 0 0,.slice none 0 0,.slice none 0 0,.slice none 0 0]):=I (Row.new _ _ _);have qg:(x5).val.heap.size+1<=((x5).val.alloc (.cells #[.int .i64 0,.int .i64 0,.slice none 0 0,.slice none 0 0,.slice none 0 0,.slice none 0 0] 29)).heap.size:=by simp
     obtain ⟨x6,hc⟩: ∃y:ar w,y.val=(x5).val.alloc (.cells #[.int .i64 0,.int .i64 0,.slice none 0 0,.slice none 0 0,.slice none 0 0,.slice none 0 0] 29):=⟨⟨_,(x5).ok.trans (bk.mono (x5).ok.size)⟩,rfl⟩
     rw[<-hc]at bk eP qg⊢;clear hc;have Mk:=(x5).ok.size
     replace Ni:=I (λc h=>(⟨(Ni.o c h).1,by obtain ⟨_,T',C',M',Tw,_⟩:=Ni.o c h;exact ⟨T',C',M',Tw.below bk,λb hb=>by have:=(Tw.o.lt hb).2;omega⟩⟩:b=c/\ ∃T C M,dM x3.val.heap.size x6.val ⟨.slice Et n1 et,.slice Eb n2 eb,.slice Ec n3 ec,.slice Em n4 em⟩ c T C M/\ ∀b',bz ⟨.slice Et n1 et,.slice Eb n2 eb,.slice Ec n3 ec,.slice Em n4 em⟩ c T C M b'-> ¬b'=x5.val.heap.size))
     try replace Cj:=I (Cj.o.below bk)
     clear bk;refine hK.out _ _ (λ_=>dl.o x6) ?_;clear hK K
     try simp only[]
     refine cV 8 (λK hK=>?_)
     try simp only[aK]
     have a0:=eP.o.cell 0 _ rfl;have a1:=eP.o.cell 1 _ rfl;have a2:=eP.o.cell 2 _ rfl;have a3:=eP.o.cell 3 _ rfl;have a4:=eP.o.cell 4 _ rfl;have a5:=eP.o.cell 5 _ rfl;have f0:=eP.o.free 0 (by simp);have f1:=eP.o.free 1 (by simp);have f2:=eP.o.free 2 (by simp);have f3:=eP.o.free 3 (by simp);have f4:=eP.o.free 4 (by simp);have f5:=eP.o.free 5 (by simp);go_simp;obtain ⟨w9,Ag⟩: ∃X,X=((((((x6).val.setCell ⟨x5.val.heap.size,0,none⟩ (.int .i64 b.day)).setCell ⟨x5.val.heap.size,1,none⟩ (.int .i64 b.rule)).setCell ⟨x5.val.heap.size,2,none⟩ (.slice Et n1 et)).setCell ⟨x5.val.heap.size,3,none⟩ (.slice Eb n2 eb)).setCell ⟨x5.val.heap.size,4,none⟩ (.slice Ec n3 ec)).setCell ⟨x5.val.heap.size,5,none⟩ (.slice Em n4 em):=⟨_,rfl⟩
     have xo:Touch (λb=>b=x5.val.heap.size) (x6).val w9:=by
      rw[Ag]
      iterate 6 refine Touch.setCell (F:=λb=>b=x5.val.heap.size) ?_ rfl _
      exact Touch.refl _ _
     have CM:Row w9 x5.val.heap.size [.int .i64 b.day,.int .i64 b.rule,.slice Et n1 et,.slice Eb n2 eb,.slice Ec n3 ec,.slice Em n4 em]:=by
      rw[Ag];exact (((((eP.o.set 0 _ (by simp)).set 1 _ (by simp)).set 2 _ (by simp)).set 3 _ (by simp)).set 4 _ (by simp)).set 5 _ (by simp)
     have VP:w.heap.size<=x5.val.heap.size:=by omega
     obtain ⟨x9,KA⟩: ∃y:ar w,y.val=w9:=⟨⟨w9,(x6).ok.trans (xo.below (x6).ok.size (λb e=>by omega))⟩,rfl⟩
     rw[<-Ag,<-KA];rw[<-KA]at xo CM;clear Ag KA a0 a1 a2 a3 a4 a5 f0 f1 f2 f3 f4 f5;refine hK.out _ _ (λh=>by simp at h) ?_;clear hK K
     try simp only[]
     refine cV 9 (λK hK=>?_)
     try simp only[aK]
     go_simp;refine hK.out _ _ (λh=>by simp at h) ?_;clear hK K
     try simp only[]
     refine dh (by kernel_rfl) ?_ _;cases o with
     |none=>
      clear xo CM;revert x9;intro y;exact sD
     |some c=>
      obtain ⟨rfl,T5,C5,M5,Nj,Nk⟩:=Ni.o c rfl;have mx:=I CM;have Kz:=I (Nj.aD xo (λb hb e=>Nk b hb e));clear xo CM Nj Nk;have qf:w.heap.size<=(x3).val.heap.size:=(x3).ok.size;have eO:=Aq.o x9;have Hd:=(x9).ok.size;have r0:=eO.cell 0 _ rfl;have r1:=eO.cell 1 _ rfl;have r2:=eO.cell 2 _ rfl;have r3:=eO.cell 3 _ rfl;have r4:=eO.cell 4 _ rfl;have r5:=eO.cell 5 _ rfl;have s0:=eO.free 0 (by simp);have s1:=eO.free 1 (by simp);have s2:=eO.free 2 (by simp);have s3:=eO.free 3 (by simp);have s4:=eO.free 4 (by simp);have s5:=eO.free 5 (by simp);have q0:=mx.o.cell 0 _ rfl;have q1:=mx.o.cell 1 _ rfl;have q2:=mx.o.cell 2 _ rfl;have q3:=mx.o.cell 3 _ rfl;have q4:=mx.o.cell 4 _ rfl;have q5:=mx.o.cell 5 _ rfl;go_wp2
      have gD: ∀(ac:Go.Act) (w':World),ac.tmps[4]?=some (.pointer (some ⟨(w0.heap.size+2),0,none⟩))->ac.tmps[5]?=some (.bool true)->w'.cell? ⟨(w0.heap.size+2),0,none⟩=some (.int .i64 b.day)->w'.cell? ⟨(w0.heap.size+2),1,none⟩=some (.int .i64 b.rule)->w'.cell? ⟨(w0.heap.size+2),2,none⟩=some (.slice Et n1 et)->w'.cell? ⟨(w0.heap.size+2),3,none⟩=some (.slice Eb n2 eb)->w'.cell? ⟨(w0.heap.size+2),4,none⟩=some (.slice Ec n3 ec)->w'.cell? ⟨(w0.heap.size+2),5,none⟩=some (.slice Em n4 em)->(results f18 ac.tmps).run prog w'= .ok (.tuple #[.agg #[.int .i64 b.day,.int .i64 b.rule,.slice Et n1 et,.slice Eb n2 eb,.slice Ec n3 ec,.slice Em n4 em],.bool true]) w':=by
       intro ac w' ha hf nB nC nE ob oc od;simp[results,results18,go_sem,ha,hf,nB,nC,nE,ob,oc,od]
      refine aaT (gD _ _ rfl rfl (by simp[go_sem,r0]) (by simp[go_sem,r1]) (by simp[go_sem,r2]) (by simp[go_sem,r3]) (by simp[go_sem,r4]) (by simp[go_sem,r5])) rfl ?_;refine ⟨⟨.slice Et n1 et,.slice Eb n2 eb,.slice Ec n3 ec,.slice Em n4 em⟩,T5,C5,M5,by rw[HG.o];rfl,⟨_,_,_,_,_,_,_,_,_,_,_,_,rfl⟩,?_,?_⟩
      rotate_left
      ·refine (mS.o x9).trans (Touch.below (F:=λb=>b=w0.heap.size+2) ?_ (by omega) (λb e=>by omega))
       iterate 6 refine Touch.setCell (F:=λb=>b=w0.heap.size+2) ?_ rfl _
       exact Touch.refl _ _
      rw[HG.o];refine (Kz.o.aD (F:=λb=>b=w0.heap.size+2) ?_ (λb hb e=>by have:=(Kz.o.o.lt hb).1;omega)).less (by omega)
      iterate 6 refine Touch.setCell (F:=λb=>b=w0.heap.size+2) ?_ rfl _
      exact Touch.refl _ _
    try simp only[aK]
    go_simp;have bk:Below (x4).val.heap.size (x4).val ((x4).val.alloc (.cells #[.int .i64 0,.int .i64 0,.slice none 0 0,.slice none 0 0,.slice none 0 0,.slice none 0 0] 29)):=(aae _ _).alloc (aad _) _;have eP:ag (Row ((x4).val.alloc (.cells #[.int .i64 0,.int .i64 0,.slice none 0 0,.slice none 0 0,.slice none 0 0,.slice none 0 0] 29)) (x4).val.heap.size [.int .i64 0,.int .i64 0,.slice none 0 0,.slice none 0 0,.slice none 0 0,.slice none 0 0]):=I (Row.new _ _ _);have qg:(x4).val.heap.size+1<=((x4).val.alloc (.cells #[.int .i64 0,.int .i64 0,.slice none 0 0,.slice none 0 0,.slice none 0 0,.slice none 0 0] 29)).heap.size:=by simp
    obtain ⟨x5,hc⟩: ∃y:ar w,y.val=(x4).val.alloc (.cells #[.int .i64 0,.int .i64 0,.slice none 0 0,.slice none 0 0,.slice none 0 0,.slice none 0 0] 29):=⟨⟨_,(x4).ok.trans (bk.mono (x4).ok.size)⟩,rfl⟩
    rw[<-hc]at bk eP qg⊢;clear hc;have Mk:=(x4).ok.size;have jE: ∀b,bz ⟨.slice Bt a.af.length dt,.slice Bb a.base.length db,.slice Bc a.av.length dc,.slice Bm a.ao.length dm⟩ a T C M b-> ¬b=x4.val.heap.size:=λb hb=>by have:=(Cj.o.o.lt hb).2;omega
    try replace Cj:=I (Cj.o.below bk)
    clear bk;refine hK.out _ _ (λ_=>dl.o x5) ?_;clear hK K
    try simp only[Act.put,aM]
    refine cV 3 (λK hK=>?_)
    try simp only[aK]
    go_simp;have Fh:=I (Ae a d _ T C M (x3).val.heap.size A1 c1 A2 c2 (x5).val Cj.o HF.o (by omega) Si.o (fC.o x5).ints (fC.o x5).fF (fC.o x5).sizes (fC.o x5).al (λb=>b=x4.val.heap.size) (λ_ h=>by omega) (λb hb h=>jE b hb h));generalize mW a d=o at*;unfold Ks eu gw at Fh;go_at_call 55;refine Fh.o.mono ?_;rintro e w1 ⟨b,xv,rfl,⟨Et,n1,et,Eb,n2,eb,Ec,n3,ec,Em,n4,em,rfl⟩,hc,hb,M4,uw⟩
    replace eP:=I (M4 _ rfl _ eP.o)
    have Ni:=I hc;have Sj:=(x3).ok.size;obtain ⟨x6,rfl⟩: ∃y:ar w,w1=y.val:=⟨⟨w1,(x5).ok.trans (hb.mono Sj)⟩,rfl⟩
    clear hc hb M4 Fh;refine hK.out _ _ (λ_=>dl.o x6) ?_;clear hK K
    try simp only[]
    refine eS 4 (λ_=>dl.o x6) ?_
    try simp only[Act.put,aK,aM]
    refine eS 5 (λ_=>dl.o x6) ?_
    try simp only[Act.put,aK,aM]
    refine eS 6 (λ_=>dl.o x6) ?_
    try simp only[Act.put,aK,aM]
    refine cV 8 (λK hK=>?_)
    try simp only[aK]
    have a0:=eP.o.cell 0 _ rfl;have a1:=eP.o.cell 1 _ rfl;have a2:=eP.o.cell 2 _ rfl;have a3:=eP.o.cell 3 _ rfl;have a4:=eP.o.cell 4 _ rfl;have a5:=eP.o.cell 5 _ rfl;have f0:=eP.o.free 0 (by simp);have f1:=eP.o.free 1 (by simp);have f2:=eP.o.free 2 (by simp);have f3:=eP.o.free 3 (by simp);have f4:=eP.o.free 4 (by simp);have f5:=eP.o.free 5 (by simp);go_simp;obtain ⟨w9,Ag⟩: ∃X,X=((((((x6).val.setCell ⟨x4.val.heap.size,0,none⟩ (.int .i64 b.day)).setCell ⟨x4.val.heap.size,1,none⟩ (.int .i64 b.rule)).setCell ⟨x4.val.heap.size,2,none⟩ (.slice Et n1 et)).setCell ⟨x4.val.heap.size,3,none⟩ (.slice Eb n2 eb)).setCell ⟨x4.val.heap.size,4,none⟩ (.slice Ec n3 ec)).setCell ⟨x4.val.heap.size,5,none⟩ (.slice Em n4 em):=⟨_,rfl⟩
    have xo:Touch (λb=>b=x4.val.heap.size) (x6).val w9:=by
     rw[Ag]
     iterate 6 refine Touch.setCell (F:=λb=>b=x4.val.heap.size) ?_ rfl _
     exact Touch.refl _ _
    have CM:Row w9 x4.val.heap.size [.int .i64 b.day,.int .i64 b.rule,.slice Et n1 et,.slice Eb n2 eb,.slice Ec n3 ec,.slice Em n4 em]:=by
     rw[Ag];exact (((((eP.o.set 0 _ (by simp)).set 1 _ (by simp)).set 2 _ (by simp)).set 3 _ (by simp)).set 4 _ (by simp)).set 5 _ (by simp)
    have VP:w.heap.size<=x4.val.heap.size:=by omega
    obtain ⟨x9,KA⟩: ∃y:ar w,y.val=w9:=⟨⟨w9,(x6).ok.trans (xo.below (x6).ok.size (λb e=>by omega))⟩,rfl⟩
    rw[<-Ag,<-KA];rw[<-KA]at xo CM;clear Ag KA a0 a1 a2 a3 a4 a5 f0 f1 f2 f3 f4 f5;refine hK.out _ _ (λh=>by simp at h) ?_;clear hK K
    try simp only[Act.put,aM]
    refine cV 9 (λK hK=>?_)
    try simp only[aK]
    go_simp;refine hK.out _ _ (λh=>by simp at h) ?_;clear hK K
    try simp only[Act.put,aM]
    refine dh (by kernel_rfl) ?_ _;cases o with
    |none=>
     clear xo CM;revert x9;intro y;exact sD
    |some c=>
     obtain ⟨rfl,T5,C5,M5,Nj,Nk⟩:=Ni.o c rfl;have mx:=I CM;have Kz:=I (Nj.aD xo (λb hb e=>Nk b hb e));clear xo CM Nj Nk;have qf:w.heap.size<=(x3).val.heap.size:=(x3).ok.size;have eO:=Aq.o x9;have Hd:=(x9).ok.size;have r0:=eO.cell 0 _ rfl;have r1:=eO.cell 1 _ rfl;have r2:=eO.cell 2 _ rfl;have r3:=eO.cell 3 _ rfl;have r4:=eO.cell 4 _ rfl;have r5:=eO.cell 5 _ rfl;have s0:=eO.free 0 (by simp);have s1:=eO.free 1 (by simp);have s2:=eO.free 2 (by simp);have s3:=eO.free 3 (by simp);have s4:=eO.free 4 (by simp);have s5:=eO.free 5 (by simp);have q0:=mx.o.cell 0 _ rfl;have q1:=mx.o.cell 1 _ rfl;have q2:=mx.o.cell 2 _ rfl;have q3:=mx.o.cell 3 _ rfl;have q4:=mx.o.cell 4 _ rfl;have q5:=mx.o.cell 5 _ rfl;go_wp2
     have gD: ∀(ac:Go.Act) (w':World),ac.tmps[4]?=some (.pointer (some ⟨(w0.heap.size+2),0,none⟩))->ac.tmps[5]?=some (.bool true)->w'.cell? ⟨(w0.heap.size+2),0,none⟩=some (.int .i64 b.day)->w'.cell? ⟨(w0.heap.size+2),1,none⟩=some (.int .i64 b.rule)->w'.cell? ⟨(w0.heap.size+2),2,none⟩=some (.slice Et n1 et)->w'.cell? ⟨(w0.heap.size+2),3,none⟩=some (.slice Eb n2 eb)->w'.cell? ⟨(w0.heap.size+2),4,none⟩=some (.slice Ec n3 ec)->w'.cell? ⟨(w0.heap.size+2),5,none⟩=some (.slice Em n4 em)->(results f18 ac.tmps).run prog w'= .ok (.tuple #[.agg #[.int .i64 b.day,.int .i64 b.rule,.slice Et n1 et,.slice Eb n2 eb,.slice Ec n3 ec,.slice Em n4 em],.bool true]) w':=by
      intro ac w' ha hf nB nC nE ob oc od;simp[results,results18,go_sem,ha,hf,nB,nC,nE,ob,oc,od]
     refine aaT (gD _ _ rfl rfl (by simp[go_sem,r0]) (by simp[go_sem,r1]) (by simp[go_sem,r2]) (by simp[go_sem,r3]) (by simp[go_sem,r4]) (by simp[go_sem,r5])) rfl ?_;refine ⟨⟨.slice Et n1 et,.slice Eb n2 eb,.slice Ec n3 ec,.slice Em n4 em⟩,T5,C5,M5,by rw[HG.o];rfl,⟨_,_,_,_,_,_,_,_,_,_,_,_,rfl⟩,?_,?_⟩
     rotate_left
     ·refine (mS.o x9).trans (Touch.below (F:=λb=>b=w0.heap.size+2) ?_ (by omega) (λb e=>by omega))
      iterate 6 refine Touch.setCell (F:=λb=>b=w0.heap.size+2) ?_ rfl _
      exact Touch.refl _ _
     rw[HG.o];refine (Kz.o.aD (F:=λb=>b=w0.heap.size+2) ?_ (λb hb e=>by have:=(Kz.o.o.lt hb).1;omega)).less (by omega)
     iterate 6 refine Touch.setCell (F:=λb=>b=w0.heap.size+2) ?_ rfl _
     exact Touch.refl _ _
   try simp only[aK]
   go_simp;have bk:Below (x3).val.heap.size (x3).val ((x3).val.alloc (.cells #[.int .i64 0,.int .i64 0,.slice none 0 0,.slice none 0 0,.slice none 0 0,.slice none 0 0] 29)):=(aae _ _).alloc (aad _) _;have eP:ag (Row ((x3).val.alloc (.cells #[.int .i64 0,.int .i64 0,.slice none 0 0,.slice none 0 0,.slice none 0 0,.slice none 0 0] 29)) (x3).val.heap.size [.int .i64 0,.int .i64 0,.slice none 0 0,.slice none 0 0,.slice none 0 0,.slice none 0 0]):=I (Row.new _ _ _);have qg:(x3).val.heap.size+1<=((x3).val.alloc (.cells #[.int .i64 0,.int .i64 0,.slice none 0 0,.slice none 0 0,.slice none 0 0,.slice none 0 0] 29)).heap.size:=by simp
   obtain ⟨x4,hc⟩: ∃y:ar w,y.val=(x3).val.alloc (.cells #[.int .i64 0,.int .i64 0,.slice none 0 0,.slice none 0 0,.slice none 0 0,.slice none 0 0] 29):=⟨⟨_,(x3).ok.trans (bk.mono (x3).ok.size)⟩,rfl⟩
   rw[<-hc]at bk eP qg⊢;clear hc;have Mk:=(x3).ok.size;skip
   try replace Cj:=I (Cj.o.below bk)
   clear bk;refine hK.out _ _ (λ_=>dl.o x4) ?_;clear hK K
   try simp only[Act.put,aM]
   have cm:=x4.ok.size;refine cV 1 (λK hK=>?_)
   try simp only[aK]
   go_simp;go_at_call 54;refine (tx.o x4).mono ?_;rintro e w1 ⟨x',T,C,M,rfl,Ky,bw⟩;obtain ⟨Bt,dt,Bb,db,Bc,dc,Bm,dm,rfl⟩:=Ky.o.r.slices;have Cj:=I Ky;have Ha:=bw.size
   try replace eP:=I (eP.o.below bw (by omega))
   obtain ⟨x5,rfl⟩: ∃y:ar w,w1=y.val:=⟨⟨w1,(x4).ok.trans (bw.mono (x4).ok.size)⟩,rfl⟩
   clear bw Ky;refine hK.out _ _ (λ_=>dl.o x5) ?_;clear hK K
   try simp only[]
   refine cV 3 (λK hK=>?_)
   try simp only[aK]
   go_simp;have Fh:=I (Ae a d _ T C M (x4).val.heap.size A1 c1 A2 c2 (x5).val Cj.o HF.o (by omega) Si.o (fC.o x5).ints (fC.o x5).fF (fC.o x5).sizes (fC.o x5).al (λb=>b=x3.val.heap.size) (λ_ h=>by omega) (λb hb h=>by have:=(Cj.o.o.lt hb).1;omega));generalize mW a d=o at*;unfold Ks eu gw at Fh;go_at_call 55;refine Fh.o.mono ?_;rintro e w1 ⟨b,xv,rfl,⟨Et,n1,et,Eb,n2,eb,Ec,n3,ec,Em,n4,em,rfl⟩,hc,hb,M4,uw⟩
   replace eP:=I (M4 _ rfl _ eP.o)
   have Ni:=I hc;have Sj:=(x4).ok.size;obtain ⟨x6,rfl⟩: ∃y:ar w,w1=y.val:=⟨⟨w1,(x5).ok.trans (hb.mono Sj)⟩,rfl⟩
   clear hc hb M4 Fh;refine hK.out _ _ (λ_=>dl.o x6) ?_;clear hK K
   try simp only[]
   refine eS 4 (λ_=>dl.o x6) ?_
   try simp only[Act.put,aK,aM]
   refine eS 5 (λ_=>dl.o x6) ?_
   try simp only[Act.put,aK,aM]
   refine eS 6 (λ_=>dl.o x6) ?_
   try simp only[Act.put,aK,aM]
   refine cV 8 (λK hK=>?_)
   try simp only[aK]
   have a0:=eP.o.cell 0 _ rfl;have a1:=eP.o.cell 1 _ rfl;have a2:=eP.o.cell 2 _ rfl;have a3:=eP.o.cell 3 _ rfl;have a4:=eP.o.cell 4 _ rfl;have a5:=eP.o.cell 5 _ rfl;have f0:=eP.o.free 0 (by simp);have f1:=eP.o.free 1 (by simp);have f2:=eP.o.free 2 (by simp);have f3:=eP.o.free 3 (by simp);have f4:=eP.o.free 4 (by simp);have f5:=eP.o.free 5 (by simp);go_simp;obtain ⟨w9,Ag⟩: ∃X,X=((((((x6).val.setCell ⟨x3.val.heap.size,0,none⟩ (.int .i64 b.day)).setCell ⟨x3.val.heap.size,1,none⟩ (.int .i64 b.rule)).setCell ⟨x3.val.heap.size,2,none⟩ (.slice Et n1 et)).setCell ⟨x3.val.heap.size,3,none⟩ (.slice Eb n2 eb)).setCell ⟨x3.val.heap.size,4,none⟩ (.slice Ec n3 ec)).setCell ⟨x3.val.heap.size,5,none⟩ (.slice Em n4 em):=⟨_,rfl⟩
   have xo:Touch (λb=>b=x3.val.heap.size) (x6).val w9:=by
    rw[Ag]
    iterate 6 refine Touch.setCell (F:=λb=>b=x3.val.heap.size) ?_ rfl _
    exact Touch.refl _ _
   have CM:Row w9 x3.val.heap.size [.int .i64 b.day,.int .i64 b.rule,.slice Et n1 et,.slice Eb n2 eb,.slice Ec n3 ec,.slice Em n4 em]:=by
    rw[Ag];exact (((((eP.o.set 0 _ (by simp)).set 1 _ (by simp)).set 2 _ (by simp)).set 3 _ (by simp)).set 4 _ (by simp)).set 5 _ (by simp)
   have VP:w.heap.size<=x3.val.heap.size:=by omega
   obtain ⟨x9,KA⟩: ∃y:ar w,y.val=w9:=⟨⟨w9,(x6).ok.trans (xo.below (x6).ok.size (λb e=>by omega))⟩,rfl⟩
   rw[<-Ag,<-KA];rw[<-KA]at xo CM;clear Ag KA a0 a1 a2 a3 a4 a5 f0 f1 f2 f3 f4 f5;refine hK.out _ _ (λh=>by simp at h) ?_;clear hK K
   try simp only[Act.put,aM]
   refine cV 9 (λK hK=>?_)
   try simp only[aK]
   go_simp;refine hK.out _ _ (λh=>by simp at h) ?_;clear hK K
   try simp only[Act.put,aM]
   refine dh (by kernel_rfl) ?_ _;cases o with
   |none=>
    clear xo CM;revert x9;intro y;exact sD
   |some c=>
    obtain ⟨rfl,T5,C5,M5,Nj,Nk⟩:=Ni.o c rfl;have mx:=I CM;have Kz:=I (Nj.aD xo (λb hb e=>Nk b hb e));clear xo CM Nj Nk;have qf:w.heap.size<=(x4).val.heap.size:=(x4).ok.size;have eO:=Aq.o x9;have Hd:=(x9).ok.size;have r0:=eO.cell 0 _ rfl;have r1:=eO.cell 1 _ rfl;have r2:=eO.cell 2 _ rfl;have r3:=eO.cell 3 _ rfl;have r4:=eO.cell 4 _ rfl;have r5:=eO.cell 5 _ rfl;have s0:=eO.free 0 (by simp);have s1:=eO.free 1 (by simp);have s2:=eO.free 2 (by simp);have s3:=eO.free 3 (by simp);have s4:=eO.free 4 (by simp);have s5:=eO.free 5 (by simp);have q0:=mx.o.cell 0 _ rfl;have q1:=mx.o.cell 1 _ rfl;have q2:=mx.o.cell 2 _ rfl;have q3:=mx.o.cell 3 _ rfl;have q4:=mx.o.cell 4 _ rfl;have q5:=mx.o.cell 5 _ rfl;go_wp2
    have gD: ∀(ac:Go.Act) (w':World),ac.tmps[4]?=some (.pointer (some ⟨(w0.heap.size+2),0,none⟩))->ac.tmps[5]?=some (.bool true)->w'.cell? ⟨(w0.heap.size+2),0,none⟩=some (.int .i64 b.day)->w'.cell? ⟨(w0.heap.size+2),1,none⟩=some (.int .i64 b.rule)->w'.cell? ⟨(w0.heap.size+2),2,none⟩=some (.slice Et n1 et)->w'.cell? ⟨(w0.heap.size+2),3,none⟩=some (.slice Eb n2 eb)->w'.cell? ⟨(w0.heap.size+2),4,none⟩=some (.slice Ec n3 ec)->w'.cell? ⟨(w0.heap.size+2),5,none⟩=some (.slice Em n4 em)->(results f18 ac.tmps).run prog w'= .ok (.tuple #[.agg #[.int .i64 b.day,.int .i64 b.rule,.slice Et n1 et,.slice Eb n2 eb,.slice Ec n3 ec,.slice Em n4 em],.bool true]) w':=by
     intro ac w' ha hf nB nC nE ob oc od;simp[results,results18,go_sem,ha,hf,nB,nC,nE,ob,oc,od]
    refine aaT (gD _ _ rfl rfl (by simp[go_sem,r0]) (by simp[go_sem,r1]) (by simp[go_sem,r2]) (by simp[go_sem,r3]) (by simp[go_sem,r4]) (by simp[go_sem,r5])) rfl ?_;refine ⟨⟨.slice Et n1 et,.slice Eb n2 eb,.slice Ec n3 ec,.slice Em n4 em⟩,T5,C5,M5,by rw[HG.o];rfl,⟨_,_,_,_,_,_,_,_,_,_,_,_,rfl⟩,?_,?_⟩
    rotate_left
    ·refine (mS.o x9).trans (Touch.below (F:=λb=>b=w0.heap.size+2) ?_ (by omega) (λb e=>by omega))
     iterate 6 refine Touch.setCell (F:=λb=>b=w0.heap.size+2) ?_ rfl _
     exact Touch.refl _ _
    rw[HG.o];refine (Kz.o.aD (F:=λb=>b=w0.heap.size+2) ?_ (λb hb e=>by have:=(Kz.o.o.lt hb).1;omega)).less (by omega)
    iterate 6 refine Touch.setCell (F:=λb=>b=w0.heap.size+2) ?_ rfl _
    exact Touch.refl _ _
end Go.Proofs.YtbcggaldkihcaaaGreat
