/- A region of the deed's draw, walked by itself: a new motion is drawn. -/
import Derived.Test.YtbcggaldkihcaaaGreatDoorZe
import Derived.Test.YtbcggaldkihcaaaGreatDoorGf
set_option maxHeartbeats 16000000
set_option maxRecDepth 1000000
namespace Go.Proofs.YtbcggaldkihcaaaGreatDoor
open Tryz
open Go.RowKit Go.Lib
noncomputable def aj3:List Bool->Code->Code
 |[],c=>c
 |false::p,.seq a _=>aj3 p a
 |true::p,.seq _ b=>aj3 p b
 |false::p,.cond _ a _=>aj3 p a
 |true::p,.cond _ _ b=>aj3 p b
 |p,.block _ b=>aj3 p b
 |p,.loop b=>aj3 p b
 |p,.scope b=>aj3 p b
 |_,c=>c
noncomputable def akO:Code:=aj3 [true,true,true,true,true,true,false,true,true,true,true,true,false,true,true,false] (f43.body.getD .skip)
theorem akP {B b k ba cb L4 R1:Nat} {a:cp} {Ab Ac A9:Option Addr} {R:List bE} {z:Int} {w W0 wQ wb:World} (uu2 uu3 uu4 uu5 uu7 uu8 uu9 akQ akR amv akS akT akU akV akW akX akY akZ ak0 ak1 ak2 ak3 ak4 ak5 ak6 ak7 ak8 ak9 ak' ala alb alc ald ale alf alg alh ali alj alk alm aln alo alp alq alr als alu alv alw alx aly alz alA alB alC alD alE alF alG alH alI alJ alK alL alM alN alO alP alQ alR alS alT alU alV alW alX alY alZ al0 al1 al2 al3 al4 al5 al6 al7 al8 al9 al' ama amb amw amx amy amz amc amd ame amf amg amh ami amj amk aml amm aj4 aj5 aj6 aj7 aj8 aj9 aj' aka akb akc akd ake akf akg akh aki akj akk akl akm akn ako akp akq akr aks akt aku akv akw akx aky akz akA akB akC akD akE akF akG akH akI akJ akK akL akM akN:Value) (hk:k<=40000) (HB:ag (b<w.heap.size)) (KC:w.heap.size+1<=W0.heap.size) (KD:W0.heap.size<=w.heap.size+1) (ZO:0<=a.day) (Ho:a.day<=999) (_XB:W0.heap.size<=wb.heap.size) (_RX:ag (iJ b W0 wQ)) (vD:ag (b<wQ.heap.size)) (Sq:ag (cd R=true))
 (XC:ag (∀W',iJ b wb W'->ay ai R wQ.heap.size W' (.slice A9 R.length R1))) (XA:ag (Src B wb b (k+10))) (jN:ag (iJ b W0 wb)) (EA:ag (∀W',iJ b W0 W'->W'.cell? ⟨ba,3,none⟩=some (.slice Ab a.base.length cb)/\W'.cell? ⟨ba,4,none⟩=some (.slice Ac a.av.length L4)/\W'.cell? ⟨ba,0,none⟩=some (.int .i64 a.day))):
 Code.wp prog akO (λx a' wx=>match x with
  | .normal=> ∃tL l P Vu Vv,∃VQ:Int,∃v96 v97 v98 v99 amn amo amp amq amr v105 ams v107 amt v109 amu:Value,a'=⟨#[.pointer (some ⟨b,0,none⟩),.pointer (some ⟨ba,0,none⟩),uu2,uu3,uu4,uu5,.int .i64 z,uu7,uu8,uu9,akQ,.slice A9 R.length R1,akR,.pointer (some ⟨tL,0,none⟩),akS,akT,akU,akV,akW,akX,akY,akZ,ak0,ak1,ak2,ak3,ak4,ak5,ak6,ak7,ak8,ak9,ak',ala,alb,alc,ald,ale,alf,alg,alh,ali,alj,alk,alm,aln,alo,alp,alq,alr,als,alu,alv,alw,alx,aly,alz,alA,alB,alC,alD,alE,alF,alG,alH,alI,alJ,alK,alL,alM,alN,alO,alP,alQ,alR,alS,alT,alU,alV,alW,alX,alY,alZ,al0,al1,al2,al3,al4,al5,al6,al7,al8,al9,al',ama,amb,v96,v97,v98,v99,amn,amo,amp,amq,amr,v105,ams,v107,amt,v109,amu,aj4,aj5,aj6,aj7,aj8,aj9,aj',aka,akb,akc,akd,ake,akf,akg,akh,aki,akj,akk,akl,akm,akn,ako,akp,akq,akr,aks,akt,aku,akv,akw,akx,aky,akz,akA,akB,akC,akD,akE,akF,akG,akH,akI,akJ,akK,akL,akM,akN],[]⟩/\Row wx tL [.int .i64 3,.int .i64 z,.slice none 0 0,.string ⟨l.toArray⟩,.int .i64 0,.slice Vu P.length Vv,.int .i64 0,.int .i64 0,.int .i64 VQ]/\W0.heap.size<=tL/\tL<wx.heap.size/\b≠tL/\ay ah P W0.heap.size wx (.slice Vu P.length Vv)/\bF P=true/\qa l/\Src B wx b (k+260)/\iJ b W0 wx/\0<=VQ/\VQ<=1100/\(∀c,cx P (.slice Vu P.length Vv) c-> ¬c=tL)
  |_=>False) ⟨#[.pointer (some ⟨b,0,none⟩),.pointer (some ⟨ba,0,none⟩),uu2,uu3,uu4,uu5,.int .i64 z,uu7,uu8,uu9,akQ,.slice A9 R.length R1,akR,amv,akS,akT,akU,akV,akW,akX,akY,akZ,ak0,ak1,ak2,ak3,ak4,ak5,ak6,ak7,ak8,ak9,ak',ala,alb,alc,ald,ale,alf,alg,alh,ali,alj,alk,alm,aln,alo,alp,alq,alr,als,alu,alv,alw,alx,aly,alz,alA,alB,alC,alD,alE,alF,alG,alH,alI,alJ,alK,alL,alM,alN,alO,alP,alQ,alR,alS,alT,alU,alV,alW,alX,alY,alZ,al0,al1,al2,al3,al4,al5,al6,al7,al8,al9,al',ama,amb,amw,amx,amy,amz,amc,amd,ame,amf,amg,amh,ami,amj,amk,aml,amm,aj4,aj5,aj6,aj7,aj8,aj9,aj',aka,akb,akc,akd,ake,akf,akg,akh,aki,akj,akk,akl,akm,akn,ako,akp,akq,akr,aks,akt,aku,akv,akw,akx,aky,akz,akA,akB,akC,akD,akE,akF,akG,akH,akI,akJ,akK,akL,akM,akN],[]⟩ wb:=by
 conv=>arg 2;whnf
 have Vo:ag (iJ b wb wb):=I ⟨rfl,rfl,rfl,Nat.le_refl _,λ_ _ _=>rfl⟩;refine wp_region_held_drew (S:=λw'=>w'.cell? ⟨ba,3,none⟩=some (.slice Ab a.base.length cb)/\w'.cell? ⟨ba,4,none⟩=some (.slice Ac a.av.length L4)/\w'.cell? ⟨ba,0,none⟩=some (.int .i64 a.day)) (by kernel_rfl) (EA.o _ (ll jN.o (m5 ((Below.refl _ _).drew)))) (λaE=>?_);obtain ⟨Pz,hX⟩: ∃X,X=(wb).drew:=⟨_,rfl⟩
 have RZ:ag (Src B Pz b (k+10)):=I (by rw[hX];exact (XA.o).below ((Below.refl _ _).drew) (XA.o).lt.1);have wi:ag (iJ b W0 Pz):=I (by rw[hX];exact ll jN.o (m5 ((Below.refl _ _).drew)));have Vt:(wb).heap.size<=(Pz).heap.size:=by rw[hX];exact (Below.drew (Below.refl (wb).heap.size (wb))).size
 have Gs:ag (iJ b (wb) Pz):=I (by rw[hX];exact m5 ((Below.refl _ _).drew));rw[<-hX]at aE⊢;clear hX;have Xw:ag (∀W',iJ b Pz W'->ay ai R wQ.heap.size W' (.slice A9 R.length R1)):=I (λW' ho=>XC.o W' (ll Gs.o ho));have VR:ag (iJ b Pz Pz):=I ⟨rfl,rfl,rfl,Nat.le_refl _,λ_ _ _=>rfl⟩;clear Gs Vo;refine aZ 0 ?_
 try simp only[Act.put,aK,aM]
 refine aZ 1 ?_
 try simp only[Act.put,aK,aM]
 refine aZ 3 ?_
 try simp only[Act.put,aK,aM]
 refine aZ 4 ?_
 try simp only[Act.put,aK,aM]
 refine aZ 6 ?_
 try simp only[Act.put,aK,aM]
 refine aZ 7 ?_
 try simp only[Act.put,aK,aM]
 refine aZ 8 ?_
 try simp only[Act.put,aK,aM]
 refine aZ 9 ?_
 try simp only[Act.put,aK,aM]
 refine aZ 10 ?_
 try simp only[Act.put,aK,aM]
 refine aZ 11 ?_
 try simp only[Act.put,aK,aM]
 refine wpAnyH_ready (rs:=[2,15]) (by kernel_rfl) (by simp) ?_;refine AllReadyH.cons rfl (λK hK=>?_) (AllReadyH.cons rfl (λK hK=>?_) AllReadyH.nil);all_goals try simp only[aK]
 ·go_simp;go_at_call 68;refine (qb B b _ Pz RZ.o (by omega)).mono ?_;rintro e VV ⟨l,hl,rfl,hs,ho⟩
  replace RZ:=I hs
  replace wi:=I (ll wi.o ho)
  replace VR:=I (ll VR.o ho)
  try replace HA:=I (HA.o.only (by omega) (by omega) ho)
  try replace fG:=Nat.lt_of_lt_of_le fG ho.size
  have J2:=I hl;clear hs ho hl;refine hK.out _ _ (EA.o _ wi.o) (λau=>?_);clear hK K aE;have aE:=au;clear au
  try simp only[Act.put,aM]
  refine wpAnyH_ready (rs:=[5,15]) (by kernel_rfl) (by simp) ?_;refine AllReadyH.cons rfl (λK hK=>?_) (AllReadyH.cons rfl (λK hK=>?_) AllReadyH.nil);all_goals try simp only[aK]
  ·go_simp;go_at_call 69;refine (ae7 B b _ wQ.heap.size R (.slice A9 R.length R1) VV RZ.o (by omega) (Xw.o _ VR.o) vD.o Sq.o).mono ?_;rintro e VS ⟨vp,P,rfl,hP,VT,hs,ho⟩;have D9:ag (∀c,cx P vp c->(VV).heap.size<=c/\c<(VS).heap.size):=I (λc hc=>ay.dw hP hc);have Xr:=ho.size;have HP:=I (hP.less wi.o.size);obtain ⟨Vu,Vv,rfl,_⟩:=hP
   replace RZ:=I hs
   replace wi:=I (ll wi.o ho)
   replace VR:=I (ll VR.o ho)
   try have hgq:tL<(VV).heap.size:=fG
   try replace fG:=Nat.lt_of_lt_of_le fG ho.size
   try replace HA:=I (HA.o.only (by omega) (by omega) ho)
   have W8:=I VT;clear hs ho VT;refine hK.out _ _ (EA.o _ wi.o) (λau=>?_);clear hK K aE;have aE:=au;clear au
   try simp only[Act.put,aM]
   refine wpAnyH_ready (rs:=[12,15]) (by kernel_rfl) (by simp) ?_;refine AllReadyH.cons rfl (λK hK=>?_) (AllReadyH.cons rfl (λK hK=>?_) AllReadyH.nil);all_goals try simp only[aK]
   ·go_simp;go_at_call 17;refine (tX B b _ 3 VS RZ.o (by omega) (by omega) (by omega)).mono ?_;rintro e VU ⟨xc,Xx,rfl,hs,ho⟩
    replace HP:=I (HP.o.only (by have:=HB.o;omega) ho)
    replace RZ:=I hs
    replace wi:=I (ll wi.o ho)
    replace VR:=I (ll VR.o ho)
    try replace HA:=I (HA.o.only (by omega) (by omega) ho)
    try replace fG:=Nat.lt_of_lt_of_le fG ho.size
    have ZD:=ho.size;clear hs ho;refine hK.out _ _ (EA.o _ wi.o) (λau=>?_);clear hK K aE;have aE:=au;clear au
    try simp only[Act.put,aM]
    refine aZ 13 ?_
    try simp only[Act.put,aK,aM]
    refine aZ 14 ?_
    try simp only[Act.put,aK,aM]
    refine wpAnyH_ready (rs:=[15]) (by kernel_rfl) (by simp) ?_;refine AllReadyH.cons rfl (λK hK=>?_) AllReadyH.nil
    try simp only[aK]
    go_simp;have bk:Below (VU).heap.size VU ((VU).alloc (.cells #[.int .i64 0,.int .i64 0,.slice none 0 0,.string ⟨#[]⟩,.int .i64 0,.slice none 0 0,.int .i64 0,.int .i64 0,.int .i64 0] 38)):=(Below.refl _ _).alloc (Nat.le_refl _) _;obtain ⟨VW,hX⟩: ∃X,X=(VU).alloc (.cells #[.int .i64 0,.int .i64 0,.slice none 0 0,.string ⟨#[]⟩,.int .i64 0,.slice none 0 0,.int .i64 0,.int .i64 0,.int .i64 0] 38):=⟨_,rfl⟩
    have fG:(VU).heap.size<(VW).heap.size:=by rw[hX];simp
    have HA:ag (Row VW (VU).heap.size [.int .i64 0,.int .i64 0,.slice none 0 0,.string ⟨#[]⟩,.int .i64 0,.slice none 0 0,.int .i64 0,.int .i64 0,.int .i64 0]):=I (by rw[hX];exact Row.new _ _ _);rw[<-hX]at bk⊢;clear hX;obtain ⟨tL,xZ⟩: ∃n,n=(VU).heap.size:=⟨_,rfl⟩
    have VY:=Nat.le_of_eq xZ;have VZ:=Nat.le_of_eq xZ.symm;have Xy:=wi.o.size;have qp:b<tL:=by have:=RZ.o.lt.1;omega
    rw[<-xZ]at HA fG⊢
    replace RZ:=I (RZ.o.below bk RZ.o.lt.1)
    replace wi:=I (ll wi.o (m5 bk))
    replace VR:=I (ll VR.o (m5 bk))
    try replace HP:=I (HP.o.on bk)
    clear bk xZ;refine hK.out _ _ (EA.o _ wi.o) (λau=>?_);clear hK K aE;have aE:=au;clear au
    try simp only[Act.put,aM]
    refine wpAnyH_ready (rs:=[16]) (by kernel_rfl) (by simp) ?_;refine AllReadyH.cons rfl (λK hK=>?_) AllReadyH.nil
    try simp only[aK]
    have r0:=HA.o.cell 0 _ rfl;have r1:=HA.o.cell 1 _ rfl;have r2:=HA.o.cell 2 _ rfl;have r3:=HA.o.cell 3 _ rfl;have r4:=HA.o.cell 4 _ rfl;have r5:=HA.o.cell 5 _ rfl;have r6:=HA.o.cell 6 _ rfl;have r7:=HA.o.cell 7 _ rfl;have Px:=HA.o.cell 8 _ rfl;have s0:=HA.o.free 0 (by simp);have s1:=HA.o.free 1 (by simp);have s2:=HA.o.free 2 (by simp);have s3:=HA.o.free 3 (by simp);have s4:=HA.o.free 4 (by simp);have s5:=HA.o.free 5 (by simp);have s6:=HA.o.free 6 (by simp);have s7:=HA.o.free 7 (by simp);have Py:=HA.o.free 8 (by simp);go_simp;rw[show IntKind.i64.wrap (IntKind.i64.wrap (a.day+1)+(xc:Int))=a.day+1+(xc:Int)from by rw[(IntWalk.i64_in (a.day+1) (by omega):IntKind.i64.wrap (a.day+1)=a.day+1),(IntWalk.i64_in (a.day+1+(xc:Int)) (by omega):IntKind.i64.wrap (a.day+1+(xc:Int))=a.day+1+(xc:Int))]];obtain ⟨w9,Ag⟩: ∃X,X=((((((((VW.setCell ⟨tL,0,none⟩ (.int .i64 3)).setCell ⟨tL,1,none⟩ (.int .i64 z)).setCell ⟨tL,2,none⟩ (.slice none 0 0)).setCell ⟨tL,3,none⟩ (.string ⟨l.toArray⟩)).setCell ⟨tL,4,none⟩ (.int .i64 0)).setCell ⟨tL,5,none⟩ (.slice Vu P.length Vv)).setCell ⟨tL,6,none⟩ (.int .i64 0)).setCell ⟨tL,7,none⟩ (.int .i64 0)).setCell ⟨tL,8,none⟩ (.int .i64 (a.day+1+(xc:Int))):=⟨_,rfl⟩
    have xo:Touch (λc=>c=tL) VW w9:=by
     rw[Ag]
     iterate 9 refine Touch.setCell (F:=λb=>b=tL) ?_ rfl _
     exact Touch.refl _ _
    have W6:Row w9 tL [.int .i64 3,.int .i64 z,.slice none 0 0,.string ⟨l.toArray⟩,.int .i64 0,.slice Vu P.length Vv,.int .i64 0,.int .i64 0,.int .i64 (a.day+1+(xc:Int))]:=by
     rw[Ag];have k0:=HA.o.set 0 (.int .i64 3) (by show 0<9;omega);have k1:=k0.set 1 (.int .i64 z) (by show 1<9;omega);have k2:=k1.set 2 (.slice none 0 0) (by show 2<9;omega);have k3:=k2.set 3 (.string ⟨l.toArray⟩) (by show 3<9;omega);have k4:=k3.set 4 (.int .i64 0) (by show 4<9;omega);have k5:=k4.set 5 (.slice Vu P.length Vv) (by show 5<9;omega);have k6:=k5.set 6 (.int .i64 0) (by show 6<9;omega);have k7:=k6.set 7 (.int .i64 0) (by show 7<9;omega);exact k7.set 8 (.int .i64 (a.day+1+(xc:Int))) (by show 8<9;omega)
    rw[<-Ag];clear Ag r0 r1 r2 r3 r4 r5 r6 r7 Px s0 s1 s2 s3 s4 s5 s6 s7 Py;have Kv:=wi.o.size;have VX:iJ b W0 w9:=xq wi.o xo (by omega);have RC:=RZ.o.keep (xo.block b RZ.o.lt.1 (by omega)) (λi hi=>xo.block i (by have:=RZ.o.lt;omega) (by have:=RZ.o.lt;omega));have W7:=ay.aD HP.o xo (λc hc e=>by have:=D9.o c hc;omega);refine hK.out _ _ (EA.o _ VX) (λau=>?_);clear hK K aE;have aE:=au;clear au
    try simp only[Act.put,aM]
    refine wpAnyH_done (by kernel_rfl) ?_ _;exact ⟨tL,l,P,Vu,Vv,_,_,_,_,_,_,_,_,_,_,_,_,_,_,_,_,rfl,W6,by omega,Nat.lt_of_lt_of_le fG xo.size,by omega,W7,W8.o,J2.o,RC.more (by omega),VX,by omega,by omega,(λc hc e=>by have:=D9.o c hc;omega)⟩
   go_simp;have bk:Below (VS).heap.size VS ((VS).alloc (.cells #[.int .i64 0,.int .i64 0,.slice none 0 0,.string ⟨#[]⟩,.int .i64 0,.slice none 0 0,.int .i64 0,.int .i64 0,.int .i64 0] 38)):=(Below.refl _ _).alloc (Nat.le_refl _) _;obtain ⟨VU,hX⟩: ∃X,X=(VS).alloc (.cells #[.int .i64 0,.int .i64 0,.slice none 0 0,.string ⟨#[]⟩,.int .i64 0,.slice none 0 0,.int .i64 0,.int .i64 0,.int .i64 0] 38):=⟨_,rfl⟩
   have fG:(VS).heap.size<(VU).heap.size:=by rw[hX];simp
   have HA:ag (Row VU (VS).heap.size [.int .i64 0,.int .i64 0,.slice none 0 0,.string ⟨#[]⟩,.int .i64 0,.slice none 0 0,.int .i64 0,.int .i64 0,.int .i64 0]):=I (by rw[hX];exact Row.new _ _ _);rw[<-hX]at bk⊢;clear hX;obtain ⟨tL,xZ⟩: ∃n,n=(VS).heap.size:=⟨_,rfl⟩
   have VY:=Nat.le_of_eq xZ;have VZ:=Nat.le_of_eq xZ.symm;have Xy:=wi.o.size;have qp:b<tL:=by have:=RZ.o.lt.1;omega
   rw[<-xZ]at HA fG⊢
   replace RZ:=I (RZ.o.below bk RZ.o.lt.1)
   replace wi:=I (ll wi.o (m5 bk))
   replace VR:=I (ll VR.o (m5 bk))
   try replace HP:=I (HP.o.on bk)
   clear bk xZ;refine hK.out _ _ (EA.o _ wi.o) (λau=>?_);clear hK K aE;have aE:=au;clear au
   try simp only[Act.put,aM]
   refine wpAnyH_ready (rs:=[12]) (by kernel_rfl) (by simp) ?_;refine AllReadyH.cons rfl (λK hK=>?_) AllReadyH.nil
   try simp only[aK]
   go_simp;go_at_call 17;refine (tX B b _ 3 VU RZ.o (by omega) (by omega) (by omega)).mono ?_;rintro e VW ⟨xc,Xx,rfl,hs,ho⟩
   replace HP:=I (HP.o.only (by have:=HB.o;omega) ho)
   replace RZ:=I hs
   replace wi:=I (ll wi.o ho)
   replace VR:=I (ll VR.o ho)
   try replace HA:=I (HA.o.only (by omega) (by omega) ho)
   try replace fG:=Nat.lt_of_lt_of_le fG ho.size
   have ZD:=ho.size;clear hs ho;refine hK.out _ _ (EA.o _ wi.o) (λau=>?_);clear hK K aE;have aE:=au;clear au
   try simp only[Act.put,aM]
   refine aZ 13 ?_
   try simp only[Act.put,aK,aM]
   refine aZ 14 ?_
   try simp only[Act.put,aK,aM]
   refine wpAnyH_ready (rs:=[16]) (by kernel_rfl) (by simp) ?_;refine AllReadyH.cons rfl (λK hK=>?_) AllReadyH.nil
   try simp only[aK]
   have r0:=HA.o.cell 0 _ rfl;have r1:=HA.o.cell 1 _ rfl;have r2:=HA.o.cell 2 _ rfl;have r3:=HA.o.cell 3 _ rfl;have r4:=HA.o.cell 4 _ rfl;have r5:=HA.o.cell 5 _ rfl;have r6:=HA.o.cell 6 _ rfl;have r7:=HA.o.cell 7 _ rfl;have Px:=HA.o.cell 8 _ rfl;have s0:=HA.o.free 0 (by simp);have s1:=HA.o.free 1 (by simp);have s2:=HA.o.free 2 (by simp);have s3:=HA.o.free 3 (by simp);have s4:=HA.o.free 4 (by simp);have s5:=HA.o.free 5 (by simp);have s6:=HA.o.free 6 (by simp);have s7:=HA.o.free 7 (by simp);have Py:=HA.o.free 8 (by simp);go_simp;rw[show IntKind.i64.wrap (IntKind.i64.wrap (a.day+1)+(xc:Int))=a.day+1+(xc:Int)from by rw[(IntWalk.i64_in (a.day+1) (by omega):IntKind.i64.wrap (a.day+1)=a.day+1),(IntWalk.i64_in (a.day+1+(xc:Int)) (by omega):IntKind.i64.wrap (a.day+1+(xc:Int))=a.day+1+(xc:Int))]];obtain ⟨w9,Ag⟩: ∃X,X=((((((((VW.setCell ⟨tL,0,none⟩ (.int .i64 3)).setCell ⟨tL,1,none⟩ (.int .i64 z)).setCell ⟨tL,2,none⟩ (.slice none 0 0)).setCell ⟨tL,3,none⟩ (.string ⟨l.toArray⟩)).setCell ⟨tL,4,none⟩ (.int .i64 0)).setCell ⟨tL,5,none⟩ (.slice Vu P.length Vv)).setCell ⟨tL,6,none⟩ (.int .i64 0)).setCell ⟨tL,7,none⟩ (.int .i64 0)).setCell ⟨tL,8,none⟩ (.int .i64 (a.day+1+(xc:Int))):=⟨_,rfl⟩
   have xo:Touch (λc=>c=tL) VW w9:=by
    rw[Ag]
    iterate 9 refine Touch.setCell (F:=λb=>b=tL) ?_ rfl _
    exact Touch.refl _ _
   have W6:Row w9 tL [.int .i64 3,.int .i64 z,.slice none 0 0,.string ⟨l.toArray⟩,.int .i64 0,.slice Vu P.length Vv,.int .i64 0,.int .i64 0,.int .i64 (a.day+1+(xc:Int))]:=by
    rw[Ag];have k0:=HA.o.set 0 (.int .i64 3) (by show 0<9;omega);have k1:=k0.set 1 (.int .i64 z) (by show 1<9;omega);have k2:=k1.set 2 (.slice none 0 0) (by show 2<9;omega);have k3:=k2.set 3 (.string ⟨l.toArray⟩) (by show 3<9;omega);have k4:=k3.set 4 (.int .i64 0) (by show 4<9;omega);have k5:=k4.set 5 (.slice Vu P.length Vv) (by show 5<9;omega);have k6:=k5.set 6 (.int .i64 0) (by show 6<9;omega);have k7:=k6.set 7 (.int .i64 0) (by show 7<9;omega);exact k7.set 8 (.int .i64 (a.day+1+(xc:Int))) (by show 8<9;omega)
   rw[<-Ag];clear Ag r0 r1 r2 r3 r4 r5 r6 r7 Px s0 s1 s2 s3 s4 s5 s6 s7 Py;have Kv:=wi.o.size;have VX:iJ b W0 w9:=xq wi.o xo (by omega);have RC:=RZ.o.keep (xo.block b RZ.o.lt.1 (by omega)) (λi hi=>xo.block i (by have:=RZ.o.lt;omega) (by have:=RZ.o.lt;omega));have W7:=ay.aD HP.o xo (λc hc e=>by have:=D9.o c hc;omega);refine hK.out _ _ (EA.o _ VX) (λau=>?_);clear hK K aE;have aE:=au;clear au
   try simp only[Act.put,aM]
   refine wpAnyH_done (by kernel_rfl) ?_ _;exact ⟨tL,l,P,Vu,Vv,_,_,_,_,_,_,_,_,_,_,_,_,_,_,_,_,rfl,W6,by omega,Nat.lt_of_lt_of_le fG xo.size,by omega,W7,W8.o,J2.o,RC.more (by omega),VX,by omega,by omega,(λc hc e=>by have:=D9.o c hc;omega)⟩
  go_simp;have bk:Below (VV).heap.size VV ((VV).alloc (.cells #[.int .i64 0,.int .i64 0,.slice none 0 0,.string ⟨#[]⟩,.int .i64 0,.slice none 0 0,.int .i64 0,.int .i64 0,.int .i64 0] 38)):=(Below.refl _ _).alloc (Nat.le_refl _) _;obtain ⟨VS,hX⟩: ∃X,X=(VV).alloc (.cells #[.int .i64 0,.int .i64 0,.slice none 0 0,.string ⟨#[]⟩,.int .i64 0,.slice none 0 0,.int .i64 0,.int .i64 0,.int .i64 0] 38):=⟨_,rfl⟩
  have fG:(VV).heap.size<(VS).heap.size:=by rw[hX];simp
  have HA:ag (Row VS (VV).heap.size [.int .i64 0,.int .i64 0,.slice none 0 0,.string ⟨#[]⟩,.int .i64 0,.slice none 0 0,.int .i64 0,.int .i64 0,.int .i64 0]):=I (by rw[hX];exact Row.new _ _ _);rw[<-hX]at bk⊢;clear hX;obtain ⟨tL,xZ⟩: ∃n,n=(VV).heap.size:=⟨_,rfl⟩
  have VY:=Nat.le_of_eq xZ;have VZ:=Nat.le_of_eq xZ.symm;have Xy:=wi.o.size;have qp:b<tL:=by have:=RZ.o.lt.1;omega
  rw[<-xZ]at HA fG⊢
  replace RZ:=I (RZ.o.below bk RZ.o.lt.1)
  replace wi:=I (ll wi.o (m5 bk))
  replace VR:=I (ll VR.o (m5 bk))
  try replace HP:=I (HP.o.on bk)
  clear bk xZ;refine hK.out _ _ (EA.o _ wi.o) (λau=>?_);clear hK K aE;have aE:=au;clear au
  try simp only[Act.put,aM]
  refine wpAnyH_ready (rs:=[5]) (by kernel_rfl) (by simp) ?_;refine AllReadyH.cons rfl (λK hK=>?_) AllReadyH.nil
  try simp only[aK]
  go_simp;go_at_call 69;refine (ae7 B b _ wQ.heap.size R (.slice A9 R.length R1) VS RZ.o (by omega) (Xw.o _ VR.o) vD.o Sq.o).mono ?_;rintro e VU ⟨vp,P,rfl,hP,VT,hs,ho⟩;have D9:ag (∀c,cx P vp c->(VS).heap.size<=c/\c<(VU).heap.size):=I (λc hc=>ay.dw hP hc);have Xr:=ho.size;have HP:=I (hP.less wi.o.size);obtain ⟨Vu,Vv,rfl,_⟩:=hP
  replace RZ:=I hs
  replace wi:=I (ll wi.o ho)
  replace VR:=I (ll VR.o ho)
  try have hgq:tL<(VS).heap.size:=fG
  try replace fG:=Nat.lt_of_lt_of_le fG ho.size
  try replace HA:=I (HA.o.only (by omega) (by omega) ho)
  have W8:=I VT;clear hs ho VT;refine hK.out _ _ (EA.o _ wi.o) (λau=>?_);clear hK K aE;have aE:=au;clear au
  try simp only[Act.put,aM]
  refine wpAnyH_ready (rs:=[12]) (by kernel_rfl) (by simp) ?_;refine AllReadyH.cons rfl (λK hK=>?_) AllReadyH.nil
  try simp only[aK]
  go_simp;go_at_call 17;refine (tX B b _ 3 VU RZ.o (by omega) (by omega) (by omega)).mono ?_;rintro e VW ⟨xc,Xx,rfl,hs,ho⟩
  replace HP:=I (HP.o.only (by have:=HB.o;omega) ho)
  replace RZ:=I hs
  replace wi:=I (ll wi.o ho)
  replace VR:=I (ll VR.o ho)
  try replace HA:=I (HA.o.only (by omega) (by omega) ho)
  try replace fG:=Nat.lt_of_lt_of_le fG ho.size
  have ZD:=ho.size;clear hs ho;refine hK.out _ _ (EA.o _ wi.o) (λau=>?_);clear hK K aE;have aE:=au;clear au
  try simp only[Act.put,aM]
  refine aZ 13 ?_
  try simp only[Act.put,aK,aM]
  refine aZ 14 ?_
  try simp only[Act.put,aK,aM]
  refine wpAnyH_ready (rs:=[16]) (by kernel_rfl) (by simp) ?_;refine AllReadyH.cons rfl (λK hK=>?_) AllReadyH.nil
  try simp only[aK]
  have r0:=HA.o.cell 0 _ rfl;have r1:=HA.o.cell 1 _ rfl;have r2:=HA.o.cell 2 _ rfl;have r3:=HA.o.cell 3 _ rfl;have r4:=HA.o.cell 4 _ rfl;have r5:=HA.o.cell 5 _ rfl;have r6:=HA.o.cell 6 _ rfl;have r7:=HA.o.cell 7 _ rfl;have Px:=HA.o.cell 8 _ rfl;have s0:=HA.o.free 0 (by simp);have s1:=HA.o.free 1 (by simp);have s2:=HA.o.free 2 (by simp);have s3:=HA.o.free 3 (by simp);have s4:=HA.o.free 4 (by simp);have s5:=HA.o.free 5 (by simp);have s6:=HA.o.free 6 (by simp);have s7:=HA.o.free 7 (by simp);have Py:=HA.o.free 8 (by simp);go_simp;rw[show IntKind.i64.wrap (IntKind.i64.wrap (a.day+1)+(xc:Int))=a.day+1+(xc:Int)from by rw[(IntWalk.i64_in (a.day+1) (by omega):IntKind.i64.wrap (a.day+1)=a.day+1),(IntWalk.i64_in (a.day+1+(xc:Int)) (by omega):IntKind.i64.wrap (a.day+1+(xc:Int))=a.day+1+(xc:Int))]];obtain ⟨w9,Ag⟩: ∃X,X=((((((((VW.setCell ⟨tL,0,none⟩ (.int .i64 3)).setCell ⟨tL,1,none⟩ (.int .i64 z)).setCell ⟨tL,2,none⟩ (.slice none 0 0)).setCell ⟨tL,3,none⟩ (.string ⟨l.toArray⟩)).setCell ⟨tL,4,none⟩ (.int .i64 0)).setCell ⟨tL,5,none⟩ (.slice Vu P.length Vv)).setCell ⟨tL,6,none⟩ (.int .i64 0)).setCell ⟨tL,7,none⟩ (.int .i64 0)).setCell ⟨tL,8,none⟩ (.int .i64 (a.day+1+(xc:Int))):=⟨_,rfl⟩
  have xo:Touch (λc=>c=tL) VW w9:=by
   rw[Ag]
   iterate 9 refine Touch.setCell (F:=λb=>b=tL) ?_ rfl _
   exact Touch.refl _ _
  have W6:Row w9 tL [.int .i64 3,.int .i64 z,.slice none 0 0,.string ⟨l.toArray⟩,.int .i64 0,.slice Vu P.length Vv,.int .i64 0,.int .i64 0,.int .i64 (a.day+1+(xc:Int))]:=by
   rw[Ag];have k0:=HA.o.set 0 (.int .i64 3) (by show 0<9;omega);have k1:=k0.set 1 (.int .i64 z) (by show 1<9;omega);have k2:=k1.set 2 (.slice none 0 0) (by show 2<9;omega);have k3:=k2.set 3 (.string ⟨l.toArray⟩) (by show 3<9;omega);have k4:=k3.set 4 (.int .i64 0) (by show 4<9;omega);have k5:=k4.set 5 (.slice Vu P.length Vv) (by show 5<9;omega);have k6:=k5.set 6 (.int .i64 0) (by show 6<9;omega);have k7:=k6.set 7 (.int .i64 0) (by show 7<9;omega);exact k7.set 8 (.int .i64 (a.day+1+(xc:Int))) (by show 8<9;omega)
  rw[<-Ag];clear Ag r0 r1 r2 r3 r4 r5 r6 r7 Px s0 s1 s2 s3 s4 s5 s6 s7 Py;have Kv:=wi.o.size;have VX:iJ b W0 w9:=xq wi.o xo (by omega);have RC:=RZ.o.keep (xo.block b RZ.o.lt.1 (by omega)) (λi hi=>xo.block i (by have:=RZ.o.lt;omega) (by have:=RZ.o.lt;omega));have W7:=ay.aD HP.o xo (λc hc e=>by have:=D9.o c hc;omega);refine hK.out _ _ (EA.o _ VX) (λau=>?_);clear hK K aE;have aE:=au;clear au
  try simp only[Act.put,aM]
  refine wpAnyH_done (by kernel_rfl) ?_ _;exact ⟨tL,l,P,Vu,Vv,_,_,_,_,_,_,_,_,_,_,_,_,_,_,_,_,rfl,W6,by omega,Nat.lt_of_lt_of_le fG xo.size,by omega,W7,W8.o,J2.o,RC.more (by omega),VX,by omega,by omega,(λc hc e=>by have:=D9.o c hc;omega)⟩
 go_simp;have bk:Below (Pz).heap.size Pz ((Pz).alloc (.cells #[.int .i64 0,.int .i64 0,.slice none 0 0,.string ⟨#[]⟩,.int .i64 0,.slice none 0 0,.int .i64 0,.int .i64 0,.int .i64 0] 38)):=(Below.refl _ _).alloc (Nat.le_refl _) _;obtain ⟨VV,hX⟩: ∃X,X=(Pz).alloc (.cells #[.int .i64 0,.int .i64 0,.slice none 0 0,.string ⟨#[]⟩,.int .i64 0,.slice none 0 0,.int .i64 0,.int .i64 0,.int .i64 0] 38):=⟨_,rfl⟩
 have fG:(Pz).heap.size<(VV).heap.size:=by rw[hX];simp
 have HA:ag (Row VV (Pz).heap.size [.int .i64 0,.int .i64 0,.slice none 0 0,.string ⟨#[]⟩,.int .i64 0,.slice none 0 0,.int .i64 0,.int .i64 0,.int .i64 0]):=I (by rw[hX];exact Row.new _ _ _);rw[<-hX]at bk⊢;clear hX;obtain ⟨tL,xZ⟩: ∃n,n=(Pz).heap.size:=⟨_,rfl⟩
 have VY:=Nat.le_of_eq xZ;have VZ:=Nat.le_of_eq xZ.symm;have Xy:=wi.o.size;have qp:b<tL:=by have:=RZ.o.lt.1;omega
 rw[<-xZ]at HA fG⊢
 replace RZ:=I (RZ.o.below bk RZ.o.lt.1)
 replace wi:=I (ll wi.o (m5 bk))
 replace VR:=I (ll VR.o (m5 bk))
 try replace HP:=I (HP.o.on bk)
 clear bk xZ;refine hK.out _ _ (EA.o _ wi.o) (λau=>?_);clear hK K aE;have aE:=au;clear au
 try simp only[Act.put,aM]
 refine wpAnyH_ready (rs:=[2]) (by kernel_rfl) (by simp) ?_;refine AllReadyH.cons rfl (λK hK=>?_) AllReadyH.nil
 try simp only[aK]
 go_simp;go_at_call 68;refine (qb B b _ VV RZ.o (by omega)).mono ?_;rintro e VS ⟨l,hl,rfl,hs,ho⟩
 replace RZ:=I hs
 replace wi:=I (ll wi.o ho)
 replace VR:=I (ll VR.o ho)
 try replace HA:=I (HA.o.only (by omega) (by omega) ho)
 try replace fG:=Nat.lt_of_lt_of_le fG ho.size
 have J2:=I hl;clear hs ho hl;refine hK.out _ _ (EA.o _ wi.o) (λau=>?_);clear hK K aE;have aE:=au;clear au
 try simp only[Act.put,aM]
 refine wpAnyH_ready (rs:=[5]) (by kernel_rfl) (by simp) ?_;refine AllReadyH.cons rfl (λK hK=>?_) AllReadyH.nil
 try simp only[aK]
 go_simp;go_at_call 69;refine (ae7 B b _ wQ.heap.size R (.slice A9 R.length R1) VS RZ.o (by omega) (Xw.o _ VR.o) vD.o Sq.o).mono ?_;rintro e VU ⟨vp,P,rfl,hP,VT,hs,ho⟩;have D9:ag (∀c,cx P vp c->(VS).heap.size<=c/\c<(VU).heap.size):=I (λc hc=>ay.dw hP hc);have Xr:=ho.size;have HP:=I (hP.less wi.o.size);obtain ⟨Vu,Vv,rfl,_⟩:=hP
 replace RZ:=I hs
 replace wi:=I (ll wi.o ho)
 replace VR:=I (ll VR.o ho)
 try have hgq:tL<(VS).heap.size:=fG
 try replace fG:=Nat.lt_of_lt_of_le fG ho.size
 try replace HA:=I (HA.o.only (by omega) (by omega) ho)
 have W8:=I VT;clear hs ho VT;refine hK.out _ _ (EA.o _ wi.o) (λau=>?_);clear hK K aE;have aE:=au;clear au
 try simp only[Act.put,aM]
 refine wpAnyH_ready (rs:=[12]) (by kernel_rfl) (by simp) ?_;refine AllReadyH.cons rfl (λK hK=>?_) AllReadyH.nil
 try simp only[aK]
 go_simp;go_at_call 17;refine (tX B b _ 3 VU RZ.o (by omega) (by omega) (by omega)).mono ?_;rintro e VW ⟨xc,Xx,rfl,hs,ho⟩
 replace HP:=I (HP.o.only (by have:=HB.o;omega) ho)
 replace RZ:=I hs
 replace wi:=I (ll wi.o ho)
 replace VR:=I (ll VR.o ho)
 try replace HA:=I (HA.o.only (by omega) (by omega) ho)
 try replace fG:=Nat.lt_of_lt_of_le fG ho.size
 have ZD:=ho.size;clear hs ho;refine hK.out _ _ (EA.o _ wi.o) (λau=>?_);clear hK K aE;have aE:=au;clear au
 try simp only[Act.put,aM]
 refine aZ 13 ?_
 try simp only[Act.put,aK,aM]
 refine aZ 14 ?_
 try simp only[Act.put,aK,aM]
 refine wpAnyH_ready (rs:=[16]) (by kernel_rfl) (by simp) ?_;refine AllReadyH.cons rfl (λK hK=>?_) AllReadyH.nil
 try simp only[aK]
 have r0:=HA.o.cell 0 _ rfl;have r1:=HA.o.cell 1 _ rfl;have r2:=HA.o.cell 2 _ rfl;have r3:=HA.o.cell 3 _ rfl;have r4:=HA.o.cell 4 _ rfl;have r5:=HA.o.cell 5 _ rfl;have r6:=HA.o.cell 6 _ rfl;have r7:=HA.o.cell 7 _ rfl;have Px:=HA.o.cell 8 _ rfl;have s0:=HA.o.free 0 (by simp);have s1:=HA.o.free 1 (by simp);have s2:=HA.o.free 2 (by simp);have s3:=HA.o.free 3 (by simp);have s4:=HA.o.free 4 (by simp);have s5:=HA.o.free 5 (by simp);have s6:=HA.o.free 6 (by simp);have s7:=HA.o.free 7 (by simp);have Py:=HA.o.free 8 (by simp);go_simp;rw[show IntKind.i64.wrap (IntKind.i64.wrap (a.day+1)+(xc:Int))=a.day+1+(xc:Int)from by rw[(IntWalk.i64_in (a.day+1) (by omega):IntKind.i64.wrap (a.day+1)=a.day+1),(IntWalk.i64_in (a.day+1+(xc:Int)) (by omega):IntKind.i64.wrap (a.day+1+(xc:Int))=a.day+1+(xc:Int))]];obtain ⟨w9,Ag⟩: ∃X,X=((((((((VW.setCell ⟨tL,0,none⟩ (.int .i64 3)).setCell ⟨tL,1,none⟩ (.int .i64 z)).setCell ⟨tL,2,none⟩ (.slice none 0 0)).setCell ⟨tL,3,none⟩ (.string ⟨l.toArray⟩)).setCell ⟨tL,4,none⟩ (.int .i64 0)).setCell ⟨tL,5,none⟩ (.slice Vu P.length Vv)).setCell ⟨tL,6,none⟩ (.int .i64 0)).setCell ⟨tL,7,none⟩ (.int .i64 0)).setCell ⟨tL,8,none⟩ (.int .i64 (a.day+1+(xc:Int))):=⟨_,rfl⟩
 have xo:Touch (λc=>c=tL) VW w9:=by
  rw[Ag]
  iterate 9 refine Touch.setCell (F:=λb=>b=tL) ?_ rfl _
  exact Touch.refl _ _
 have W6:Row w9 tL [.int .i64 3,.int .i64 z,.slice none 0 0,.string ⟨l.toArray⟩,.int .i64 0,.slice Vu P.length Vv,.int .i64 0,.int .i64 0,.int .i64 (a.day+1+(xc:Int))]:=by
  rw[Ag];have k0:=HA.o.set 0 (.int .i64 3) (by show 0<9;omega);have k1:=k0.set 1 (.int .i64 z) (by show 1<9;omega);have k2:=k1.set 2 (.slice none 0 0) (by show 2<9;omega);have k3:=k2.set 3 (.string ⟨l.toArray⟩) (by show 3<9;omega);have k4:=k3.set 4 (.int .i64 0) (by show 4<9;omega);have k5:=k4.set 5 (.slice Vu P.length Vv) (by show 5<9;omega);have k6:=k5.set 6 (.int .i64 0) (by show 6<9;omega);have k7:=k6.set 7 (.int .i64 0) (by show 7<9;omega);exact k7.set 8 (.int .i64 (a.day+1+(xc:Int))) (by show 8<9;omega)
 rw[<-Ag];clear Ag r0 r1 r2 r3 r4 r5 r6 r7 Px s0 s1 s2 s3 s4 s5 s6 s7 Py;have Kv:=wi.o.size;have VX:iJ b W0 w9:=xq wi.o xo (by omega);have RC:=RZ.o.keep (xo.block b RZ.o.lt.1 (by omega)) (λi hi=>xo.block i (by have:=RZ.o.lt;omega) (by have:=RZ.o.lt;omega));have W7:=ay.aD HP.o xo (λc hc e=>by have:=D9.o c hc;omega);refine hK.out _ _ (EA.o _ VX) (λau=>?_);clear hK K aE;have aE:=au;clear au
 try simp only[Act.put,aM]
 refine wpAnyH_done (by kernel_rfl) ?_ _;exact ⟨tL,l,P,Vu,Vv,_,_,_,_,_,_,_,_,_,_,_,_,_,_,_,_,rfl,W6,by omega,Nat.lt_of_lt_of_le fG xo.size,by omega,W7,W8.o,J2.o,RC.more (by omega),VX,by omega,by omega,(λc hc e=>by have:=D9.o c hc;omega)⟩
end Go.Proofs.YtbcggaldkihcaaaGreatDoor
