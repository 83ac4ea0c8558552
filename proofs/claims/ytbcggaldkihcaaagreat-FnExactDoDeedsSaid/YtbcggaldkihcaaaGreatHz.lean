/- FnExactDoDeeds: the law, walked. (Printed by tools/gen/g_hz.py) -/
import Derived.Test.YtbcggaldkihcaaaGreatGt
import Derived.Test.YtbcggaldkihcaaaGreatHt
import Derived.Test.YtbcggaldkihcaaaGreatHd
set_option maxHeartbeats 16000000
set_option maxRecDepth 100000
namespace Go.Proofs.YtbcggaldkihcaaaGreat
open Tryz
open Go.RowKit Go.Lib
theorem anI (a:cp) (ds:List dr):anm (am2 a ds):=by
 cases h:amL a ds with
 |false=>rw[(amP h).1];exact anm.zero
 |true=>
  rw[(amU h).1];unfold amL at h;rw[aay]at h;exact (am4 ds (qX h.1) (amQ.1 h.2).2).Tl
theorem anJ {a:cp} {T:List bR} {C:List bu} {M:List bH} (h:rX T a.base C M):0<tq 1 a T C M/\tq 1 a T C M<=35184372088832:=by
 have l1:=uL T 1 h.t;have l2:=uM a.base (bs cH 1 T) (λ_ _=>trivial);have l3:=uN C (bs dx (bs cH 1 T) a.base) h.c;have l4:=zw M (bs dQ (bs dx (bs cH 1 T) a.base) C) h.m;have h1:=h.t0;have h2:=h.b0;have h3:=h.c0;have h4:=h.m0;unfold tq;omega
theorem am0 {ds:List dr} {L:List amB} {base:Nat} {w:World} {v:Value} (h:aR amC base w v L) (hm:L.map amB.a=ds) (hf: ∀d∈ds,ant d):ve w w.heap.size v ds:=by
 have:=h.anO (λx hx=>by
  have hd:=hf x.a (by rw[<-hm];exact abV hx);exact ⟨anF hd.2.2.2,aaB hd.2.1 (by unfold maxLen;omega)⟩)
 rw[hm]at this;exact this
theorem anw (a:cp) (ds:List dr) (x:cS) (A:Option Addr) (n c:Nat) (w0:World) (hR:jv w0 w0.heap.size x a) (hs:ua a) (hD:ve w0 w0.heap.size (.slice A n c) ds):
 Calls prog 7 #[eu a x,.slice A n c] w0 (bT (.bool true) w0):=by
 obtain ⟨hn,hc,hm⟩:=fB hD;subst hn;have an0:=anI a ds;have ZC:ag (∀W x B e,jv W W.heap.size x a->ve W W.heap.size (.slice B ds.length e) ds->Calls prog 26 #[eu a x,.slice B ds.length e] W (am5 (am2 a ds) (runN a ds) (amL a ds) W)):=I (λW x B e h1 h2=>am7 a ds x B _ e W h1 hs h2);have HID:ag (∀W x B e,jv W W.heap.size x a->ve W W.heap.size (.slice B ds.length e) ds->Calls prog 29 #[eu a x,.slice B ds.length e] W (am5 (am2 a ds) (runN a ds) (amL a ds) W)):=I (λW x B e h1 h2=>am8 a ds x B _ e W h1 hs h2);generalize amL a ds=XE at*;generalize runN a ds=N at*;generalize am2 a ds=R at*;have Jv:=I an0;have HAS:=I hs;clear an0 hs hc hm;obtain ⟨At,ct,Ab,cb,Ac,cc,Am,cm,rfl⟩:=hR.slices;obtain ⟨w,hW⟩: ∃W:World,W=w0.alloc (.cells #[.int .i64 a.day,.int .i64 a.rule,.slice At a.af.length ct,.slice Ab a.base.length cb,.slice Ac a.av.length cc,.slice Am a.ao.length cm] 57):=⟨_,rfl⟩
 have bW:Below w0.heap.size w0 w:=by rw[hW];exact (aae _ _).alloc (aad _) _
 have sW:w.heap.size=w0.heap.size+1:=by rw[hW];simp
 have rj:ag (Row w w0.heap.size [.int .i64 a.day,.int .i64 a.rule,.slice At a.af.length ct,.slice Ab a.base.length cb,.slice Ac a.av.length cc,.slice Am a.ao.length cm]):=I (by rw[hW];exact Row.new w0 _ _);have kW:ag (jv w w.heap.size ⟨.slice At a.af.length ct,.slice Ab a.base.length cb,.slice Ac a.av.length cc,.slice Am a.ao.length cm⟩ a):=I (hR.on bW bW.size);have B5:ag (ve w w.heap.size (.slice A ds.length c) ds):=I (cz.on hD amA.stays bW bW.size);have gf:=I bW;have lV:=I hW;clear hR hD hW bW;have sw:w0.heap.size+1<=w.heap.size:=by omega
 clear sW;have Mj:=I (λy:ar w=>kW.o.on y.ok y.ok.size);have uq:=I (λy:ar w=>rj.o.below y.ok (by omega));have fC:ag (∀y:ar w,ve y.val y.val.heap.size (.slice A ds.length c) ds):=I (λy=>cz.on B5.o amA.stays y.ok y.ok.size);have mS:=I (λy:ar w=>(gf.o.trans (y.ok.mono (by omega)):Below w0.heap.size w0 y.val));have dl:ag (∀y:ar w,y.val.cell? ⟨w0.heap.size,0,none⟩=some (.int .i64 a.day)/\y.val.cell? ⟨w0.heap.size,1,none⟩=some (.int .i64 a.rule)/\y.val.cell? ⟨w0.heap.size,2,none⟩=some (.slice At a.af.length ct)/\y.val.cell? ⟨w0.heap.size,3,none⟩=some (.slice Ab a.base.length cb)/\y.val.cell? ⟨w0.heap.size,4,none⟩=some (.slice Ac a.av.length cc)/\y.val.cell? ⟨w0.heap.size,5,none⟩=some (.slice Am a.ao.length cm)):=I (λy=>⟨(uq.o y).cell 0 _ rfl,(uq.o y).cell 1 _ rfl,(uq.o y).cell 2 _ rfl,(uq.o y).cell 3 _ rfl,(uq.o y).cell 4 _ rfl,(uq.o y).cell 5 _ rfl⟩);have HZA:=I (λ(y:ar w) (n:Int) (h0:0<=n) (h1:n<=1048576)=>Gc a _ n y.val (Mj.o y) HAS.o h0 h1);have HZD:=I (λ(y:ar w) (n:Int) (h0:0<=n) (h1:n<=1048576)=>anh ds A _ c n y.val (fC.o y) h0 h1);unfold eu at HZA⊢;unfold kz at HZD;go_enter func7,ntmps7;go_upto_region 1 with (fail)
 rw[<-lV.o];refine yY λx0=>?_;have hH:=dl.o x0;go_wp2_with (fail);clear hH;refine (HZA.o x0 1048576 (by omega) (by omega)).mono ?_;rintro e1 w1 ⟨n1,rfl,kM,bw⟩;obtain ⟨x1,rfl⟩: ∃y:ar w,w1=y.val:=⟨⟨w1,x0.ok.trans (bw.mono x0.ok.size)⟩,rfl⟩
 clear bw HZA;rcases kM with kM|⟨KH,kM,Q5⟩
 ·go_wp2;go_ret;exact ⟨rfl,mS.o x1⟩
 have hrn: ¬n1<0:=by omega
 go_wp2_with (fail);refine (HZD.o x1 n1 (by omega) (by omega)).mono ?_;rintro e2 w2 ⟨n2,rfl,rq,cL⟩;obtain ⟨x2,rfl⟩: ∃y:ar w,w2=y.val:=⟨⟨w2,x1.ok.trans (cL.mono x1.ok.size)⟩,rfl⟩
 clear cL HZD;rcases rq with rq|⟨⟨hdn,hdf⟩,rq,aob⟩
 ·go_wp2;go_ret;exact ⟨rfl,mS.o x2⟩
 have aoc: ¬n2<0:=by omega
 have Hn:=I (λy:ar w=>yv a _ y.val (Mj.o y) KH);have HTD:=I (λy:ar w=>anv ds A c y.val (fC.o y) hdn hdf);have HDF:=I hdf;have Mu:=I KH;clear KH hdf;unfold vK eu at Hn;unfold Lv at HTD;unfold am5 eu at ZC HID;go_upto_region 8 with (fail)
 clear kM Q5 hrn rq aob aoc;have hH:=dl.o x2;go_wp2_with (fail);clear hH;refine (Hn.o x2).mono ?_;rintro e w1 ⟨x',T0,C0,M0,rfl,hO,b1⟩;obtain ⟨Bt,dt,Bb,db,Bc,dc,Bm,dm,rfl⟩:=hO.r.slices;have HQA:=I hO.r;obtain ⟨y1,rfl⟩: ∃y:ar w,w1=y.val:=⟨⟨w1,x2.ok.trans (b1.mono x2.ok.size)⟩,rfl⟩
 clear hO b1;go_wp2_with (fail);refine (HTD.o y1).mono ?_;rintro e w1 ⟨Ad,Ld,rfl,hmd,hTd,b2⟩;have HQS:=I (ZC.o w1 _ _ _ (HQA.o.on b2 b2.size) (am0 hTd hmd HDF.o));obtain ⟨y2,rfl⟩: ∃y:ar w,w1=y.val:=⟨⟨w1,y1.ok.trans (b2.mono y1.ok.size)⟩,rfl⟩
 clear hmd hTd b2 HQA;go_wp2_with (fail);refine HQS.o.mono ?_;rintro e w1 ⟨xw,Tw,Cw,Mw,rfl,⟨Et,n1,et,Eb,n2,eb,Ec,n3,ec,Em,n4,em,rfl⟩,hWw,b3⟩;go_upto_region 9 with (fail)
 obtain ⟨V,hV⟩: ∃X,X=w1.alloc (.cells #[.int .i64 R.day,.int .i64 R.rule,.slice Et n1 et,.slice Eb n2 eb,.slice Ec n3 ec,.slice Em n4 em] 29):=⟨_,rfl⟩
 have ajI:Below w1.heap.size w1 V:=by rw[hV];exact (aae _ _).alloc (aad _) _
 have hk:Row V w1.heap.size [.int .i64 R.day,.int .i64 R.rule,.slice Et n1 et,.slice Eb n2 eb,.slice Ec n3 ec,.slice Em n4 em]:=by rw[hV];exact Row.new w1 _ _
 have qg:w1.heap.size<V.heap.size:=by rw[hV];simp
 have hr:=hWw.o.r.on ajI ajI.size;rw[<-hV];obtain ⟨kw,VP⟩: ∃k,k=w1.heap.size:=⟨_,rfl⟩
 rw[<-VP]at hk qg⊢;obtain ⟨y8,rfl⟩: ∃y:ar w,V=y.val:=⟨⟨V,(y2.ok.trans (b3.mono y2.ok.size)).trans (ajI.mono (aaB y2.ok.size b3.size))⟩,rfl⟩
 have xT:=I hk;have OD:=I hr;clear hk hr hV ajI hWw b3 VP HQS;have hH:=dl.o y8;go_wp2_with (fail);clear hH;refine (Hn.o y8).mono ?_;rintro e w1 ⟨x',T0,C0,M0,rfl,hO,bk⟩;obtain ⟨Bt,dt,Bb,db,Bc,dc,Bm,dm,rfl⟩:=hO.r.slices;go_upto_region 10 with (fail)
 obtain ⟨V,hV⟩: ∃X,X=w1.alloc (.cells #[.int .i64 a.day,.int .i64 a.rule,.slice Bt a.af.length dt,.slice Bb a.base.length db,.slice Bc a.av.length dc,.slice Bm a.ao.length dm] 29):=⟨_,rfl⟩
 have ajI:Below w1.heap.size w1 V:=by rw[hV];exact (aae _ _).alloc (aad _) _
 have hrV:Row V w1.heap.size [.int .i64 a.day,.int .i64 a.rule,.slice Bt a.af.length dt,.slice Bb a.base.length db,.slice Bc a.av.length dc,.slice Bm a.ao.length dm]:=by rw[hV];exact Row.new w1 _ _
 have sV:w1.heap.size+1<=V.heap.size:=by rw[hV];simp
 have b8V:Below y8.val.heap.size y8.val V:=bk.trans (ajI.mono bk.size);rw[<-hV];clear hV;obtain ⟨yV,rfl⟩: ∃y:ar w,V=y.val:=⟨⟨V,y8.ok.trans (b8V.mono y8.ok.size)⟩,rfl⟩
 have wi:=I (hO.below ajI);have HFX:ag (∀b,bz ⟨.slice Bt a.af.length dt,.slice Bb a.base.length db,.slice Bc a.av.length dc,.slice Bm a.ao.length dm⟩ a T0 C0 M0 b->y8.val.heap.size<=b/\b<w1.heap.size):=I (λb hb=>hO.lt hb);have s1:=bk.size;clear hO bk;go_wp2_with (fail);refine (HTD.o yV).mono ?_;rintro e w2 ⟨Gd,Lg,rfl,Zp,hTg,b2⟩;have HDB:ag (∀b,bN amC (.slice Gd ds.length ds.length) Lg b->yV.val.heap.size<=b/\b<w2.heap.size):=I (λb hb=>hTg.lt hb);have HTG:=I hTg;have CL:=I Zp;have HKX:=I (hrV.below b2 (by omega))
 replace wi:=I (wi.o.below b2)
 have s2:=b2.size;have b82:Below y8.val.heap.size y8.val w2:=b8V.trans (b2.mono b8V.size);obtain ⟨y2,rfl⟩: ∃y:ar w,w2=y.val:=⟨⟨w2,yV.ok.trans (b2.mono yV.ok.size)⟩,rfl⟩
 clear Zp hTg hrV ajI b8V b2;have p0:=HKX.o.cell 0 _ rfl;have p1:=HKX.o.cell 1 _ rfl;have p2:=HKX.o.cell 2 _ rfl;have p3:=HKX.o.cell 3 _ rfl;have p4:=HKX.o.cell 4 _ rfl;have p5:=HKX.o.cell 5 _ rfl;have HDG:=I (HID.o y2.val _ _ _ wi.o.r (am0 HTG.o CL.o HDF.o));go_wp2_with (fail);refine HDG.o.mono ?_;rintro e w3 ⟨xg,Tg,Cg,Mg,rfl,⟨Ft,m1,ft,Fb,m2,fb,Fc,m3,fc,Fm,m4,fm,rfl⟩,hWg,bk3⟩;clear HDG p0 p1 p2 p3 p4 p5;go_upto_region 12 with (fail)
 obtain ⟨V3,ql⟩: ∃X,X=w3.alloc (.cells #[.int .i64 R.day,.int .i64 R.rule,.slice Ft m1 ft,.slice Fb m2 fb,.slice Fc m3 fc,.slice Fm m4 fm] 29):=⟨_,rfl⟩
 have tJ:Below w3.heap.size w3 V3:=by rw[ql];exact (aae _ _).alloc (aad _) _
 have an1:Row V3 w3.heap.size [.int .i64 R.day,.int .i64 R.rule,.slice Ft m1 ft,.slice Fb m2 fb,.slice Fc m3 fc,.slice Fm m4 fm]:=by rw[ql];exact Row.new w3 _ _
 have Fa:w3.heap.size+1<=V3.heap.size:=by rw[ql];simp
 have b3:Below y2.val.heap.size y2.val V3:=bk3.trans (tJ.mono bk3.size);rw[<-ql];clear ql;obtain ⟨y3,rfl⟩: ∃y:ar w,V3=y.val:=⟨⟨V3,y2.ok.trans (b3.mono y2.ok.size)⟩,rfl⟩
 have RX:=I (hWg.below tJ).o;have HFG:ag (∀b,bz ⟨.slice Ft m1 ft,.slice Fb m2 fb,.slice Fc m3 fc,.slice Fm m4 fm⟩ R Tg Cg Mg b->y2.val.heap.size<=b/\b<w3.heap.size):=I (λb hb=>hWg.o.lt hb);have HKG:=I an1
 replace HKX:=I (HKX.o.below b3 (by omega))
 replace wi:=I (wi.o.below b3)
 replace HTG:=I (HTG.o.below b3)
 have s3:=bk3.size;have b83:Below y8.val.heap.size y8.val y3.val:=b82.trans (b3.mono b82.size);clear hWg an1 bk3 tJ b3 b82;have kx:=I b83;clear b83;have p0:=HKG.o.cell 0 _ rfl;have p1:=HKG.o.cell 1 _ rfl;have p2:=HKG.o.cell 2 _ rfl;have p3:=HKG.o.cell 3 _ rfl;have p4:=HKG.o.cell 4 _ rfl;have p5:=HKG.o.cell 5 _ rfl;have amN:=xT.o.below kx.o qg;have t0:=amN.cell 0 _ rfl;have t1:=amN.cell 1 _ rfl;have t2:=amN.cell 2 _ rfl;have t3:=amN.cell 3 _ rfl;have t4:=amN.cell 4 _ rfl;have t5:=amN.cell 5 _ rfl;clear amN;have nm:((N:Int) !=(N:Int))=false:=by simp
 have PI:(XE !=XE)=false:=by cases XE<;>rfl
 have HE:=I (pU R _ _ y3.val RX.o.r (OD.o.on kx.o kx.o.size));unfold eu at HE;go_wp2_with (fail);refine HE.o.mono ?_;rintro e w4 ⟨rfl,b4⟩;clear HE p0 p1 p2 p3 p4 p5 t0 t1 t2 t3 t4 t5;obtain ⟨y4,rfl⟩: ∃y:ar w,w4=y.val:=⟨⟨w4,y3.ok.trans (b4.mono y3.ok.size)⟩,rfl⟩
 replace RX:=I (RX.o.below b4)
 replace HKX:=I (HKX.o.below b4 (by omega))
 replace HKG:=I (HKG.o.below b4 (by omega))
 replace wi:=I (wi.o.below b4)
 replace HTG:=I (HTG.o.below b4)
 replace kx:=I (kx.o.trans (b4.mono kx.o.size))
 have s4:=b4.size;clear b4;go_upto_region 14 with (fail)
 have HCX:ag (∀W',Below y4.val.heap.size y4.val W'->W'.cell? ⟨w1.heap.size,0,none⟩=some (.int .i64 a.day)/\W'.cell? ⟨w1.heap.size,1,none⟩=some (.int .i64 a.rule)/\W'.cell? ⟨w1.heap.size,2,none⟩=some (.slice Bt a.af.length dt)/\W'.cell? ⟨w1.heap.size,3,none⟩=some (.slice Bb a.base.length db)/\W'.cell? ⟨w1.heap.size,4,none⟩=some (.slice Bc a.av.length dc)/\W'.cell? ⟨w1.heap.size,5,none⟩=some (.slice Bm a.ao.length dm)):=I (λW' h=>by have r:=HKX.o.below h (by omega);exact ⟨r.cell 0 _ rfl,r.cell 1 _ rfl,r.cell 2 _ rfl,r.cell 3 _ rfl,r.cell 4 _ rfl,r.cell 5 _ rfl⟩);refine dq 3 (λw'=>w'.cell? ⟨w1.heap.size,0,none⟩=some (.int .i64 a.day)/\w'.cell? ⟨w1.heap.size,1,none⟩=some (.int .i64 a.rule)/\w'.cell? ⟨w1.heap.size,2,none⟩=some (.slice Bt a.af.length dt)/\w'.cell? ⟨w1.heap.size,3,none⟩=some (.slice Bb a.base.length db)/\w'.cell? ⟨w1.heap.size,4,none⟩=some (.slice Bc a.av.length dc)/\w'.cell? ⟨w1.heap.size,5,none⟩=some (.slice Bm a.ao.length dm)) (by kernel_rfl) ?_;obtain ⟨y5,hy5⟩: ∃y:ar w,y.val=y4.val.drew:=⟨⟨y4.val.drew,y4.ok.drew⟩,rfl⟩
 have b5:Below y4.val.heap.size y4.val y5.val:=by rw[hy5];exact (aae _ _).drew
 rw[<-hy5];clear hy5;have aE:=HCX.o _ b5;refine cl 0 ?_
 try simp only[Act.put,aK,aM]
 clear aE;have hH:=dl.o y5;refine cV 1 (λK hK=>?_)
 try simp only[aK]
 go_simp;refine hK.out _ _ (λ_=>HCX.o _ b5) ?_;clear hK K
 try simp only[Act.put,aM]
 clear hH;refine cV 2 (λK hK=>?_)
 try simp only[aK]
 go_simp;go_at_call 27;refine (Hn.o y5).mono ?_;rintro e w6 ⟨x'',T9,C9,M9,rfl,hO9,aja⟩;obtain ⟨Ht,ht,Hb,hb,Hc,hc,Hm,hm,rfl⟩:=hO9.r.slices;have b46:Below y4.val.heap.size y4.val w6:=b5.trans (aja.mono b5.size);have HE:=I (pU a _ _ w6 (wi.o.below b46).r hO9.r);unfold eu at HE;refine hK.out _ _ (λ_=>HCX.o _ b46) ?_;clear hK K
 try simp only[]
 refine cV 3 (λK hK=>?_)
 try simp only[aK]
 go_simp;go_at_call 30;refine HE.o.mono ?_;rintro e w7 ⟨rfl,b7⟩;have b47:Below y4.val.heap.size y4.val w7:=b46.trans (b7.mono b46.size);refine hK.out _ _ (λh=>by simp at h) ?_;clear hK K
 try simp only[Act.put,aM]
 refine cV 4 (λK hK=>?_)
 try simp only[aK]
 go_simp;refine hK.out _ _ (λh=>by simp at h) ?_;clear hK K
 try simp only[Act.put,aM]
 refine dh (by kernel_rfl) ?_ _;clear HE HCX hO9 b7 aja b46 b5;obtain ⟨y7,rfl⟩: ∃y:ar w,w7=y.val:=⟨⟨w7,y4.ok.trans (b47.mono y4.ok.size)⟩,rfl⟩
 replace RX:=I (RX.o.below b47)
 replace HKX:=I (HKX.o.below b47 (by omega))
 replace HKG:=I (HKG.o.below b47 (by omega))
 replace wi:=I (wi.o.below b47)
 replace HTG:=I (HTG.o.below b47)
 replace kx:=I (kx.o.trans (b47.mono kx.o.size))
 have s7:=b47.size;clear b47;go_upto_region 16 with (fail)
 go_wp2_with (fail);refine (HTD.o y7).mono ?_;rintro e w6 ⟨Hd,Lh,rfl,hmh,hTh,aja⟩;have HE:=I (ani ds Gd _ ds.length Hd _ ds.length w6 (am0 (HTG.o.below aja) CL.o HDF.o) (am0 hTh hmh HDF.o));clear hmh hTh;go_wp2_with (fail);refine HE.o.mono ?_;rintro e w9 ⟨rfl,b7⟩;have b47:Below y7.val.heap.size y7.val w9:=aja.trans (b7.mono aja.size)
 replace RX:=I (RX.o.below b47)
 replace HTG:=I (HTG.o.below b47)
 replace HKX:=I (HKX.o.below b47 (by omega))
 replace HKG:=I (HKG.o.below b47 (by omega))
 replace wi:=I (wi.o.below b47)
 replace kx:=I (kx.o.trans (b47.mono kx.o.size))
 have s9:=b47.size;clear HE aja b7 b47;have p0:=HKX.o.cell 0 _ rfl;have p1:=HKX.o.cell 1 _ rfl;have p2:=HKX.o.cell 2 _ rfl;have p3:=HKX.o.cell 3 _ rfl;have p4:=HKX.o.cell 4 _ rfl;have p5:=HKX.o.cell 5 _ rfl;go_wp2_with (fail);have hTF:=Mu.o.Rb wi.o.tm wi.o.cm wi.o.mm;obtain ⟨Mk,an2⟩:=anJ hTF;refine (uc a _ T0 C0 M0 _ 1 w9 wi.o hTF (by omega) (by omega)).mono ?_;rintro e Ti ⟨rfl,-,tX⟩;generalize tq 1 a T0 C0 M0=kk at*
 replace HKG:=I (HKG.o.aD (by omega) tX (λe=>by have:=HFX.o _ e;omega))
 replace HTG:=I (HTG.o.aD tX (λb hb e=>by have q1:=HDB.o b hb;have q2:=HFX.o _ e;omega))
 replace RX:=I (RX.o.aD tX (λb hb e=>by have q1:=HFG.o b hb;have q2:=HFX.o _ e;omega))
 replace kx:=I (kx.o.trans (tX.below kx.o.size (λb hb=>(HFX.o b hb).1)))
 have s10:=tX.size;clear tX hTF wi HKX p0 p1 p2 p3 p4 p5;have HKK:=I (And.intro Mk an2);clear Mk an2;go_wp2_with (fail);refine (am3 Lg _ _ kk Ti HTG.o (λx hx=>by have hd:=HDF.o x.a (by rw[<-CL.o];exact abV hx);exact ⟨hd.1,hd.2.2.1⟩) (by have:=congrArg List.length CL.o;rw[aap]at this;omega) HKK.o.1 HKK.o.2).mono ?_;rintro e KX ⟨rfl,-,tX⟩;have xz: ¬((bs amD kk Lg:Nat):Int)<0:=by omega
 generalize bs amD kk Lg=kn at*
 replace HKG:=I (HKG.o.aD (by omega) tX (λe=>by have:=HDB.o _ e;omega))
 replace RX:=I (RX.o.aD tX (λb hb e=>by have q1:=HFG.o b hb;have q2:=HDB.o _ e;omega))
 replace kx:=I (kx.o.trans (tX.below kx.o.size (λb hb=>by have q2:=HDB.o _ hb;omega)))
 have Tz:=tX.size;clear tX HTG;have p0:=HKG.o.cell 0 _ rfl;have p1:=HKG.o.cell 1 _ rfl;have p2:=HKG.o.cell 2 _ rfl;have p3:=HKG.o.cell 3 _ rfl;have p4:=HKG.o.cell 4 _ rfl;have p5:=HKG.o.cell 5 _ rfl;have amN:=xT.o.below kx.o qg;have t0:=amN.cell 0 _ rfl;have t1:=amN.cell 1 _ rfl;have t2:=amN.cell 2 _ rfl;have t3:=amN.cell 3 _ rfl;have t4:=amN.cell 4 _ rfl;have t5:=amN.cell 5 _ rfl;clear amN;have HE:=I (pU R _ _ KX RX.o.r (OD.o.on kx.o kx.o.size));unfold eu at HE;go_wp2_with (fail);refine HE.o.mono ?_;rintro e Tj ⟨rfl,b4⟩;clear HE p0 p1 p2 p3 p4 p5 t0 t1 t2 t3 t4 t5 xz
 replace HKG:=I (HKG.o.below b4 (by omega))
 replace RX:=I (RX.o.below b4)
 replace kx:=I (kx.o.trans (b4.mono kx.o.size))
 have TA:=b4.size;clear b4;obtain ⟨hTF,NY,l1,l3,l4⟩:=Jv.o.marks RX.o.tm RX.o.cm RX.o.mm;have p0:=HKG.o.cell 0 _ rfl;have p1:=HKG.o.cell 1 _ rfl;have p2:=HKG.o.cell 2 _ rfl;have p3:=HKG.o.cell 3 _ rfl;have p4:=HKG.o.cell 4 _ rfl;have p5:=HKG.o.cell 5 _ rfl;go_wp2_with (fail);refine (uc R _ Tg Cg Mg _ 1 Tj RX.o hTF (by omega) (by omega)).mono ?_;rintro e w13 ⟨rfl,hM,tX⟩
 replace HKG:=I (HKG.o.aD (by omega) tX (λe=>by have:=HFG.o _ e;omega))
 replace kx:=I (kx.o.trans (tX.below kx.o.size (λb hb=>by have q2:=HFG.o _ hb;omega)))
 have XD:=tX.size;have HM:=I hM;have HHD:=I (λW' (h:Below w13.heap.size w13 W')=>ang R ⟨.slice Ft m1 ft,.slice Fb m2 fb,.slice Fc m3 fc,.slice Fm m4 fm⟩ Tg Cg Mg _ W' R.day R.rule (HM.o.below h) (by omega) (by have:=Jv.o.b0;omega) (by omega) (by omega) NY);clear tX hTF hM RX p0 p1 p2 p3 p4 p5 l1 l3 l4 NY;generalize tq 1 R Tg Cg Mg=ee at*;have E': ¬((ee:Nat):Int)<0:=by omega
 have heq:(((ee:Nat):Int) !=((ee:Nat):Int))=false:=by simp
 have p0:=HKG.o.cell 0 _ rfl;have p1:=HKG.o.cell 1 _ rfl;have p2:=HKG.o.cell 2 _ rfl;have p3:=HKG.o.cell 3 _ rfl;have p4:=HKG.o.cell 4 _ rfl;have p5:=HKG.o.cell 5 _ rfl;go_wp2_with (fail);refine (HHD.o w13 (aae _ _)).mono ?_;rintro e w14 ⟨rfl,b4⟩;have an3:=I b4
 replace HKG:=I (HKG.o.below b4 (by omega))
 replace kx:=I (kx.o.trans (b4.mono kx.o.size))
 have s14:=b4.size;clear b4 p0 p1 p2 p3 p4 p5;go_upto_region 31 with (fail)
 have an4:Below w.heap.size w w14:=y8.ok.trans (kx.o.mono y8.ok.size);obtain ⟨y14,rfl⟩: ∃y:ar w,w14=y.val:=⟨⟨w14,an4⟩,rfl⟩
 clear an4;have hH:=dl.o y14;go_wp2_with (fail);clear hH;refine (Hn.o y14).mono ?_;rintro e w15 ⟨Yy,T5,C5,M5,rfl,hO5,b15⟩;obtain ⟨Lt,lt,Lb,lb,Lc,lc,Lm,lm,rfl⟩:=hO5.r.slices;have HQ5:=I hO5.r;have an5:=I b15;obtain ⟨y15,rfl⟩: ∃y:ar w,w15=y.val:=⟨⟨w15,y14.ok.trans (b15.mono y14.ok.size)⟩,rfl⟩
 clear hO5 b15;go_wp2_with (fail);refine (HTD.o y15).mono ?_;rintro e w16 ⟨Ae,Le,rfl,hme,hTe,b16⟩;have HQS:=I (HID.o w16 _ _ _ (HQ5.o.on b16 b16.size) (am0 hTe hme HDF.o));have an6:=I (an5.o.trans (b16.mono an5.o.size));clear hme hTe b16 HQ5;go_wp2_with (fail);refine HQS.o.mono ?_;rintro e w17 ⟨xh,Th,Ch,Mh,rfl,⟨Jt,j1,jt,Jb,j2,jb,Jc,j3,jc,Jm,j4,jm,rfl⟩,hWh,b17⟩;have an7:=I (an6.o.trans (b17.mono an6.o.size));clear HQS;go_upto_region 32 with (fail)
 obtain ⟨wc,hwc⟩: ∃X,X=w17.alloc (.cells #[.int .i64 R.day,.int .i64 R.rule,.slice Jt j1 jt,.slice Jb j2 jb,.slice Jc j3 jc,.slice Jm j4 jm] 29):=⟨_,rfl⟩
 have bwc:Below w17.heap.size w17 wc:=by rw[hwc];exact (aae _ _).alloc (aad _) _
 have hk:Row wc w17.heap.size [.int .i64 R.day,.int .i64 R.rule,.slice Jt j1 jt,.slice Jb j2 jb,.slice Jc j3 jc,.slice Jm j4 jm]:=by rw[hwc];exact Row.new w17 _ _
 have hr:=hWh.o.r.on bwc bwc.size;have hb:Below y14.val.heap.size y14.val wc:=an7.o.trans (bwc.mono an7.o.size);rw[<-hwc];have xS:=I hb;have B8:=kx.o.trans (hb.mono kx.o.size);have amN:=xT.o.below B8 qg;have p0:=hk.cell 0 _ rfl;have p1:=hk.cell 1 _ rfl;have p2:=hk.cell 2 _ rfl;have p3:=hk.cell 3 _ rfl;have p4:=hk.cell 4 _ rfl;have p5:=hk.cell 5 _ rfl;have t0:=amN.cell 0 _ rfl;have t1:=amN.cell 1 _ rfl;have t2:=amN.cell 2 _ rfl;have t3:=amN.cell 3 _ rfl;have t4:=amN.cell 4 _ rfl;have t5:=amN.cell 5 _ rfl;have HE:=I (pU R _ _ wc hr (OD.o.on B8 B8.size));unfold eu at HE;clear amN B8 hk hr hb hwc bwc hWh b17;go_wp2_with (fail);refine HE.o.mono ?_;rintro e w20 ⟨rfl,b20⟩;clear HE p0 p1 p2 p3 p4 p5 t0 t1 t2 t3 t4 t5;have anN:=I (xS.o.trans (b20.mono xS.o.size));have anp:=HKG.o.below anN.o (by omega);have p0:=anp.cell 0 _ rfl;have p1:=anp.cell 1 _ rfl;have p2:=anp.cell 2 _ rfl;have p3:=anp.cell 3 _ rfl;have p4:=anp.cell 4 _ rfl;have p5:=anp.cell 5 _ rfl;clear anp b20;go_wp2_with (fail);refine (HHD.o w20 (an3.o.trans (anN.o.mono an3.o.size))).mono ?_;rintro e w21 ⟨rfl,b21⟩;have eB:ag (Below w0.heap.size w0 w21):=I (mS.o ⟨w21,(y14.ok.trans (anN.o.mono y14.ok.size)).trans (b21.mono (aaB y14.ok.size anN.o.size))⟩);clear b21 p0 p1 p2 p3 p4 p5;go_wp2;go_ret;exact ⟨rfl,eB.o⟩
end Go.Proofs.YtbcggaldkihcaaaGreat
