/- FnDeedTexts, walked. -/
import Derived.Test.YtbcggaldkihcaaaGreatDoorZe
import Derived.Test.YtbcggaldkihcaaaGreatDoorJx
import Derived.Test.YtbcggaldkihcaaaGreatDoorJy
import Derived.Test.YtbcggaldkihcaaaGreatDoorRK
import Derived.Test.YtbcggaldkihcaaaGreatDoorQD
set_option maxHeartbeats 8000000
set_option maxRecDepth 100000
namespace Go.Proofs.YtbcggaldkihcaaaGreatDoor
open Tryz
open Go.RowKit Go.Lib
theorem aoF (A1:Option Addr) (n1 c1:Nat) (A2:Option Addr) (n2 c2:Nat) (w:World) (Ky:za w w.heap.size A1 n1) (hE:aaG w.heap.size w):
 Calls prog 3 #[.slice A1 n1 c1,.slice A2 n2 c2] w (bT (.bool true) w):=by
 by_cases hl:n1<=1048576/\n2<=1048576
 ·have HL:=I (ahg A1 n1 c1 A2 n2 c2 w hl.1 hl.2);have HS:=I (λm=>aot A1 n1 c1 (w.drewN m) Ky);have E:=I hE;clear hl Ky hE;go_enter func3,ntmps3;go_wp2_with (fail);refine (HL.o).mono ?_;rintro e w1 ⟨rfl,m1,rfl⟩;go_wp2_with (fail);refine (HS.o m1).mono ?_;rintro e w2 ⟨x,a,T,C,M,v,qs,c,rfl,yH,-,-,hvn,hds,aoJ,cy,-,-,hb⟩;obtain ⟨At,aoy,ct,Ab,B4,cb,Ac,aoz,L4,Am,aoA,L1,rfl⟩:=yH;obtain ⟨A,Vv,rfl,Oz,nj⟩:=hds.len;unfold eu;go_upto_region 4 with (fail)
  obtain ⟨w3,LV⟩: ∃X,X=w2.alloc (.cells #[.int .i64 a.day,.int .i64 a.rule,.slice At aoy ct,.slice Ab B4 cb,.slice Ac aoz L4,.slice Am aoA L1] 29):=⟨_,rfl⟩
  have b3:Below w2.heap.size w2 w3:=by rw[LV];exact (Below.refl _ _).alloc (Nat.le_refl _) _
  rw[<-LV];clear LV;have dI:ag (Below w.heap.size w w3):=I (((below_drewN (Below.refl w.heap.size w) m1).trans hb).trans (b3.mono ((below_drewN (Below.refl w.heap.size w) m1).trans hb).size));have anT:ag (∀W,Below w3.heap.size w3 W->aa3 W W.heap.size (.slice A qs.length Vv) (qs.map Bb.d)):=I (λW hW=>(hds.below (b3.trans (hW.mono b3.size))).ana)
  have aoH:ag (∀d∈qs.map Bb.d,cA d=true):=I (λd hd=>by
   obtain ⟨q,hq,rfl⟩:=List.mem_map.1 hd;exact cy q hq)
  have hlen:qs.length=(qs.map Bb.d).length:=by rw[List.length_map]
  rw[hlen]at anT aoJ⊢;generalize qs.map Bb.d=ds at*;have HDS:=anT;have ii:=aoH;have jS:ag (∀W,Below w3.heap.size w3 W->aaG W.heap.size W):=I (λW hW=>(E.o.on (dI.o.trans (hW.mono dI.o.size))).more (Nat.le_trans dI.o.size hW.size))
  have aoI:ag (∀W,Below w3.heap.size w3 W->Calls prog 7 #[.agg #[.int .i64 4,.int .i64 0,.slice none 0 0,.string ⟨#[]⟩,.int .i64 0,.slice none 0 0,.int .i64 0,.int .i64 0,.int .i64 0]] W (bT (.tuple #[.string ⟨#[110,101,120,116]⟩,.bool true]) W)):=I (λW hW=>by
   have q:=aai ⟨4,0,[],⟨#[]⟩,0,[],0,0,0⟩ none 0 none 0 W (cz.nil _ _ _ _ _ _ (Nat.zero_le _)) (cz.nil _ _ _ _ _ _ (Nat.zero_le _)) (λe he=>by cases he) (by show (⟨#[]⟩:ByteArray).size<=maxLen;decide) (jS.o W hW).env;have ok:cA ⟨4,0,[],⟨#[]⟩,0,[],0,0,0⟩=true:=by unfold cA;simp[ByteArray.toList_eq]
   rw[afj ok,ok]at q;exact q)
  have hm9:ds.length<=9223372036854775807:=by omega
  clear hds cy hb b3 hlen Oz nj hvn anT aoH;go_wp2;go_loopw [7] (λi wr=> ∃k:Nat,k<=ds.length/\i= .int .i64 (k:Int)/\Below w3.heap.size w3 wr) (λi _=>ds.length-(RowKit.intOf i).toNat);case atStart=>exact ⟨0,Nat.zero_le _,rfl,Below.refl _ _⟩
  case round=>
   obtain ⟨k,hk,rfl,hbr⟩:=hrel;have rj:=I hbr;clear hbr;by_cases aI:k<ds.length
   ·have aH:ds[k]?=some ds[k]:=List.getElem?_eq_getElem aI;have aoG:=ii.o ds[k] (List.getElem_mem aI);generalize ds[k]=d at*;obtain ⟨b,off,b7,d1,aoB,q1,rfl,hb,hP⟩:=aa4 (HDS.o wr rj.o) aH;have hT:=aai d b7 d1 aoB q1 wr hP.ints hP.fF hP.sizes hP.al (jS.o wr rj.o).env;rw[afj aoG,aoG]at hT;have HT:=I hT;have HP:=I hP;have lr:=I hP.sizes;have gQ:=I hP.al;have yh:=aam aoG;have Fh:=I (aaA aoG);have HRD:ag (∀W,Below w3.heap.size w3 W->Calls prog 8 #[.string ⟨(H6 d).toArray⟩] W (aaz (H6 d) W)):=I (λW hW=>ab4 ⟨(H6 d).toArray⟩ W (by simp[ByteArray.size];omega) (jS.o W hW));have aii:=I aoG;have z0:=hP.k0;have z1:=hP.k1;have z2:=hP.k2;have z3:=hP.k3;have z4:=hP.k4;have z5:=hP.k5;have z6:=hP.k6;have z7:=hP.k7;have z8:=hP.k8;generalize H6 d=B3 at*;clear hT hP aoG yh aH;go_wp2_with (fail);refine HT.o.mono ?_;rintro e w4 ⟨rfl,b4⟩;clear z0 z1 z2 z3 z4 z5 z6 z7 z8;have kC:=I (rj.o.trans (b4.mono rj.o.size));go_wp2_with (fail);refine (HRD.o w4 kC.o).mono ?_;rintro e w5 ⟨B1,e1,B2,e2,rfl,o1,o2,aoC⟩;rw[Fh.o]at o1 o2⊢;simp only[Option.getD_some,Option.isSome_some]at o1 o2⊢;unfold aaD;go_upto_region 9 with (fail)
    obtain ⟨w6,xj⟩: ∃X,X=w5.alloc (.cells #[.int .i64 d.kind,.int .i64 d.member,.slice B1 d.af.length e1,.string d.al,.int .i64 d.bO,.slice B2 d.patch.length e2,.int .i64 d.start,.int .i64 d.aB,.int .i64 d.aj] 38):=⟨_,rfl⟩
    have r6:Row w6 w5.heap.size (W2 d B1 e1 B2 e2):=by rw[xj];exact Row.new _ _ _
    have aja:Below w5.heap.size w5 w6:=by rw[xj];exact (Below.refl _ _).alloc (Nat.le_refl _) _
    have s6:w5.heap.size<w6.heap.size:=by rw[xj];simp
    rw[<-xj];clear xj;have b46:Below wr.heap.size wr w6:=b4.trans ((aoC.trans (aja.mono aoC.size)).mono b4.size);have xS:ag (Below w3.heap.size w3 w6):=I (rj.o.trans (b46.mono rj.o.size));have jh:ag (∀W,Below w6.heap.size w6 W->aae W W.heap.size (.slice B1 d.af.length e1) d.af):=I (λW hW=>(o1.on (aja.trans (hW.mono aja.size))).mo (size:=1) λ_=>rfl);have ju:ag (∀W,Below w6.heap.size w6 W->bg W W.heap.size (.slice B2 d.patch.length e2) d.patch):=I (λW hW=>(o2.on (aja.trans (hW.mono aja.size))).mo (size:=4) λ_=>rfl);have HPW:ag (∀W,Below w6.heap.size w6 W->fp W b (off+k*9) d b7 d1 aoB q1):=I (λW hW=>HP.o.km ⟨W,b46.trans (hW.mono b46.size)⟩);have fs:ag (∀W,Below w6.heap.size w6 W->aae W W.heap.size (.slice b7 d.af.length d1) d.af):=I (λW hW=>HP.o.ints.on (Pl.stays _) (b46.trans (hW.mono b46.size)) (b46.trans (hW.mono b46.size)).size);have ie:ag (∀W,Below w6.heap.size w6 W->bg W W.heap.size (.slice aoB d.patch.length q1) d.patch):=I (λW hW=>HP.o.fF.on (Pl.stays _) (b46.trans (hW.mono b46.size)) (b46.trans (hW.mono b46.size)).size)
    have HVD:ag (∀W,Below w6.heap.size w6 W->Calls prog 10 #[.agg #[.int .i64 d.kind,.int .i64 d.member,.slice B1 d.af.length e1,.string d.al,.int .i64 d.bO,.slice B2 d.patch.length e2,.int .i64 d.start,.int .i64 d.aB,.int .i64 d.aj]] W (bT (.bool true) W)):=I (λW hW=>by
     have:=Fs d B1 e1 B2 e2 W (jh.o W hW) (ju.o W hW) lr.o gQ.o;rw[aii.o]at this;exact this)
    have dl:ag (∀W,Below w6.heap.size w6 W->(W.cell? ⟨w5.heap.size,0,none⟩=some (.int .i64 d.kind)/\W.cell? ⟨w5.heap.size,1,none⟩=some (.int .i64 d.member)/\W.cell? ⟨w5.heap.size,2,none⟩=some (.slice B1 d.af.length e1)/\W.cell? ⟨w5.heap.size,3,none⟩=some (.string d.al)/\W.cell? ⟨w5.heap.size,4,none⟩=some (.int .i64 d.bO)/\W.cell? ⟨w5.heap.size,5,none⟩=some (.slice B2 d.patch.length e2)/\W.cell? ⟨w5.heap.size,6,none⟩=some (.int .i64 d.start)/\W.cell? ⟨w5.heap.size,7,none⟩=some (.int .i64 d.aB)/\W.cell? ⟨w5.heap.size,8,none⟩=some (.int .i64 d.aj))/\
     (W.cell? ⟨b,off+k*9,none⟩=some (.int .i64 d.kind)/\W.cell? ⟨b,off+k*9+1,none⟩=some (.int .i64 d.member)/\W.cell? ⟨b,off+k*9+2,none⟩=some (.slice b7 d.af.length d1)/\W.cell? ⟨b,off+k*9+3,none⟩=some (.string d.al)/\W.cell? ⟨b,off+k*9+4,none⟩=some (.int .i64 d.bO)/\W.cell? ⟨b,off+k*9+5,none⟩=some (.slice aoB d.patch.length q1)/\W.cell? ⟨b,off+k*9+6,none⟩=some (.int .i64 d.start)/\W.cell? ⟨b,off+k*9+7,none⟩=some (.int .i64 d.aB)/\W.cell? ⟨b,off+k*9+8,none⟩=some (.int .i64 d.aj))):=I (λW hW=>by
     have r:=r6.below hW s6;have p:=HPW.o W hW;exact ⟨⟨r.cell 0 _ rfl,r.cell 1 _ rfl,r.cell 2 _ rfl,r.cell 3 _ rfl,r.cell 4 _ rfl,r.cell 5 _ rfl,r.cell 6 _ rfl,r.cell 7 _ rfl,r.cell 8 _ rfl⟩,p.k0,p.k1,p.k2,p.k3,p.k4,p.k5,p.k6,p.k7,p.k8⟩)
    clear b4 aoC aja b46 o1 o2 r6 HT HRD HP Fh hb;have jo:Below w6.heap.size w6 w6:=Below.refl _ _
    refine wp_region_held_drew (S:=λW=>(W.cell? ⟨w5.heap.size,0,none⟩=some (.int .i64 d.kind)/\W.cell? ⟨w5.heap.size,1,none⟩=some (.int .i64 d.member)/\W.cell? ⟨w5.heap.size,2,none⟩=some (.slice B1 d.af.length e1)/\W.cell? ⟨w5.heap.size,3,none⟩=some (.string d.al)/\W.cell? ⟨w5.heap.size,4,none⟩=some (.int .i64 d.bO)/\W.cell? ⟨w5.heap.size,5,none⟩=some (.slice B2 d.patch.length e2)/\W.cell? ⟨w5.heap.size,6,none⟩=some (.int .i64 d.start)/\W.cell? ⟨w5.heap.size,7,none⟩=some (.int .i64 d.aB)/\W.cell? ⟨w5.heap.size,8,none⟩=some (.int .i64 d.aj))/\
     (W.cell? ⟨b,off+k*9,none⟩=some (.int .i64 d.kind)/\W.cell? ⟨b,off+k*9+1,none⟩=some (.int .i64 d.member)/\W.cell? ⟨b,off+k*9+2,none⟩=some (.slice b7 d.af.length d1)/\W.cell? ⟨b,off+k*9+3,none⟩=some (.string d.al)/\W.cell? ⟨b,off+k*9+4,none⟩=some (.int .i64 d.bO)/\W.cell? ⟨b,off+k*9+5,none⟩=some (.slice aoB d.patch.length q1)/\W.cell? ⟨b,off+k*9+6,none⟩=some (.int .i64 d.start)/\W.cell? ⟨b,off+k*9+7,none⟩=some (.int .i64 d.aB)/\W.cell? ⟨b,off+k*9+8,none⟩=some (.int .i64 d.aj))) (by kernel_rfl) (dl.o _ jo.drew) (λaE=>?_)
    have yP:Below w6.heap.size w6 w6.drew:=jo.drew;obtain ⟨V,hV⟩: ∃V,V=w6.drew:=⟨_,rfl⟩
    rw[<-hV]at yP aE⊢;clear hV jo;refine aZ 0 ?_
    try simp only[Act.put,aK,aM]
    refine aZ 1 ?_
    try simp only[Act.put,aK,aM]
    refine aZ 2 ?_
    try simp only[Act.put,aK,aM]
    refine aZ 3 ?_
    try simp only[Act.put,aK,aM]
    refine aZ 4 ?_
    try simp only[Act.put,aK,aM]
    refine aZ 5 ?_
    try simp only[Act.put,aK,aM]
    refine aZ 6 ?_
    try simp only[Act.put,aK,aM]
    refine aZ 7 ?_
    try simp only[Act.put,aK,aM]
    refine aZ 9 ?_
    try simp only[Act.put,aK,aM]
    refine aZ 10 ?_
    try simp only[Act.put,aK,aM]
    refine aZ 11 ?_
    try simp only[Act.put,aK,aM]
    refine aZ 12 ?_
    try simp only[Act.put,aK,aM]
    refine wpAnyH_ready (rs:=[8,13]) (by kernel_rfl) (by simp) ?_;refine AllReadyH.cons rfl (λK hK=>?_) (AllReadyH.cons rfl (λK hK=>?_) AllReadyH.nil)
    ·
     try simp only[aK]
     go_simp;have gl:Below w6.heap.size w6 (V.alloc (.cells #[.int .i64 d.kind,.int .i64 d.member,.slice B1 d.af.length e1,.string d.al,.int .i64 d.bO,.slice B2 d.patch.length e2,.int .i64 d.start,.int .i64 d.aB,.int .i64 d.aj] 38)):=yP.alloc yP.size _;refine hK.out _ _ (dl.o _ gl) (λau=>?_);clear hK K aE;have aE:=au;clear au
     try simp only[Act.put,aM]
     have xk:Below V.heap.size V (V.alloc (.cells #[.int .i64 d.kind,.int .i64 d.member,.slice B1 d.af.length e1,.string d.al,.int .i64 d.bO,.slice B2 d.patch.length e2,.int .i64 d.start,.int .i64 d.aB,.int .i64 d.aj] 38)):=(Below.refl _ _).alloc (Nat.le_refl _) _;have Kg:V.heap.size<(V.alloc (.cells #[.int .i64 d.kind,.int .i64 d.member,.slice B1 d.af.length e1,.string d.al,.int .i64 d.bO,.slice B2 d.patch.length e2,.int .i64 d.start,.int .i64 d.aB,.int .i64 d.aj] 38)).heap.size:=by simp
     have rV1:Row (V.alloc (.cells #[.int .i64 d.kind,.int .i64 d.member,.slice B1 d.af.length e1,.string d.al,.int .i64 d.bO,.slice B2 d.patch.length e2,.int .i64 d.start,.int .i64 d.aB,.int .i64 d.aj] 38)) V.heap.size (W2 d B1 e1 B2 e2):=Row.new _ _ _;obtain ⟨V1,pH⟩: ∃X,X=V.alloc (.cells #[.int .i64 d.kind,.int .i64 d.member,.slice B1 d.af.length e1,.string d.al,.int .i64 d.bO,.slice B2 d.patch.length e2,.int .i64 d.start,.int .i64 d.aB,.int .i64 d.aj] 38):=⟨_,rfl⟩
     rw[<-pH]at gl xk Kg rV1 aE⊢;clear pH;refine wpAnyH_ready (rs:=[13]) (by kernel_rfl) (by simp) ?_;refine AllReadyH.cons rfl (λK hK=>?_) AllReadyH.nil
     try simp only[aK]
     go_simp;have ey:Below w6.heap.size w6 (V1.alloc (.cells #[.int .i64 d.kind,.int .i64 d.member,.slice b7 d.af.length d1,.string d.al,.int .i64 d.bO,.slice aoB d.patch.length q1,.int .i64 d.start,.int .i64 d.aB,.int .i64 d.aj] 38)):=gl.alloc gl.size _;refine hK.out _ _ (dl.o _ ey) (λau=>?_);clear hK K aE;have aE:=au;clear au
     try simp only[Act.put,aM]
     have tK:Below V1.heap.size V1 (V1.alloc (.cells #[.int .i64 d.kind,.int .i64 d.member,.slice b7 d.af.length d1,.string d.al,.int .i64 d.bO,.slice aoB d.patch.length q1,.int .i64 d.start,.int .i64 d.aB,.int .i64 d.aj] 38)):=(Below.refl _ _).alloc (Nat.le_refl _) _;have Ex:V1.heap.size<(V1.alloc (.cells #[.int .i64 d.kind,.int .i64 d.member,.slice b7 d.af.length d1,.string d.al,.int .i64 d.bO,.slice aoB d.patch.length q1,.int .i64 d.start,.int .i64 d.aB,.int .i64 d.aj] 38)).heap.size:=by simp
     have rV2:Row (V1.alloc (.cells #[.int .i64 d.kind,.int .i64 d.member,.slice b7 d.af.length d1,.string d.al,.int .i64 d.bO,.slice aoB d.patch.length q1,.int .i64 d.start,.int .i64 d.aB,.int .i64 d.aj] 38)) V1.heap.size (W2 d b7 d1 aoB q1):=Row.new _ _ _;obtain ⟨V2,mi⟩: ∃X,X=V1.alloc (.cells #[.int .i64 d.kind,.int .i64 d.member,.slice b7 d.af.length d1,.string d.al,.int .i64 d.bO,.slice aoB d.patch.length q1,.int .i64 d.start,.int .i64 d.aB,.int .i64 d.aj] 38):=⟨_,rfl⟩
     rw[<-mi]at ey tK Ex rV2 aE⊢;clear mi;have X6:=I (aoE [d] _ 1 1 _ 1 1 V2 (aoD (rV1.below tK Kg) (Nat.lt_trans Kg Ex) (jh.o V2 ey) (ju.o V2 ey) lr.o gQ.o (by omega) (by unfold maxLen;omega)) (aoD rV2 Ex (fs.o V2 ey) (ie.o V2 ey) lr.o gQ.o (by omega) (by unfold maxLen;omega)));refine wpAnyH_ready (rs:=[14]) (by kernel_rfl) (by simp) ?_;refine AllReadyH.cons rfl (λK hK=>?_) AllReadyH.nil
     try simp only[aK]
     go_simp;go_at_call 9;refine X6.o.mono ?_;rintro e V3 ⟨rfl,b3⟩;have eh:Below w6.heap.size w6 V3:=ey.trans (b3.mono ey.size);refine hK.out _ _ (dl.o _ eh) (λau=>?_);clear hK K aE;have aE:=au;clear au
     try simp only[Act.put,aM]
     refine aZ 15 ?_
     try simp only[Act.put,aK,aM]
     refine aZ 16 ?_
     try simp only[Act.put,aK,aM]
     refine aZ 17 ?_
     try simp only[Act.put,aK,aM]
     refine aZ 18 ?_
     try simp only[Act.put,aK,aM]
     refine wpAnyH_ready (rs:=[19]) (by kernel_rfl) (by simp) ?_;refine AllReadyH.cons rfl (λK hK=>?_) AllReadyH.nil
     try simp only[aK]
     go_simp;go_at_call 10;refine (HVD.o V3 eh).mono ?_;rintro e V4 ⟨rfl,b4⟩;have kb:Below w6.heap.size w6 V4:=eh.trans (b4.mono eh.size);refine hK.out _ _ (dl.o _ kb) (λau=>?_);clear hK K aE;have aE:=au;clear au
     try simp only[Act.put,aM]
     refine aZ 20 ?_
     try simp only[Act.put,aK,aM]
     refine aZ 21 ?_
     try simp only[Act.put,aK,aM]
     refine wpAnyH_done (by kernel_rfl) ?_ _;have hbr:Below w3.heap.size w3 V4:=xS.o.trans (kb.mono xS.o.size);clear aE;go_wp2;go_roundw;case rel=>exact ⟨k+1,by omega,by go_num,hbr⟩
     case measure=>simp[RowKit.intOf];omega
    
    try simp only[aK]
    go_simp;have gl:Below w6.heap.size w6 (V.alloc (.cells #[.int .i64 d.kind,.int .i64 d.member,.slice b7 d.af.length d1,.string d.al,.int .i64 d.bO,.slice aoB d.patch.length q1,.int .i64 d.start,.int .i64 d.aB,.int .i64 d.aj] 38)):=yP.alloc yP.size _;refine hK.out _ _ (dl.o _ gl) (λau=>?_);clear hK K aE;have aE:=au;clear au
    try simp only[Act.put,aM]
    have xk:Below V.heap.size V (V.alloc (.cells #[.int .i64 d.kind,.int .i64 d.member,.slice b7 d.af.length d1,.string d.al,.int .i64 d.bO,.slice aoB d.patch.length q1,.int .i64 d.start,.int .i64 d.aB,.int .i64 d.aj] 38)):=(Below.refl _ _).alloc (Nat.le_refl _) _;have Kg:V.heap.size<(V.alloc (.cells #[.int .i64 d.kind,.int .i64 d.member,.slice b7 d.af.length d1,.string d.al,.int .i64 d.bO,.slice aoB d.patch.length q1,.int .i64 d.start,.int .i64 d.aB,.int .i64 d.aj] 38)).heap.size:=by simp
    have rV1:Row (V.alloc (.cells #[.int .i64 d.kind,.int .i64 d.member,.slice b7 d.af.length d1,.string d.al,.int .i64 d.bO,.slice aoB d.patch.length q1,.int .i64 d.start,.int .i64 d.aB,.int .i64 d.aj] 38)) V.heap.size (W2 d b7 d1 aoB q1):=Row.new _ _ _;obtain ⟨V1,pH⟩: ∃X,X=V.alloc (.cells #[.int .i64 d.kind,.int .i64 d.member,.slice b7 d.af.length d1,.string d.al,.int .i64 d.bO,.slice aoB d.patch.length q1,.int .i64 d.start,.int .i64 d.aB,.int .i64 d.aj] 38):=⟨_,rfl⟩
    rw[<-pH]at gl xk Kg rV1 aE⊢;clear pH;refine wpAnyH_ready (rs:=[8]) (by kernel_rfl) (by simp) ?_;refine AllReadyH.cons rfl (λK hK=>?_) AllReadyH.nil
    try simp only[aK]
    go_simp;have ey:Below w6.heap.size w6 (V1.alloc (.cells #[.int .i64 d.kind,.int .i64 d.member,.slice B1 d.af.length e1,.string d.al,.int .i64 d.bO,.slice B2 d.patch.length e2,.int .i64 d.start,.int .i64 d.aB,.int .i64 d.aj] 38)):=gl.alloc gl.size _;refine hK.out _ _ (dl.o _ ey) (λau=>?_);clear hK K aE;have aE:=au;clear au
    try simp only[Act.put,aM]
    have tK:Below V1.heap.size V1 (V1.alloc (.cells #[.int .i64 d.kind,.int .i64 d.member,.slice B1 d.af.length e1,.string d.al,.int .i64 d.bO,.slice B2 d.patch.length e2,.int .i64 d.start,.int .i64 d.aB,.int .i64 d.aj] 38)):=(Below.refl _ _).alloc (Nat.le_refl _) _;have Ex:V1.heap.size<(V1.alloc (.cells #[.int .i64 d.kind,.int .i64 d.member,.slice B1 d.af.length e1,.string d.al,.int .i64 d.bO,.slice B2 d.patch.length e2,.int .i64 d.start,.int .i64 d.aB,.int .i64 d.aj] 38)).heap.size:=by simp
    have rV2:Row (V1.alloc (.cells #[.int .i64 d.kind,.int .i64 d.member,.slice B1 d.af.length e1,.string d.al,.int .i64 d.bO,.slice B2 d.patch.length e2,.int .i64 d.start,.int .i64 d.aB,.int .i64 d.aj] 38)) V1.heap.size (W2 d B1 e1 B2 e2):=Row.new _ _ _;obtain ⟨V2,mi⟩: ∃X,X=V1.alloc (.cells #[.int .i64 d.kind,.int .i64 d.member,.slice B1 d.af.length e1,.string d.al,.int .i64 d.bO,.slice B2 d.patch.length e2,.int .i64 d.start,.int .i64 d.aB,.int .i64 d.aj] 38):=⟨_,rfl⟩
    rw[<-mi]at ey tK Ex rV2 aE⊢;clear mi;have X6:=I (aoE [d] _ 1 1 _ 1 1 V2 (aoD rV2 Ex (jh.o V2 ey) (ju.o V2 ey) lr.o gQ.o (by omega) (by unfold maxLen;omega)) (aoD (rV1.below tK Kg) (Nat.lt_trans Kg Ex) (fs.o V2 ey) (ie.o V2 ey) lr.o gQ.o (by omega) (by unfold maxLen;omega)));refine wpAnyH_ready (rs:=[14]) (by kernel_rfl) (by simp) ?_;refine AllReadyH.cons rfl (λK hK=>?_) AllReadyH.nil
    try simp only[aK]
    go_simp;go_at_call 9;refine X6.o.mono ?_;rintro e V3 ⟨rfl,b3⟩;have eh:Below w6.heap.size w6 V3:=ey.trans (b3.mono ey.size);refine hK.out _ _ (dl.o _ eh) (λau=>?_);clear hK K aE;have aE:=au;clear au
    try simp only[Act.put,aM]
    refine aZ 15 ?_
    try simp only[Act.put,aK,aM]
    refine aZ 16 ?_
    try simp only[Act.put,aK,aM]
    refine aZ 17 ?_
    try simp only[Act.put,aK,aM]
    refine aZ 18 ?_
    try simp only[Act.put,aK,aM]
    refine wpAnyH_ready (rs:=[19]) (by kernel_rfl) (by simp) ?_;refine AllReadyH.cons rfl (λK hK=>?_) AllReadyH.nil
    try simp only[aK]
    go_simp;go_at_call 10;refine (HVD.o V3 eh).mono ?_;rintro e V4 ⟨rfl,b4⟩;have kb:Below w6.heap.size w6 V4:=eh.trans (b4.mono eh.size);refine hK.out _ _ (dl.o _ kb) (λau=>?_);clear hK K aE;have aE:=au;clear au
    try simp only[Act.put,aM]
    refine aZ 20 ?_
    try simp only[Act.put,aK,aM]
    refine aZ 21 ?_
    try simp only[Act.put,aK,aM]
    refine wpAnyH_done (by kernel_rfl) ?_ _;have hbr:Below w3.heap.size w3 V4:=xS.o.trans (kb.mono xS.o.size);clear aE;go_wp2;go_roundw;case rel=>exact ⟨k+1,by omega,by go_num,hbr⟩
    case measure=>simp[RowKit.intOf];omega
   have eA: ¬(k:Int)<(ds.length:Int):=by omega
   have xP:=I (aoI.o wr rj.o);go_wp2_with (fail);refine xP.o.mono ?_;rintro e w4 ⟨rfl,b4⟩;have RB:=dI.o.trans ((rj.o.trans (b4.mono rj.o.size)).mono dI.o.size);go_wp2;go_ret;exact ⟨rfl,RB⟩
 have HL:=I (agL A1 n1 c1 A2 n2 c2 w hl);clear hl;go_enter func3,ntmps3;go_wp2_with (fail);refine (HL.o).mono ?_;rintro e w1 ⟨rfl,m1,rfl⟩;go_wp2;go_ret;exact ⟨rfl,below_drewN (Below.refl w.heap.size w) m1⟩
end Go.Proofs.YtbcggaldkihcaaaGreatDoor
