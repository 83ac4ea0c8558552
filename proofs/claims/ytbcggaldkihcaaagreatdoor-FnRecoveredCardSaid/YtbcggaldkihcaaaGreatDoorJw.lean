/- FnRecovered, walked. -/
import Derived.Test.YtbcggaldkihcaaaGreatDoorZe
import Derived.Test.YtbcggaldkihcaaaGreatDoorJx
import Derived.Test.YtbcggaldkihcaaaGreatDoorJy
import Derived.Test.YtbcggaldkihcaaaGreatDoorQD
import Derived.Test.YtbcggaldkihcaaaGreatDoorQB
set_option maxHeartbeats 1000000
set_option maxRecDepth 100000
namespace Go.Proofs.YtbcggaldkihcaaaGreatDoor
open Tryz
open Go.RowKit Go.Lib
theorem ai3 (A:Option Addr) (n c i:Nat) (m:Int) (w:World) (h:za w w.heap.size A n) (hi:i<=1000) (hm:1<m) (EV:m<=65536):
 ∃x:Nat,(x:Int)<m/\ ∀y:ar w,Calls prog 12 #[.slice A n c,.int .i64 (i:Int),.int .i64 m] y.val (f' (.int .i64 (x:Int)) y.val):=by
 by_cases h2:i<n
 ·have Og:(i:Int)<(n:Int):=by omega
  obtain ⟨b,off,rfl,aI,hc⟩:=h.2 (by omega);obtain ⟨x,hx,x0⟩:=hc i h2;have hn:=h.1;unfold maxLen at hn;clear hc h;obtain ⟨r,hr⟩: ∃r:Nat,(r:Int)=(x:Int)% m:=⟨((x:Int)% m).toNat,Int.toNat_of_nonneg (Int.emod_nonneg _ (by omega))⟩
  refine ⟨r,by rw[hr];exact Int.emod_lt_of_pos _ (by omega),λy=>?_⟩;rw[hr];have x0:=y.cell x0;generalize y.val=W at*;go_enter func12,ntmps12;go_wp2;go_ret;exact ⟨rfl,0,rfl⟩
 have Og: ¬(i:Int)<(n:Int):=by omega
 clear h;obtain ⟨r,hr⟩: ∃r:Nat,(r:Int)=((i:Int)*37+11)% m:=⟨(((i:Int)*37+11)% m).toNat,Int.toNat_of_nonneg (Int.emod_nonneg _ (by omega))⟩
 refine ⟨r,by rw[hr];exact Int.emod_lt_of_pos _ (by omega),λy=>?_⟩;rw[hr];go_enter func12,ntmps12;go_wp2;go_ret;exact ⟨rfl,0,rfl⟩
theorem apl (s:ByteArray) (k:Nat) (h:k<s.size):s.data.toList.take (k+1)=s.data.toList.take k++[s[k]]:=by
 rw[List.take_succ_eq_append_getElem (by simpa using h)];rfl
theorem ao7 (s:ByteArray) (k:Nat):(s.extract 0 k).data.toList=s.data.toList.take k:=by rw[ags]
theorem ao6 (A1:Option Addr) (n1 c1:Nat) (A2:Option Addr) (n2 c2:Nat) (w:World) (Ky:za w w.heap.size A1 n1) (O2:za w w.heap.size A2 n2) (hE:aaG w.heap.size w):
 Calls prog 4 #[.slice A1 n1 c1,.slice A2 n2 c2] w (bT (.bool true) w):=by
 by_cases hl:n1<=1048576/\n2<=1048576
 ·have HL:=I (ahg A1 n1 c1 A2 n2 c2 w hl.1 hl.2);have HS:=I (λm=>aot A1 n1 c1 (w.drewN m) Ky);have E:=I hE;obtain ⟨x0,dp,xe⟩:=ai3 A2 n2 c2 0 256 w O2 (by omega) (by omega) (by omega);obtain ⟨x1,ei,at1⟩:=ai3 A2 n2 c2 1 256 w O2 (by omega) (by omega) (by omega);obtain ⟨x2,hx2,at2⟩:=ai3 A2 n2 c2 2 256 w O2 (by omega) (by omega) (by omega);have AT0:=I xe;have AT1:=I at1;have AT2:=I at2;clear hl Ky O2 hE xe at1 at2;go_enter func4,ntmps4;go_wp2_with (fail);refine (HL.o).mono ?_;rintro e w1 ⟨rfl,m1,rfl⟩;go_wp2_with (fail);refine (HS.o m1).mono ?_;rintro e w2 ⟨x,a,T,C,M,v,qs,c,rfl,yH,-,-,hvn,hds,aoJ,cy,-,-,hb⟩;obtain ⟨At,aoy,ct,Ab,B4,cb,Ac,aoz,L4,Am,aoA,L1,rfl⟩:=yH;obtain ⟨A,Vv,rfl,Oz,nj⟩:=hds.len;unfold eu;go_upto_region 4 with (fail)
  obtain ⟨w3,LV⟩: ∃X,X=w2.alloc (.cells #[.int .i64 a.day,.int .i64 a.rule,.slice At aoy ct,.slice Ab B4 cb,.slice Ac aoz L4,.slice Am aoA L1] 29):=⟨_,rfl⟩
  have b3:Below w2.heap.size w2 w3:=by rw[LV];exact (Below.refl _ _).alloc (Nat.le_refl _) _
  rw[<-LV];clear LV;have dI:ag (Below w.heap.size w w3):=I (((below_drewN (Below.refl w.heap.size w) m1).trans hb).trans (b3.mono ((below_drewN (Below.refl w.heap.size w) m1).trans hb).size));have HDS:ag (∀W,Below w3.heap.size w3 W->aa3 W W.heap.size (.slice A qs.length Vv) (qs.map Bb.d)):=I (λW hW=>(hds.below (b3.trans (hW.mono b3.size))).ana)
  have ii:ag (∀d∈qs.map Bb.d,cA d=true):=I (λd hd=>by
   obtain ⟨q,hq,rfl⟩:=List.mem_map.1 hd;exact cy q hq)
  have hlen:qs.length=(qs.map Bb.d).length:=by rw[List.length_map]
  rw[hlen]at HDS aoJ Oz⊢;generalize qs.map Bb.d=ds at*;have jS:ag (∀W,Below w3.heap.size w3 W->aaG W.heap.size W):=I (λW hW=>(E.o.on (dI.o.trans (hW.mono dI.o.size))).more (Nat.le_trans dI.o.size hW.size));have HAF:ag (∀W,Below w3.heap.size w3 W-> ∃y:ar w,y.val=W):=I (λW hW=>⟨⟨W,dI.o.trans (hW.mono dI.o.size)⟩,rfl⟩);have hod:aaJ ds=true:=abc.2 ⟨by omega,ii.o⟩;have yb:=abo ds 7 ii.o;have hJT:=anD ds A ds.length Vv w3 (HDS.o w3 (Below.refl _ _)) (jS.o w3 (Below.refl _ _)).env;rw[anC hod,hod]at hJT;have abN:ag (∀n,n<=(jrn 7 ds).length->(aaZ ((jrn 7 ds).take n)).1=ds.take (((jrn 7 ds).take n).count 10)/\((jrn 7 ds).take n).count 10<=ds.length/\(aaZ ((jrn 7 ds).take n)).2<=n/\jrn 7 (aaZ ((jrn 7 ds).take n)).1=(jrn 7 ds).take (aaZ ((jrn 7 ds).take n)).2):=I (λn hn=>anv ii.o (by omega) n hn)
  have CC:ag ((jrn 7 ds).length=0->ds=[]):=I (λh=>by
   cases ds with
   |nil=>rfl
   |cons d r=>
    rw[ank]at h;simp at h)
  have Da:ag (ds=[]->jrn 7 ds=[]):=I (λh=>by rw[h];rfl);obtain ⟨s,hs⟩: ∃s:ByteArray,s=⟨(jrn 7 ds).toArray⟩:=⟨_,rfl⟩
  rw[<-hs]at hJT;have yH:s.data.toList=jrn 7 ds:=by rw[hs]
  have ja:s.size=(jrn 7 ds).length:=by rw[<-yH];simp
  have HJT:=I hJT;have vW:=I yH;have lr:=I ja;clear hs yH hJT hds cy hb b3 hlen nj hvn hod;have apc:s.size<=37800:=by omega
  clear yb ja;go_wp2_with (fail);refine HJT.o.mono ?_;rintro e w4 ⟨rfl,b4⟩;have kC:=I b4;clear b4 HJT;by_cases Kn:s.size=0
  ·have hds:ds=[]:=CC.o (by have:=lr.o;omega)
   have hss:s=⟨#[]⟩:=by
    have:=vW.o;rw[Da.o hds]at this;exact aa0 (by rw[ByteArray.toList_eq,this])
   subst hss;subst hds;clear lr vW CC Da abN;have RB:=dI.o.trans (kC.o.mono dI.o.size);go_wp2;go_ret;exact ⟨rfl,RB⟩
  have Gk: ¬(s.size:Int)=0:=by omega
  have Tk:((s.size:Int)==0)=false:=by simpa using Kn
  obtain ⟨y4,hy4⟩:=HAF.o w4 kC.o;go_wp2_with (fail);rw[<-hy4];refine (AT0.o y4).mono ?_;rintro e _ ⟨rfl,m2,rfl⟩;have aoC:Below w4.heap.size w4 (w4.drewN m2):=below_drewN (Below.refl _ _) m2;rw[hy4];obtain ⟨w5,bt⟩: ∃X,X=w4.drewN m2:=⟨_,rfl⟩
  rw[<-bt]at aoC⊢;have HB5:=I (kC.o.trans (aoC.mono kC.o.size));clear aoC bt hy4;obtain ⟨y5,hy5⟩:=HAF.o w5 HB5.o;have e1:IntKind.i64.wrap ((x0:Int)*256)=((x0*256:Nat):Int):=by rw[IntKind.wrap_i64];omega
  go_wp2_with (fail);rw[<-hy5];refine (AT1.o y5).mono ?_;rintro e _ ⟨rfl,m3,rfl⟩;rw[hy5];have aja:Below w5.heap.size w5 (w5.drewN m3):=below_drewN (Below.refl _ _) m3;obtain ⟨w6,xj⟩: ∃X,X=w5.drewN m3:=⟨_,rfl⟩
  rw[<-xj]at aja⊢;have F9:=I (HB5.o.trans (aja.mono HB5.o.size));clear aja xj hy5;have e2:IntKind.i64.wrap (((x0*256:Nat):Int)+(x1:Int))=((x0*256+x1:Nat):Int):=by rw[IntKind.wrap_i64];omega
  have apa:(x0*256+x1)% s.size<s.size:=Nat.mod_lt _ (by omega);obtain ⟨N,hN⟩: ∃N,N=(x0*256+x1)% s.size:=⟨_,rfl⟩
  have hNv:((x0:Int)*256+(x1:Int))% (s.size:Int)=(N:Int):=by rw[hN];simp
  rw[<-hN]at apa;go_upto_region 8 with (fail)
  rw[hNv];clear e1 e2 hN hNv;have hNs:N<=s.size:=by omega
  have hNi:(N:Int)<=(s.size:Int):=by omega
  obtain ⟨Jk,Wv,c3',c4'⟩:=abN.o N (by have:=lr.o;omega);have FN:=I Jk;have S7:=I c4';have ao8:=anE (s.extract 0 N) w6 (by rw[ags,ag',List.length_take];omega) (jS.o w6 F9.o)
  have hrj:anA (s.extract 0 N).data.toList=((aaZ ((jrn 7 ds).take N)).1,(aaZ ((jrn 7 ds).take N)).2,true):=by
   rw[ao7,vW.o];unfold anA;rw[if_pos (by rw[List.length_take];omega)]
  rw[hrj]at ao8;have ao9:=I ao8;have apb:ag (∀r,(aaZ ((jrn 7 ds).take N)).2<=(aaZ ((jrn 7 ds).take N++r)).2):=I (λr=>anu _ _);have FW:=I (ant ((jrn 7 ds).take N));unfold RJP at ao9;clear Jk c4' ao8 hrj abN CC Da;have ao':ag (ds.take (((jrn 7 ds).take N).count 10)=(aaZ ((jrn 7 ds).take N)).1):=I FN.o.symm;have xP:ag ((ds.take (((jrn 7 ds).take N).count 10)).length=((jrn 7 ds).take N).count 10):=I (by rw[List.length_take];omega);obtain ⟨L,hL⟩: ∃L,L=((jrn 7 ds).take N).count 10:=⟨_,rfl⟩
  rw[<-hL]at ao' xP Wv;have apd:=I hL;generalize hR1:(aaZ ((jrn 7 ds).take N)).1=ao3 at*;generalize hR2:(aaZ ((jrn 7 ds).take N)).2=n at*;have hU:(⟨(jrn 7 ao3).toArray⟩:ByteArray)=s.extract 0 n:=by rw[ags,vW.o,S7.o]
  clear hL hR1 hR2 FN S7;go_wp2_with (fail);refine (ao9.o).mono ?_;rintro e w7 ⟨ao4,qr,rfl,Y4,hdr,ao5⟩;obtain ⟨ape,aoP,rfl,Ww,J'⟩:=hdr.len;have Ug:=I (F9.o.trans (ao5.mono F9.o.size))
  have mw:qr.length=L:=by
   have h1:=congrArg List.length Y4;have h2:=congrArg List.length ao'.o;rw[xP.o]at h2;rw[List.length_map]at h1;omega
  have CK:ag (∀W,Below w7.heap.size w7 W->aa3 W W.heap.size (.slice ape L aoP) ao3):=I (λW hW=>by
   have:=(hdr.below hW).ana;rw[Y4,mw]at this;exact this)
  have L6:ag (∀W,Below w3.heap.size w3 W->aa3 W W.heap.size (.slice A L Vv) ao3):=I (λW hW=>by
   have:=cz.take (HDS.o W hW) L Wv;rw[ao'.o]at this;exact this)
  have hj:=anD ao3 ape L aoP w7 (CK.o w7 (Below.refl _ _)) (jS.o w7 Ug.o).env;rw[anC FW.o,FW.o,hU]at hj;have HJ7:=I hj;have UY:ag ((s.data.toList.take N).count 10=L):=I (by rw[vW.o,<-apd.o]);rw[mw];clear hj hdr Y4 mw Ww J' ao5 ao9 hU;go_wp2_with (fail);refine (HJ7.o).mono ?_;rintro e w8 ⟨rfl,apf⟩;have kx:=I (Ug.o.trans (apf.mono Ug.o.size));have apg:=I (CK.o w8 apf);clear apf HJ7 CK;go_wp2;go_loopw [15,16] (λl i wr=> ∃k:Nat,k<=N/\i= .int .i64 (k:Int)/\l= .int .i64 (((s.data.toList.take k).count 10:Nat):Int)/\w8=wr) (λ_ i _=>N-(RowKit.intOf i).toNat);case atStart=>exact ⟨0,Nat.zero_le _,rfl,rfl,rfl⟩
  case round=>
   obtain ⟨k,hk,rfl,rfl,rfl⟩:=hrel;by_cases aI:k<N
   ·have hks:k<s.size:=by omega
    have qg:(k:Int)<(s.size:Int):=by omega
    have Qx:(k:Int)<(N:Int):=by omega
    have HT:=I (apl s k hks)
    have CX:(s.data.toList.take k).count 10<=s.size:=by
     have h1:=List.count_le_length (a:=(10:UInt8)) (l:=s.data.toList.take k);rw[List.length_take]at h1;omega
    by_cases he:s[k]=10
    ·have h1:((s[k].toNat:Int)==10)=true:=by rw[he];rfl
     have iG:ag ((s.data.toList.take (k+1)).count 10=(s.data.toList.take k).count 10+1):=I (by rw[HT.o,List.count_append,he];rfl);clear he;generalize (s.data.toList.take k).count 10=q at*;go_wp2;go_roundw;case rel=>exact ⟨k+1,by omega,by go_num,by rw[iG.o];go_num,by simp⟩
     case measure=>simp[RowKit.intOf];omega
    have h1:((s[k].toNat:Int)==10)=false:=by
     rw[beq_eq_false_iff_ne];intro e;exact he (UInt8.toNat_inj.1 (by show s[k].toNat=10;omega))
    have iG:ag ((s.data.toList.take (k+1)).count 10=(s.data.toList.take k).count 10):=I (by
     rw[HT.o,List.count_append,List.count_eq_zero.2 (λh=>he (List.mem_singleton.1 h).symm),Nat.add_zero])
    clear he;generalize (s.data.toList.take k).count 10=q at*;go_wp2;go_roundw;case rel=>exact ⟨k+1,by omega,by go_num,by rw[iG.o],by simp⟩
    case measure=>simp[RowKit.intOf];omega
   have eA: ¬(k:Int)<(N:Int):=by omega
   obtain rfl:k=N:=by omega
   rw[UY.o];have Hh: ¬(n:Int)<0:=by omega
   have aph:decide ((n:Int)<0)=false:=decide_eq_false Hh;have hnN: ¬(k:Int)<(n:Int):=by omega
   have api:decide ((k:Int)<(n:Int))=false:=decide_eq_false hnN;have hns:(n:Int)<=(s.size:Int):=by omega
   have hLc:(L:Int)<=(Vv:Int):=by omega
   have X6:=I (aoE ao3 ape L aoP A L Vv w8 apg.o (L6.o w8 kx.o));have hLS:=ao'.o;clear aI ao' xP L6 apg UY apd;go_wp2_with (fail);refine X6.o.mono ?_;rintro e w9 ⟨rfl,apj⟩;have iM:=I (kx.o.trans (apj.mono kx.o.size));obtain ⟨apk,hy9⟩:=HAF.o w9 iM.o;clear apj X6 Hh aph hnN api hLc;go_wp2_with (fail);rw[<-hy9];refine (AT2.o apk).mono ?_;rintro e _ ⟨rfl,m4,rfl⟩;rw[hy9];have b10:Below w9.heap.size w9 (w9.drewN m4):=below_drewN (Below.refl _ _) m4;obtain ⟨Ti,apm⟩: ∃X,X=w9.drewN m4:=⟨_,rfl⟩
   rw[<-apm]at b10⊢;have Ca:=I (iM.o.trans (b10.mono iM.o.size));clear b10 apm hy9;have dc:IntKind.u8.wrap (x2:Int)=(x2:Int):=by rw[IntKind.wrap_u8];omega
   go_upto_region 19 with (fail)
   have e6:IntKind.i64.wrap ((k:Int)+1)=((k+1:Nat):Int):=by rw[IntKind.wrap_i64];omega
   have hkA:(0:Int)<=(k:Int)+1:=by omega
   have hkB:(k:Int)+1<=(s.size:Int):=by omega
   obtain ⟨apn,hch⟩: ∃apn:UInt8,apn.toNat=x2:=⟨UInt8.ofNat x2,by rw[UInt8.toNat_ofNat'];omega⟩
   obtain ⟨b7,t1,l1,q1⟩:=H7 (P:=prog) (s.data.toList.take k) [apn] (by rw[List.length_take];simp;omega) (by simp);obtain ⟨b8,t2,l2,q2⟩:=H7 (P:=prog) b7 (s.data.toList.drop (k+1)) (by rw[List.length_take]at l1;simp at l1;omega) (by rw[List.length_drop];simp;omega);rw[<-ags]at q1;rw[<-agt]at q2
   have hT2:b8.length=s.size:=by
    rw[t2,t1,List.length_append,List.length_append,List.length_take,List.length_drop];simp;omega
   have oe:ag (b8=(jrn 7 ds).take k++([apn]++(s.data.toList.drop (k+1)))):=I (by rw[t2,t1,<-vW.o,List.append_assoc]);clear t1 t2 l1 l2;refine wp_region_held_drew (S:=λ_=>True) (by kernel_rfl) trivial (λaE=>?_);obtain ⟨V,hV⟩: ∃V,V=Ti.drew:=⟨_,rfl⟩
   have ajI:Below Ti.heap.size Ti V:=by rw[hV];exact (Below.refl _ _).drew
   rw[<-hV];clear hV;refine aZ 0 ?_
   try simp only[Act.put,aK,aM]
   refine aZ 1 ?_
   try simp only[Act.put,aK,aM]
   refine aZ 2 ?_
   try simp only[Act.put,aK,aM]
   refine aZ 3 ?_
   try simp only[Act.put,aK,aM]
   refine aZ 7 ?_
   try simp only[Act.put,aK,aM]
   refine aZ 8 ?_
   try simp only[Act.put,aK,aM]
   refine aZ 9 ?_
   try simp only[Act.put,aK,aM]
   refine aZ 10 ?_
   try simp only[Act.put,aK,aM]
   refine wpAnyH_ready (rs:=[4]) (by kernel_rfl) (by simp) ?_;refine AllReadyH.cons rfl (λK hK=>?_) AllReadyH.nil
   try simp only[aK]
   go_simp;refine hK.out _ _ trivial (λau=>?_);clear hK K aE;have aE:=au;clear au
   try simp only[Act.put,aM]
   obtain ⟨V1,pH⟩: ∃X,X=V.alloc (.cells #[.int .u8 (x2:Int)] 5):=⟨_,rfl⟩
   have xk:Below V.heap.size V V1:=by rw[pH];exact (Below.refl _ _).alloc (Nat.le_refl _) _
   have c0:V1.cell? ⟨V.heap.size,0,none⟩=some (.int .u8 (x2:Int)):=by rw[pH];simp[go_sem]
   rw[<-pH];clear pH
   have hcv:(convert 22 9 (.slice (some ⟨V.heap.size,0,none⟩) 1 1)).run prog V1= .ok (.string ⟨#[apn]⟩) V1:=run_convert_bytes_back (P:=prog) V1 22 9 5 ⟨V.heap.size,0,none⟩ 1 [apn] underlying22 underlying5 underlying9 (λj hj=>by
    have:j=0:=by simp at hj;omega
    subst this;simpa [Addr.add,hch]using c0)
   refine wpAnyH_ready (rs:=[5]) (by kernel_rfl) (by simp) ?_;refine AllReadyH.cons rfl (λK hK=>?_) AllReadyH.nil
   try simp only[aK]
   go_simp;refine hK.out _ _ trivial (λau=>?_);clear hK K aE;have aE:=au;clear au
   try simp only[Act.put,aM]
   refine aZ 6 ?_
   try simp only[Act.put,aK,aM]
   refine aZ 11 ?_
   try simp only[Act.put,aK,aM]
   refine aZ 12 ?_
   try simp only[Act.put,aK,aM]
   refine wpAnyH_done (by kernel_rfl) ?_ _;have wD:=I (Ca.o.trans ((ajI.trans (xk.mono ajI.size)).mono Ca.o.size));obtain ⟨g1,g2⟩:=anr b8;have hmn:n<=(aaZ b8).2:=by rw[oe.o];exact apb.o _
   have app:=ant b8;have Ik:=anE ⟨b8.toArray⟩ V1 (by rw[ag'];omega) (jS.o V1 wD.o)
   have apq:anA (⟨b8.toArray⟩:ByteArray).data.toList=((aaZ b8).1,(aaZ b8).2,true):=by
    show anA b8=_
    unfold anA;rw[if_pos (by omega)]
   rw[apq]at Ik;generalize (aaZ b8).1=apo at*;generalize (aaZ b8).2=m at*;unfold RJP at Ik;have hU3:(⟨(jrn 7 apo).toArray⟩:ByteArray)=(⟨b8.toArray⟩:ByteArray).extract 0 m:=by rw[ags,g1]
   obtain ⟨Rd,Re⟩: ∃Rd:ByteArray,Rd=⟨b8.toArray⟩:=⟨_,rfl⟩
   have hbs:Rd.size=s.size:=by rw[Re,ag',hT2]
   rw[<-Re]at Ik hU3⊢;have fU:=I Ik;have YE:=I hU3;have Ls:=I app;have hms:m<=Rd.size:=by omega
   clear aE hcv c0 ajI xk q1 q2 e6 hkA hkB Ik apq hU3 app Re g1 g2 hT2 oe apb hch;go_wp2_with (fail);refine fU.o.mono ?_;rintro e Tj ⟨v3,q3,rfl,hq3,U7,b12⟩;obtain ⟨A3,d3,rfl,-,-⟩:=U7.len;have Cd:=I (wD.o.trans (b12.mono wD.o.size));have hl3:q3.length=apo.length:=by rw[<-hq3,List.length_map]
   have hD3:=U7.ana;rw[hq3,hl3]at hD3;have hj3:=anD apo A3 apo.length d3 Tj hD3 (jS.o Tj Cd.o).env;rw[anC Ls.o,Ls.o,YE.o]at hj3;rw[hl3];have HJ3:=I hj3;clear hj3 hD3 hl3 U7 hq3 b12 fU YE Ls;go_wp2_with (fail);refine HJ3.o.mono ?_;rintro e w13 ⟨rfl,b13⟩;have RB:=dI.o.trans ((Cd.o.trans (b13.mono Cd.o.size)).mono dI.o.size);have An:(0:Int)<=(m:Int):=by omega
   have hmb:(m:Int)<=(Rd.size:Int):=by omega
   have hmd:decide ((m:Int)<=(Rd.size:Int))=true:=decide_eq_true hmb;have aps:decide ((0:Int)<=(m:Int))=true:=decide_eq_true An;have apr:(n:Int)<=(m:Int):=by omega
   have apt:decide ((n:Int)<=(m:Int))=true:=decide_eq_true apr;clear HJ3 b13 hbs;go_wp2;go_ret;exact ⟨rfl,RB⟩
 have HL:=I (agL A1 n1 c1 A2 n2 c2 w hl);clear hl;go_enter func4,ntmps4;go_wp2_with (fail);refine (HL.o).mono ?_;rintro e w1 ⟨rfl,m1,rfl⟩;go_wp2;go_ret;exact ⟨rfl,below_drewN (Below.refl w.heap.size w) m1⟩
end Go.Proofs.YtbcggaldkihcaaaGreatDoor
