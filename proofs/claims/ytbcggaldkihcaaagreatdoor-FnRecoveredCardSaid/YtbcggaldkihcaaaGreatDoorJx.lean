/- Deeds done one after the other, plain; lists of deeds that stay; a deed done with the bl.. -/
import Derived.Test.YtbcggaldkihcaaaGreatDoorHj
import Derived.Test.YtbcggaldkihcaaaGreatDoorGk
import Derived.Test.YtbcggaldkihcaaaGreatDoorRZ
import Derived.Test.YtbcggaldkihcaaaGreatDoorZr
import Derived.Test.YtbcggaldkihcaaaGreatDoorZo
namespace Go.Proofs.YtbcggaldkihcaaaGreatDoor
open Tryz
open Go.RowKit Go.Lib
noncomputable def anG:cp->List dr->cp×Nat
 |a,[]=>(a,0)
 |a,d::ds=>match mW a d with
  |none=>(a,0)
  |some c=>((anG c ds).1,(anG c ds).2+1)
theorem anH {a c:cp} {d:dr} {ds:List dr} (h:mW a d=some c):anG a (d::ds)=((anG c ds).1,(anG c ds).2+1):=by
 rw[anG];rw[h]
def anF (a:cp) (ds:List dr) (c:cp):Prop:=anG a ds=(c,ds.length)
theorem anF.nil (a:cp):anF a [] a:=rfl
theorem anF.snoc: ∀(ds:List dr) {a c c':cp} {d:dr},anF a ds c->mW c d=some c'->anF a (ds++[d]) c'
 |[],a,c,c',d,h,hd=>by
  unfold anF anG at h;injection h with h1 h2
  subst h1;unfold anF;rw[List.nil_append,anH hd];rfl
 |e::ds,a,c,c',d,h,hd=>by
  unfold anF at h⊢;cases he:mW a e with
  |none=>
   rw[anG,he]at h;injection h with h1 h2
   simp at h2
  |some b=>
   rw[anH he]at h;injection h with h1 h2
   have h3:anF b ds c:=by
    unfold anF;rw[List.length_cons]at h2;exact Prod.ext h1 (Nat.succ.inj h2)
   have h4:=anF.snoc ds h3 hd;unfold anF at h4;rw[List.cons_append,anH he,h4];rfl
def anJ (v:Value) (qs:List Bb) (z:Nat):Prop:=v.ownBlock=some z\/ ∃q∈qs,q.blocks z
theorem ay.keep {α:Type} {f:α->List Value} {xs:List α} {base:Nat} {w w':World} {v:Value} (h:ay f xs base w v) (hs:w.heap.size<=w'.heap.size) (hk: ∀g,xs≠[]->v.ownBlock=some g->w'.heap[g]?=w.heap[g]?):ay f xs base w' v:=by
 obtain ⟨A,c,rfl,h1,h2,h3⟩:=h;refine ⟨A,c,rfl,h1,h2,λh0=>?_⟩;obtain ⟨g,rfl,qp,aI,hR⟩:=h3 h0;exact ⟨g,rfl,qp,Nat.lt_of_lt_of_le aI hs,hR.amE (hk g h0 rfl)⟩
theorem Inn.keep {base:Nat} {w w':World} {q:Bb} (h:Inn base w q) (hs:w.heap.size<=w'.heap.size) (hk: ∀g,q.blocks g->w'.heap[g]?=w.heap[g]?):Inn base w' q:=by
 refine ⟨h.o1.keep hs (λg h0 hb=>hk g (.inl ⟨h0,?_⟩)),h.o2.keep hs (λg h0 hb=>hk g (.inr ⟨h0,?_⟩)),h.one,h.t4,h.p16,h.nn,h.ti⟩
 ·obtain ⟨A,c,hv,_,_,h3⟩:=h.o1;injection hv with e1 e2 e3
  obtain ⟨g',hA,_⟩:=h3 h0;rw[e1,hA]at hb⊢;injection hb with hb
  have:g'=g:=hb;rw[this];exact ⟨0,rfl⟩
 obtain ⟨A,c,hv,_,_,h3⟩:=h.o2;injection hv with e1 e2 e3
 obtain ⟨g',hA,_⟩:=h3 h0;rw[e1,hA]at hb⊢;injection hb with hb
 have:g'=g:=hb;rw[this];exact ⟨0,rfl⟩
theorem anI {w w':World} {base:Nat} {e:TypeId} {size n:Nat} {v:Value} {xs:List Value} (h:w.ownsRow base e size v n xs) (hk: ∀g,v.ownBlock=some g->w'.heap[g]?=w.heap[g]?):w'.ownsRow base e size v n xs:=by
 refine ⟨h.1,?_⟩;rcases h.2 with h2|⟨g,cap,kT,rfl,hb,hc,h3⟩
 ·exact .inl h2
 exact .inr ⟨g,cap,kT,rfl,hb,by rw[hk g rfl];exact hc,h3⟩
theorem aal.anK {base:Nat} {w:World} {v:Value} {qs:List Bb} (h:aal base w v qs) {z:Nat} (hz:anJ v qs z):base<=z/\z<w.heap.size:=by
 rcases hz with e|⟨q,hq,hb⟩
 ·exact h.row.lt z e
 exact (h.fa q hq).lt hb
theorem aal.keep {base:Nat} {w w':World} {v:Value} {qs:List Bb} (h:aal base w v qs) (hs:w.heap.size<=w'.heap.size) (hk: ∀g,anJ v qs g->w'.heap[g]?=w.heap[g]?):aal base w' v qs:=
 ⟨anI h.row (λg hg=>hk g (.inl hg)),λq hq=>(h.fa q hq).keep hs (λg hg=>hk g (.inr ⟨q,hq,hg⟩)),h.o,h.prs⟩
theorem aal.only {base b:Nat} {w w':World} {v:Value} {qs:List Bb} (h:aal base w v qs) (hb:b<base) (ho:iJ b w w'):aal base w' v qs:=
 h.keep ho.size (λg hg=>ho.block g (h.anK hg).2 (λe=>by injection e with e;have:=(h.anK hg).1;omega))
theorem ck.aD {base ba:Nat} {w w':World} {x:cS} {a:cp} {T:List bR} {C:List bu} {M:List bH} {F:Nat->Prop} (h:ck base ba w x a T C M) (ht:Touch F w w') (hF: ∀b,bz x a T C M b-> ¬F b) (hb: ¬F ba):ck base ba w' x a T C M:=
 ⟨h.row.aD h.lt ht hb,h.own.aD ht hF,Nat.lt_of_lt_of_le h.lt ht.size,h.nf,h.bb⟩
theorem anL (a:cp) (d:dr) (x:cS) (T:List bR) (C:List bu) (M:List bH) (base ba bd So:Nat) (A1:Option Addr) (c1:Nat) (A2:Option Addr) (c2:Nat) (w:World) (hB:ck base ba w x a T C M) (hF:dJ a) (hd:cA d=true) (hD:fp w bd So d A1 c1 A2 c2) (Z:Nat->Prop) (uR: ∀z,Z z->z<w.heap.size) (zc: ¬Z ba) (xl: ∀b,bz x a T C M b-> ¬Z b):
 Calls prog 45 #[.pointer (some ⟨ba,0,none⟩),.pointer (some ⟨bd,So,none⟩)] w (DoK a (mW a d) base ba Z w):=by
 rcases tH hd with h|h|h|h
 ·exact amQ a d x T C M base ba bd So A1 c1 A2 c2 w hB hF hd hD Z uR zc xl h
 ·exact amR a d x T C M base ba bd So A1 c1 A2 c2 w hB hF hd hD Z uR zc xl h
 ·exact amS a d x T C M base ba bd So A1 c1 A2 c2 w hB hF hd hD Z uR zc xl h
 exact amP a d x T C M base ba bd So A1 c1 A2 c2 w hB hF hD Z uR zc xl h
theorem Inn.of {d:dr} {base:Nat} {w:World} {A1:Option Addr} {c1:Nat} {A2:Option Addr} {c2:Nat} (hd:cA d=true) (h1:ay ak d.af base w (.slice A1 d.af.length c1)) (h2:ay ah d.patch base w (.slice A2 d.patch.length c2)) (hs:bS d.patch) (ht:d.al.size<=maxLen):Inn base w ⟨d,A1,c1,A2,c2⟩:=by
 have hf:(d.af=[]\/d.patch=[])/\d.af.length<=4/\d.patch.length<=16:=by
  rcases aap hd with ⟨_,_,_,_,hl,_,_,hp,_⟩|⟨_,_,_,_,_,_,ht,hp,_⟩|⟨_,_,_,_,hp,_,_,_,_,_,ht,_⟩|⟨_,_,ht,_,_,hp,_⟩
  ·exact ⟨.inr hp,hl,by rw[hp];exact Nat.zero_le _⟩
  ·exact ⟨.inl ht,by rw[ht];exact Nat.zero_le _,by rw[hp];exact Nat.zero_le _⟩
  ·exact ⟨.inl ht,by rw[ht];exact Nat.zero_le _,eZ hp⟩
  exact ⟨.inl ht,by rw[ht];exact Nat.zero_le _,by rw[hp];exact Nat.zero_le _⟩
 exact ⟨h1,h2,hf.1,hf.2.1,hf.2.2,hs,ht⟩
end Go.Proofs.YtbcggaldkihcaaaGreatDoor
set_option maxHeartbeats 4000000
set_option maxRecDepth 100000
namespace Go.Proofs.YtbcggaldkihcaaaGreatDoor
open Tryz
open Go.RowKit Go.Lib
def anN (a:cp) (n B:Nat) (w:World) (b k:Nat) (e:Ending) (w':World):Prop:=
 ∃v qs c,e= .returned v/\v≠ .slice none 0 0/\aal w.heap.size w' v qs/\qs.length<=n/\(∀q∈qs,cA q.d=true)/\dJ c/\anF a (qs.map Bb.d) c/\Src B w' b k/\iJ b w w'
theorem anO (B b k n:Nat) (a:cp) (x:cS) (ab anM:Nat) (w:World) (h:Src B w b k) (hk:k<=30000) (hn:n<=20) (k0:w.cell? ⟨ab,anM,none⟩=some (.int .i64 a.day)) (k1:w.cell? ⟨ab,anM+1,none⟩=some (.int .i64 a.rule)) (k2:w.cell? ⟨ab,anM+2,none⟩=some x.t) (k3:w.cell? ⟨ab,anM+3,none⟩=some x.b) (k4:w.cell? ⟨ab,anM+4,none⟩=some x.c) (k5:w.cell? ⟨ab,anM+5,none⟩=some x.m)
 (hR:jv w w.heap.size x a) (hF:dJ a):
 Calls prog 16 #[.pointer (some ⟨b,0,none⟩),.pointer (some ⟨ab,anM,none⟩),.int .i64 (n:Int)] w (anN a n B w b (k+310*n)):=by
 obtain ⟨n1,n2,n3,n4,n5,n6⟩:=hF.sizes;have eH:=I (G3 a x ab anM w k0 k1 k2 k3 k4 k5 hR n1 hF.av n2 n3 n4 n5 n6);have HB:=I h.lt.1;have FR:=I h;have BE:=I hF;obtain ⟨i0,hi,dK,ez,ek⟩:=info_parts ab6;clear n1 n2 n3 n4 n5 n6 h k0 k1 k2 k3 k4 k5 hR hF;unfold Cn at eH;go_enter func16,ntmps16;go_wp2_with (fail);refine (eH.o).mono ?_;rintro e w1 ⟨x1,T,C,M,rfl,cr,bw⟩;obtain ⟨At,ct,Ab,cb,Ac,L4,Am,L1,rfl⟩:=cr.o.r.slices;unfold eu;go_upto_region 2 with (fail)
 obtain ⟨w2,P7⟩: ∃X,X=w1.alloc (.cells #[.int .i64 a.day,.int .i64 a.rule,.slice At a.af.length ct,.slice Ab a.base.length cb,.slice Ac a.av.length L4,.slice Am a.ao.length L1] 29):=⟨_,rfl⟩
 have mV:Row w2 w1.heap.size [.int .i64 a.day,.int .i64 a.rule,.slice At a.af.length ct,.slice Ab a.base.length cb,.slice Ac a.av.length L4,.slice Am a.ao.length L1]:=by rw[P7];exact Row.new w1 _ _
 have cL:Below w1.heap.size w1 w2:=by rw[P7];exact (Below.refl _ _).alloc (Nat.le_refl _) _
 have tO:w1.heap.size<w2.heap.size:=by rw[P7];simp
 have Ha:=bw.size;have HW2:=I P7;have LG:ag (ck w.heap.size w1.heap.size w2 ⟨.slice At a.af.length ct,.slice Ab a.base.length cb,.slice Ac a.av.length L4,.slice Am a.ao.length L1⟩ a T C M):=I ⟨mV,cr.below cL,tO,λc hc e=>by have:=(cr.o.lt hc).2;omega,Ha⟩;have anS:=I (bw.trans (cL.mono Ha));rw[<-P7];clear P7 cr bw mV cL eH;have qf:=HB.o;go_wp2;obtain ⟨w3,LV⟩: ∃X,X=w2.alloc (.cells #[] 38):=⟨_,rfl⟩
 have dB:Below w2.heap.size w2 w3:=by rw[LV];exact (Below.refl _ _).alloc (Nat.le_refl _) _
 have hl3:w3.heap.size=w2.heap.size+1:=by rw[LV];simp
 have F4:=anS.o.size;have anT:ag (aal w.heap.size w3 (.slice (some ⟨w2.heap.size,0,none⟩) 0 0) []):=I ⟨by rw[LV];simpa using World.ownsRow_made w2 #[] 0 F4 (Nat.zero_le _) rfl,λq hq=>(by cases hq),λq hq=>(by cases hq),List.Pairwise.nil⟩;have anU:=I (anS.o.trans (dB.mono F4));have anV:=I (LG.o.below dB);have b0:=I (FR.o.below anU.o qf);have I7:=I LG.o.O6;rw[<-LV];clear LV dB FR anS;go_loopw [2,8] (λm v wr=> ∃(j:Nat) (qs:List Bb) (x:cS) (c:cp) (T:List bR) (C:List bu) (M:List bH),m= .int .i64 (j:Int)/\qs.length+j<=n/\v≠ .slice none 0 0/\aal w.heap.size wr v qs/\(∀q∈qs,cA q.d=true)/\ck w.heap.size w1.heap.size wr x c T C M/\dJ c/\anF a (qs.map Bb.d) c/\Src B wr b (k+310*(n-j))/\iJ b w wr/\ ¬anJ v qs w1.heap.size/\(∀z,bz x c T C M z-> ¬anJ v qs z)) (λm _ _=>(RowKit.intOf m).toNat)
 case atStart=>
  refine ⟨n,[],_,a,T,C,M,rfl,by simp,by simp,anT.o,λq hq=>(by cases hq),anV.o,BE.o,anF.nil a,b0.o.more (by omega),m5 anU.o,?_,?_⟩
  ·rintro (e|⟨q,hq,_⟩)
   ·injection e with e
    have e:w2.heap.size=w1.heap.size:=e;omega
   cases hq
  rintro z hz (e|⟨q,hq,_⟩)
  ·injection e with e
   have e:w2.heap.size=z:=e;have:=I7.o z hz;omega
  cases hq
 case round=>
  obtain ⟨m,qs,x,c,T,C,M,rfl,hqm,nm,hds,anW,hB,hF,CW,hs,ho,Sb,hf2⟩:=hrel;obtain ⟨g,cap,rfl,SD,nj⟩:=bG hds.row nm;unfold maxLen at nj;obtain ⟨wX,Bo⟩: ∃X,X=wr:=⟨_,rfl⟩
  rw[<-Bo]at hds hB hs ho⊢;clear Bo nm;have HDS:=I hds;have HQO:=I anW;have rj:=I hB;have MU:=I hF;have HRN:=I CW;have HSR:=I hs;have Ss:=I ho;have pa:=I Sb;have HF2:=I hf2;have hwr:=ho.size;clear hds anW hB hF CW hs ho Sb hf2 LG anV b0 anT I7;by_cases hm:0<m
  ·obtain ⟨m,rfl⟩: ∃q,m=q+1:=⟨m-1,by omega⟩
   have EU:(0:Int)<((m+1:Nat):Int):=by omega
   go_wp2_with (fail);refine (Qh B b _ w.heap.size w1.heap.size c x T C M wX HSR.o (by omega) rj.o MU.o qf).mono ?_;rintro e w8 ⟨d,A1,c1,A2,c2,rfl,hT,hP,ja,kJ,M0,K3⟩;have kx:=I (rj.o.only qf K3);have HD8:=I (HDS.o.only qf K3);have T9:=I (ll Ss.o K3);have I1:=I M0;have O0:=I hT;have HP8:=I hP;have lr:=I ja;have gQ:=I kJ;have hw8:=K3.size;clear hT hP ja kJ M0 K3;unfold gw;go_upto_region 6 with (fail)
   obtain ⟨w9,Ag⟩: ∃X,X=w8.alloc (.cells #[.int .i64 d.kind,.int .i64 d.member,.slice A1 d.af.length c1,.string d.al,.int .i64 d.bO,.slice A2 d.patch.length c2,.int .i64 d.start,.int .i64 d.aB,.int .i64 d.aj] 38):=⟨_,rfl⟩
   have W6:Row w9 w8.heap.size [.int .i64 d.kind,.int .i64 d.member,.slice A1 d.af.length c1,.string d.al,.int .i64 d.bO,.slice A2 d.patch.length c2,.int .i64 d.start,.int .i64 d.aB,.int .i64 d.aj]:=by rw[Ag];exact Row.new w8 _ _
   have wZ:Below w8.heap.size w8 w9:=by rw[Ag];exact (Below.refl _ _).alloc (Nat.le_refl _) _
   have hl9:w8.heap.size<w9.heap.size:=by rw[Ag];simp
   rw[<-Ag];clear Ag;have Sh:ag (fp w9 w8.heap.size 0 d A1 c1 A2 c2):=I (fp.row W6 ((O0.o.on wZ).mo (size:=1) λ_=>rfl) ((HP8.o.on wZ).mo (size:=4) λ_=>rfl) lr.o gQ.o);have iM:=I (kx.o.below wZ);have CJ:=I (HD8.o.below wZ);have zG:=I (ll T9.o (m5 wZ));have B8:=I (I1.o.below wZ I1.o.lt.1);have Ef:=I (O0.o.on wZ);have Dq:=I (HP8.o.on wZ);have T3:=I W6;clear W6 wZ O0 HP8 kx HD8 T9 I1;have sJ:=I (Fy d w8.heap.size 0 A1 c1 A2 c2 w9 Sh.o);cases hd:cA d with
   |false=>
    rw[hd]at sJ;clear hd;go_wp2_with (fail);refine (sJ.o).mono ?_;rintro e Ti ⟨rfl,wB⟩;have Ca:=I (iM.o.below wB);have B9:=I (CJ.o.below wB);have aif:=I (ll zG.o (m5 wB));have aih:=I (B8.o.below wB B8.o.lt.1);clear wB;go_wp2;go_roundw;case rel=>exact ⟨m,qs,x,c,T,C,M,by go_num,by omega,by simp,B9.o,HQO.o,Ca.o,MU.o,HRN.o,aih.o.more (by omega),aif.o,pa.o,HF2.o⟩
    case measure=>simp[RowKit.intOf]<;>omega
   |true=>
    rw[hd]at sJ;have aii:=I hd;clear hd;go_wp2_with (fail);refine (sJ.o).mono ?_;rintro e Ti ⟨rfl,wB⟩;have Ca:=I (iM.o.below wB);have B9:=I (CJ.o.below wB);have aif:=I (ll zG.o (m5 wB));have aih:=I (B8.o.below wB B8.o.lt.1);have anX:ag (fp Ti w8.heap.size 0 d A1 c1 A2 c2):=I (Sh.o.km ⟨Ti,wB⟩);have anP:ag (Inn wX.heap.size Ti ⟨d,A1,c1,A2,c2⟩):=I (Inn.of aii.o (Ef.o.on wB) (Dq.o.on wB) lr.o gQ.o);have wC:=I (T3.o.below wB hl9);have an7:w8.heap.size<Ti.heap.size:=Nat.lt_of_lt_of_le hl9 wB.size;clear wB
    have oA:ag (∀z,(anJ (.slice (some ⟨g,0,none⟩) qs.length cap) qs z\/Bb.blocks ⟨d,A1,c1,A2,c2⟩ z\/z=w8.heap.size)->z<Ti.heap.size):=I (by
     rintro z (h|h|h)
     ·exact (B9.o.anK h).2
     ·exact (anP.o.lt h).2
     omega)
    have Ph:=I rj.o.O6;have ri:w1.heap.size<wX.heap.size:=rj.o.lt
    have Fh:=I (anL c d x T C M w.heap.size w1.heap.size w8.heap.size 0 A1 c1 A2 c2 Ti Ca.o MU.o aii.o anX.o (λz=>anJ (.slice (some ⟨g,0,none⟩) qs.length cap) qs z\/Bb.blocks ⟨d,A1,c1,A2,c2⟩ z\/z=w8.heap.size) oA.o (by
     rintro (h|h|h)
     ·exact pa.o h
     ·have:=(anP.o.lt h).1;omega
     ·omega) (by
     rintro z hz (h|h|h)
     ·exact HF2.o z hz h
     ·have:=(anP.o.lt h).1;have:=Ph.o z hz;omega
     have:=Ph.o z hz;omega))
    have LW:=I (λc' (hc:mW c d=some c')=>L0 MU.o aii.o hc);have Z5:=I (λc' (hc:mW c d=some c')=>anF.snoc (qs.map Bb.d) HRN.o hc);generalize mW c d=o at*;unfold DoK at Fh;go_wp2_with (fail);refine Fh.o.mono ?_;rintro e KX ⟨rfl,⟨x',T',C',M',ain,anY⟩,aim,anQ⟩;have wD:=I ain;have anR:=I anY;have aio:=I (dd aif.o aim (Nat.le_refl _));have aip:=I (aih.o.below aim qf);have Cc:ag (aal w.heap.size KX (.slice (some ⟨g,0,none⟩) qs.length cap) qs):=I (B9.o.keep aim.size (λz hz=>anQ z (.inl hz)));have anZ:ag (Inn wX.heap.size KX ⟨d,A1,c1,A2,c2⟩):=I (anP.o.keep aim.size (λz hz=>anQ z (.inr (.inl hz))));have an1:=I (wC.o.amE (anQ _ (.inr (.inr rfl))));have an8:=aim.size;clear ain anY aim anQ Fh;cases o with
    |none=>
     go_wp2;go_roundw;case rel=>exact ⟨m,qs,x',c,T',C',M',by go_num,by omega,by simp,Cc.o,HQO.o,wD.o,MU.o,HRN.o,aip.o.more (by omega),aio.o,pa.o,λz hz h=>anR.o z hz (.inl h)⟩
     case measure=>simp[RowKit.intOf]<;>omega
    |some c'=>
     have hr:=an1.o;have y0:KX.cell? ⟨w8.heap.size,0,none⟩=some (.int .i64 d.kind):=hr.cell 0 _ rfl;have y1:KX.cell? ⟨w8.heap.size,1,none⟩=some (.int .i64 d.member):=hr.cell 1 _ rfl;have y2:KX.cell? ⟨w8.heap.size,2,none⟩=some (.slice A1 d.af.length c1):=hr.cell 2 _ rfl;have y3:KX.cell? ⟨w8.heap.size,3,none⟩=some (.string d.al):=hr.cell 3 _ rfl;have y4:KX.cell? ⟨w8.heap.size,4,none⟩=some (.int .i64 d.bO):=hr.cell 4 _ rfl;have y5:KX.cell? ⟨w8.heap.size,5,none⟩=some (.slice A2 d.patch.length c2):=hr.cell 5 _ rfl;have y6:KX.cell? ⟨w8.heap.size,6,none⟩=some (.int .i64 d.start):=hr.cell 6 _ rfl;have y7:KX.cell? ⟨w8.heap.size,7,none⟩=some (.int .i64 d.aB):=hr.cell 7 _ rfl;have y8:KX.cell? ⟨w8.heap.size,8,none⟩=some (.int .i64 d.aj):=hr.cell 8 _ rfl;have cr:=Cc.o.row;have an0:w.heap.size<=KX.heap.size:=aio.o.size;have mw:qs.length<=20:=by omega
     clear hr;go_wp2_with (at_builtin;refine wpList_append_own_at _ rfl _ _ 30 rfl w.heap.size 38 i0 (.agg #[.int .i64 0,.int .i64 0,.slice none 0 0,.string ⟨#[]⟩,.int .i64 0,.slice none 0 0,.int .i64 0,.int .i64 0,.int .i64 0]) 9 112 underlying30 hi dK ez ek rfl (by decide) _ _ _ rfl (cr.alloc _) ⟨KX.heap.size,0,none⟩ 1 1 (Bb.cells ⟨d,A1,c1,A2,c2⟩) rfl rfl (λj u hj=>fS hj) (λu hu=>abL hu) ?c3 ?c4 (aS an0) ?_);case c3=>unfold maxLen;omega
     case c4=>omega
     intro v' Tj aG aA aU iH;have mF:v'≠ .slice none 0 0:=by simpa using aU
     have hal: ∀o,Below KX.heap.size KX (KX.alloc o):=λo=>(Below.refl _ _).alloc (Nat.le_refl _) o;have ab1:aal w.heap.size Tj v' (qs++[⟨d,A1,c1,A2,c2⟩]):=aal.push (w0:=wX) (Cc.o.below (hal _)) hwr (anZ.o.below (hal _)) (λp hp gg hbp=>(HDS.o.anK (.inr ⟨p,hp,hbp⟩)).2) (λgg jP=>(HDS.o.anK (.inl jP)).2) aG aA (by rcases iH with e|e;exact .inl e;exact .inr (by rw[e];simp));have HP:=I ab1;have an2:=I (fb (bV aio.o (.cells #[.int .i64 d.kind,.int .i64 d.member,.slice A1 d.af.length c1,.string d.al,.int .i64 d.bO,.slice A2 d.patch.length c2,.int .i64 d.start,.int .i64 d.aB,.int .i64 d.aj] 38)) aA (λj hj=>(cr.lt j hj).1));have an3:=I ((aip.o.alloc (.cells #[.int .i64 d.kind,.int .i64 d.member,.slice A1 d.af.length c1,.string d.al,.int .i64 d.bO,.slice A2 d.patch.length c2,.int .i64 d.start,.int .i64 d.aB,.int .i64 d.aj] 38)).grown aA (λj hj=>by have:=(cr.lt j hj).1;omega));have Cd:=I ((wD.o.below (hal (.cells #[.int .i64 d.kind,.int .i64 d.member,.slice A1 d.af.length c1,.string d.al,.int .i64 d.bO,.slice A2 d.patch.length c2,.int .i64 d.start,.int .i64 d.aB,.int .i64 d.aj] 38))).aD (Touch.aW (F:=λz=>z=g) aA (λz hz=>by injection hz with hz;exact hz.symm)) (λz hz e=>anR.o z hz (.inl (.inl (by rw[e];rfl)))) (λe=>pa.o (.inl (by rw[e];rfl))))
     have RH: ∀z,z<KX.heap.size-> ¬(anJ (.slice (some ⟨g,0,none⟩) qs.length cap) qs z\/Bb.blocks ⟨d,A1,c1,A2,c2⟩ z)-> ¬anJ v' (qs++[⟨d,A1,c1,A2,c2⟩]) z:=by
      rintro z hz rf (e|⟨q,hq,hb⟩)
      ·rcases iH with e2|e2
       ·exact rf (.inl (.inl (e2.symm.trans e)))
       rw[e2]at e;injection e with e
       omega
      rcases List.mem_append.1 hq with hq|hq
      ·exact rf (.inl (.inr ⟨q,hq,hb⟩))
      rw[List.mem_singleton]at hq;subst hq;exact rf (.inr hb)
     have YJ:ag (¬anJ v' (qs++[⟨d,A1,c1,A2,c2⟩]) w1.heap.size):=I (RH _ (by omega) (by
      rintro (h|h)
      ·exact pa.o h
      have:=(anZ.o.lt h).1;omega))
     have Gy:ag (∀z,bz x' c' T' C' M' z-> ¬anJ v' (qs++[⟨d,A1,c1,A2,c2⟩]) z):=I (λz hz=>RH z (wD.o.O6 z hz) (by
      rintro (h|h)
      ·exact anR.o z hz (.inl h)
      exact anR.o z hz (.inr (.inl h))))
     have an4:ag (∀q∈qs++[(⟨d,A1,c1,A2,c2⟩:Bb)],cA q.d=true):=I (λq hq=>by
      rcases List.mem_append.1 hq with hq|hq
      ·exact HQO.o q hq
      rw[List.mem_singleton]at hq;subst hq;exact aii.o)
     have an5:ag (anF a ((qs++[(⟨d,A1,c1,A2,c2⟩:Bb)]).map Bb.d) c'):=I (by rw[List.map_append];exact Z5.o c' rfl);have an6:=I (LW.o c' rfl);clear cr aG aA aU iH ab1 hal RH;go_wp2;go_roundw;case rel=>exact ⟨m,qs++[⟨d,A1,c1,A2,c2⟩],x',c',T',C',M',by go_num,by rw[List.length_append,List.length_singleton];omega,mF,HP.o,an4.o,Cd.o,an6.o,an5.o,an3.o.more (by omega),an2.o,YJ.o,Gy.o⟩
     case measure=>simp[RowKit.intOf]<;>omega
  obtain rfl:m=0:=by omega
  have EU: ¬(0:Int)<((0:Nat):Int):=by omega
  go_wp2;go_ret;exact ⟨.slice (some ⟨g,0,none⟩) qs.length cap,qs,c,rfl,by simp,HDS.o,by omega,HQO.o,MU.o,HRN.o,HSR.o.more (by omega),Ss.o⟩
end Go.Proofs.YtbcggaldkihcaaaGreatDoor
set_option maxHeartbeats 4000000
set_option maxRecDepth 100000
namespace Go.Proofs.YtbcggaldkihcaaaGreatDoor
open Tryz
open Go.RowKit Go.Lib
def six (W:World) (g:Nat) (d r:Int) (v2 v3 v4 v5:Value):World:=(((((W.setCell ⟨g,0,none⟩ (.int .i64 d)).setCell ⟨g,1,none⟩ (.int .i64 r)).setCell ⟨g,2,none⟩ v2).setCell ⟨g,3,none⟩ v3).setCell ⟨g,4,none⟩ v4).setCell ⟨g,5,none⟩ v5
theorem aoc (W:World) (g:Nat) (d r:Int) (v2 v3 v4 v5:Value):Touch (λb=>b=g) W (six W g d r v2 v3 v4 v5):=by
 unfold six
 iterate 6 refine Touch.setCell (F:=λb=>b=g) ?_ rfl _
 exact Touch.refl _ _
theorem aoq {W:World} {g:Nat} {L:List Value} (h:Row W g L) (hl:L.length=6) (d r:Int) (v2 v3 v4 v5:Value):Row (six W g d r v2 v3 v4 v5) g [.int .i64 d,.int .i64 r,v2,v3,v4,v5]:=by
 obtain ⟨a0,a1,a2,a3,a4,a5,rfl⟩: ∃a0 a1 a2 a3 a4 a5,L=[a0,a1,a2,a3,a4,a5]:=by
  rcases L with _|⟨a0,_|⟨a1,_|⟨a2,_|⟨a3,_|⟨a4,_|⟨a5,_|⟨a6,L⟩⟩⟩⟩⟩⟩⟩<;>simp at hl;exact ⟨_,_,_,_,_,_,rfl⟩
 unfold six;exact (((((h.set 0 _ (by simp)).set 1 _ (by simp)).set 2 _ (by simp)).set 3 _ (by simp)).set 4 _ (by simp)).set 5 _ (by simp)
theorem aog (W:World) (g:Nat) (d r:Int) (v2 v3 v4 v5:Value):(((((W.setCell ⟨g,0,none⟩ (.int .i64 d)).setCell ⟨g,1,none⟩ (.int .i64 r)).setCell ⟨g,2,none⟩ v2).setCell ⟨g,3,none⟩ v3).setCell ⟨g,4,none⟩ v4).setCell ⟨g,5,none⟩ v5=six W g d r v2 v3 v4 v5:=rfl
def aok (w:World) (e:Ending) (w':World):Prop:= ∃x a T C M v qs c,e= .returned (.tuple #[eu a x,v])/\Tt x/\dM w.heap.size w' x a T C M/\dJ a/\v≠ .slice none 0 0/\aal w.heap.size w' v qs/\qs.length<=18/\(∀q∈qs,cA q.d=true)/\dJ c/\anF a (qs.map Bb.d) c/\Below w.heap.size w w'
structure an' (B b k z g n:Nat) (L:List Value) (x:cS) (a:cp) (T:List bR) (C:List bu) (M:List bH) (w y:World):Prop where
 src:Src B y b k
 row:Row y z L
 box:Row y g [.int .i64 a.day,.int .i64 a.rule,x.t,x.b,x.c,x.m]
 own:dM n y x a T C M
 P3:Below z w y
 an9:g<y.heap.size
theorem an'.only {B b k k' z g n:Nat} {L:List Value} {x:cS} {a:cp} {T:List bR} {C:List bu} {M:List bH} {w y y':World} (h:an' B b k z g n L x a T C M w y) (hs:Src B y' b k') (ho:iJ b y y') (h1:z<b) (h2:b<n) (h3:b<g):an' B b k' z g n L x a T C M w y':=
 ⟨hs,h.row.only (by have:=h.src.lt;omega) (by omega) ho,h.box.only h.an9 (by omega) ho,h.own.aD (xU ho) (λc hc e=>by have:=(h.own.o.lt hc).1;omega),h.P3.trans ((xU ho).below (by have:=h.src.lt;omega) (λc e=>by omega)),Nat.lt_of_lt_of_le h.an9 ho.size⟩
theorem an'.six {B b k z g n:Nat} {L:List Value} {x:cS} {a:cp} {T:List bR} {C:List bu} {M:List bH} {w y:World} (h:an' B b k z g n L x a T C M w y) (hl:L.length=6) (h1:z<b) (h2:b<n) (h3:b<g) (hB:B<=z):an' B b k z g n [.int .i64 a.day,.int .i64 a.rule,x.t,x.b,x.c,x.m] x a T C M w (six y z a.day a.rule x.t x.b x.c x.m):=by
 have ht:=aoc y z a.day a.rule x.t x.b x.c x.m;exact ⟨h.src.keep (ht.block b h.src.lt.1 (by omega)) (λi hi=>ht.block i (by have:=h.src.lt;omega) (by omega)),aoq h.row hl _ _ _ _ _ _,h.box.aD h.an9 ht (by omega),h.own.aD ht (λc hc e=>by have:=(h.own.o.lt hc).1;omega),h.P3.trans (ht.below (by have:=h.src.lt;omega) (λc e=>by omega)),Nat.lt_of_lt_of_le h.an9 ht.size⟩
theorem an'.below {B b k z g n:Nat} {L:List Value} {x:cS} {a:cp} {T:List bR} {C:List bu} {M:List bH} {w y y':World} (h:an' B b k z g n L x a T C M w y) (hb:Below y.heap.size y y') (hz:z<y.heap.size):an' B b k z g n L x a T C M w y':=
 ⟨h.src.below hb h.src.lt.1,h.row.below hb hz,h.box.below hb h.an9,h.own.below hb,h.P3.trans (hb.mono (Nat.le_of_lt hz)),Nat.lt_of_lt_of_le h.an9 hb.size⟩
theorem an'.cells {B b k z g n:Nat} {L:List Value} {x:cS} {a:cp} {T:List bR} {C:List bu} {M:List bH} {w y:World} (h:an' B b k z g n L x a T C M w y):y.cell? ⟨g,0,none⟩=some (.int .i64 a.day)/\y.cell? ⟨g,1,none⟩=some (.int .i64 a.rule)/\y.cell? ⟨g,2,none⟩=some x.t/\y.cell? ⟨g,3,none⟩=some x.b/\y.cell? ⟨g,4,none⟩=some x.c/\y.cell? ⟨g,5,none⟩=some x.m:=
 ⟨h.box.cell 0 _ rfl,h.box.cell 1 _ rfl,h.box.cell 2 _ rfl,h.box.cell 3 _ rfl,h.box.cell 4 _ rfl,h.box.cell 5 _ rfl⟩
theorem aor (B:Nat) (A:Option Addr) (n c:Nat) (w:World) (h:za w B A n) (hB:B<=w.heap.size):
 Calls prog 14 #[.slice A n c] w (λe w'=>e= .returned (.pointer (some ⟨w.heap.size,0,none⟩))/\Src B w' w.heap.size 0/\Below w.heap.size w w'):=by
 have H:=I h;have HB:=I hB;clear h hB;go_enter func14,ntmps14;go_wp2;go_ret;have hb:=(Below.refl w.heap.size w).alloc (Nat.le_refl _) (.cells #[.slice A n c,.int .i64 0,.int .u64 0] 79);refine ⟨rfl,⟨A,n,c,0,0,?_,HB.o,Nat.le_refl _,by omega,by omega,ab' H.o (hb.mono HB.o)⟩,hb⟩;show (w.heap.push _)[w.heap.size]?=_
 simp
theorem Inn.less {base aoe:Nat} {w:World} {q:Bb} (h:Inn base w q) (hb:aoe<=base):Inn aoe w q:=⟨ay.less h.o1 hb,ay.less h.o2 hb,h.one,h.t4,h.p16,h.nn,h.ti⟩
theorem aal.less {base aoe:Nat} {w:World} {v:Value} {qs:List Bb} (h:aal base w v qs) (hb:aoe<=base):aal aoe w v qs:=
 ⟨GX h.row hb,λq hq=>(h.fa q hq).less hb,h.o,h.prs⟩
theorem aal.aD {base:Nat} {w w':World} {v:Value} {qs:List Bb} {F:Nat->Prop} (h:aal base w v qs) (ht:Touch F w w') (hF: ∀b,base<=b-> ¬F b):aal base w' v qs:=
 h.keep ht.size (λg hg=>ht.block g (h.anK hg).2 (hF g (h.anK hg).1))
theorem aot (A:Option Addr) (n c:Nat) (w:World) (h:za w w.heap.size A n):Calls prog 6 #[.slice A n c] w (aok w):=by
 obtain ⟨W0,ku⟩: ∃X,X=w.alloc (.cells #[.int .i64 0,.int .i64 0,.slice none 0 0,.slice none 0 0,.slice none 0 0,.slice none 0 0] 29):=⟨_,rfl⟩
 have Kn:W0.heap.size=w.heap.size+1:=by rw[ku];simp
 have xu:Below w.heap.size w W0:=by rw[ku];exact (Below.refl _ _).alloc (Nat.le_refl _) _
 have DX:ag (Row W0 w.heap.size [.int .i64 0,.int .i64 0,.slice none 0 0,.slice none 0 0,.slice none 0 0,.slice none 0 0]):=I (by rw[ku];exact Row.new w _ _);have gf:=I xu;have eT:ag (za W0 w.heap.size A n):=I (ab' h xu);clear h xu;go_enter func6,ntmps6;go_upto_region 1 with (fail)
 rw[<-ku];have KC:w.heap.size+1<=W0.heap.size:=by omega
 have KD:W0.heap.size<=w.heap.size+1:=by omega
 clear ku Kn;go_wp2_with (fail);refine (aor w.heap.size A n c W0 eT.o (by omega)).mono ?_;rintro e w1 ⟨rfl,CB,bw⟩;have tN:=I CB;have da:=I bw;have ez:=bw.size;have mE:=CB.lt.1;clear CB bw;go_wp2_with (fail);refine (zZ _ _ 0 w1 tN.o (by omega)).mono ?_;rintro e w2 ⟨x,a,T,C,M,rfl,-,cr,-,z',wY,CD⟩;obtain ⟨At,ct,Ab,cb,Ac,L4,Am,L1,rfl⟩:=cr.o.r.slices;have eH:=I cr;have HF:=I z';have Nr:=I wY;have sj:Below W0.heap.size W0 w2:=⟨CD.os.trans da.o.os,CD.tape.trans da.o.tape,CD.output.trans da.o.output,Nat.le_trans da.o.size CD.size,λi hi=>(CD.block i (Nat.lt_of_lt_of_le hi da.o.size) (λe=>by injection e;omega)).trans (da.o.block i hi)⟩
 have dy:=I sj;have ek:=CD.size;clear cr z' wY CD sj tN;unfold eu;go_upto_region 3 with (fail)
 obtain ⟨w3,LV⟩: ∃X,X=w2.alloc (.cells #[.int .i64 a.day,.int .i64 a.rule,.slice At a.af.length ct,.slice Ab a.base.length cb,.slice Ac a.av.length L4,.slice Am a.ao.length L1] 29):=⟨_,rfl⟩
 have Ik:Row w3 w2.heap.size [.int .i64 a.day,.int .i64 a.rule,.slice At a.af.length ct,.slice Ab a.base.length cb,.slice Ac a.av.length L4,.slice Am a.ao.length L1]:=by rw[LV];exact Row.new w2 _ _
 have dB:Below w2.heap.size w2 w3:=by rw[LV];exact (Below.refl _ _).alloc (Nat.le_refl _) _
 have hl3:w2.heap.size<w3.heap.size:=by rw[LV];simp
 rw[<-LV];clear LV;have lE:ag (an' w.heap.size W0.heap.size 220 w.heap.size w2.heap.size w1.heap.size [.int .i64 0,.int .i64 0,.slice none 0 0,.slice none 0 0,.slice none 0 0,.slice none 0 0] ⟨.slice At a.af.length ct,.slice Ab a.base.length cb,.slice Ac a.av.length L4,.slice Am a.ao.length L1⟩ a T C M w w3):=I ⟨(Nr.o.more (by omega)).below dB Nr.o.lt.1,DX.o.below (dy.o.trans (dB.mono dy.o.size)) (by omega),Ik,eH.o.below dB,gf.o.trans ((dy.o.trans (dB.mono dy.o.size)).mono gf.o.size),hl3⟩;clear Ik dB Nr DX eH dy gf eT da;refine dq 6 (λw'=>w'.cell? ⟨w2.heap.size,0,none⟩=some (.int .i64 a.day)/\w'.cell? ⟨w2.heap.size,1,none⟩=some (.int .i64 a.rule)/\w'.cell? ⟨w2.heap.size,2,none⟩=some (.slice At a.af.length ct)/\w'.cell? ⟨w2.heap.size,3,none⟩=some (.slice Ab a.base.length cb)/\w'.cell? ⟨w2.heap.size,4,none⟩=some (.slice Ac a.av.length L4)/\w'.cell? ⟨w2.heap.size,5,none⟩=some (.slice Am a.ao.length L1)) (by kernel_rfl) ?_;obtain ⟨w4,Ap⟩: ∃X,X=w3.drew:=⟨_,rfl⟩
 have b4:Below w3.heap.size w3 w4:=by rw[Ap];exact (Below.refl _ _).drew
 rw[<-Ap];clear Ap;have aoh:=I (lE.o.below b4 (by omega));have aE:=aoh.o.cells;clear b4 lE hl3;refine cl 0 ?_
 try simp only[Act.put,aK,aM]
 refine eS 1 (λ_=>aoh.o.cells) ?_
 try simp only[Act.put,aK,aM]
 refine eS 2 (λ_=>aoh.o.cells) ?_
 try simp only[Act.put,aK,aM]
 clear aE;refine cV 3 (λK hK=>?_)
 try simp only[aK]
 go_simp;go_at_call 17;refine (tX w.heap.size W0.heap.size 220 16 w4 aoh.o.src (by omega) (by omega) (by omega)).mono ?_;rintro e w5 ⟨n,hn,rfl,aou,aos⟩;have aob:=I (aoh.o.only aou aos (by omega) (by omega) (by omega));have aox:=aos.size;have e3:IntKind.i64.wrap (3+(n:Int))=((3+n:Nat):Int):=by rw[IntKind.wrap_i64];omega
 clear aou aos;refine hK.out _ _ (λ_=>aob.o.cells) ?_;clear hK K
 try simp only[Act.put,aM]
 refine eS 4 (λ_=>aob.o.cells) ?_
 try simp only[Act.put,aK,aM]
 refine cV 5 (λK hK=>?_)
 try simp only[aK]
 go_simp;go_at_call 16;refine (anO w.heap.size W0.heap.size 222 (3+n) a ⟨.slice At a.af.length ct,.slice Ab a.base.length cb,.slice Ac a.av.length L4,.slice Am a.ao.length L1⟩ w2.heap.size 0 w5 aob.o.src (by omega) (by omega) aob.o.cells.1 aob.o.cells.2.1 aob.o.cells.2.2.1 aob.o.cells.2.2.2.1 aob.o.cells.2.2.2.2.1 aob.o.cells.2.2.2.2.2 aob.o.own.o.r HF.o).mono ?_;rintro e w6 ⟨v,qs,Bm,rfl,hvn,hds,mw,hqo,hcf,CW,aol,aoi⟩;have aoa:=I (aob.o.only aol aoi (by omega) (by omega) (by omega));have aov:=aoi.size;have hzp:w1.heap.size<=w5.heap.size:=by have:=aob.o.an9;omega
 have HDS:=I (hds.less hzp);have HQO:=I hqo;have HRN:=I CW;have Q4:=I hcf;clear aol aoi hds hqo CW hcf;refine hK.out _ _ (λ_=>aoa.o.cells) ?_;clear hK K
 try simp only[Act.put,aM]
 refine cV 6 (λK hK=>?_)
 try simp only[aK]
 have TJ:=aoa.o.row;have r0:=TJ.cell 0 _ rfl;have r1:=TJ.cell 1 _ rfl;have r2:=TJ.cell 2 _ rfl;have r3:=TJ.cell 3 _ rfl;have r4:=TJ.cell 4 _ rfl;have r5:=TJ.cell 5 _ rfl;have s0:=TJ.free 0 (by simp);have s1:=TJ.free 1 (by simp);have s2:=TJ.free 2 (by simp);have s3:=TJ.free 3 (by simp);have s4:=TJ.free 4 (by simp);have s5:=TJ.free 5 (by simp);go_simp;clear TJ r0 r1 r2 r3 r4 r5 s0 s1 s2 s3 s4 s5;rw[aog];have aom:=aoa.o.six rfl (by omega) (by omega) (by omega) (Nat.le_refl _);have Cr:=aoc w6 w.heap.size a.day a.rule (.slice At a.af.length ct) (.slice Ab a.base.length cb) (.slice Ac a.av.length L4) (.slice Am a.ao.length L1);refine hK.out _ _ (λh=>by simp at h) ?_;clear hK K
 try simp only[Act.put,aM]
 obtain ⟨w7,VE⟩: ∃X,X=six w6 w.heap.size a.day a.rule (.slice At a.af.length ct) (.slice Ab a.base.length cb) (.slice Ac a.av.length L4) (.slice Am a.ao.length L1):=⟨_,rfl⟩
 rw[<-VE]at aom Cr⊢;clear VE;have aod:=I aom;have aow:=Cr.size;clear aom
 replace HDS:=I (HDS.o.aD Cr (λb hb e=>by omega))
 clear Cr;refine eS 7 (λh=>by simp at h) ?_
 try simp only[Act.put,aK,aM]
 refine dh (by kernel_rfl) ?_ _;have TJ:=aod.o.row;have r0:=TJ.cell 0 _ rfl;have r1:=TJ.cell 1 _ rfl;have r2:=TJ.cell 2 _ rfl;have r3:=TJ.cell 3 _ rfl;have r4:=TJ.cell 4 _ rfl;have r5:=TJ.cell 5 _ rfl;go_wp2
 have gD: ∀(ac:Go.Act) (w':World),ac.tmps[2]?=some (.pointer (some ⟨w.heap.size,0,none⟩))->ac.tmps[3]?=some v->w'.cell? ⟨w.heap.size,0,none⟩=some (.int .i64 a.day)->w'.cell? ⟨w.heap.size,1,none⟩=some (.int .i64 a.rule)->w'.cell? ⟨w.heap.size,2,none⟩=some (.slice At a.af.length ct)->w'.cell? ⟨w.heap.size,3,none⟩=some (.slice Ab a.base.length cb)->w'.cell? ⟨w.heap.size,4,none⟩=some (.slice Ac a.av.length L4)->w'.cell? ⟨w.heap.size,5,none⟩=some (.slice Am a.ao.length L1)->(results f6 ac.tmps).run prog w'= .ok (.tuple #[.agg #[.int .i64 a.day,.int .i64 a.rule,.slice At a.af.length ct,.slice Ab a.base.length cb,.slice Ac a.av.length L4,.slice Am a.ao.length L1],v]) w':=by
  intro ac w' ha hf nB nC nE ob oc od;simp[results,results6,go_sem,ha,hf,nB,nC,nE,ob,oc,od]
 refine bodyPost_ret (gD _ _ rfl rfl r0 r1 r2 r3 r4 r5) rfl ?_;exact ⟨⟨.slice At a.af.length ct,.slice Ab a.base.length cb,.slice Ac a.av.length L4,.slice Am a.ao.length L1⟩,a,T,C,M,v,qs,Bm,rfl,⟨_,_,_,_,_,_,_,_,_,_,_,_,rfl⟩,aod.o.own.less (by omega),HF.o,hvn,HDS.o.less (by omega),by omega,HQO.o,Q4.o,HRN.o,aod.o.P3⟩
end Go.Proofs.YtbcggaldkihcaaaGreatDoor
