/- The program's reader of a patch. -/
import Derived.Test.YtbcggaldkihcaaaGreatDoorQB
set_option maxHeartbeats 4000000
set_option maxRecDepth 100000
namespace Go.Proofs.YtbcggaldkihcaaaGreatDoor
open Tryz
open Go.RowKit Go.Lib
def aaK (l:List UInt8) (w:World) (e:Ending) (w':World):Prop:=
 ∃c cs,e= .returned (.slice (some ⟨w.heap.size,0,none⟩) (sL 10 l).dropLast.length c)/\w'.heap[w.heap.size]?=some (.cells cs 9 (0,0))/\(∀(k:Nat) (p:List UInt8),(sL 10 l).dropLast[k]?=some p->cs[k]?=some (.string ⟨p.toArray⟩))/\(sL 10 l).dropLast.length<=c/\c<=l.length+1/\Below w.heap.size w w'
theorem aaH (s:ByteArray) (w:World) (hs:s.size<=65536) (hE:aaG w.heap.size w):
 Calls prog 55 #[.string s] w (aaK s.data.toList w):=by
 have ja:s.data.toList.length=s.size:=by simp
 have HS:=I (hE.spl w (Below.refl _ _) s 10 hs);have aff:=adA 10 s.data.toList;have gm:=List.length_pos_iff.2 (adU 10 s.data.toList);have oy:(sL 10 s.data.toList).dropLast.length=(sL 10 s.data.toList).length-1:=List.length_dropLast
 have CK:ag (∀(k:Nat) (p:List UInt8),(sL 10 s.data.toList).dropLast[k]?=some p->(sL 10 s.data.toList)[k]?=some p):=I (λk p h=>by
  have hk:=(List.getElem?_eq_some_iff.1 h).1;rw[List.getElem?_dropLast]at h
  split at h
  ·exact h
  cases h)
 clear hE;unfold aaK;generalize (sL 10 s.data.toList).dropLast=ds at*;generalize sL 10 s.data.toList=ps at*;obtain ⟨n,hn⟩: ∃n,ps.length=n+1:=⟨ps.length-1,by omega⟩
 rw[hn]at oy HS aff;have hdn:ds.length=n:=by omega
 go_enter func55,ntmps55;go_wp2_with (fail);refine (HS.o).mono ?_;rintro e w1 ⟨rfl,cs,CQ,og⟩;have HB:ag (Below w.heap.size w w1):=I (by rw[CQ];exact (Below.refl _ _).alloc (Nat.le_refl _) _);have Rj:ag (w1.heap[w.heap.size]?=some (.cells cs 9 (0,0))):=I (by rw[CQ];exact ly _ _);have KR:ag (∀(k:Nat) (p:List UInt8),ds[k]?=some p->cs[k]?=some (.string ⟨p.toArray⟩)):=I (λk p h=>og k p (CK.o k p h));clear CQ og CK HS;go_wp2;go_ret;exact ⟨n+1,cs,by rw[hdn];rfl,Rj.o,KR.o,by omega,by omega,HB.o⟩
theorem abw {t:List UInt8}: ∀q,bF q=true->sN q=t->(sL 10 t).dropLast=q.map Qn:=by
 intro q h e;rw[<-e,ada h];simp
theorem aaN (s:ByteArray) (w:World) (hs:s.size<=65536) (hE:aaG w.heap.size w):
 Calls prog 27 #[.string s] w (PF s.data.toList w):=by
 have E:=I hE;have ja:s.data.toList.length=s.size:=by simp
 clear hE;by_cases abE:s.size<=2000
 ·have bW:Below w.heap.size w (w.alloc (.cells #[] 93)):=(Below.refl _ _).alloc (Nat.le_refl _) _;have abg:=I (aaH s (w.alloc (.cells #[] 93)) hs ((E.o.on bW).more bW.size));have xP:ag (∀q,bF q=true->sN q=s.data.toList->(sL 10 s.data.toList).dropLast=q.map Qn):=I (λq h e=>abw q h e)
  have HLQ:ag (∀l∈(sL 10 s.data.toList).dropLast,l.length<=2000):=I (λl hl=>by
   have:=adz 10 s.data.toList l (List.dropLast_subset _ hl);omega)
  have aff:(sL 10 s.data.toList).dropLast.length<=2000:=by have:=adA 10 s.data.toList;rw[List.length_dropLast];omega
  unfold aaK at abg;generalize (sL 10 s.data.toList).dropLast=ls at*;obtain ⟨P,hP⟩: ∃P,P=ls.map (V' true 1 99):=⟨_,rfl⟩
  have HPE:ag (∀k,(h:k<ls.length)->P[k]?=some (V' true 1 99 ls[k])):=I (λk h=>by rw[hP,List.getElem?_map,List.getElem?_eq_getElem h];rfl);have D9:ag (P.length=ls.length):=I (by rw[hP,List.length_map])
  have HPS:ag (bS P):=I (λe he=>by
   rw[hP]at he;obtain ⟨l,hl,rfl⟩:=List.mem_map.1 he;have:=HLQ.o l hl;obtain ⟨a,b⟩:=afp true 1 99 l;unfold mY maxLen;omega)
  have eC:ag (∀q,bF q=true->sN q=s.data.toList->P=q):=I (λq h e=>by
   rw[hP,xP.o q h e,List.map_map]
   conv=>rhs;rw[<-List.map_id q]
   apply List.map_congr_left;intro x hx;obtain ⟨k,hk⟩:=List.getElem?_of_mem hx;exact aei true (acb h hk) (by omega) (by omega) (by omega) (by omega))
  have amY:ag ([]∈ls->EG s.data.toList=none):=I (λhm=>afV (λq h e=>by
   rw[xP.o q h e]at hm;obtain ⟨x,_,hx⟩:=List.mem_map.1 hm;unfold Qn at hx
   split at hx
   ·cases hx
   split at hx<;>cases hx))
  clear hP xP;obtain ⟨i0,hi,dK,ez,ek⟩:=info_parts oG;go_enter func27,ntmps27;go_wp2_with (fail);refine (abg.o).mono ?_;rintro e w1 ⟨c,cs,rfl,ta,og,ur,hc,bw⟩;have da:ag (Below w.heap.size w w1):=I (bW.trans (bw.mono bW.size));have Ot:(w.alloc (.cells #[] 93)).heap.size=w.heap.size+1:=by simp
  have cN:w1.ownsRow w.heap.size 93 4 (.slice (some ⟨w.heap.size,0,none⟩) 0 0) 0 []:=aT (by simpa using World.ownsRow_made w #[] 0 (Nat.le_refl _) (Nat.zero_le _) rfl) bw;rw[Ot]at ta;have abD:=I ta;have KR:=I og;have dY:=I cN;clear ta og bw cN abg;go_wp2;go_loopw [4,24] (λo i wr=> ∃(k:Nat),k<=ls.length/\i= .int .i64 (k:Int)/\wr.ownsRow w.heap.size 93 4 o k ((P.take k).flatMap ah)/\o≠ .slice none 0 0/\[]∉ls.take k/\wr.heap[w.heap.size+1]?=some (.cells cs 9 (0,0))/\Below w.heap.size w wr) (λ_ i _=>ls.length-(RowKit.intOf i).toNat);case atStart=>exact ⟨0,Nat.zero_le _,rfl,dY.o,by simp,by simp,abD.o,da.o⟩
  case round=>
   obtain ⟨k,hk,rfl,cr,nm,gm,hS,hb⟩:=hrel;obtain ⟨g,cap,rfl,SD,nj⟩:=bG cr nm;unfold maxLen at nj;clear nm;have eH:=I cr;have HB:=I hb;have Zy:=I hS;clear cr hb;by_cases aI:k<ls.length
   ·have x0:=afs hS (KR.o k _ (List.getElem?_eq_getElem aI));have H5:ls.take (k+1)=ls.take k++[ls[k]]:=List.take_succ_eq_append_getElem aI;have SK:=I (afq ah (HPE.o k aI));have hlk:=HLQ.o ls[k] (List.getElem_mem aI);have J6:=List.getElem_mem aI;cases og:ls[k]with
    |nil=>
     rw[og]at x0 J6;have HN:=I (amY.o J6);clear og H5 J6 hlk gm hS;go_wp2;go_ret2;exact ⟨.slice none 0 0,by rw[HN.o];rfl,by rw[HN.o];exact ay.nil _ _ _,HB.o⟩
    |cons h r=>
     rw[og]at x0 hlk H5 SK
     have CC:ag ([]∉ls.take (k+1)):=I (by
      rw[H5,List.mem_append,List.mem_singleton];rintro (h|h)
      ·exact gm h
      cases h)
     clear og H5 J6 gm hS;rw[List.length_cons]at hlk;obtain ⟨sb,Tk⟩: ∃sb:ByteArray,sb=⟨(h::r).toArray⟩:=⟨_,rfl⟩
     have CB:sb.size=r.length+1:=by rw[Tk,ag',List.length_cons]
     have Kn: ∀p:0<sb.size,sb[0]'p=h:=by subst Tk;intro p;rfl
     have hse:(sb.toList==[])=false:=by rw[Tk,ByteArray.toList_eq];rfl
     have Vq:ag (sb.extract 1 sb.size=⟨r.toArray⟩):=I (by rw[agt,Tk];rfl);rw[<-Tk]at x0;have p0:0<sb.size:=by omega
     have nB:=Kn p0;have wY:sb.size<=2000:=by omega
     clear Tk Kn CB;have FN:ag (∀W,Below w.heap.size w W->Calls prog 56 #[.string (sb.extract 1 sb.size),.string ⟨#[32]⟩] W λe Nn=> ∃ok,e= .returned (.tuple #[.string ⟨(sK 32 r).1.toArray⟩,.string ⟨(sK 32 r).2.toArray⟩,.bool ok])/\ ∃k,Nn=W.drewN k):=I (λW eD=>by rw[Vq.o];exact E.o.cut W eD ⟨r.toArray⟩ 32 (by rw[ag'];omega));obtain ⟨ha,O5⟩:=acm 32 r
     have HQ:ag (V' true 1 99 (h::r)=if h=43 then ⟨1,(numOf 1 99 (sK 32 r).1).getD 0,⟨#[]⟩,⟨(sK 32 r).2.toArray⟩⟩
      else if h=45 then ⟨2,(numOf 1 99 (sK 32 r).1).getD 0,⟨(sK 32 r).2.toArray⟩,⟨#[]⟩⟩
      else ⟨3,(numOf 1 99 (sK 32 r).1).getD 0,⟨(sK 124 (sK 32 r).2).1.toArray⟩,⟨(sK 124 (sK 32 r).2).2.toArray⟩⟩):=I (by
       rw[V'];rfl)
     generalize V' true 1 99 (h::r)=Q at*;generalize sK 32 r=ab at*;obtain ⟨a,b⟩:=ab;simp only at ha O5 HQ FN;have aaM:ag (∀W,Below w.heap.size w W->Calls prog 26 #[.string ⟨a.toArray⟩,.int .i64 1,.int .i64 99] W (bT (.tuple #[.int .i64 ((numOf 1 99 a).getD 0),.bool (numOf 1 99 a).isSome]) W)):=I (λW eD=>aak ⟨a.toArray⟩ 1 99 W (by rw[ag'];omega) (by omega) (by omega) ((E.o.on eD).more eD.size));have KP:ag (∀W,Below w.heap.size w W->Calls prog 56 #[.string ⟨b.toArray⟩,.string ⟨#[124]⟩] W λe Nn=> ∃ok,e= .returned (.tuple #[.string ⟨(sK 124 b).1.toArray⟩,.string ⟨(sK 124 b).2.toArray⟩,.bool ok])/\ ∃k,Nn=W.drewN k):=I (λW eD=>E.o.cut W eD ⟨b.toArray⟩ 124 (by rw[ag'];omega));generalize (numOf 1 99 a).getD 0=z at*;generalize (numOf 1 99 a).isSome=zok at*;generalize sK 124 b=hJ at*;obtain ⟨x,y⟩:=hJ;simp only at KP HQ
     have hHI: ∀n:UInt8,h≠n->((sb[0].toNat:Int)==(n.toNat:Int))=false:=λn hn=>by
      simp only[beq_eq_false_iff_ne,ne_eq];intro e;rw[nB]at e;exact hn (UInt8.toNat_inj.1 (by omega))
     have HI:=I hHI;have HH0:=I nB;clear hHI nB ha O5;generalize (P.take k).flatMap ah=L at*;go_wp2_with (fail);refine (FN.o _ HB.o).mono ?_;rintro e w2 ⟨ok1,rfl,m2,rfl⟩;have dy:=I (below_drewN HB.o m2);go_wp2_with (fail);refine (aaM.o _ dy.o).mono ?_;rintro e w3 ⟨rfl,dB⟩;have dI:=I (dy.o.trans (dB.mono dy.o.size));have sH:=I dB;clear dB;go_wp2_with (fail);refine (KP.o _ dI.o).mono ?_;rintro e w4 ⟨ok2,rfl,m4,rfl⟩;have j7:=below_drewN dI.o m4;have hk4:Below wr.heap.size wr (w3.drewN m4):=below_drewN ((below_drewN (Below.refl wr.heap.size wr) m2).trans sH.o) m4;have cr:=aT eH.o hk4;have bc:=I (ae5 hk4 Zy.o);have afB:=j7.size;have CE:=HH0.o;have am':=sb[0].toNat_lt;clear hk4 x0;by_cases h1:h=43
     ·have t1:((sb[0].toNat:Int)==43)=true:=by rw[CE,h1];rfl
      have HO:ag (Q=⟨1,z,⟨#[]⟩,⟨b.toArray⟩⟩):=I (by rw[HQ.o,if_pos h1]);clear h1 CE;go_wp2_with (at_builtin;refine wpList_append_own _ rfl _ _ 36 rfl w.heap.size 93 i0 (.agg #[.int .i64 0,.int .i64 0,.string ⟨#[]⟩,.string ⟨#[]⟩]) 4 48 underlying36 hi dK ez ek rfl (by decide) _ _ _ rfl (cr.alloc _) ⟨(w3.drewN m4).heap.size,0,none⟩ 1 1 (ah ⟨1,z,⟨#[]⟩,⟨b.toArray⟩⟩) rfl rfl (λj u hj=>fS hj) (λu hu=>cJ hu) ?c3 ?c4 (aS afB) ?_);case c3=>unfold maxLen;omega
      case c4=>omega
      intro v' w5 aG aA aU;have mF:v'≠ .slice none 0 0:=by simpa using aU
      have zd:=(j7.alloc afB _).grown aA (aS afB) (λj hj=>(cr.lt j hj).1);have Ek:=afr aA bc.o (aho cr bc.o (by decide));clear cr aA aU;go_wp2;go_roundw;case rel=>exact ⟨k+1,by omega,by go_num,by rw[SK.o,HO.o];exact aG,mF,CC.o,Ek,zd⟩
      case measure=>simp[RowKit.intOf];omega
     have t0:((sb[0].toNat:Int)==43)=false:=HI.o 43 h1;by_cases h2:h=45
     ·have t1:((sb[0].toNat:Int)==45)=true:=by rw[CE,h2];rfl
      have HO:ag (Q=⟨2,z,⟨b.toArray⟩,⟨#[]⟩⟩):=I (by rw[HQ.o,if_neg h1,if_pos h2]);clear h1 h2 CE;go_wp2_with (at_builtin;refine wpList_append_own _ rfl _ _ 36 rfl w.heap.size 93 i0 (.agg #[.int .i64 0,.int .i64 0,.string ⟨#[]⟩,.string ⟨#[]⟩]) 4 48 underlying36 hi dK ez ek rfl (by decide) _ _ _ rfl (cr.alloc _) ⟨(w3.drewN m4).heap.size,0,none⟩ 1 1 (ah ⟨2,z,⟨b.toArray⟩,⟨#[]⟩⟩) rfl rfl (λj u hj=>fS hj) (λu hu=>cJ hu) ?c3 ?c4 (aS afB) ?_);case c3=>unfold maxLen;omega
      case c4=>omega
      intro v' w5 aG aA aU;have mF:v'≠ .slice none 0 0:=by simpa using aU
      have zd:=(j7.alloc afB _).grown aA (aS afB) (λj hj=>(cr.lt j hj).1);have Ek:=afr aA bc.o (aho cr bc.o (by decide));clear cr aA aU;go_wp2;go_roundw;case rel=>exact ⟨k+1,by omega,by go_num,by rw[SK.o,HO.o];exact aG,mF,CC.o,Ek,zd⟩
      case measure=>simp[RowKit.intOf];omega
     have t1:((sb[0].toNat:Int)==45)=false:=HI.o 45 h2;have HO:ag (Q=⟨3,z,⟨x.toArray⟩,⟨y.toArray⟩⟩):=I (by rw[HQ.o,if_neg h1,if_neg h2]);clear h1 h2 CE;go_wp2_with (at_builtin;refine wpList_append_own _ rfl _ _ 36 rfl w.heap.size 93 i0 (.agg #[.int .i64 0,.int .i64 0,.string ⟨#[]⟩,.string ⟨#[]⟩]) 4 48 underlying36 hi dK ez ek rfl (by decide) _ _ _ rfl (cr.alloc _) ⟨(w3.drewN m4).heap.size,0,none⟩ 1 1 (ah ⟨3,z,⟨x.toArray⟩,⟨y.toArray⟩⟩) rfl rfl (λj u hj=>fS hj) (λu hu=>cJ hu) ?c3 ?c4 (aS afB) ?_);case c3=>unfold maxLen;omega
     case c4=>omega
     intro v' w5 aG aA aU;have mF:v'≠ .slice none 0 0:=by simpa using aU
     have zd:=(j7.alloc afB _).grown aA (aS afB) (λj hj=>(cr.lt j hj).1);have Ek:=afr aA bc.o (aho cr bc.o (by decide));clear cr aA aU;go_wp2;go_roundw;case rel=>exact ⟨k+1,by omega,by go_num,by rw[SK.o,HO.o];exact aG,mF,CC.o,Ek,zd⟩
     case measure=>simp[RowKit.intOf];omega
   have eA: ¬(k:Int)<(ls.length:Int):=by omega
   have di:k=P.length:=by have:=D9.o;omega
   have jQ:P.take k=P:=List.take_of_length_le (by omega);have cr:=eH.o;rw[jQ,di]at cr;have hE:bg wr wr.heap.size (.slice (some ⟨g,0,none⟩) k cap) P:=by rw[di];exact cz.bI ah (λ_=>rfl) cr
   have hO:ay ah P w.heap.size wr (.slice (some ⟨g,0,none⟩) k cap):=by rw[di];exact ay.bI ah (size:=4) (λ_=>rfl) cr
   have HTX:=I (aay P wr _ hE HPS.o (aah (E.o.env.on HB.o) HB.o.size));have HO:=I hO;clear di jQ cr hE hO aI gm hS;cases cy:bF P with
   |false=>
    have HN:ag (EG s.data.toList=none):=I (afk eC.o (by rw[cy];simp));rw[cy]at HTX;clear cy;go_wp2_with (fail);refine (HTX.o).mono ?_;rintro e w2 ⟨rfl,cL⟩;have abR:=HB.o.trans (cL.mono HB.o.size);clear cL;go_wp2;go_ret2;exact ⟨.slice none 0 0,by rw[HN.o];rfl,by rw[HN.o];exact ay.nil _ _ _,abR⟩
   |true=>
    have ii:=I cy;rw[cy,ae2 cy]at HTX;clear cy;go_wp2_with (fail);refine (HTX.o).mono ?_;rintro e w2 ⟨rfl,cL⟩;have dy:=I cL;have abR:=HB.o.trans (cL.mono HB.o.size);clear cL;by_cases heq:sN P=s.data.toList
    ·have CB:(sN P==s.toList)=true:=by rw[ByteArray.toList_eq,heq];simp
     have HN:ag (EG s.data.toList=some P):=I (adv eC.o ii.o heq);clear heq;go_wp2;go_ret2;exact ⟨.slice (some ⟨g,0,none⟩) k cap,by rw[HN.o];rfl,by rw[HN.o];exact HO.o.on dy.o,abR⟩
    have CB:(sN P==s.toList)=false:=by rw[ByteArray.toList_eq];simpa using heq
    have HN:ag (EG s.data.toList=none):=I (afk eC.o (λh=>heq h.2));clear heq;go_wp2;go_ret2;exact ⟨.slice none 0 0,by rw[HN.o];rfl,by rw[HN.o];exact ay.nil _ _ _,abR⟩
 have HN:ag (EG s.data.toList=none):=I (afV (λq h e=>by
  have h1:=aec h q.length;have h2:=eZ h;rw[List.take_length,e]at h1;omega))
 go_enter func27,ntmps27;go_wp2;go_ret2;exact ⟨.slice none 0 0,by rw[HN.o];rfl,by rw[HN.o];exact ay.nil _ _ _,Below.refl _ _⟩
def V6:dr:=⟨0,0,[],⟨#[]⟩,0,[],0,0,0⟩
noncomputable def V9 (t:List UInt8):Option dr:=inv cA H6 t
theorem aa0 {b:ByteArray} (h:b.toList=[]):b=⟨#[]⟩:=by rw[<-gO b,h]
theorem aap {d:dr} (h:cA d=true):
 (d.kind=1/\0<=d.member/\d.member<=11/\(∀z∈d.af,0<=z/\z<=11)/\d.af.length<=4/\d.al=⟨#[]⟩/\d.bO=0/\d.patch=[]/\d.start=0/\d.aB=0/\d.aj=0)\/
 (d.kind=2/\0<=d.member/\d.member<=11/\dU d.al.toList=true/\0<=d.bO/\d.bO<=3/\d.af=[]/\d.patch=[]/\d.start=0/\d.aB=0/\d.aj=0)\/
 (d.kind=3/\0<=d.member/\d.member<=11/\dU d.al.toList=true/\bF d.patch=true/\1<=d.aj/\d.aj<=999/\d.aj<=d.start/\d.start<d.aB/\d.aB<=1000/\d.af=[]/\d.bO=0)\/
 (d.kind=4/\d.member=0/\d.af=[]/\d.al=⟨#[]⟩/\d.bO=0/\d.patch=[]/\d.start=0/\d.aB=0/\d.aj=0):=by
 unfold cA at h;simp only[Bool.or_eq_true,Bool.and_eq_true,decide_eq_true_eq,List.isEmpty_iff,dS]at h;rcases h with ((⟨⟨⟨⟨⟨h1,h2⟩,h3⟩,h4⟩,h5⟩,h6⟩|⟨⟨⟨⟨⟨h1,h2⟩,h3⟩,h4⟩,h5⟩,h6⟩)|⟨⟨⟨⟨⟨h1,h2⟩,h3⟩,h4⟩,h5⟩,h6⟩)|⟨⟨⟨⟨⟨h1,h2⟩,h3⟩,h4⟩,h5⟩,h6⟩
 ·refine .inl ⟨h1,h2.1,h2.2,?_,?_,aa0 h4,h5,h6.1.1.1,h6.1.1.2,h6.1.2,h6.2⟩
  ·intro z hz;rw[fo,Bool.and_eq_true,eo]at h3;obtain ⟨k,hk,rfl⟩:=List.mem_iff_getElem.1 hz;have:=h3.1 k hk;rw[nb (List.getElem?_eq_getElem hk)]at this;simp only[Bool.and_eq_true,dS]at this;omega
  rw[fo,Bool.and_eq_true,decide_eq_true_eq]at h3;exact h3.2
 ·exact .inr (.inl ⟨h1,h2.1,h2.2,h3,h4.1,h4.2,h5,h6.1.1.1,h6.1.1.2,h6.1.2,h6.2⟩)
 ·unfold iP at h4;simp only[Bool.and_eq_true,decide_eq_true_eq,dS]at h4;obtain ⟨⟨⟨⟨⟨_,p1⟩,p2⟩,p3⟩,p4⟩,p5⟩:=h4;exact .inr (.inr (.inl ⟨h1,h2.1,h2.2,h3,p1,p2.1,p2.2,p3,p4,p5,h5,h6⟩))
 exact .inr (.inr (.inr ⟨h1,h2,h3,h4|>aa0,h5,h6.1.1.1,h6.1.1.2,h6.1.2,h6.2⟩))
theorem aaO (a b c:Int):Qk [a,b,c] [32]=itoa a++32::(itoa b++32::itoa c):=by
 simp[Qk,Lib.join,List.intercalate]
theorem abF {zs:List Int} {c:UInt8} (h:c.toNat<44\/57<c.toNat):c∉Qk zs [44]:=by
 have h44:(44:UInt8).toNat=44:=rfl;cases zs with
 |nil=>simp[Qk,Lib.join,List.intercalate]
 |cons z zs=>
  unfold Qk;rw[List.map_cons,Lib.join_cons];intro hm;rcases List.mem_append.1 hm with hm|hm
  ·exact ack z (by omega) hm
  simp only[Lib.joinTail,List.mem_flatten,List.mem_map]at hm;obtain ⟨l,⟨x,⟨y,_,rfl⟩,rfl⟩,hl⟩:=hm;rcases List.mem_append.1 hl with hl|hl
  ·have:=List.mem_singleton.1 hl;subst this;omega
  exact ack y (by omega) hl
theorem aaP {zs:List Int} (h:zs≠[]):sL 44 (Qk zs [44])=zs.map itoa:=by
 cases zs with
 |nil=>exact absurd rfl h
 |cons z zs=>
  unfold Qk;rw[List.map_cons]
  exact ac9 _ _ (λy hy=>by
   rw[<-List.map_cons]at hy;obtain ⟨n,_,rfl⟩:=List.mem_map.1 hy;exact ack n (.inl (by decide)))
theorem abS {zs:List Int} (h:zs≠[]):Qk zs [44]≠[]:=by
 cases zs with
 |nil=>exact absurd rfl h
 |cons z zs=>
  unfold Qk;rw[List.map_cons,Lib.join_cons];intro e;exact ag1 z (List.append_eq_nil_iff.1 e).1
theorem aaC {q:List aV} (h:bF q=true):Sx (Qi (sN q))=sN q:=by
 unfold Sx Qi;rw[List.map_map]
 conv=>rhs;rw[<-List.map_id (sN q)]
 apply List.map_congr_left;intro c hc
 have h59:c≠59:=by
  rintro rfl;unfold sN at hc;obtain ⟨e,he,hce⟩:=List.mem_flatMap.1 hc;obtain ⟨k,hk⟩:=List.getElem?_of_mem he;rw[acS]at hce;rcases List.mem_append.1 hce with hce|hce
  ·exact aeh (acb h hk) (.inr (by decide)) hce
  revert hce;decide
 show (if (if c=10 then 59 else c)=59 then (10:UInt8)else (if c=10 then 59 else c))=c
 by_cases Ie:c=10
 ·subst Ie;rfl
 rw[if_neg Ie,if_neg h59]
theorem aaI {q:List aV} (h:bF q=true):EG (sN q)=some q:=by
 have hu:=afl (t:=sN q) false (lo:=1) (hi:=99) (by omega) (by omega) (by omega) (by omega) (ada h);have hq:=hu q h rfl;rw[hq]at hu;exact adv hu h rfl
theorem abx (lo hi:Int):numOf lo hi []=none:=afV (λq _ e=>ag1 q e)
theorem aaB {b:ByteArray} (h:dU b.toList=true):(32:UInt8)∉b.toList:=agm h (by decide)
def abG (v:List UInt8):Int:=if v=Ql 0 then 0 else if v=Ql 1 then 1 else if v=Ql 2 then 2 else if v=Ql 3 then 3 else 0
noncomputable def aa7 (l:List UInt8):Int:=(numOf (-999999999) 999999999 l).getD 0
noncomputable def aa8 (s:List UInt8):dr:=
 let p:=sK 32 s;let a:=sK 32 p.2;let b:=sK 32 a.2;let c:=sK 32 b.2;let e:=sK 32 c.2;let f:=sK 32 e.2
 if p.1=[116,114,117,115,116]then ⟨1,aa7 a.1,(Qm (-999999999) 999999999 (sL 44 a.2)).getD [],⟨#[]⟩,0,[],0,0,0⟩
 else if p.1=[118,111,116,101]then ⟨2,aa7 a.1,[],⟨b.1.toArray⟩,abG b.2,[],0,0,0⟩
 else if p.1=[112,114,111,112,111,115,101]then ⟨3,aa7 a.1,[],⟨b.1.toArray⟩,0,(EG (Sx f.2)).getD [],aa7 e.1,aa7 f.1,aa7 c.1⟩
 else if p.1=[110,101,120,116]then ⟨4,0,[],⟨#[]⟩,0,[],0,0,0⟩
 else V6
theorem aau {z:Int} (h1:0<=z) (h2:z<=1000):aa7 (itoa z)=z:=by
 unfold aa7;rw[acA (by omega) (by omega) (by omega) (by omega) rfl];rfl
theorem aa9 {z:Int} (h1:0<=z) (h2:z<=3):abG (Ql z)=z:=by
 have:z=0\/z=1\/z=2\/z=3:=by omega
 rcases this with rfl|rfl|rfl|rfl<;>decide
theorem abH (z:Int):(32:UInt8)∉Ql z:=by
 unfold Ql
 split
 ·decide
 split
 ·decide
 split<;>decide
theorem amA {d:dr} {s:List UInt8} (h:cA d=true) (e:H6 d=s):aa8 s=d:=by
 subst e;have sp: ∀z:Int,(32:UInt8)∉itoa z:=λz=>ack z (.inl (by decide));obtain ⟨kind,member,af,al,bO,patch,start,aB,aj⟩:=d;rcases aap h with ⟨k,m1,m2,ht,hl,e1,e2,e3,e4,dc,e6⟩|⟨k,m1,m2,hn,v1,v2,e1,e2,e3,e4,dc⟩|⟨k,m1,m2,hn,hp,c1,c2,c3,c4,c5,e1,e2⟩|⟨k,e0,e1,e2,e3,e4,dc,e6,e7⟩
 ·simp only at k m1 m2 ht hl e1 e2 e3 e4 dc e6;subst k e1 e2 e3 e4 dc e6;by_cases hz:af=[]
  ·subst hz;have et:H6 ⟨1,member,[],⟨#[]⟩,0,[],0,0,0⟩=[116,114,117,115,116]++32::itoa member:=by simp[H6]
   rw[et];unfold aa8;rw[C0 _ (by decide)];simp only[adT (sp member),if_true,aau m1 (by omega:member<=1000),sL,Qm,abx];rfl
  have et:H6 ⟨1,member,af,⟨#[]⟩,0,[],0,0,0⟩=[116,114,117,115,116]++32::(itoa member++32::Qk af [44]):=by simp[H6,hz]
  rw[et];unfold aa8;rw[C0 _ (by decide)];simp only[C0 _ (sp member),if_true,aau m1 (by omega:member<=1000),aaP hz,aef (lo:= -999999999) (hi:=999999999) (by omega) (by omega) af (λz hz=>by have:=ht z hz;omega)];rfl
 ·simp only at k m1 m2 hn v1 v2 e1 e2 e3 e4 dc;subst k e1 e2 e3 e4 dc;have et:H6 ⟨2,member,[],al,bO,[],0,0,0⟩=[118,111,116,101]++32::(itoa member++32::(al.toList++32::Ql bO)):=by simp[H6]
  rw[et];unfold aa8;rw[C0 _ (by decide)];simp only[C0 _ (sp member),C0 _ (aaB hn),aau m1 (by omega:member<=1000),aa9 v1 v2,gO];rfl
 ·simp only at k m1 m2 hn hp c1 c2 c3 c4 c5 e1 e2;subst k e1 e2
  have et:H6 ⟨3,member,[],al,0,patch,start,aB,aj⟩=[112,114,111,112,111,115,101]++32::(itoa member++32::(al.toList++32::(itoa aj++32::(itoa start++32::(itoa aB++32::Qi (sN patch)))))):=by
   simp[H6,aaO]
  rw[et];unfold aa8;rw[C0 _ (by decide)];simp only[C0 _ (sp member),C0 _ (aaB hn),C0 _ (sp aj),C0 _ (sp start),C0 _ (sp aB),aau m1 (by omega:member<=1000),aau (by omega:0<=aj) (by omega:aj<=1000),aau (by omega:0<=start) (by omega:start<=1000),aau (by omega:0<=aB) (by omega:aB<=1000),aaC hp,aaI hp,gO];rfl
 simp only at k e0 e1 e2 e3 e4 dc e6 e7;subst k e0 e1 e2 e3 e4 dc e6 e7;rfl
def aaW (v:List UInt8):Int:=if v=Ql 0 then 0 else if v=Ql 1 then 1 else if v=Ql 2 then 2 else if v=Ql 3 then 3 else-1
noncomputable def aav (hi:Int) (l:List UInt8):Int:=(numOf 0 hi l).getD 0
noncomputable def aaf (ws:List (List UInt8)):Int:=if 1<ws.length then aav 12 (ws.getD 1 [])else 0
noncomputable def aad (ws:List (List UInt8)):dr:=
 if ws.getD 0 []=[110,101,120,116]then ⟨4,aaf ws,[],⟨#[]⟩,0,[],0,0,0⟩
 else if ws.getD 0 []=[116,114,117,115,116]/\ws.length<=3 then ⟨1,aaf ws,if ws.length=3 then XP 0 12 (ws.getD 2 [])else [],⟨#[]⟩,0,[],0,0,0⟩
 else if ws.getD 0 []=[118,111,116,101]/\ws.length=4 then ⟨2,aaf ws,[],⟨(ws.getD 2 []).toArray⟩,aaW (ws.getD 3 []),[],0,0,0⟩
 else if ws.getD 0 []=[112,114,111,112,111,115,101]/\ws.length=7 then ⟨3,aaf ws,[],⟨(ws.getD 2 []).toArray⟩,0,(EG (Sx (ws.getD 6 []))).getD [],aav 1000 (ws.getD 4 []),aav 1000 (ws.getD 5 []),aav 1000 (ws.getD 3 [])⟩
 else ⟨0,aaf ws,[],⟨#[]⟩,0,[],0,0,0⟩
theorem aaw {z hi:Int} (h1:0<=z) (h2:z<=hi) (hh:hi<=1000):aav hi (itoa z)=z:=by
 unfold aav;rw[acA (by omega) (by omega) (by omega) (by omega) rfl];rfl
theorem aa1 {z:Int} (h1:0<=z) (h2:z<=3):aaW (Ql z)=z:=by
 have:z=0\/z=1\/z=2\/z=3:=by omega
 rcases this with rfl|rfl|rfl|rfl<;>decide
theorem abT {zs:List Int} (h: ∀z∈zs,0<=z/\z<=11) (hl:zs.length<=4) (hz:zs≠[]):XP 0 12 (Qk zs [44])=zs:=by
 unfold XP;rw[if_neg (abS hz),aaP hz,if_pos (by rw[List.length_map];omega),aef (by omega) (by omega) zs (λz hz=>by have:=h z hz;omega)];rfl
theorem aa' {d:dr} {s:List UInt8} (h:cA d=true) (e:H6 d=s):aad (K8 32 6 s)=d:=by
 subst e;have sp: ∀z:Int,(32:UInt8)∉itoa z:=λz=>ack z (.inl (by decide));obtain ⟨kind,member,af,al,bO,patch,start,aB,aj⟩:=d;rcases aap h with ⟨k,m1,m2,ht,hl,e1,e2,e3,e4,dc,e6⟩|⟨k,m1,m2,hn,v1,v2,e1,e2,e3,e4,dc⟩|⟨k,m1,m2,hn,hp,c1,c2,c3,c4,c5,e1,e2⟩|⟨k,e0,e1,e2,e3,e4,dc,e6,e7⟩
 ·simp only at k m1 m2 ht hl e1 e2 e3 e4 dc e6;subst k e1 e2 e3 e4 dc e6;by_cases hz:af=[]
  ·subst hz;have et:H6 ⟨1,member,[],⟨#[]⟩,0,[],0,0,0⟩=[116,114,117,115,116]++32::itoa member:=by simp[H6]
   rw[et,acd 5 _ (by decide),acj _ (sp member)];simp[aad,aaf,aaw m1 (by omega:member<=12)]
  have et:H6 ⟨1,member,af,⟨#[]⟩,0,[],0,0,0⟩=[116,114,117,115,116]++32::(itoa member++32::Qk af [44]):=by simp[H6,hz]
  rw[et,acd 5 _ (by decide),acd 4 _ (sp member),acj _ (abF (.inl (by decide)))];simp[aad,aaf,aaw m1 (by omega:member<=12),abT ht hl hz]
 ·simp only at k m1 m2 hn v1 v2 e1 e2 e3 e4 dc;subst k e1 e2 e3 e4 dc;have et:H6 ⟨2,member,[],al,bO,[],0,0,0⟩=[118,111,116,101]++32::(itoa member++32::(al.toList++32::Ql bO)):=by simp[H6]
  rw[et,acd 5 _ (by decide),acd 4 _ (sp member),acd 3 _ (aaB hn),acj _ (abH bO)];simp[aad,aaf,aaw m1 (by omega:member<=12),aa1 v1 v2,gO]
 ·simp only at k m1 m2 hn hp c1 c2 c3 c4 c5 e1 e2;subst k e1 e2
  have et:H6 ⟨3,member,[],al,0,patch,start,aB,aj⟩=[112,114,111,112,111,115,101]++32::(itoa member++32::(al.toList++32::(itoa aj++32::(itoa start++32::(itoa aB++32::Qi (sN patch)))))):=by
   simp[H6,aaO]
  rw[et,acd 5 _ (by decide),acd 4 _ (sp member),acd 3 _ (aaB hn),acd 2 _ (sp aj),acd 1 _ (sp start),acd 0 _ (sp aB),K8];simp[aad,aaf,aaw m1 (by omega:member<=12),aaw (by omega:0<=aj) (by omega:aj<=1000),aaw (by omega:0<=start) (by omega:start<=1000),aaw (by omega:0<=aB) (by omega:aB<=1000),aaC hp,aaI hp,gO]
 simp only at k e0 e1 e2 e3 e4 dc e6 e7;subst k e0 e1 e2 e3 e4 dc e6 e7;have et:H6 ⟨4,0,[],⟨#[]⟩,0,[],0,0,0⟩=[110,101,120,116]:=by simp[H6]
 rw[et,acj _ (by decide)];simp[aad,aaf]
def W2 (d:dr) (A1:Option Addr) (c1:Nat) (A2:Option Addr) (c2:Nat):List Value:=
 [.int .i64 d.kind,.int .i64 d.member,.slice A1 d.af.length c1,.string d.al,.int .i64 d.bO,.slice A2 d.patch.length c2,.int .i64 d.start,.int .i64 d.aB,.int .i64 d.aj]
def aaD (d:dr) (A1:Option Addr) (c1:Nat) (A2:Option Addr) (c2:Nat):Value:=
 .agg #[.int .i64 d.kind,.int .i64 d.member,.slice A1 d.af.length c1,.string d.al,.int .i64 d.bO,.slice A2 d.patch.length c2,.int .i64 d.start,.int .i64 d.aB,.int .i64 d.aj]
def aaz (s:List UInt8) (w:World) (e:Ending) (w':World):Prop:=
 ∃A1 c1 A2 c2,e= .returned (.tuple #[aaD ((V9 s).getD V6) A1 c1 A2 c2,.bool (V9 s).isSome])/\ay ak ((V9 s).getD V6).af w.heap.size w' (.slice A1 ((V9 s).getD V6).af.length c1)/\ay ah ((V9 s).getD V6).patch w.heap.size w' (.slice A2 ((V9 s).getD V6).patch.length c2)/\Below w.heap.size w w'
theorem ay.set {α:Type} {f:α->List Value} {xs:List α} {base:Nat} {w:World} {v:Value} (h:ay f xs base w v) {p:Addr} (u:Value) (hp:p.block<base):ay f xs base (w.setCell p u) v:=by
 obtain ⟨A,c,rfl,h1,h2,h3⟩:=h;refine ⟨A,c,rfl,h1,h2,λh0=>?_⟩;obtain ⟨g,e,hg,aI,hr⟩:=h3 h0;exact ⟨g,e,hg,by simpa using aI,hr.nP u (by omega)⟩
structure k9 (w V:World) (L:List Value):Prop where
 row:Row V (w.heap.size+1) L
 Tl:Row V w.heap.size (W2 V6 none 0 none 0)
 P3:Below w.heap.size w V
 siz:w.heap.size+1<V.heap.size
theorem k9.set {w V:World} {L:List Value} (h:k9 w V L) (k:Nat) (u:Value) (hk:k<L.length):k9 w (V.setCell ⟨w.heap.size+1,k,none⟩ u) (L.set k u):=
 ⟨h.row.set k u hk,h.Tl.nP u (by simp),h.P3.setCell (by simp) _,by simpa using h.siz⟩
theorem k9.below {w V lc:World} {L:List Value} (h:k9 w V L) (hb:Below V.heap.size V lc):k9 w lc L:=
 ⟨h.row.below hb h.siz,h.Tl.below hb (Nat.lt_of_succ_lt h.siz),h.P3.trans (hb.mono h.P3.size),Nat.lt_of_lt_of_le h.siz hb.size⟩
theorem k9.drew {w V:World} {L:List Value} (h:k9 w V L) (n:Nat):k9 w (V.drewN n) L:=h.below (below_drewN (Below.refl _ _) n)
theorem k9.abI {w V lc:World} {L:List Value} {n:Nat} (h:k9 w V L) (hw:lc=V.drewN n):k9 w lc L:=hw▸h.drew n
theorem k9.own {w V:World} {L:List Value} (h:k9 w V L):w.heap.size+2<=V.heap.size:=h.siz
theorem k9.start (w:World) (m:Nat):k9 w (((w.alloc (.cells #[.int .i64 0,.int .i64 0,.slice none 0 0,.string ⟨#[]⟩,.int .i64 0,.slice none 0 0,.int .i64 0,.int .i64 0,.int .i64 0] 38)).drewN m).alloc (.cells #[.int .i64 0,.int .i64 0,.slice none 0 0,.string ⟨#[]⟩,.int .i64 0,.slice none 0 0,.int .i64 0,.int .i64 0,.int .i64 0] 38)) (W2 V6 none 0 none 0):=by
 have bU:Below w.heap.size w ((w.alloc (.cells #[.int .i64 0,.int .i64 0,.slice none 0 0,.string ⟨#[]⟩,.int .i64 0,.slice none 0 0,.int .i64 0,.int .i64 0,.int .i64 0] 38)).drewN m):=below_drewN ((Below.refl _ _).alloc (Nat.le_refl _) _) m;have hs:((w.alloc (.cells #[.int .i64 0,.int .i64 0,.slice none 0 0,.string ⟨#[]⟩,.int .i64 0,.slice none 0 0,.int .i64 0,.int .i64 0,.int .i64 0] 38)).drewN m).heap.size=w.heap.size+1:=by simp
 have hx:w.heap.size<(w.alloc (.cells #[.int .i64 0,.int .i64 0,.slice none 0 0,.string ⟨#[]⟩,.int .i64 0,.slice none 0 0,.int .i64 0,.int .i64 0,.int .i64 0] 38)).heap.size:=by simp
 have r0:=(Row.new w #[.int .i64 0,.int .i64 0,.slice none 0 0,.string ⟨#[]⟩,.int .i64 0,.slice none 0 0,.int .i64 0,.int .i64 0,.int .i64 0] 38).below (below_drewN (Below.refl _ _) m) hx;have r1:=Row.new ((w.alloc (.cells #[.int .i64 0,.int .i64 0,.slice none 0 0,.string ⟨#[]⟩,.int .i64 0,.slice none 0 0,.int .i64 0,.int .i64 0,.int .i64 0] 38)).drewN m) #[.int .i64 0,.int .i64 0,.slice none 0 0,.string ⟨#[]⟩,.int .i64 0,.slice none 0 0,.int .i64 0,.int .i64 0,.int .i64 0] 38;rw[hs]at r1;exact ⟨r1,r0.below ((Below.refl _ _).alloc (Nat.le_refl _) _) (by rw[hs];omega),bU.alloc bU.size _,by simp⟩
structure ane (s:List UInt8) (w V:World) (d:dr) (A1:Option Addr) (c1:Nat) (A2:Option Addr) (c2:Nat):Prop where
 st:k9 w V (W2 d A1 c1 A2 c2)
 o1:ay ak d.af (w.heap.size+2) V (.slice A1 d.af.length c1)
 o2:ay ah d.patch (w.heap.size+2) V (.slice A2 d.patch.length c2)
 nn:bS d.patch
 ti:d.al.size<=maxLen
 un: ∀q,cA q=true->H6 q=s->d=q
theorem abh {k:Nat} (h:k<4):([.string ⟨#[110,111,110,101]⟩,.string ⟨#[121,101,115]⟩,.string ⟨#[110,111]⟩,.string ⟨#[98,108,97,110,107]⟩]:List Value)[k]?=some (.string ⟨(Ql (k:Int)).toArray⟩):=by
 have:k=0\/k=1\/k=2\/k=3:=by omega
 rcases this with rfl|rfl|rfl|rfl<;>rfl
theorem abU {v:List UInt8} (h: ∀j:Nat,j<4->Ql (j:Int)≠v):aaW v= -1:=by
 unfold aaW;rw[if_neg (λe=>h 0 (by omega) e.symm),if_neg (λe=>h 1 (by omega) e.symm),if_neg (λe=>h 2 (by omega) e.symm),if_neg (λe=>h 3 (by omega) e.symm)]
theorem abj (g:Nat) (v:ByteArray) (w:World) (h:Row w g [.string ⟨#[110,111,110,101]⟩,.string ⟨#[121,101,115]⟩,.string ⟨#[110,111]⟩,.string ⟨#[98,108,97,110,107]⟩]):
 Calls prog 25 #[.slice (some ⟨g,0,none⟩) 4 4,.string v] w (f' (.int .i64 (aaW v.data.toList)) w):=by
 have HR:=I h;clear h;go_enter func25,ntmps25;go_wp2;go_loop [5,8] (λ_ i=> ∃k:Nat,k<=4/\i= .int .i64 (k:Int)/\ ∀j:Nat,j<k->Ql (j:Int)≠v.data.toList) (λ_ i=>4-(RowKit.intOf i).toNat);case atStart=>exact ⟨0,Nat.zero_le _,rfl,λj hj=>absurd hj (Nat.not_lt_zero _)⟩
 case round=>
  obtain ⟨k,hk,rfl,rf⟩:=hrel;have HN:=I rf;clear rf;by_cases aI:k<4
  ·have x0:w.cell? ⟨g,k,none⟩=some (.string ⟨(Ql (k:Int)).toArray⟩):=HR.o.cell k _ (abh aI);have hix:=aa1 (z:=(k:Int)) (by omega) (by omega);have SH:=I hix;clear hix;by_cases he:Ql (k:Int)=v.data.toList
   ·have h1:(v.toList==Ql (k:Int))=true:=by rw[ByteArray.toList_eq,he];simp
    have HE:ag (aaW v.data.toList=(k:Int)):=I (by rw[<-he];exact SH.o);clear he SH;generalize Ql (k:Int)=wQ at*;go_wp2;go_ret;exact ⟨by rw[HE.o];rfl,0,rfl⟩
   have h1:(v.toList==Ql (k:Int))=false:=by rw[ByteArray.toList_eq];simpa using λe=>he e.symm
   have iG:ag (∀j:Nat,j<k+1->Ql (j:Int)≠v.data.toList):=I (λj hj=>by
    rcases Nat.lt_or_ge j k with h|h
    ·exact HN.o j h
    have:j=k:=by omega
    rw[this];exact he)
   clear he SH;generalize Ql (k:Int)=wQ at*;go_wp2;go_round;case rel=>exact ⟨k+1,by omega,by go_num,iG.o⟩
   case measure=>simp[RowKit.intOf];omega
  have eA: ¬(k:Int)<4:=by omega
  have HE:ag (aaW v.data.toList= -1):=I (abU (λj hj=>HN.o j (by omega)));go_wp2;go_ret;exact ⟨by rw[HE.o];rfl,0,rfl⟩
structure n8 (w w1 V:World) (L:List Value):Prop where
 row:Row V w1.heap.size L
 Tl:Row V w.heap.size (W2 V6 none 0 none 0)
 all:Below w.heap.size w V
 P3:Below w1.heap.size w1 V
 siz:w1.heap.size<V.heap.size
 lt:w.heap.size<w1.heap.size
theorem n8.set {w w1 V:World} {L:List Value} (h:n8 w w1 V L) (k:Nat) (u:Value) (hk:k<L.length):n8 w w1 (V.setCell ⟨w1.heap.size,k,none⟩ u) (L.set k u):=
 ⟨h.row.set k u hk,h.Tl.nP u (by have:=h.lt;simp;omega),h.all.setCell (by have:=h.lt;simp;omega) _,h.P3.setCell (by simp) _,by simpa using h.siz,h.lt⟩
theorem n8.below {w w1 V lc:World} {L:List Value} (h:n8 w w1 V L) (hb:Below V.heap.size V lc):n8 w w1 lc L:=
 ⟨h.row.below hb h.siz,h.Tl.below hb (Nat.lt_trans h.lt h.siz),h.all.trans (hb.mono h.all.size),h.P3.trans (hb.mono h.P3.size),Nat.lt_of_lt_of_le h.siz hb.size,h.lt⟩
theorem n8.abI {w w1 V lc:World} {L:List Value} {n:Nat} (h:n8 w w1 V L) (hw:lc=V.drewN n):n8 w w1 lc L:=hw▸h.below (below_drewN (Below.refl _ _) n)
theorem n8.own {w w1 V:World} {L:List Value} (h:n8 w w1 V L):w1.heap.size+1<=V.heap.size:=h.siz
theorem n8.start {w w1:World} (hr:Row w1 w.heap.size (W2 V6 none 0 none 0)) (hb:Below w.heap.size w w1) (aI:w.heap.size<w1.heap.size) (cs:Array Value):n8 w w1 (w1.alloc (.cells cs 38)) cs.toList:=by
 have bU:Below w1.heap.size w1 (w1.alloc (.cells cs 38)):=(Below.refl _ _).alloc (Nat.le_refl _) _;exact ⟨Row.new _ _ _,hr.below bU aI,hb.trans (bU.mono hb.size),bU,by simp,aI⟩
structure Pre (w w1 V:World) (d:dr) (A1:Option Addr) (c1:Nat) (A2:Option Addr) (c2:Nat):Prop where
 st:n8 w w1 V (W2 d A1 c1 A2 c2)
 o1:ay ak d.af (w1.heap.size+1) V (.slice A1 d.af.length c1)
 o2:ay ah d.patch (w1.heap.size+1) V (.slice A2 d.patch.length c2)
 nn:bS d.patch
 ti:d.al.size<=maxLen
theorem Pre.below {w w1 V lc:World} {d:dr} {A1:Option Addr} {c1:Nat} {A2:Option Addr} {c2:Nat} (h:Pre w w1 V d A1 c1 A2 c2) (hb:Below V.heap.size V lc):Pre w w1 lc d A1 c1 A2 c2:=
 ⟨h.st.below hb,h.o1.on hb,h.o2.on hb,h.nn,h.ti⟩
theorem Pre.member {w w1 V:World} {d:dr} {A1:Option Addr} {c1:Nat} {A2:Option Addr} {c2:Nat} (h:Pre w w1 V d A1 c1 A2 c2) (m:Int):Pre w w1 (V.setCell ⟨w1.heap.size,1,none⟩ (.int .i64 m)) {d with member:=m} A1 c1 A2 c2:=
 ⟨h.st.set 1 _ (by simp[W2]),h.o1.set _ (by simp),h.o2.set _ (by simp),h.nn,h.ti⟩
theorem Row.drew {W:World} {g:Nat} {L:List Value} (h:Row W g L):Row W.drew g L:=⟨λj u hj=>by simpa using h.cell j u hj,λj hj=>by simpa using h.free j hj⟩
def Words (w1:World) (g:Nat) (ws:List (List UInt8)):Prop:=g<w1.heap.size/\ ∀(k:Nat) (l:List UInt8),ws[k]?=some l->w1.cell? ⟨g,k,none⟩=some (.string ⟨l.toArray⟩)
theorem Words.at {w w1 V:World} {L:List Value} {g:Nat} {ws:List (List UInt8)} (h:Words w1 g ws) (hS:n8 w w1 V L) {k:Nat} {l:List UInt8} (hk:ws[k]?=some l):V.cell? ⟨g,k,none⟩=some (.string ⟨l.toArray⟩):=
 (hS.P3.cell (p:=⟨g,k,none⟩) h.1).trans (h.2 k l hk)
theorem aby (s:ByteArray) (k:Nat) (h:k<s.size):s.data.toList.take (k+1)=s.data.toList.take k++[s[k]]:=by
 rw[List.take_succ_eq_append_getElem (by simpa using h)];rfl
def aao:Nat->List UInt8->Nat
 |_,[]=>0
 |i,c::r=>(i+1)*c.toNat+aao (i+1) r
theorem aa2 (c:UInt8): ∀(a:List UInt8) (i:Nat),aao i (a++[c])=aao i a+(i+a.length+1)*c.toNat
 |[],i=>by simp[aao]
 |x::a,i=>by
  rw[List.cons_append,aao,aao,aa2 c a (i+1),List.length_cons,show i+(a.length+1)+1=i+1+a.length+1 by omega];exact (Nat.add_assoc _ _ _).symm
theorem abn: ∀(l:List UInt8) (i:Nat),i+l.length<=65536->aao i l<=16711680*l.length
 |[],_,_=>by simp[aao]
 |c::r,i,h=>by
  rw[List.length_cons]at h;have h1:=abn r (i+1) (by omega);have h2:(i+1)*c.toNat<=65536*255:=Nat.mul_le_mul (by omega) (by have:=c.toNat_lt;omega);rw[aao,List.length_cons];omega
def chk (b:Nat) (t:List UInt8):Nat:=(31*b+aao 0 t)% 9973
theorem aa5 (b:Nat) (t:List UInt8):chk b t<9973:=Nat.mod_lt _ (by omega)
def jrn:Nat->List dr->List UInt8
 |_,[]=>[]
 |b,d::r=>itoa (chk b (H6 d):Nat)++32::(H6 d++10::jrn (chk b (H6 d)) r)
def aaq:Nat->List dr->Nat
 |b,[]=>b
 |b,d::r=>aaq (chk b (H6 d)) r
theorem aaQ (d:dr): ∀(ds:List dr) (b:Nat),aaq b (ds++[d])=chk (aaq b ds) (H6 d)
 |[],_=>rfl
 |x::ds,b=>by rw[List.cons_append,aaq,aaq,aaQ d ds]
theorem aba (d:dr): ∀(ds:List dr) (b:Nat),jrn b (ds++[d])=jrn b ds++(itoa (chk (aaq b ds) (H6 d):Nat)++32::(H6 d++[10]))
 |[],_=>by simp[jrn,aaq]
 |x::ds,b=>by rw[List.cons_append,jrn,jrn,aaq,aba d ds];simp
theorem abb: ∀(ds:List dr) (b:Nat),b<9973->aaq b ds<9973
 |[],_,h=>h
 |_::ds,_,_=>abb ds _ (aa5 _ _)
theorem aam {d:dr} (h:cA d=true):(H6 d).length<=2000:=by
 obtain ⟨m1,m2⟩:=aeE h;have b5:=itoa_length_le d.member (by omega) (by omega);rcases ac' h with ⟨k1,t1,t2⟩|⟨k2,t1,v1,v2⟩|⟨k3,t1,op,p1,p2,p3,p4,p5,p6⟩|⟨k4,m0⟩
 ·have Ij:=agh d.af [44] (by simp) t2;unfold H6;rw[if_pos k1]
  split<;>simp<;>omega
 ·have UZ:(Ql d.bO).length<=8:=by unfold Ql;split<;>(try split)<;>(try split)<;>simp
  unfold H6;rw[if_neg (by omega),if_pos k2];simp;omega
 ·have sG:(sN d.patch).length<=1280:=by
   have h1:=aec op d.patch.length;have h2:=eZ op;rw[List.take_length]at h1;omega
  have Ij:=agh [d.aj,d.start,d.aB] [32] (by simp) (by
   intro z hz;simp only[List.mem_cons,List.not_mem_nil,or_false]at hz;omega)
  simp only[List.length_cons,List.length_nil]at Ij;unfold H6 Qi;rw[if_neg (by omega),if_neg (by omega),if_pos k3];simp;omega
 unfold H6;rw[if_neg (by omega),if_neg (by omega),if_neg (by omega)];simp
def aaJ (ds:List dr):Bool:=decide (ds.length<=40)&&ds.all cA
theorem abc {ds:List dr}:aaJ ds=true↔ds.length<=40/\ ∀d∈ds,cA d=true:=by
 unfold aaJ;rw[Bool.and_eq_true,decide_eq_true_eq,List.all_eq_true]
theorem abo: ∀(ds:List dr) (b:Nat),(∀d∈ds,cA d=true)->(jrn b ds).length<=2100*ds.length
 |[],_,_=>by simp[jrn]
 |d::ds,b,h=>by
  have h1:=aam (h d (by simp));have h2:=abo ds (chk b (H6 d)) (λx hx=>h x (by simp[hx]));have h3:=aa5 b (H6 d);have h4:=itoa_length_le (chk b (H6 d):Nat) (by omega) (by omega);rw[jrn];simp;omega
def abz (d:dr) (A1:Option Addr) (c1:Nat) (A2:Option Addr) (c2:Nat):List Value:=
 [.int .i64 d.kind,.int .i64 d.member,.slice A1 d.af.length c1,.string d.al,.int .i64 d.bO,.slice A2 d.patch.length c2,.int .i64 d.start,.int .i64 d.aB,.int .i64 d.aj]
def abd:World->Nat->List Value->dr->Prop:=λw B us d=>
 ∃A1 c1 A2 c2,us=abz d A1 c1 A2 c2/\aae w B (.slice A1 d.af.length c1) d.af/\bg w B (.slice A2 d.patch.length c2) d.patch/\bS d.patch/\d.al.size<=maxLen
theorem abd.stays:Hx abd:=λ_ _ _ _ _ _ ⟨A1,c1,A2,c2,h,hi,he,hs,ht⟩ hb hB=>⟨A1,c1,A2,c2,h,hi.on (Pl.stays _) hb hB,he.on (Pl.stays _) hb hB,hs,ht⟩
def aa3 (w:World) (B:Nat) (v:Value) (ds:List dr):Prop:=cz abd 9 w B v ds
theorem aa4 {w:World} {n c k:Nat} {A:Option Addr} {ds:List dr} {d:dr} (h:aa3 w w.heap.size (.slice A n c) ds) (hk:ds[k]?=some d):
 ∃b off A1 c1 A2 c2,A=some ⟨b,off,none⟩/\b<w.heap.size/\fp w b (off+k*9) d A1 c1 A2 c2:=by
 obtain ⟨A',c',hv,h1,h2,h3⟩:=h;injection hv with e1 e2 e3
 subst e1;have aI:k<ds.length:=(List.getElem?_eq_some_iff.1 hk).1;obtain ⟨b,off,hA,hb,hc⟩:=h3 (by omega);obtain ⟨us,hl,⟨A1,c1,A2,c2,U1,hi,he,hs,ht⟩,aC⟩:=hc k d hk;subst U1;exact ⟨b,off,A1,c1,A2,c2,hA,hb,aC 0 _ rfl,aC 1 _ rfl,aC 2 _ rfl,aC 3 _ rfl,aC 4 _ rfl,aC 5 _ rfl,aC 6 _ rfl,aC 7 _ rfl,aC 8 _ rfl,hi,he,hs,ht⟩
theorem aaR (b:Nat) (s:ByteArray) (w:World) (hb:b<9973) (hs:s.size<=65536):
 Calls prog 60 #[.int .i64 (b:Int),.string s] w (f' (.int .i64 ((chk b s.data.toList:Nat):Int)) w):=by
 have ja:s.data.toList.length=s.size:=by simp
 have jQ:ag (31*b+aao 0 (s.data.toList.take s.size)=31*b+aao 0 s.data.toList):=I (by rw[List.take_of_length_le (by omega)])
 have Gz: ∀k,aao 0 (s.data.toList.take k)<=16711680*65536:=λk=>by
  have h:=abn (s.data.toList.take k) 0 (by rw[List.length_take];omega);rw[List.length_take]at h;omega
 have Gs:=I Gz;clear Gz;go_enter func60,ntmps60;go_wp2;go_loop [5,6,11] (λm _ i=> ∃k:Nat,k<=s.size/\i= .int .i64 (k:Int)/\m= .int .i64 ((31*b+aao 0 (s.data.toList.take k):Nat):Int)) (λ_ _ i=>s.size-(RowKit.intOf i).toNat);case atStart=>exact ⟨0,Nat.zero_le _,rfl,by simp[aao]⟩
 case round=>
  obtain ⟨k,hk,rfl,rfl⟩:=hrel;have xu:=Gs.o k;by_cases aI:k<s.size
  ·have bw:=Gs.o (k+1)
   have hw:aao 0 (s.data.toList.take (k+1))=aao 0 (s.data.toList.take k)+(k+1)*s[k].toNat:=by
    rw[aby s k aI,aa2,List.length_take,ja]
    congr 2
    omega
   have hc:=s[k].toNat_lt;obtain ⟨N,hN⟩: ∃N,N=31*b+aao 0 (s.data.toList.take k):=⟨_,rfl⟩
   obtain ⟨M,hM⟩: ∃M,M=31*b+aao 0 (s.data.toList.take (k+1)):=⟨_,rfl⟩
   have hNM:(N:Int)+((k:Int)+1)*(s[k].toNat:Int)=(M:Int):=by rw[hM,hw,hN];push_cast;omega
   have p1:0<=((k:Int)+1)*(s[k].toNat:Int):=Int.mul_nonneg (by omega) (by omega);have p2:((k:Int)+1)*(s[k].toNat:Int)<=65536*255:=Int.mul_le_mul (by omega) (by omega) (by omega) (by omega);have q1:N<=2000000000000:=by omega
   have q2:M<=2000000000000:=by omega
   rw[<-hN];have HM:=I hM;clear hM hN hw xu bw ja;go_wp2;go_round;case rel=>exact ⟨k+1,by omega,by go_num,by rw[<-HM.o]⟩
   case measure=>simp[RowKit.intOf];omega
  have di:k=s.size:=by omega
  have eA: ¬(k:Int)<(s.size:Int):=by omega
  have hf:=jQ.o;rw[<-di]at hf;rw[hf];have hq:31*b+aao 0 s.data.toList<=2000000000000:=by rw[<-hf];omega
  have HC:ag (chk b s.data.toList=(31*b+aao 0 s.data.toList)% 9973):=I rfl;obtain ⟨N,hN⟩: ∃N,N=31*b+aao 0 s.data.toList:=⟨_,rfl⟩
  rw[<-hN]at HC hq⊢;clear hN hf di aI xu ja;go_wp2;go_ret;exact ⟨by rw[HC.o];rfl,0,rfl⟩
end Go.Proofs.YtbcggaldkihcaaaGreatDoor
