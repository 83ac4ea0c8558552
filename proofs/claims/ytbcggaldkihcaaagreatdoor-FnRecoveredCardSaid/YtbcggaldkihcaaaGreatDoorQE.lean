/- The intervals of broken days, walked: the reference's; known is only when there are none. -/
import Derived.Test.YtbcggaldkihcaaaGreatDoorQD
import Derived.Maps.AppendAt
import Derived.Deep.RegionHeld3
import Derived.Test.YtbcggaldkihcaaaGreatDoorQA
import Derived.Test.YtbcggaldkihcaaaGreatDoorQB
import Derived.Test.YtbcggaldkihcaaaGreatDoorQN
import Derived.Deep.Slices
import Derived.Deep.Fields
import Derived.ChangeSame
import Derived.ChangeSlices
import Derived.ProofKit
import Derived.OpenShut
import Derived.Lib.SmallJoins
set_option maxHeartbeats 8000000
set_option maxRecDepth 100000
namespace Go.Proofs.YtbcggaldkihcaaaGreatDoor
open Tryz
open Go.RowKit Go.Lib
def ny (S:List bE) (ls:List bo) (M:List Int) (k:Nat):Prop:= ∀x∈M.take k,(nU S ls x).isSome=true
theorem ny.Wm {S:List bE} {ls:List bo} {M:List Int} {k:Nat} (hk:k<M.length) (h:(nU S ls M[k]).isSome=true):ny S ls M (k+1)↔ny S ls M k:=by
 constructor
 ·exact λH x hx=>H x ((jF hk x).2 (.inl hx))
 intro H x hx;rcases (jF hk x).1 hx with hx|hx
 ·exact H x hx
 rw[hx];exact h
theorem ny.no {S:List bE} {ls:List bo} {M:List Int} {k:Nat} (hk:k<M.length) (h:(nU S ls M[k]).isSome=false): ¬ny S ls M (k+1):=λH=>by
 have:=H M[k] ((jF hk _).2 (.inr rfl));rw[h]at this;cases this
theorem gp.Bq {S:List bE} {ls:List bo} (cy:bJ ls=true) (h: ∀x,xC ls x->(nU S ls x).isSome=true): ∀i,i<=(bB ls).length->gp S ls i []
 |0,_=>gp.start S ls
 |i+1,hi=>(gp.Bq cy h i (by omega)).skip cy (by omega) (h _ (((nu ls).2 _).1 (List.getElem_mem (by omega:i<(bB ls).length))))
theorem Lu {S:List bE} {ls:List bo} (cy:bJ ls=true):(∀x,xC ls x->(nU S ls x).isSome=true)↔eJ S ls:=by
 constructor
 ·exact λh=>(gp.Bq cy h _ (Nat.le_refl _)).none.1 rfl
 intro h x hx;obtain ⟨h0,h1⟩:=j6 hx;exact I0 h h0 h1
def ff (S:List bE) (ls:List bo) (w:World) (e:Ending) (w':World):Prop:=
 ∃g cap n,e= .returned (.slice (some ⟨g,0,none⟩) n cap)/\n<=1000/\(n=0↔eJ S ls)/\Below w.heap.size w w'
theorem mb (S:List bE) (ls:List bo) (w:World) (vs va:Value) (hS:iT w w.heap.size vs S) (hA:eE w w.heap.size va ls) (cy:cd S=true) (hp:bJ ls=true):
 Calls prog 118 #[vs,va] w (ff S ls w):=by
 have IM:=eM hp;have HP:=I hp;have HT:=I (Ds ls w va hA (by omega));have N1:=I (λ(d:Int) w' (hb:Below w.heap.size w w')=>Lm S ls d w' vs va (cz.on hS (Pl.stays _) hb hb.size) (hA.on hb hb.size) cy hp);obtain ⟨A,c,rfl,_⟩:=hS;obtain ⟨A2,c2,rfl,_⟩:=dk hA;obtain ⟨i0,hi,dK,ez,ek⟩:=info_parts zi;clear hA cy hp;go_enter func118,ntmps118;go_wp2_with (fail);refine (HT.o).mono ?_;rintro e w1 ⟨vT,M,rfl,vC,hM,SR,bw⟩;have yh:0<M.length:=List.length_pos_of_mem ((hM 0).2 (.inl rfl));have SS:=I hM;obtain ⟨AT,Et,rfl,_,nj,h3⟩:=vC;obtain ⟨gT,rfl,QM,F6,QN⟩:=h3 (λe=>by rw[e]at yh;cases yh);have cN:(w1.alloc (.cells #[] 35)).ownsRow w.heap.size 35 1 (.slice (some ⟨w1.heap.size,0,none⟩) 0 0) 0 []:=by simpa using World.ownsRow_made (base:=w.heap.size) w1 #[] 0 bw.size (Nat.zero_le _) rfl
 have N2:ag (Rows w.heap.size (w1.alloc (.cells #[] 35)) w1.heap.size 0 []):=I ⟨cN,(λx hx=>by cases hx),List.Pairwise.nil⟩;have ri:Below w1.heap.size w1 (w1.alloc (.cells #[] 35)):=(Below.refl _ _).alloc (Nat.le_refl _) _;have da:=I (bw.trans (ri.mono bw.size));have N3:=I (QN.below ri F6);clear bw h3 QN hM cN ri;go_wp2;go_loopw [6,7,8] (λo bf i wr=> ∃(k g cap:Nat) (b:Bool) (L:List qi),i= .int .i64 (k:Int)/\bf= .bool b/\k<=M.length/\o= .slice (some ⟨g,0,none⟩) L.length cap/\L.length<=k/\Rows w.heap.size wr g cap L/\(b=true->L≠[])/\(L=[]↔ny S ls M k)/\Row wr gT (M.flatMap ak)/\gT<wr.heap.size/\gT≠g/\(∀x∈L,gT<x.h)/\Below w.heap.size w wr) (λ_ _ i _=>M.length-(RowKit.intOf i).toNat);case atStart=>exact ⟨0,w1.heap.size,0,false,[],rfl,rfl,Nat.zero_le _,rfl,Nat.zero_le _,N2.o,(λh=>by cases h),⟨λ_ x hx=>by simp at hx,λ_=>rfl⟩,N3.o,by simp;omega,by omega,(λx hx=>by cases hx),da.o⟩
 case round=>
  obtain ⟨k,g,cap,b,L,rfl,rfl,hk,rfl,tf,F7,IJ,hG,QO,F6,qG,lF,hb⟩:=hrel;have kW:=I F7;have Mx:=I IJ;have HG:=I hG;have FT:=I QO;have HB:=I hb;clear F7 IJ hG QO hb;by_cases aI:k<M.length
  ·have x9:wr.cell? ⟨gT,k,none⟩=some (.int .i64 M[k]):=FT.o.cell k _ (by rw[jG,List.getElem?_map,List.getElem?_eq_getElem aI];rfl);have Wo:ag (∀W,Row W gT (M.flatMap ak)->W.cell? ⟨gT,k,none⟩=some (.int .i64 M[k])):=I (λW h=>h.cell k _ (by rw[jG,List.getElem?_map,List.getElem?_eq_getElem aI];rfl));have q1:=j6 ((SS.o _).1 (List.getElem_mem aI));have Dh:=I (N1.o M[k] wr HB.o);have SU:=I (λh=>ny.Wm (S:=S) (ls:=ls) aI h);have hY:=I (λh=>ny.no (S:=S) (ls:=ls) aI h);by_cases hn:k+1<M.length
   ·have N5:(k:Int)+1<(M.length:Int):=by omega
    have q2:=j6 ((SS.o _).1 (List.getElem_mem hn))
    have x8:wr.cell? ⟨gT,k+1,none⟩=some (.int .i64 (M[k+1]-1+1)):=by
     have:=FT.o.cell (k+1) (.int .i64 M[k+1]) (by rw[jG,List.getElem?_map,List.getElem?_eq_getElem hn];rfl);rw[this]
     congr 2
     omega
    have q3: -1<=M[k+1]-1:=by omega
    have q4:M[k+1]-1<=999:=by omega
    clear q2;generalize M[k+1]-1=la at*;generalize M[k]=d at*;go_wp2_with (fail);refine (Dh.o).mono ?_;rintro e w3 ⟨v3,rfl,_,⟨A3,n3,c3,rfl⟩,dB⟩;have fU:=I (kW.o.below dB);have dI:=I (HB.o.trans (dB.mono HB.o.size));have nw:=I (FT.o.below dB F6);have lG:gT<w3.heap.size:=Nat.lt_of_lt_of_le F6 dB.size;have Yf:=Wo.o w3 nw.o;clear dB;cases oU:(nU S ls d).isSome with
    |true=>
     have HC:=I (HG.o.trans (SU.o oU).symm);clear oU;go_wp2;go_roundw;case rel=>exact ⟨k+1,g,cap,false,L,by go_num,rfl,by omega,rfl,by omega,fU.o,(λh=>by cases h),HC.o,nw.o,lG,qG,lF,dI.o⟩
     case measure=>simp[RowKit.intOf]<;>omega
    |false=>
     have My:=I (hY.o oU);have kX:=I fU.o.row;clear oU Dh SU hY;cases b with
     |true=>
      have gm:=Mx.o rfl;rcases List.eq_nil_or_concat L with hL|⟨L',x,hL⟩
      ·exact absurd hL gm
      clear gm;rw[List.concat_eq_append]at hL;obtain ⟨e1,e2⟩:=oW fU.o.row (j:=L'.length) (u:= .slice (some ⟨x.h,0,none⟩) 2 2) (by rw[hL,List.flatMap_append,List.getElem?_append_right (by rw[bp (k:=1) eW (λ_=>rfl)];omega),bp (k:=1) eW (λ_=>rfl)];simp[eW]);have e3:=(fU.o.each x (by rw[hL];simp)).1.cell 1 _ rfl;have e4:=(fU.o.each x (by rw[hL];simp)).1.free 1 (by simp);have HL:=I hL;generalize fG:L.length=n at*;obtain ⟨m,hm⟩: ∃m,m=L'.length:=⟨_,rfl⟩
      rw[<-hm]at e1 e2;have Mq:n=m+1:=by rw[<-fG,hL,hm];simp
      subst Mq;have HM:=I hm;clear hL hm;have oa:=I (Rows.turn (x:=x) (by rw[<-HL.o];exact fU.o) (la));have Lo:=(fU.o.each x (by rw[HL.o];simp))
      have kC:=I (dI.o.setCell (p:=⟨x.h,1,none⟩) Lo.2.1 (.int .i64 (la)));have Dr:=I (nw.o.nP (p:=⟨x.h,1,none⟩) (.int .i64 (la)) (by have:=lF x (by rw[HL.o];simp);show x.h≠gT;omega));go_wp2;go_roundw
      case rel=>exact ⟨k+1,g,cap,true,L'++[⟨x.lo,la,x.h⟩],by go_num,rfl,by omega,by simp[HM.o],by have:=HM.o;simp;omega,oa.o,(λ_=>by simp),⟨λh=>by simp at h,λh=>absurd h My.o⟩,Dr.o,by simpa using lG,qG,(λy hy=>by
       rcases List.mem_append.1 hy with hy|hy
       ·exact lF y (by rw[HL.o];exact List.mem_append_left _ hy)
       rw[List.mem_singleton.1 hy];exact lF x (by rw[HL.o];simp)),kC.o⟩
      case measure=>simp[RowKit.intOf]<;>omega
     |false=>
      generalize fG:L.length=n at*;have mH:((w3.alloc (.cells #[.int .i64 d,.int .i64 (la)] 2)).alloc (.cells #[.slice (some ⟨w3.heap.size,0,none⟩) 2 2] 35)).heap.size=w3.heap.size+2:=by simp
      have rK:Below w3.heap.size w3 ((w3.alloc (.cells #[.int .i64 d,.int .i64 (la)] 2)).alloc (.cells #[.slice (some ⟨w3.heap.size,0,none⟩) 2 2] 35)):=((Below.refl _ _).alloc (Nat.le_refl _) _).alloc (by simp) _;have Bo:=(Row.new w3 #[.int .i64 d,.int .i64 (la)] 2).below ((Below.refl _ _).alloc (Nat.le_refl _) (.cells #[.slice (some ⟨w3.heap.size,0,none⟩) 2 2] 35)) (by simp);have IW:=I Bo;have vD:=I rK;have IX:=I ((kX.o.alloc (.cells #[.int .i64 d,.int .i64 (la)] 2)).alloc (.cells #[.slice (some ⟨w3.heap.size,0,none⟩) 2 2] 35));clear Bo rK;have uI:=fU.o.row.lt g rfl;go_wp2_with (at_builtin;refine wpList_append_own_at _ rfl _ _ 24 rfl w.heap.size 35 i0 (.slice none 0 0) 1 24 underlying24 hi dK ez ek rfl (by decide) _ _ _ rfl IX.o ⟨w3.heap.size+1,0,none⟩ 1 1 (eW ⟨d,la,w3.heap.size⟩) rfl rfl (λj u hj=>kN hj) (λu hu=>kV hu) ?c3 ?c4 (aS (aS dI.o.size)) ?_);case c3=>unfold maxLen;omega
      case c4=>omega
      intro v' w9 aG aA aU gd;obtain ⟨g',fq,rfl,qh,lB⟩:=bG aG (by simpa using aU)
      have o9:g'=g\/g'=w3.heap.size+2:=by
       rcases gd with h|h<;>injection h with h
       ·exact .inl h
       first|exact .inr h|exact .inr (by rw[mH]at h;exact h)
      have Dq:=I (Rows.push (x:=⟨d,la,w3.heap.size⟩) (fU.o.below vD.o) aA (by rw[mH];exact o9) (by rw[fG];exact aG) IW.o dI.o.size (by rw[mH];show w3.heap.size<w3.heap.size+2;omega) (by show w3.heap.size≠g;omega) (λy hy=>(fU.o.each y hy).2.2.1));have vE:=I ((nw.o.below vD.o lG).only (by rw[mH];omega) qG aA);have iM:=I ((dI.o.trans (vD.o.mono dI.o.size)).grown aA (by rw[mH];have:=dI.o.size;omega) (λj hj=>by have:=kX.o.lt j hj;exact this.1));have vF:gT<w9.heap.size:=by have:=aA.size;rw[mH]at this;omega
      clear aG aA aU gd;go_wp2;go_roundw
      case rel=>exact ⟨k+1,g',fq,true,L++[⟨d,la,w3.heap.size⟩],by go_num,rfl,by omega,by rw[List.length_append,List.length_singleton,fG],by rw[List.length_append,List.length_singleton,fG];omega,Dq.o,(λ_=>by simp),⟨λh=>by simp at h,λh=>absurd h My.o⟩,vE.o,vF,by rcases o9 with e|e<;>omega,(λy hy=>by
       rcases List.mem_append.1 hy with hy|hy
       ·exact lF y hy
       rw[List.mem_singleton.1 hy];exact lG),iM.o⟩
      case measure=>simp[RowKit.intOf]<;>omega
   have N5: ¬(k:Int)+1<(M.length:Int):=by omega
   generalize M[k]=d at*;go_wp2_with (fail);refine (Dh.o).mono ?_;rintro e w3 ⟨v3,rfl,_,⟨A3,n3,c3,rfl⟩,dB⟩;have fU:=I (kW.o.below dB);have dI:=I (HB.o.trans (dB.mono HB.o.size));have nw:=I (FT.o.below dB F6);have lG:gT<w3.heap.size:=Nat.lt_of_lt_of_le F6 dB.size;have Yf:=Wo.o w3 nw.o;clear dB;cases oU:(nU S ls d).isSome with
   |true=>
    have HC:=I (HG.o.trans (SU.o oU).symm);clear oU;go_wp2;go_roundw;case rel=>exact ⟨k+1,g,cap,false,L,by go_num,rfl,by omega,rfl,by omega,fU.o,(λh=>by cases h),HC.o,nw.o,lG,qG,lF,dI.o⟩
    case measure=>simp[RowKit.intOf]<;>omega
   |false=>
    have My:=I (hY.o oU);have kX:=I fU.o.row;clear oU Dh SU hY;cases b with
    |true=>
     have gm:=Mx.o rfl;rcases List.eq_nil_or_concat L with hL|⟨L',x,hL⟩
     ·exact absurd hL gm
     clear gm;rw[List.concat_eq_append]at hL;obtain ⟨e1,e2⟩:=oW fU.o.row (j:=L'.length) (u:= .slice (some ⟨x.h,0,none⟩) 2 2) (by rw[hL,List.flatMap_append,List.getElem?_append_right (by rw[bp (k:=1) eW (λ_=>rfl)];omega),bp (k:=1) eW (λ_=>rfl)];simp[eW]);have e3:=(fU.o.each x (by rw[hL];simp)).1.cell 1 _ rfl;have e4:=(fU.o.each x (by rw[hL];simp)).1.free 1 (by simp);have HL:=I hL;generalize fG:L.length=n at*;obtain ⟨m,hm⟩: ∃m,m=L'.length:=⟨_,rfl⟩
     rw[<-hm]at e1 e2;have Mq:n=m+1:=by rw[<-fG,hL,hm];simp
     subst Mq;have HM:=I hm;clear hL hm;have oa:=I (Rows.turn (x:=x) (by rw[<-HL.o];exact fU.o) (999));have Lo:=(fU.o.each x (by rw[HL.o];simp))
     have kC:=I (dI.o.setCell (p:=⟨x.h,1,none⟩) Lo.2.1 (.int .i64 (999)));have Dr:=I (nw.o.nP (p:=⟨x.h,1,none⟩) (.int .i64 (999)) (by have:=lF x (by rw[HL.o];simp);show x.h≠gT;omega));go_wp2;go_roundw
     case rel=>exact ⟨k+1,g,cap,true,L'++[⟨x.lo,999,x.h⟩],by go_num,rfl,by omega,by simp[HM.o],by have:=HM.o;simp;omega,oa.o,(λ_=>by simp),⟨λh=>by simp at h,λh=>absurd h My.o⟩,Dr.o,by simpa using lG,qG,(λy hy=>by
      rcases List.mem_append.1 hy with hy|hy
      ·exact lF y (by rw[HL.o];exact List.mem_append_left _ hy)
      rw[List.mem_singleton.1 hy];exact lF x (by rw[HL.o];simp)),kC.o⟩
     case measure=>simp[RowKit.intOf]<;>omega
    |false=>
     generalize fG:L.length=n at*;have mH:((w3.alloc (.cells #[.int .i64 d,.int .i64 (999)] 2)).alloc (.cells #[.slice (some ⟨w3.heap.size,0,none⟩) 2 2] 35)).heap.size=w3.heap.size+2:=by simp
     have rK:Below w3.heap.size w3 ((w3.alloc (.cells #[.int .i64 d,.int .i64 (999)] 2)).alloc (.cells #[.slice (some ⟨w3.heap.size,0,none⟩) 2 2] 35)):=((Below.refl _ _).alloc (Nat.le_refl _) _).alloc (by simp) _;have Bo:=(Row.new w3 #[.int .i64 d,.int .i64 (999)] 2).below ((Below.refl _ _).alloc (Nat.le_refl _) (.cells #[.slice (some ⟨w3.heap.size,0,none⟩) 2 2] 35)) (by simp);have IW:=I Bo;have vD:=I rK;have IX:=I ((kX.o.alloc (.cells #[.int .i64 d,.int .i64 (999)] 2)).alloc (.cells #[.slice (some ⟨w3.heap.size,0,none⟩) 2 2] 35));clear Bo rK;have uI:=fU.o.row.lt g rfl;go_wp2_with (at_builtin;refine wpList_append_own_at _ rfl _ _ 24 rfl w.heap.size 35 i0 (.slice none 0 0) 1 24 underlying24 hi dK ez ek rfl (by decide) _ _ _ rfl IX.o ⟨w3.heap.size+1,0,none⟩ 1 1 (eW ⟨d,999,w3.heap.size⟩) rfl rfl (λj u hj=>kN hj) (λu hu=>kV hu) ?c3 ?c4 (aS (aS dI.o.size)) ?_);case c3=>unfold maxLen;omega
     case c4=>omega
     intro v' w9 aG aA aU gd;obtain ⟨g',fq,rfl,qh,lB⟩:=bG aG (by simpa using aU)
     have o9:g'=g\/g'=w3.heap.size+2:=by
      rcases gd with h|h<;>injection h with h
      ·exact .inl h
      first|exact .inr h|exact .inr (by rw[mH]at h;exact h)
     have Dq:=I (Rows.push (x:=⟨d,999,w3.heap.size⟩) (fU.o.below vD.o) aA (by rw[mH];exact o9) (by rw[fG];exact aG) IW.o dI.o.size (by rw[mH];show w3.heap.size<w3.heap.size+2;omega) (by show w3.heap.size≠g;omega) (λy hy=>(fU.o.each y hy).2.2.1));have vE:=I ((nw.o.below vD.o lG).only (by rw[mH];omega) qG aA);have iM:=I ((dI.o.trans (vD.o.mono dI.o.size)).grown aA (by rw[mH];have:=dI.o.size;omega) (λj hj=>by have:=kX.o.lt j hj;exact this.1));have vF:gT<w9.heap.size:=by have:=aA.size;rw[mH]at this;omega
     clear aG aA aU gd;go_wp2;go_roundw
     case rel=>exact ⟨k+1,g',fq,true,L++[⟨d,999,w3.heap.size⟩],by go_num,rfl,by omega,by rw[List.length_append,List.length_singleton,fG],by rw[List.length_append,List.length_singleton,fG];omega,Dq.o,(λ_=>by simp),⟨λh=>by simp at h,λh=>absurd h My.o⟩,vE.o,vF,by rcases o9 with e|e<;>omega,(λy hy=>by
      rcases List.mem_append.1 hy with hy|hy
      ·exact lF y hy
      rw[List.mem_singleton.1 hy];exact lG),iM.o⟩
     case measure=>simp[RowKit.intOf]<;>omega
  have eA: ¬(k:Int)<(M.length:Int):=by omega
  have di:k=M.length:=by omega
  have eB:ag (L.length=0↔eJ S ls):=I (by
   rw[List.length_eq_zero_iff,HG.o,<-Lu HP.o,di];unfold ny;rw[List.take_length];exact ⟨λh x hx=>h x ((SS.o x).2 hx),λh x hx=>h x ((SS.o x).1 hx)⟩)
  clear aI di;go_wp2;go_ret;exact ⟨g,cap,L.length,rfl,by omega,eB.o,HB.o⟩
def Uh (a:bo) (day:Int):bo:=⟨a.a8,day,a.pat⟩
def QR (ls:List bo) (k:Nat) (a:bo) (day:Int):List bo:=ls.set k (Uh a day)
def Ui (ls:List bo) (k:Nat):List bo:=ls.take k++ls.drop (k+1)
def Wp (o:Option (List bE)) (a:bo):Option (List bE):=o.bind (λS=>fT S a.pat)
def QS (S:List bE) (ls:List bo) (k:Nat) (a:bo) (day:Int):Prop:=rJ day=true/\a.a8<day/\day<a.fin/\eJ S (QR ls k a day)
section
variable {P:Program} {w:World}
theorem xH {α:Type} (f:α->List Value) {o:Oper} {a:Act} {K:Act->World->Prop} {Q:Exit->Act->World->Prop} (s x:Operand) (t:TypeId)
 (ho:o.op= .call {callee:= .builtin .append,args:= #[s,x],argTypes:= #[t,t]})
 (base:Nat) (e:TypeId) (i:TypeInfo) (z:Value) (size bytes:Nat) (ht:P.underlying t=some (.slice e)) (hi:P.info? e=some i) (hz:i.zero=some z)
 (ga:i.size=size) (y9:i.bytes=bytes) (qd:z.cells.size=size) (ja:0<size)
 (v:Value) (n:Nat) (ys:List Value) (hs:a.eval s=v) (cr:w.ownsRow base e size v n ys)
 (vs:Value) (xs:List α) (B:Nat) (hx:a.eval x=vs) (FA:cz (Pl f) size w B vs xs) (hf: ∀y,(f y).length=size) (h1: ∀y,∀u∈f y,u.oneCell'=true)
 (ya:n+xs.length<=maxLen) (gB:(n+xs.length)*bytes<=140737488355328) (dC:base<=w.heap.size)
 (h: ∀v' w',w'.ownsRow base e size v' (n+xs.length) (ys++xs.flatMap f)->w.grownBy w' v.ownBlock->(v≠ .slice none 0 0->v'≠ .slice none 0 0)->K (a.put o.dst v') w'):o.wp P a w K Q:=by
 obtain ⟨A,c,rfl,hc,hm,cn⟩:=FA
 have oH: ∀ad:Addr,A=some ad->(∀j u,(xs.flatMap f)[j]?=some u->w.cell? (ad.add j)=some u)->o.wp P a w K Q:=λad hA qB=>by
  subst hA;obtain ⟨v',w',hr,g1,g2,g3,_⟩:=run_append_own_at (P:=P) w base t o.type e i z size bytes ht hi hz ga y9 qd ja v n ys cr ad xs.length c (xs.flatMap f) (bp f hf xs) qB (gJ f (λy u hu=>h1 y u hu) xs) ya gB dC;unfold Oper.wp execOp;simp only[ho,resolve,invoke,builtin,Sem.run_bind,Sem.run_pure,Result.andThen_ok,List.map_toArray,List.map_cons,List.map_nil,hs,hx,hr];exact h v' w' g1 g2 (λhv Ny=>hv (g3.1 Ny).1)
 by_cases h0:xs=[]
 ·subst h0;cases A with
  |some ad=>exact oH ad rfl (λj u hj=>by simp at hj)
  |none=>
   have CW:(Builtin.append_ #[t,t] o.type #[v,.slice none 0 c]).run P w= .ok v w:=by
    rcases cr.2 with ⟨rfl,rfl⟩|⟨g,cap,kT,rfl,_,_,xy,_⟩
    ·simp[Builtin.append_,run_underlying ht,sizeOf,typeInfo,hi,Builtin.lenOf,Builtin.firstCells]
    simp[Builtin.append_,run_underlying ht,sizeOf,typeInfo,hi,Builtin.lenOf,Builtin.firstCells,xy,storeCells]
   unfold Oper.wp;have Ih:a.eval x= .slice none 0 c:=hx;simp[execOp,ho,resolve,invoke,builtin,hs,Ih,CW,Result.andThen];exact (h v w (by simpa using cr) ⟨rfl,rfl,rfl,Nat.le_refl _,λ_ _ _=>rfl⟩ (λhv=>hv))
 obtain ⟨b,off,hA,hb,aC⟩:=cn (List.length_pos_iff.2 h0);refine oH ⟨b,off,none⟩ hA (λj u hj=>?_);have yb:j<xs.length*size:=by rw[<-bp f hf xs];exact (List.getElem?_eq_some_iff.1 hj).1
 have hq:j/size<xs.length:=Nat.div_lt_of_lt_mul (by rw[Nat.mul_comm];exact yb);obtain ⟨us,hl,hp,CX⟩:=aC (j/size) xs[j/size] (List.getElem?_eq_getElem hq);have hp:us=f xs[j/size]:=hp;subst hp;have CY:j% size<size:=Nat.mod_lt _ ja
 have hu:(f xs[j/size])[j% size]?=some u:=by
  have Ii:j=(j/size)*size+j% size:=by rw[Nat.mul_comm];exact (Nat.div_add_mod j size).symm
  have KH: ∀(L:List α) (q r:Nat) (hq:q<L.length),r<size->(L.flatMap f)[q*size+r]?=(f L[q])[r]?:=by
   intro L;induction L with
   |nil=>intro q r hq;cases hq
   |cons y L ih=>
    intro q r hq hr;rw[List.flatMap_cons];cases q with
    |zero=>rw[Nat.zero_mul,Nat.zero_add,List.getElem?_append_left (by rw[hf];exact hr)];rfl
    |succ q=>
     rw[List.getElem?_append_right (by rw[hf,Nat.succ_mul];omega),hf,Nat.succ_mul,show q*size+size+r-size=q*size+r by omega];exact ih q r (by simpa using hq) hr
  rw[<-KH xs (j/size) (j% size) hq CY,<-Ii];exact hj
 have:=CX (j% size) u hu;have Ii:(j/size)*size+j% size=j:=by rw[Nat.mul_comm];exact Nat.div_add_mod j size
 rw[Nat.add_assoc,Ii]at this;rw[Addr.add_lit];exact this
theorem gL {α:Type} (f:α->List Value) {ops:Array Oper} {o:Oper} {a:Act} {K:Act->World->Prop} {Q:Exit->Act->World->Prop} {E:Prop} (xZ:o.guard=none) (s x:Operand) (t:TypeId)
 (ho:o.op= .call {callee:= .builtin .append,args:= #[s,x],argTypes:= #[t,t]})
 (base:Nat) (e:TypeId) (i:TypeInfo) (z:Value) (size bytes:Nat) (ht:P.underlying t=some (.slice e)) (hi:P.info? e=some i) (hz:i.zero=some z)
 (ga:i.size=size) (y9:i.bytes=bytes) (qd:z.cells.size=size) (ja:0<size)
 (v:Value) (n:Nat) (ys:List Value) (hs:a.eval s=v) (cr:w.ownsRow base e size v n ys)
 (vs:Value) (xs:List α) (B:Nat) (hx:a.eval x=vs) (FA:cz (Pl f) size w B vs xs) (hf: ∀y,(f y).length=size) (h1: ∀y,∀u∈f y,u.oneCell'=true)
 (ya:n+xs.length<=maxLen) (gB:(n+xs.length)*bytes<=140737488355328) (dC:base<=w.heap.size)
 (h: ∀v' w',w'.ownsRow base e size v' (n+xs.length) (ys++xs.flatMap f)->w.grownBy w' v.ownBlock->(v≠ .slice none 0 0->v'≠ .slice none 0 0)->K (a.put o.dst v') w'):
 if Region.wanted o (yielded ops a.tmps)=true then Oper.wp P o a w K Q else E:=by
 have hw:Region.wanted o (yielded ops a.tmps)=true:=by simp[Region.wanted,xZ]
 rw[if_pos hw];exact xH f s x t ho base e i z size bytes ht hi hz ga y9 qd ja v n ys hs cr vs xs B hx FA hf h1 ya gB dC h
theorem er {ops:Array Oper} {o:Oper} {a:Act} {K:Act->World->Prop} {Q:Exit->Act->World->Prop} {E:Prop} (xZ:o.guard=none) (s x:Operand) (t:TypeId)
 (ho:o.op= .call {callee:= .builtin .append,args:= #[s,x],argTypes:= #[t,t]})
 (base:Nat) (e:TypeId) (i:TypeInfo) (z:Value) (size bytes:Nat) (ht:P.underlying t=some (.slice e)) (hi:P.info? e=some i) (hz:i.zero=some z)
 (ga:i.size=size) (y9:i.bytes=bytes) (qd:z.cells.size=size) (ja:0<size)
 (v:Value) (n:Nat) (xs:List Value) (hs:a.eval s=v) (cr:w.ownsRow base e size v n xs)
 (ad:Addr) (m c:Nat) (news:List Value) (hx:a.eval x= .slice (some ad) m c) (hl:news.length=m*size) (nS: ∀j u,news[j]?=some u->w.cell? (ad.add j)=some u) (h1: ∀u∈news,u.oneCell'=true)
 (ya:n+m<=maxLen) (gB:(n+m)*bytes<=140737488355328) (dC:base<=w.heap.size)
 (h: ∀v' w',w'.ownsRow base e size v' (n+m) (xs++news)->w.grownBy w' v.ownBlock->(v'= .slice none 0 0↔v= .slice none 0 0/\m=0)->(v'.ownBlock=v.ownBlock\/v'.ownBlock=some w.heap.size)->K (a.put o.dst v') w'):
 if Region.wanted o (yielded ops a.tmps)=true then Oper.wp P o a w K Q else E:=by
 have hw:Region.wanted o (yielded ops a.tmps)=true:=by simp[Region.wanted,xZ]
 rw[if_pos hw];obtain ⟨v',w',hr,h2,h3,h4,h5⟩:=run_append_own_at (P:=P) w base t o.type e i z size bytes ht hi hz ga y9 qd ja v n xs cr ad m c news hl nS h1 ya gB dC;unfold Oper.wp execOp;simp only[ho,resolve,invoke,builtin,Sem.run_bind,Sem.run_pure,Result.andThen_ok,List.map_toArray,List.map_cons,List.map_nil,hs,hx,hr];exact h v' w' h2 h3 h4 h5
end
theorem dL.below {base:Nat} {w w':World} {S T:List bE} {vs vt:Value} {g cap:Nat} {L:List bu} (h:dL base w S T vs vt g cap L) (hb:Below w.heap.size w w'):dL base w' S T vs vt g cap L:=
 ⟨h.s.on hb,h.sn,h.t.on hb,h.tn,aT h.row hb,λx hx=>⟨(h.nt x hx).1.on hb,(h.nt x hx).2⟩⟩
def fV (base:Nat) (w:World) (g cap:Nat) (L:List bu):Prop:=dL base w [] [] (.slice none 0 0) (.slice none 0 0) g cap L
theorem mI (base:Nat) (w:World):ay ai [] base w (.slice none 0 0):=⟨none,0,rfl,Nat.le_refl _,Nat.zero_le _,λh=>absurd rfl h⟩
def QT (ls:List bo) (w:World) (e:Ending) (w':World):Prop:=
 ∃g cap L,e= .returned (.slice (some ⟨g,0,none⟩) L.length cap)/\L.map (·.a)=ls/\fV w.heap.size w' g cap L/\Below w.heap.size w w'
theorem fH {w w':World} {p0 p1 p2:Addr} {v0 v1 v2:Value} (h:w.cell? p0=some v0/\w.cell? p1=some v1/\w.cell? p2=some v2) (hb:Below w.heap.size w w'):w'.cell? p0=some v0/\w'.cell? p1=some v1/\w'.cell? p2=some v2:=
 ⟨(hb.cell (World.block_lt_of_cell? w _ h.1)).trans h.1,(hb.cell (World.block_lt_of_cell? w _ h.2.1)).trans h.2.1,(hb.cell (World.block_lt_of_cell? w _ h.2.2)).trans h.2.2⟩
theorem kD {B:Nat} {w w':World} {p0 p1 p2:Addr} {v0 v1 v2:Value} (h:w.cell? p0=some v0/\w.cell? p1=some v1/\w.cell? p2=some v2) (hb:Below B w w') (hB:w.heap.size=B):w'.cell? p0=some v0/\w'.cell? p1=some v1/\w'.cell? p2=some v2:=
 fH h (hB▸hb)
theorem Br {w w':World} {p0 p1 p2:Addr} {g:Nat} {v0 v1 v2:Value} (h:w.cell? p0=some v0/\w.cell? p1=some v1/\w.cell? p2=some v2) (hg:w.grownBy w' (some g)) (h0:p0.block≠g) (h1:p1.block≠g) (h2:p2.block≠g):w'.cell? p0=some v0/\w'.cell? p1=some v1/\w'.cell? p2=some v2:=
 ⟨hg.cell h.1 (λe=>h0 (by injection e)),hg.cell h.2.1 (λe=>h1 (by injection e)),hg.cell h.2.2 (λe=>h2 (by injection e))⟩
def SV (S:List bE) (ls:List bo) (k:Nat) (a:bo) (day:Int) (w:World) (e:Ending) (w':World):Prop:=
 ∃v r,e= .returned (.tuple #[v,.bool r])/\(r=true↔QS S ls k a day)/\(r=true->eE w' w'.heap.size v (QR ls k a day))/\(∃A n c,v= .slice A n c)/\Below w.heap.size w w'
structure gu where
 al:ByteArray
 br:Int
 pat:List aV
 a8:Int
 fin:Int
 aj:Int
 ax:List Int
 result:Int
structure cp where
 day:Int
 rule:Int
 af:List (List Int)
 base:List bE
 av:List bo
 ao:List gu
structure bR where
 a:List Int
 v:Value
def lH (x:bR):List Value:=[x.v]
structure bH where
 a:gu
 p:Value
 t:Value
def cK (x:bH):List Value:=[.string x.a.al,.int .i64 x.a.br,x.p,.int .i64 x.a.a8,.int .i64 x.a.fin,.int .i64 x.a.aj,x.t,.int .i64 x.a.result]
def kH (w:World) (B:Nat) (v:Value) (ls:List (List Int)):Prop:=
 ∃L:List bR,L.map (·.a)=ls/\cz (Pl lH) 1 w B v L/\ ∀x∈L,aae w B x.v x.a
def nA (w:World) (B:Nat) (v:Value) (ls:List gu):Prop:=
 ∃L:List bH,L.map (·.a)=ls/\cz (Pl cK) 8 w B v L/\ ∀x∈L,bg w B x.p x.a.pat/\aae w B x.t x.a.ax
theorem kH.on {w w':World} {B B':Nat} {v:Value} {ls:List (List Int)} (h:kH w B v ls) (hb:Below B w w') (hB:B<=B'):kH w' B' v ls:=by
 obtain ⟨L,h1,h2,h3⟩:=h;exact ⟨L,h1,cz.on h2 (Pl.stays _) hb hB,λx hx=>cz.on (h3 x hx) (Pl.stays _) hb hB⟩
theorem nA.on {w w':World} {B B':Nat} {v:Value} {ls:List gu} (h:nA w B v ls) (hb:Below B w w') (hB:B<=B'):nA w' B' v ls:=by
 obtain ⟨L,h1,h2,h3⟩:=h;exact ⟨L,h1,cz.on h2 (Pl.stays _) hb hB,λx hx=>⟨cz.on (h3 x hx).1 (Pl.stays _) hb hB,cz.on (h3 x hx).2 (Pl.stays _) hb hB⟩⟩
theorem aae.sl {w:World} {B:Nat} {v:Value} {zs:List Int} (h:aae w B v zs): ∃A c,v= .slice A zs.length c/\zs.length<=c/\c<=maxLen:=by
 obtain ⟨A,c,h1,h2,h3,_⟩:=h;exact ⟨A,c,h1,h2,h3⟩
theorem bg.sl {w:World} {B:Nat} {v:Value} {zs:List aV} (h:bg w B v zs): ∃A c,v= .slice A zs.length c/\zs.length<=c/\c<=maxLen:=by
 obtain ⟨A,c,h1,h2,h3,_⟩:=h;exact ⟨A,c,h1,h2,h3⟩
theorem fY {w:World} {B:Nat} {v:Value} {ls:List (List Int)} (h:kH w B v ls): ∃(A:Option Addr) (c:Nat),v= .slice A ls.length c/\ls.length<=c/\c<=maxLen/\(0<ls.length-> ∃b off,A=some ⟨b,off,none⟩/\b<B/\
 ∀(k:Nat) (a:List Int),ls[k]?=some a-> ∃A1 c1,w.cell? ⟨b,off+k,none⟩=some (.slice A1 a.length c1)/\c1<=maxLen/\aae w B (.slice A1 a.length c1) a):=by
 obtain ⟨L,rfl,⟨A,c,rfl,h1,h2,h3⟩,h4⟩:=h;rw[List.length_map];refine ⟨A,c,rfl,h1,h2,λh0=>?_⟩;obtain ⟨b,off,rfl,hb,hk⟩:=h3 h0;refine ⟨b,off,rfl,hb,λk a ha=>?_⟩;rw[List.getElem?_map]at ha;cases hx:L[k]? with
 |none=>rw[hx]at ha;cases ha
 |some x=>
  rw[hx]at ha;injection ha with ha
  subst ha;obtain ⟨us,hl,hp,hc⟩:=hk k x hx;have hp:us=lH x:=hp;subst hp;have hi:=h4 x (List.mem_of_getElem? hx);obtain ⟨A1,c1,e1,_,hm⟩:=hi.sl;have c0:=hc 0 _ rfl;rw[e1]at c0 hi;rw[Nat.mul_one,Nat.add_zero]at c0;exact ⟨A1,c1,c0,hm,hi⟩
structure Bs (w:World) (B:Nat) (b o:Nat) (m:gu) (A1:Option Addr) (c1:Nat) (A2:Option Addr) (c2:Nat):Prop where
 k0:w.cell? ⟨b,o,none⟩=some (.string m.al)
 k1:w.cell? ⟨b,o+1,none⟩=some (.int .i64 m.br)
 k2:w.cell? ⟨b,o+2,none⟩=some (.slice A1 m.pat.length c1)
 k3:w.cell? ⟨b,o+3,none⟩=some (.int .i64 m.a8)
 k4:w.cell? ⟨b,o+4,none⟩=some (.int .i64 m.fin)
 k5:w.cell? ⟨b,o+5,none⟩=some (.int .i64 m.aj)
 k6:w.cell? ⟨b,o+6,none⟩=some (.slice A2 m.ax.length c2)
 k7:w.cell? ⟨b,o+7,none⟩=some (.int .i64 m.result)
 m1:c1<=maxLen
 m2:c2<=maxLen
 fF:bg w B (.slice A1 m.pat.length c1) m.pat
 ints:aae w B (.slice A2 m.ax.length c2) m.ax
theorem fQ {w:World} {B:Nat} {v:Value} {ls:List gu} (h:nA w B v ls): ∃(A:Option Addr) (c:Nat),v= .slice A ls.length c/\ls.length<=c/\c<=maxLen/\(0<ls.length-> ∃b off,A=some ⟨b,off,none⟩/\b<B/\
 ∀(k:Nat) (a:gu),ls[k]?=some a-> ∃A1 c1 A2 c2,Bs w B b (off+k*8) a A1 c1 A2 c2):=by
 obtain ⟨L,rfl,⟨A,c,rfl,h1,h2,h3⟩,h4⟩:=h;rw[List.length_map];refine ⟨A,c,rfl,h1,h2,λh0=>?_⟩;obtain ⟨b,off,rfl,hb,hk⟩:=h3 h0;refine ⟨b,off,rfl,hb,λk a ha=>?_⟩;rw[List.getElem?_map]at ha;cases hx:L[k]? with
 |none=>rw[hx]at ha;cases ha
 |some x=>
  rw[hx]at ha;injection ha with ha
  subst ha;obtain ⟨us,hl,hp,hc⟩:=hk k x hx;have hp:us=cK x:=hp;subst hp;obtain ⟨hi,hj⟩:=h4 x (List.mem_of_getElem? hx);obtain ⟨A1,c1,e1,_,EU⟩:=hi.sl;obtain ⟨A2,c2,e2,_,EV⟩:=hj.sl;obtain ⟨m,p,t⟩:=x;have f1:p= .slice A1 m.pat.length c1:=e1;have f2:t= .slice A2 m.ax.length c2:=e2;clear e1 e2;subst f1 f2;exact ⟨A1,c1,A2,c2,hc 0 _ rfl,hc 1 _ rfl,hc 2 _ rfl,hc 3 _ rfl,hc 4 _ rfl,hc 5 _ rfl,hc 6 _ rfl,hc 7 _ rfl,EU,EV,hi,hj⟩
theorem Bs.on {w w':World} {B B' b o:Nat} {m:gu} {A1:Option Addr} {c1:Nat} {A2:Option Addr} {c2:Nat} (h:Bs w B b o m A1 c1 A2 c2) (hb:Below B w w') (hB:B<=B') (aI:b<B):Bs w' B' b o m A1 c1 A2 c2 where
 k0:=(hb.cell (p:=⟨b,o,none⟩) aI).trans h.k0
 k1:=(hb.cell (p:=⟨b,o+1,none⟩) aI).trans h.k1
 k2:=(hb.cell (p:=⟨b,o+2,none⟩) aI).trans h.k2
 k3:=(hb.cell (p:=⟨b,o+3,none⟩) aI).trans h.k3
 k4:=(hb.cell (p:=⟨b,o+4,none⟩) aI).trans h.k4
 k5:=(hb.cell (p:=⟨b,o+5,none⟩) aI).trans h.k5
 k6:=(hb.cell (p:=⟨b,o+6,none⟩) aI).trans h.k6
 k7:=(hb.cell (p:=⟨b,o+7,none⟩) aI).trans h.k7
 m1:=h.m1
 m2:=h.m2
 fF:=cz.on h.fF (Pl.stays _) hb hB
 ints:=cz.on h.ints (Pl.stays _) hb hB
structure cS where
 t:Value
 b:Value
 c:Value
 m:Value
def eu (a:cp) (x:cS):Value:= .agg #[.int .i64 a.day,.int .i64 a.rule,x.t,x.b,x.c,x.m]
structure jv (w:World) (B:Nat) (x:cS) (a:cp):Prop where
 t:kH w B x.t a.af
 b:iT w B x.b a.base
 c:eE w B x.c a.av
 m:nA w B x.m a.ao
theorem jv.on {w w':World} {B B':Nat} {x:cS} {a:cp} (h:jv w B x a) (hb:Below B w w') (hB:B<=B'):jv w' B' x a:=
 ⟨h.t.on hb hB,cz.on h.b (Pl.stays _) hb hB,h.c.on hb hB,h.m.on hb hB⟩
theorem jv.km {w:World} {B:Nat} {x:cS} {a:cp} (h:jv w B x a) (hB:B<=w.heap.size): ∀y:ar w,jv y.val y.val.heap.size x a:=λy=>h.on (y.ok.mono hB) (Nat.le_trans hB y.ok.size)
structure ua (a:cp):Prop where
 b: ∀x∈a.base,x.text.size<=maxLen
 c:ms a.av
 m: ∀x∈a.ao,x.al.size<=maxLen/\bS x.pat
def fZ (vs:List Int):Bool:=cE vs.length (λk=>dO (vs.getD k 0) 0 3)
def dD (m:gu) (day n:Int):Bool:=
 dU m.al.toList&&dO m.br 0 (n-1)&&!((m.pat.length:Int)==0)&&bF m.pat&&jd m.a8 m.fin m.aj&&((m.ax.length:Int)==n)&&fZ m.ax&&dO m.result 0 4&&((m.result==0)==decide (day<m.aj))
def ko (L:List gu) (day n:Int) (k:Nat):Bool:=((L[k]?).map (λm=>dD m day n&&!((L.take k).any (λo=>o.al.toList==m.al.toList)))).getD true
def kE (L:List gu) (day n:Int):Bool:=cE L.length (ko L day n)
def vJ (L:List (List Int)) (n:Int) (k:Nat):Bool:=((L[k]?).map (λl=>cF l (k:Int) n)).getD true
def ij (L:List (List Int)):Bool:=cE L.length (vJ L L.length)
def gS (a:cp):Bool:=dO a.day 0 999&&dO a.rule 0 2&&dO (a.af.length:Int) 1 12&&decide (a.ao.length<=6)
open Classical in
noncomputable def fI (a:cp):Bool:=gS a&&ij a.af&&kE a.ao a.day a.af.length&&cd a.base&&bJ a.av&&decide (eJ a.base a.av)
def rL (a:bo):Prop:=a.pat.length<=1048576/\ ∀e∈a.pat,yc e
def rM (m:gu):Prop:=m.al.size<=1048576/\m.pat.length<=1048576/\(∀e∈m.pat,yc e)/\m.ax.length<=1048576
structure rN (a:cp):Prop where
 t0:a.af.length<=1048576
 t: ∀x∈a.af,x.length<=1048576
 J:a.base.length<=1048576
 b: ∀x∈a.base,x.text.size<=1048576
 c0:a.av.length<=1048576
 c: ∀x∈a.av,rL x
 m0:a.ao.length<=1048576
 m: ∀x∈a.ao,rM x
def dX:Kind bR where
 cells:=lH
 size:=1
 fa base w x:=ay ak x.a base w x.v
 dR x b:=cx x.a x.v b
 len _:=rfl
 aD h ht hF:=ay.aD h ht hF
 lt h hb:=ay.dw h hb
 less h hb:=ay.less h hb
def cw:Kind bu where
 cells:=cu
 size:=3
 fa base w x:=ay ah x.a.pat base w x.v
 dR x b:=cx x.a.pat x.v b
 len _:=rfl
 aD h ht hF:=ay.aD h ht hF
 lt h hb:=ay.dw h hb
 less h hb:=ay.less h hb
def cX:Kind bH where
 cells:=cK
 size:=8
 fa base w x:=ay ah x.a.pat base w x.p/\ay ak x.a.ax base w x.t/\ ∀b,cx x.a.pat x.p b-> ¬cx x.a.ax x.t b
 dR x b:=cx x.a.pat x.p b\/cx x.a.ax x.t b
 len _:=rfl
 aD h ht hF:=⟨ay.aD h.1 ht (λb hb=>hF b (.inl hb)),ay.aD h.2.1 ht (λb hb=>hF b (.inr hb)),h.2.2⟩
 lt h hb:=by
  rcases hb with hb|hb
  ·exact ay.dw h.1 hb
  exact ay.dw h.2.1 hb
 less h hb:=⟨ay.less h.1 hb,ay.less h.2.1 hb,h.2.2⟩
def iw:Kind bE where
 cells:=ai
 size:=2
 fa _ _ _:=True
 dR _ _:=False
 len _:=rfl
 aD _ _ _:=trivial
 lt _ hb:=hb.elim
 less _ _:=trivial
theorem aeW {base:Nat} {w:World} {v:Value} {L:List bE} (h:ay ai L base w v):aR iw base w v L:=
 ⟨h,λ_ _=>trivial,λ_ _ _ h=>h.elim,List.pairwise_of_forall (λ_ _ _ h=>h.elim)⟩
theorem aR.rows {base:Nat} {w:World} {v:Value} {L:List bR} (h:aR dX base w v L):kH w w.heap.size v (L.map (·.a)):=⟨L,rfl,h.mo,λx hx=>(show ay _ _ _ _ _ from h.fa x hx).mo (size:=1) (λ_=>rfl)⟩
theorem aR.av {base:Nat} {w:World} {v:Value} {L:List bu} (h:aR cw base w v L):eE w w.heap.size v (L.map (·.a)):=⟨L,rfl,h.mo,λx hx=>(show ay _ _ _ _ _ from h.fa x hx).mo (size:=4) (λ_=>rfl)⟩
theorem aR.ao {base:Nat} {w:World} {v:Value} {L:List bH} (h:aR cX base w v L):nA w w.heap.size v (L.map (·.a)):=
 ⟨L,rfl,h.mo,λx hx=>⟨(show ay ah _ base w _ from (h.fa x hx).1).mo (size:=4) (λ_=>rfl),(show ay ak _ base w _ from (h.fa x hx).2.1).mo (size:=1) (λ_=>rfl)⟩⟩
def N9 (a:bo) (w:World) (e:Ending) (w':World):Prop:= ∃x:bu,x.a=a/\e= .returned (.agg #[.int .i64 a.a8,.int .i64 a.fin,x.v])/\cw.fa w.heap.size w' x/\Below w.heap.size w w'
def Oa (m:gu) (w:World) (e:Ending) (w':World):Prop:= ∃x:bH,x.a=m/\e= .returned (.agg #[.string m.al,.int .i64 m.br,x.p,.int .i64 m.a8,.int .i64 m.fin,.int .i64 m.aj,x.t,.int .i64 m.result])/\cX.fa w.heap.size w' x/\Below w.heap.size w w'
def Lv {β α:Type} (K:Kind β) (p:β->α) (ls:List α) (w:World) (e:Ending) (w':World):Prop:= ∃A L,e= .returned (.slice A ls.length ls.length)/\L.map p=ls/\aR K w.heap.size w' (.slice A ls.length ls.length) L/\Below w.heap.size w w'
theorem rQ:(prog.info? 119).map (λi=>(i.zero,i.size,i.bytes))=some (some (.agg #[.string ⟨#[]⟩,.int .i64 0,.slice none 0 0,.int .i64 0,.int .i64 0,.int .i64 0,.slice none 0 0,.int .i64 0]),8,104):=by kernel_rfl
def ji (p q:Nat->Prop):Prop:= ∀b,p b-> ¬q b
structure kP (base:Nat) (w:World) (x:cS) (a:cp) (T:List bR) (C:List bu) (M:List bH):Prop where
 tm:T.map bR.a=a.af
 L1:C.map bu.a=a.av
 mm:M.map bH.a=a.ao
 t:aR dX base w x.t T
 b:aR iw base w x.b a.base
 c:aR cw base w x.c C
 m:aR cX base w x.m M
 tb:ji (bN dX x.t T) (bN iw x.b a.base)
 tc:ji (bN dX x.t T) (bN cw x.c C)
 Bw:ji (bN dX x.t T) (bN cX x.m M)
 L2:ji (bN iw x.b a.base) (bN cw x.c C)
 bm:ji (bN iw x.b a.base) (bN cX x.m M)
 EX:ji (bN cw x.c C) (bN cX x.m M)
theorem kP.r {base:Nat} {w:World} {x:cS} {a:cp} {T:List bR} {C:List bu} {M:List bH} (h:kP base w x a T C M):jv w w.heap.size x a:=
 ⟨by rw[<-h.tm];exact h.t.rows,h.b.mo,by rw[<-h.L1];exact h.c.av,by rw[<-h.mm];exact h.m.ao⟩
def bz (x:cS) (a:cp) (T:List bR) (C:List bu) (M:List bH) (b:Nat):Prop:=bN dX x.t T b\/bN iw x.b a.base b\/bN cw x.c C b\/bN cX x.m M b
theorem kP.aD {base:Nat} {w w':World} {x:cS} {a:cp} {T:List bR} {C:List bu} {M:List bH} {F:Nat->Prop} (h:kP base w x a T C M) (ht:Touch F w w') (hF: ∀b,bz x a T C M b-> ¬F b):kP base w' x a T C M:=
 ⟨h.tm,h.L1,h.mm,h.t.aD ht (λb hb=>hF b (.inl hb)),h.b.aD ht (λb hb=>hF b (.inr (.inl hb))),h.c.aD ht (λb hb=>hF b (.inr (.inr (.inl hb)))),h.m.aD ht (λb hb=>hF b (.inr (.inr (.inr hb)))),h.tb,h.tc,h.Bw,h.L2,h.bm,h.EX⟩
theorem kP.below {base:Nat} {w w':World} {x:cS} {a:cp} {T:List bR} {C:List bu} {M:List bH} (h:kP base w x a T C M) (hb:Below w.heap.size w w'):kP base w' x a T C M:=
 h.aD (F:=λ_=>False) (Touch.dV hb) (λ_ _ h=>h)
theorem kP.lt {base:Nat} {w:World} {x:cS} {a:cp} {T:List bR} {C:List bu} {M:List bH} (h:kP base w x a T C M) {b:Nat} (hb:bz x a T C M b):base<=b/\b<w.heap.size:=by
 rcases hb with hb|hb|hb|hb
 ·exact h.t.lt hb
 ·exact h.b.lt hb
 ·exact h.c.lt hb
 exact h.m.lt hb
def vK (a:cp) (w:World) (e:Ending) (w':World):Prop:= ∃x T C M,e= .returned (eu a x)/\kP w.heap.size w' x a T C M/\Below w.heap.size w w'
theorem jv.slices {w:World} {B:Nat} {x:cS} {a:cp} (h:jv w B x a): ∃At ct Ab cb Ac L4 Am L1,x=⟨.slice At a.af.length ct,.slice Ab a.base.length cb,.slice Ac a.av.length L4,.slice Am a.ao.length L1⟩:=by
 obtain ⟨At,ct,et,-⟩:=fY h.t;obtain ⟨Ab,cb,eb,-⟩:=h.b;obtain ⟨Ac,L4,ec,-⟩:=dk h.c;obtain ⟨Am,L1,em,-⟩:=fQ h.m;obtain ⟨xt,xb,xc,xm⟩:=x;exact ⟨At,ct,Ab,cb,Ac,L4,Am,L1,by rw[show xt=_ from et,show xb=_ from eb,show xc=_ from ec,show xm=_ from em]⟩
open Go.Joins Go.ChangeShapes Go.WideShapes Go.Deep
section
variable {H:Type} {enc:TypeId×Value->H} {P:Program} {w:World} {base:Nat} {spare:Nat->Bool} {held:Bool}
end
section
variable {H:Type} {enc:TypeId×Value->H} {P:Program} {w:World} {base dP:Nat} {held:Bool} {x:DataW H×List MemPlace}
end
end Go.Proofs.YtbcggaldkihcaaaGreatDoor
