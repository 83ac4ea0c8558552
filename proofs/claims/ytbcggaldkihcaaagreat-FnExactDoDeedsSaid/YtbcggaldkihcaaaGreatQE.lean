/- The intervals of broken days, walked: the reference's; known is only when there are none. -/
import Derived.Test.YtbcggaldkihcaaaGreatQD
import Derived.Maps.AppendAt
import Derived.Deep.RegionHeld3
import Derived.Test.YtbcggaldkihcaaaGreatQA
import Derived.Test.YtbcggaldkihcaaaGreatQB
import Derived.Deep.Slices
import Derived.Deep.Fields
import Derived.ChangeSame
import Derived.ChangeSlices
import Derived.ProofKit
import Derived.OpenShut
import Derived.Lib.SmallJoins
set_option maxHeartbeats 8000000
set_option maxRecDepth 100000
namespace Go.Proofs.YtbcggaldkihcaaaGreat
open Tryz
open Go.RowKit Go.Lib
theorem abj:type_of% @Nat.mul_one:=@Nat.mul_one
theorem abU:type_of% @Nat.lt_of_le_of_lt:=@Nat.lt_of_le_of_lt
theorem aa7:type_of% @Go.DataW.trod_int:=@Go.DataW.trod_int
def ny (S:List bE) (ls:List bo) (M:List Int) (k:Nat):Prop:= ∀x∈M.take k,(nU S ls x).isSome=true
theorem ny.Wm {S:List bE} {ls:List bo} {M:List Int} {k:Nat} (hk:k<M.length) (h:(nU S ls M[k]).isSome=true):ny S ls M (k+1)↔ny S ls M k:=by
 constructor
 ·exact λH x hx=>H x ((jF hk x).2 (.inl hx))
 intro H x hx;rcases (jF hk x).1 hx with hx|hx
 ·exact H x hx
 rw[hx];exact h
theorem ny.no {S:List bE} {ls:List bo} {M:List Int} {k:Nat} (hk:k<M.length) (h:(nU S ls M[k]).isSome=false): ¬ny S ls M (k+1):=λH=>by
 have:=H M[k] ((jF hk _).2 (.inr rfl));rw[h]at this;cases this
theorem gp.Bq {S:List bE} {ls:List bo} (cy:bJ ls=true) (h: ∀x,xC ls x->(nU S ls x).isSome=true): ∀i,i<=(bB ls).length->gp S ls i []
 |0,_=>gp.start S ls
 |i+1,hi=>(gp.Bq cy h i (by omega)).skip cy (by omega) (h _ (((nu ls).2 _).1 (aax (by omega:i<(bB ls).length))))
theorem Lu {S:List bE} {ls:List bo} (cy:bJ ls=true):(∀x,xC ls x->(nU S ls x).isSome=true)↔eJ S ls:=by
 constructor
 ·exact λh=>(gp.Bq cy h _ (aad _)).none.1 rfl
 intro h x hx;obtain ⟨h0,h1⟩:=j6 hx;exact I0 h h0 h1
def ff (S:List bE) (ls:List bo) (w:World) (e:Ending) (w':World):Prop:=
 ∃g cap n,e= .returned (.slice (some ⟨g,0,none⟩) n cap)/\n<=1000/\(n=0↔eJ S ls)/\Below w.heap.size w w'
theorem mb (S:List bE) (ls:List bo) (w:World) (vs va:Value) (hS:iT w w.heap.size vs S) (hA:eE w w.heap.size va ls) (cy:cd S=true) (hp:bJ ls=true):
 Calls prog 102 #[vs,va] w (ff S ls w):=by
 have IM:=eM hp;have HP:=I hp;have HT:=I (Ds ls w va hA (by omega));have N1:=I (λ(d:Int) w' (hb:Below w.heap.size w w')=>Lm S ls d w' vs va (cz.on hS (Pl.stays _) hb hb.size) (hA.on hb hb.size) cy hp);obtain ⟨A,c,rfl,_⟩:=hS;obtain ⟨A2,c2,rfl,_⟩:=dk hA;obtain ⟨i0,hi,dK,ez,ek⟩:=aaq zi;clear hA cy hp;go_enter func102,ntmps102;go_wp2_with (fail);refine (HT.o).mono ?_;rintro e w1 ⟨vT,M,rfl,vC,hM,SR,bw⟩;have yh:0<M.length:=List.length_pos_of_mem ((hM 0).2 (.inl rfl));have SS:=I hM;obtain ⟨AT,cT,rfl,_,nj,h3⟩:=vC;obtain ⟨gT,rfl,QM,F6,QN⟩:=h3 (λe=>by rw[e]at yh;cases yh);have cN:(w1.alloc (.cells #[] 33)).ownsRow w.heap.size 33 1 (.slice (some ⟨w1.heap.size,0,none⟩) 0 0) 0 []:=by simpa using aaz (base:=w.heap.size) w1 #[] 0 bw.size (aaf _) rfl
 have N2:ag (Rows w.heap.size (w1.alloc (.cells #[] 33)) w1.heap.size 0 []):=I ⟨cN,(λx hx=>by cases hx),List.Pairwise.nil⟩;have ri:Below w1.heap.size w1 (w1.alloc (.cells #[] 33)):=(aae _ _).alloc (aad _) _;have da:=I (bw.trans (ri.mono bw.size));have N3:=I (QN.below ri F6);clear bw h3 QN hM cN ri;go_wp2;go_loopw [6,7,8] (λo bf i wr=> ∃(k g cap:Nat) (b:Bool) (L:List qi),i= .int .i64 (k:Int)/\bf= .bool b/\k<=M.length/\o= .slice (some ⟨g,0,none⟩) L.length cap/\L.length<=k/\Rows w.heap.size wr g cap L/\(b=true->L≠[])/\(L=[]↔ny S ls M k)/\Row wr gT (M.flatMap ak)/\gT<wr.heap.size/\gT≠g/\(∀x∈L,gT<x.h)/\Below w.heap.size w wr) (λ_ _ i _=>M.length-(intOf i).toNat);case atStart=>exact ⟨0,w1.heap.size,0,false,[],rfl,rfl,aaf _,rfl,aaf _,N2.o,(λh=>by cases h),⟨λ_ x hx=>by simp at hx,λ_=>rfl⟩,N3.o,by simp;omega,by omega,(λx hx=>by cases hx),da.o⟩
 case round=>
  obtain ⟨k,g,cap,b,L,rfl,rfl,hk,rfl,tf,F7,IJ,hG,QO,F6,qG,lF,hb⟩:=hrel;have kW:=I F7;have Mx:=I IJ;have HG:=I hG;have FT:=I QO;have HB:=I hb;clear F7 IJ hG QO hb;by_cases aI:k<M.length
  ·have x9:wr.cell? ⟨gT,k,none⟩=some (.int .i64 M[k]):=FT.o.cell k _ (by rw[jG,aaX,aag aI];rfl);have Wo:ag (∀W,Row W gT (M.flatMap ak)->W.cell? ⟨gT,k,none⟩=some (.int .i64 M[k])):=I (λW h=>h.cell k _ (by rw[jG,aaX,aag aI];rfl));have q1:=j6 ((SS.o _).1 (aax aI));have Dh:=I (N1.o M[k] wr HB.o);have SU:=I (λh=>ny.Wm (S:=S) (ls:=ls) aI h);have hY:=I (λh=>ny.no (S:=S) (ls:=ls) aI h);by_cases hn:k+1<M.length
   ·have N5:(k:Int)+1<(M.length:Int):=by omega
    have q2:=j6 ((SS.o _).1 (aax hn))
    have x8:wr.cell? ⟨gT,k+1,none⟩=some (.int .i64 (M[k+1]-1+1)):=by
     have:=FT.o.cell (k+1) (.int .i64 M[k+1]) (by rw[jG,aaX,aag hn];rfl);rw[this]
     congr 2
     omega
    have q3: -1<=M[k+1]-1:=by omega
    have q4:M[k+1]-1<=999:=by omega
    clear q2;generalize M[k+1]-1=la at*;generalize M[k]=d at*;go_wp2_with (fail);refine (Dh.o).mono ?_;rintro e w3 ⟨v3,rfl,_,⟨A3,n3,c3,rfl⟩,dB⟩;have fU:=I (kW.o.below dB);have dI:=I (HB.o.trans (dB.mono HB.o.size));have nw:=I (FT.o.below dB F6);have lG:gT<w3.heap.size:=aar F6 dB.size;have Yf:=Wo.o w3 nw.o;clear dB;cases oU:(nU S ls d).isSome with
    |true=>
     have HC:=I (HG.o.trans (SU.o oU).symm);clear oU;go_wp2;go_roundw;case rel=>exact ⟨k+1,g,cap,false,L,by go_num,rfl,by omega,rfl,by omega,fU.o,(λh=>by cases h),HC.o,nw.o,lG,qG,lF,dI.o⟩
     case measure=>simp[intOf]<;>omega
    |false=>
     have My:=I (hY.o oU);have kX:=I fU.o.row;clear oU Dh SU hY;cases b with
     |true=>
      have gm:=Mx.o rfl;rcases List.eq_nil_or_concat L with hL|⟨L',x,hL⟩
      ·exact absurd hL gm
      clear gm;rw[List.concat_eq_append]at hL;obtain ⟨e1,e2⟩:=oW fU.o.row (j:=L'.length) (u:= .slice (some ⟨x.h,0,none⟩) 2 2) (by rw[hL,abf,aaN (by rw[bp (k:=1) eW (λ_=>rfl)];omega),bp (k:=1) eW (λ_=>rfl)];simp[eW]);have e3:=(fU.o.each x (by rw[hL];simp)).1.cell 1 _ rfl;have e4:=(fU.o.each x (by rw[hL];simp)).1.free 1 (by simp);have HL:=I hL;generalize fG:L.length=n at*;obtain ⟨m,hm⟩: ∃m,m=L'.length:=⟨_,rfl⟩
      rw[<-hm]at e1 e2;have Mq:n=m+1:=by rw[<-fG,hL,hm];simp
      subst Mq;have HM:=I hm;clear hL hm;have oa:=I (Rows.turn (x:=x) (by rw[<-HL.o];exact fU.o) (la));have Lo:=(fU.o.each x (by rw[HL.o];simp))
      have kC:=I (dI.o.setCell (p:=⟨x.h,1,none⟩) Lo.2.1 (.int .i64 (la)));have Dr:=I (nw.o.nP (p:=⟨x.h,1,none⟩) (.int .i64 (la)) (by have:=lF x (by rw[HL.o];simp);show x.h≠gT;omega));go_wp2;go_roundw
      case rel=>exact ⟨k+1,g,cap,true,L'++[⟨x.lo,la,x.h⟩],by go_num,rfl,by omega,by simp[HM.o],by have:=HM.o;simp;omega,oa.o,(λ_=>by simp),⟨λh=>by simp at h,λh=>absurd h My.o⟩,Dr.o,by simpa using lG,qG,(λy hy=>by
       rcases aau.1 hy with hy|hy
       ·exact lF y (by rw[HL.o];exact abr _ hy)
       rw[aas.1 hy];exact lF x (by rw[HL.o];simp)),kC.o⟩
      case measure=>simp[intOf]<;>omega
     |false=>
      generalize fG:L.length=n at*;have mH:((w3.alloc (.cells #[.int .i64 d,.int .i64 (la)] 2)).alloc (.cells #[.slice (some ⟨w3.heap.size,0,none⟩) 2 2] 33)).heap.size=w3.heap.size+2:=by simp
      have rK:Below w3.heap.size w3 ((w3.alloc (.cells #[.int .i64 d,.int .i64 (la)] 2)).alloc (.cells #[.slice (some ⟨w3.heap.size,0,none⟩) 2 2] 33)):=((aae _ _).alloc (aad _) _).alloc (by simp) _;have Bo:=(Row.new w3 #[.int .i64 d,.int .i64 (la)] 2).below ((aae _ _).alloc (aad _) (.cells #[.slice (some ⟨w3.heap.size,0,none⟩) 2 2] 33)) (by simp);have IW:=I Bo;have vD:=I rK;have IX:=I ((kX.o.alloc (.cells #[.int .i64 d,.int .i64 (la)] 2)).alloc (.cells #[.slice (some ⟨w3.heap.size,0,none⟩) 2 2] 33));clear Bo rK;have uI:=fU.o.row.lt g rfl;go_wp2_with (at_builtin;refine aaH _ rfl _ _ 24 rfl w.heap.size 33 i0 (.slice none 0 0) 1 24 underlying24 hi dK ez ek rfl (by decide) _ _ _ rfl IX.o ⟨w3.heap.size+1,0,none⟩ 1 1 (eW ⟨d,la,w3.heap.size⟩) rfl rfl (λj u hj=>kN hj) (λu hu=>kV hu) ?c3 ?c4 (aS (aS dI.o.size)) ?_);case c3=>unfold maxLen;omega
      case c4=>omega
      intro v' w9 aG aA aU gd;obtain ⟨g',fq,rfl,qh,lB⟩:=bG aG (by simpa using aU)
      have o9:g'=g\/g'=w3.heap.size+2:=by
       rcases gd with h|h<;>injection h with h
       ·exact .inl h
       first|exact .inr h|exact .inr (by rw[mH]at h;exact h)
      have Dq:=I (Rows.push (x:=⟨d,la,w3.heap.size⟩) (fU.o.below vD.o) aA (by rw[mH];exact o9) (by rw[fG];exact aG) IW.o dI.o.size (by rw[mH];show w3.heap.size<w3.heap.size+2;omega) (by show w3.heap.size≠g;omega) (λy hy=>(fU.o.each y hy).2.2.1));have vE:=I ((nw.o.below vD.o lG).only (by rw[mH];omega) qG aA);have iM:=I ((dI.o.trans (vD.o.mono dI.o.size)).grown aA (by rw[mH];have:=dI.o.size;omega) (λj hj=>by have:=kX.o.lt j hj;exact this.1));have vF:gT<w9.heap.size:=by have:=aA.size;rw[mH]at this;omega
      clear aG aA aU gd;go_wp2;go_roundw
      case rel=>exact ⟨k+1,g',fq,true,L++[⟨d,la,w3.heap.size⟩],by go_num,rfl,by omega,by rw[aak,List.length_singleton,fG],by rw[aak,List.length_singleton,fG];omega,Dq.o,(λ_=>by simp),⟨λh=>by simp at h,λh=>absurd h My.o⟩,vE.o,vF,by rcases o9 with e|e<;>omega,(λy hy=>by
       rcases aau.1 hy with hy|hy
       ·exact lF y hy
       rw[aas.1 hy];exact lG),iM.o⟩
      case measure=>simp[intOf]<;>omega
   have N5: ¬(k:Int)+1<(M.length:Int):=by omega
   generalize M[k]=d at*;go_wp2_with (fail);refine (Dh.o).mono ?_;rintro e w3 ⟨v3,rfl,_,⟨A3,n3,c3,rfl⟩,dB⟩;have fU:=I (kW.o.below dB);have dI:=I (HB.o.trans (dB.mono HB.o.size));have nw:=I (FT.o.below dB F6);have lG:gT<w3.heap.size:=aar F6 dB.size;have Yf:=Wo.o w3 nw.o;clear dB;cases oU:(nU S ls d).isSome with
   |true=>
    have HC:=I (HG.o.trans (SU.o oU).symm);clear oU;go_wp2;go_roundw;case rel=>exact ⟨k+1,g,cap,false,L,by go_num,rfl,by omega,rfl,by omega,fU.o,(λh=>by cases h),HC.o,nw.o,lG,qG,lF,dI.o⟩
    case measure=>simp[intOf]<;>omega
   |false=>
    have My:=I (hY.o oU);have kX:=I fU.o.row;clear oU Dh SU hY;cases b with
    |true=>
     have gm:=Mx.o rfl;rcases List.eq_nil_or_concat L with hL|⟨L',x,hL⟩
     ·exact absurd hL gm
     clear gm;rw[List.concat_eq_append]at hL;obtain ⟨e1,e2⟩:=oW fU.o.row (j:=L'.length) (u:= .slice (some ⟨x.h,0,none⟩) 2 2) (by rw[hL,abf,aaN (by rw[bp (k:=1) eW (λ_=>rfl)];omega),bp (k:=1) eW (λ_=>rfl)];simp[eW]);have e3:=(fU.o.each x (by rw[hL];simp)).1.cell 1 _ rfl;have e4:=(fU.o.each x (by rw[hL];simp)).1.free 1 (by simp);have HL:=I hL;generalize fG:L.length=n at*;obtain ⟨m,hm⟩: ∃m,m=L'.length:=⟨_,rfl⟩
     rw[<-hm]at e1 e2;have Mq:n=m+1:=by rw[<-fG,hL,hm];simp
     subst Mq;have HM:=I hm;clear hL hm;have oa:=I (Rows.turn (x:=x) (by rw[<-HL.o];exact fU.o) (999));have Lo:=(fU.o.each x (by rw[HL.o];simp))
     have kC:=I (dI.o.setCell (p:=⟨x.h,1,none⟩) Lo.2.1 (.int .i64 (999)));have Dr:=I (nw.o.nP (p:=⟨x.h,1,none⟩) (.int .i64 (999)) (by have:=lF x (by rw[HL.o];simp);show x.h≠gT;omega));go_wp2;go_roundw
     case rel=>exact ⟨k+1,g,cap,true,L'++[⟨x.lo,999,x.h⟩],by go_num,rfl,by omega,by simp[HM.o],by have:=HM.o;simp;omega,oa.o,(λ_=>by simp),⟨λh=>by simp at h,λh=>absurd h My.o⟩,Dr.o,by simpa using lG,qG,(λy hy=>by
      rcases aau.1 hy with hy|hy
      ·exact lF y (by rw[HL.o];exact abr _ hy)
      rw[aas.1 hy];exact lF x (by rw[HL.o];simp)),kC.o⟩
     case measure=>simp[intOf]<;>omega
    |false=>
     generalize fG:L.length=n at*;have mH:((w3.alloc (.cells #[.int .i64 d,.int .i64 (999)] 2)).alloc (.cells #[.slice (some ⟨w3.heap.size,0,none⟩) 2 2] 33)).heap.size=w3.heap.size+2:=by simp
     have rK:Below w3.heap.size w3 ((w3.alloc (.cells #[.int .i64 d,.int .i64 (999)] 2)).alloc (.cells #[.slice (some ⟨w3.heap.size,0,none⟩) 2 2] 33)):=((aae _ _).alloc (aad _) _).alloc (by simp) _;have Bo:=(Row.new w3 #[.int .i64 d,.int .i64 (999)] 2).below ((aae _ _).alloc (aad _) (.cells #[.slice (some ⟨w3.heap.size,0,none⟩) 2 2] 33)) (by simp);have IW:=I Bo;have vD:=I rK;have IX:=I ((kX.o.alloc (.cells #[.int .i64 d,.int .i64 (999)] 2)).alloc (.cells #[.slice (some ⟨w3.heap.size,0,none⟩) 2 2] 33));clear Bo rK;have uI:=fU.o.row.lt g rfl;go_wp2_with (at_builtin;refine aaH _ rfl _ _ 24 rfl w.heap.size 33 i0 (.slice none 0 0) 1 24 underlying24 hi dK ez ek rfl (by decide) _ _ _ rfl IX.o ⟨w3.heap.size+1,0,none⟩ 1 1 (eW ⟨d,999,w3.heap.size⟩) rfl rfl (λj u hj=>kN hj) (λu hu=>kV hu) ?c3 ?c4 (aS (aS dI.o.size)) ?_);case c3=>unfold maxLen;omega
     case c4=>omega
     intro v' w9 aG aA aU gd;obtain ⟨g',fq,rfl,qh,lB⟩:=bG aG (by simpa using aU)
     have o9:g'=g\/g'=w3.heap.size+2:=by
      rcases gd with h|h<;>injection h with h
      ·exact .inl h
      first|exact .inr h|exact .inr (by rw[mH]at h;exact h)
     have Dq:=I (Rows.push (x:=⟨d,999,w3.heap.size⟩) (fU.o.below vD.o) aA (by rw[mH];exact o9) (by rw[fG];exact aG) IW.o dI.o.size (by rw[mH];show w3.heap.size<w3.heap.size+2;omega) (by show w3.heap.size≠g;omega) (λy hy=>(fU.o.each y hy).2.2.1));have vE:=I ((nw.o.below vD.o lG).only (by rw[mH];omega) qG aA);have iM:=I ((dI.o.trans (vD.o.mono dI.o.size)).grown aA (by rw[mH];have:=dI.o.size;omega) (λj hj=>by have:=kX.o.lt j hj;exact this.1));have vF:gT<w9.heap.size:=by have:=aA.size;rw[mH]at this;omega
     clear aG aA aU gd;go_wp2;go_roundw
     case rel=>exact ⟨k+1,g',fq,true,L++[⟨d,999,w3.heap.size⟩],by go_num,rfl,by omega,by rw[aak,List.length_singleton,fG],by rw[aak,List.length_singleton,fG];omega,Dq.o,(λ_=>by simp),⟨λh=>by simp at h,λh=>absurd h My.o⟩,vE.o,vF,by rcases o9 with e|e<;>omega,(λy hy=>by
      rcases aau.1 hy with hy|hy
      ·exact lF y hy
      rw[aas.1 hy];exact lG),iM.o⟩
     case measure=>simp[intOf]<;>omega
  have eA: ¬(k:Int)<(M.length:Int):=by omega
  have di:k=M.length:=by omega
  have eB:ag (L.length=0↔eJ S ls):=I (by
   rw[List.length_eq_zero_iff,HG.o,<-Lu HP.o,di];unfold ny;rw[aa1];exact ⟨λh x hx=>h x ((SS.o x).2 hx),λh x hx=>h x ((SS.o x).1 hx)⟩)
  clear aI di;go_wp2;go_ret;exact ⟨g,cap,L.length,rfl,by omega,eB.o,HB.o⟩
def Uh (a:bo) (day:Int):bo:=⟨a.a8,day,a.pat⟩
def QR (ls:List bo) (k:Nat) (a:bo) (day:Int):List bo:=ls.set k (Uh a day)
def Ui (ls:List bo) (k:Nat):List bo:=ls.take k++ls.drop (k+1)
def Wp (o:Option (List bE)) (a:bo):Option (List bE):=o.bind (λS=>fT S a.pat)
def QS (S:List bE) (ls:List bo) (k:Nat) (a:bo) (day:Int):Prop:=rJ day=true/\a.a8<day/\day<a.fin/\eJ S (QR ls k a day)
section
variable {P:Program} {w:World}
theorem xH {α:Type} (f:α->List Value) {o:Oper} {a:Act} {K:Act->World->Prop} {Q:Exit->Act->World->Prop} (s x:Operand) (t:TypeId)
 (ho:o.op= .call {callee:= .builtin .append,args:= #[s,x],argTypes:= #[t,t]})
 (base:Nat) (e:TypeId) (i:TypeInfo) (z:Value) (size bytes:Nat) (ht:P.underlying t=some (.slice e)) (hi:P.info? e=some i) (hz:i.zero=some z)
 (ga:i.size=size) (y9:i.bytes=bytes) (qd:z.cells.size=size) (ja:0<size)
 (v:Value) (n:Nat) (ys:List Value) (hs:a.eval s=v) (cr:w.ownsRow base e size v n ys)
 (vs:Value) (xs:List α) (B:Nat) (hx:a.eval x=vs) (FA:cz (Pl f) size w B vs xs) (hf: ∀y,(f y).length=size) (h1: ∀y,∀u∈f y,u.oneCell'=true)
 (ya:n+xs.length<=maxLen) (gB:(n+xs.length)*bytes<=140737488355328) (dC:base<=w.heap.size)
 (h: ∀v' w',w'.ownsRow base e size v' (n+xs.length) (ys++xs.flatMap f)->w.grownBy w' v.ownBlock->(v≠ .slice none 0 0->v'≠ .slice none 0 0)->K (a.put o.dst v') w'):o.wp P a w K Q:=by
 obtain ⟨A,c,rfl,hc,hm,cn⟩:=FA
 have oH: ∀ad:Addr,A=some ad->(∀j u,(xs.flatMap f)[j]?=some u->w.cell? (ad.add j)=some u)->o.wp P a w K Q:=λad hA qB=>by
  subst hA;obtain ⟨v',w',hr,g1,g2,g3,_⟩:=run_append_own_at (P:=P) w base t o.type e i z size bytes ht hi hz ga y9 qd ja v n ys cr ad xs.length c (xs.flatMap f) (bp f hf xs) qB (gJ f (λy u hu=>h1 y u hu) xs) ya gB dC;unfold Oper.wp execOp;simp only[ho,resolve,invoke,builtin,Sem.run_bind,Sem.run_pure,Result.andThen_ok,ab0,aa4,abl,hs,hx,hr];exact h v' w' g1 g2 (λhv Ny=>hv (g3.1 Ny).1)
 by_cases h0:xs=[]
 ·subst h0;cases A with
  |some ad=>exact oH ad rfl (λj u hj=>by simp at hj)
  |none=>
   have CW:(Builtin.append_ #[t,t] o.type #[v,.slice none 0 c]).run P w= .ok v w:=by
    rcases cr.2 with ⟨rfl,rfl⟩|⟨g,cap,kT,rfl,_,_,xy,_⟩
    ·simp[Builtin.append_,abw ht,sizeOf,typeInfo,hi,Builtin.lenOf,Builtin.firstCells]
    simp[Builtin.append_,abw ht,sizeOf,typeInfo,hi,Builtin.lenOf,Builtin.firstCells,xy,storeCells]
   unfold Oper.wp;have Ih:a.eval x= .slice none 0 c:=hx;simp[execOp,ho,resolve,invoke,builtin,hs,Ih,CW,Result.andThen];exact (h v w (by simpa using cr) ⟨rfl,rfl,rfl,aad _,λ_ _ _=>rfl⟩ (λhv=>hv))
 obtain ⟨b,off,hA,hb,aC⟩:=cn (abp.2 h0);refine oH ⟨b,off,none⟩ hA (λj u hj=>?_);have yb:j<xs.length*size:=by rw[<-bp f hf xs];exact (aal.1 hj).1
 have hq:j/size<xs.length:=Nat.div_lt_of_lt_mul (by rw[abC];exact yb);obtain ⟨us,hl,hp,CX⟩:=aC (j/size) xs[j/size] (aag hq);have hp:us=f xs[j/size]:=hp;subst hp;have CY:j% size<size:=Nat.mod_lt _ ja
 have hu:(f xs[j/size])[j% size]?=some u:=by
  have Ii:j=(j/size)*size+j% size:=by rw[abC];exact (Nat.div_add_mod j size).symm
  have KH: ∀(L:List α) (q r:Nat) (hq:q<L.length),r<size->(L.flatMap f)[q*size+r]?=(f L[q])[r]?:=by
   intro L;induction L with
   |nil=>intro q r hq;cases hq
   |cons y L ih=>
    intro q r hq hr;rw[aa0];cases q with
    |zero=>rw[Nat.zero_mul,aan,aaW (by rw[hf];exact hr)];rfl
    |succ q=>
     rw[aaN (by rw[hf,aaO];omega),hf,aaO,show q*size+size+r-size=q*size+r by omega];exact ih q r (by simpa using hq) hr
  rw[<-KH xs (j/size) (j% size) hq CY,<-Ii];exact hj
 have:=CX (j% size) u hu;have Ii:(j/size)*size+j% size=j:=by rw[abC];exact Nat.div_add_mod j size
 rw[abH,Ii]at this;rw[aaQ];exact this
theorem gL {α:Type} (f:α->List Value) {ops:Array Oper} {o:Oper} {a:Act} {K:Act->World->Prop} {Q:Exit->Act->World->Prop} {E:Prop} (xZ:o.guard=none) (s x:Operand) (t:TypeId)
 (ho:o.op= .call {callee:= .builtin .append,args:= #[s,x],argTypes:= #[t,t]})
 (base:Nat) (e:TypeId) (i:TypeInfo) (z:Value) (size bytes:Nat) (ht:P.underlying t=some (.slice e)) (hi:P.info? e=some i) (hz:i.zero=some z)
 (ga:i.size=size) (y9:i.bytes=bytes) (qd:z.cells.size=size) (ja:0<size)
 (v:Value) (n:Nat) (ys:List Value) (hs:a.eval s=v) (cr:w.ownsRow base e size v n ys)
 (vs:Value) (xs:List α) (B:Nat) (hx:a.eval x=vs) (FA:cz (Pl f) size w B vs xs) (hf: ∀y,(f y).length=size) (h1: ∀y,∀u∈f y,u.oneCell'=true)
 (ya:n+xs.length<=maxLen) (gB:(n+xs.length)*bytes<=140737488355328) (dC:base<=w.heap.size)
 (h: ∀v' w',w'.ownsRow base e size v' (n+xs.length) (ys++xs.flatMap f)->w.grownBy w' v.ownBlock->(v≠ .slice none 0 0->v'≠ .slice none 0 0)->K (a.put o.dst v') w'):
 if Region.wanted o (yielded ops a.tmps)=true then Oper.wp P o a w K Q else E:=by
 have hw:Region.wanted o (yielded ops a.tmps)=true:=by simp[Region.wanted,xZ]
 rw[aaj hw];exact xH f s x t ho base e i z size bytes ht hi hz ga y9 qd ja v n ys hs cr vs xs B hx FA hf h1 ya gB dC h
theorem er {ops:Array Oper} {o:Oper} {a:Act} {K:Act->World->Prop} {Q:Exit->Act->World->Prop} {E:Prop} (xZ:o.guard=none) (s x:Operand) (t:TypeId)
 (ho:o.op= .call {callee:= .builtin .append,args:= #[s,x],argTypes:= #[t,t]})
 (base:Nat) (e:TypeId) (i:TypeInfo) (z:Value) (size bytes:Nat) (ht:P.underlying t=some (.slice e)) (hi:P.info? e=some i) (hz:i.zero=some z)
 (ga:i.size=size) (y9:i.bytes=bytes) (qd:z.cells.size=size) (ja:0<size)
 (v:Value) (n:Nat) (xs:List Value) (hs:a.eval s=v) (cr:w.ownsRow base e size v n xs)
 (ad:Addr) (m c:Nat) (news:List Value) (hx:a.eval x= .slice (some ad) m c) (hl:news.length=m*size) (nS: ∀j u,news[j]?=some u->w.cell? (ad.add j)=some u) (h1: ∀u∈news,u.oneCell'=true)
 (ya:n+m<=maxLen) (gB:(n+m)*bytes<=140737488355328) (dC:base<=w.heap.size)
 (h: ∀v' w',w'.ownsRow base e size v' (n+m) (xs++news)->w.grownBy w' v.ownBlock->(v'= .slice none 0 0↔v= .slice none 0 0/\m=0)->(v'.ownBlock=v.ownBlock\/v'.ownBlock=some w.heap.size)->K (a.put o.dst v') w'):
 if Region.wanted o (yielded ops a.tmps)=true then Oper.wp P o a w K Q else E:=by
 have hw:Region.wanted o (yielded ops a.tmps)=true:=by simp[Region.wanted,xZ]
 rw[aaj hw];obtain ⟨v',w',hr,h2,h3,h4,h5⟩:=run_append_own_at (P:=P) w base t o.type e i z size bytes ht hi hz ga y9 qd ja v n xs cr ad m c news hl nS h1 ya gB dC;unfold Oper.wp execOp;simp only[ho,resolve,invoke,builtin,Sem.run_bind,Sem.run_pure,Result.andThen_ok,ab0,aa4,abl,hs,hx,hr];exact h v' w' h2 h3 h4 h5
end
theorem dL.below {base:Nat} {w w':World} {S T:List bE} {vs vt:Value} {g cap:Nat} {L:List bu} (h:dL base w S T vs vt g cap L) (hb:Below w.heap.size w w'):dL base w' S T vs vt g cap L:=
 ⟨h.s.on hb,h.sn,h.t.on hb,h.tn,aT h.row hb,λx hx=>⟨(h.nt x hx).1.on hb,(h.nt x hx).2⟩⟩
def fV (base:Nat) (w:World) (g cap:Nat) (L:List bu):Prop:=dL base w [] [] (.slice none 0 0) (.slice none 0 0) g cap L
theorem mI (base:Nat) (w:World):ay ai [] base w (.slice none 0 0):=⟨none,0,rfl,aad _,aaf _,λh=>absurd rfl h⟩
def QT (ls:List bo) (w:World) (e:Ending) (w':World):Prop:=
 ∃g cap L,e= .returned (.slice (some ⟨g,0,none⟩) L.length cap)/\L.map (·.a)=ls/\fV w.heap.size w' g cap L/\Below w.heap.size w w'
theorem fH {w w':World} {p0 p1 p2:Addr} {v0 v1 v2:Value} (h:w.cell? p0=some v0/\w.cell? p1=some v1/\w.cell? p2=some v2) (hb:Below w.heap.size w w'):w'.cell? p0=some v0/\w'.cell? p1=some v1/\w'.cell? p2=some v2:=
 ⟨(hb.cell (aaL w _ h.1)).trans h.1,(hb.cell (aaL w _ h.2.1)).trans h.2.1,(hb.cell (aaL w _ h.2.2)).trans h.2.2⟩
theorem kD {B:Nat} {w w':World} {p0 p1 p2:Addr} {v0 v1 v2:Value} (h:w.cell? p0=some v0/\w.cell? p1=some v1/\w.cell? p2=some v2) (hb:Below B w w') (hB:w.heap.size=B):w'.cell? p0=some v0/\w'.cell? p1=some v1/\w'.cell? p2=some v2:=
 fH h (hB▸hb)
theorem Br {w w':World} {p0 p1 p2:Addr} {g:Nat} {v0 v1 v2:Value} (h:w.cell? p0=some v0/\w.cell? p1=some v1/\w.cell? p2=some v2) (hg:w.grownBy w' (some g)) (h0:p0.block≠g) (h1:p1.block≠g) (h2:p2.block≠g):w'.cell? p0=some v0/\w'.cell? p1=some v1/\w'.cell? p2=some v2:=
 ⟨hg.cell h.1 (λe=>h0 (by injection e)),hg.cell h.2.1 (λe=>h1 (by injection e)),hg.cell h.2.2 (λe=>h2 (by injection e))⟩
def SV (S:List bE) (ls:List bo) (k:Nat) (a:bo) (day:Int) (w:World) (e:Ending) (w':World):Prop:=
 ∃v r,e= .returned (.tuple #[v,.bool r])/\(r=true↔QS S ls k a day)/\(r=true->eE w' w'.heap.size v (QR ls k a day))/\(∃A n c,v= .slice A n c)/\Below w.heap.size w w'
theorem jK (S:List bE) (ls:List bo) (w:World) (vs va:Value) (hS:iT w w.heap.size vs S) (hA:eE w w.heap.size va ls) (cy:cd S=true) (hp:bJ ls=true):
 Calls prog 47 #[vs,va] w (ff S ls w):=
 (Bn S ls w vs va hS hA cy hp).mono λe w' ⟨g,cap,L,h1,_,h3,h4,h5⟩=>⟨g,cap,L.length,h1,h3,by
  have:=h4.none;rw[List.map_eq_nil_iff]at this;rw[List.length_eq_zero_iff,this],h5⟩
structure gu where
 al:ByteArray
 br:Int
 pat:List aV
 a8:Int
 fin:Int
 aj:Int
 ax:List Int
 result:Int
structure cp where
 day:Int
 rule:Int
 af:List (List Int)
 base:List bE
 av:List bo
 ao:List gu
structure bR where
 a:List Int
 v:Value
def lH (x:bR):List Value:=[x.v]
structure bH where
 a:gu
 p:Value
 t:Value
def cK (x:bH):List Value:=[.string x.a.al,.int .i64 x.a.br,x.p,.int .i64 x.a.a8,.int .i64 x.a.fin,.int .i64 x.a.aj,x.t,.int .i64 x.a.result]
def kH (w:World) (B:Nat) (v:Value) (ls:List (List Int)):Prop:=
 ∃L:List bR,L.map (·.a)=ls/\cz (Pl lH) 1 w B v L/\ ∀x∈L,Ints w B x.v x.a
def nA (w:World) (B:Nat) (v:Value) (ls:List gu):Prop:=
 ∃L:List bH,L.map (·.a)=ls/\cz (Pl cK) 8 w B v L/\ ∀x∈L,bg w B x.p x.a.pat/\Ints w B x.t x.a.ax
theorem kH.on {w w':World} {B B':Nat} {v:Value} {ls:List (List Int)} (h:kH w B v ls) (hb:Below B w w') (hB:B<=B'):kH w' B' v ls:=by
 obtain ⟨L,h1,h2,h3⟩:=h;exact ⟨L,h1,cz.on h2 (Pl.stays _) hb hB,λx hx=>cz.on (h3 x hx) (Pl.stays _) hb hB⟩
theorem nA.on {w w':World} {B B':Nat} {v:Value} {ls:List gu} (h:nA w B v ls) (hb:Below B w w') (hB:B<=B'):nA w' B' v ls:=by
 obtain ⟨L,h1,h2,h3⟩:=h;exact ⟨L,h1,cz.on h2 (Pl.stays _) hb hB,λx hx=>⟨cz.on (h3 x hx).1 (Pl.stays _) hb hB,cz.on (h3 x hx).2 (Pl.stays _) hb hB⟩⟩
theorem Ints.sl {w:World} {B:Nat} {v:Value} {zs:List Int} (h:Ints w B v zs): ∃A c,v= .slice A zs.length c/\zs.length<=c/\c<=maxLen:=by
 obtain ⟨A,c,h1,h2,h3,_⟩:=h;exact ⟨A,c,h1,h2,h3⟩
theorem bg.sl {w:World} {B:Nat} {v:Value} {zs:List aV} (h:bg w B v zs): ∃A c,v= .slice A zs.length c/\zs.length<=c/\c<=maxLen:=by
 obtain ⟨A,c,h1,h2,h3,_⟩:=h;exact ⟨A,c,h1,h2,h3⟩
theorem fY {w:World} {B:Nat} {v:Value} {ls:List (List Int)} (h:kH w B v ls): ∃(A:Option Addr) (c:Nat),v= .slice A ls.length c/\ls.length<=c/\c<=maxLen/\(0<ls.length-> ∃b off,A=some ⟨b,off,none⟩/\b<B/\
 ∀(k:Nat) (a:List Int),ls[k]?=some a-> ∃A1 c1,w.cell? ⟨b,off+k,none⟩=some (.slice A1 a.length c1)/\c1<=maxLen/\Ints w B (.slice A1 a.length c1) a):=by
 obtain ⟨L,rfl,⟨A,c,rfl,h1,h2,h3⟩,h4⟩:=h;rw[aap];refine ⟨A,c,rfl,h1,h2,λh0=>?_⟩;obtain ⟨b,off,rfl,hb,hk⟩:=h3 h0;refine ⟨b,off,rfl,hb,λk a ha=>?_⟩;rw[aaX]at ha;cases hx:L[k]? with
 |none=>rw[hx]at ha;cases ha
 |some x=>
  rw[hx]at ha;injection ha with ha
  subst ha;obtain ⟨us,hl,hp,hc⟩:=hk k x hx;have hp:us=lH x:=hp;subst hp;have hi:=h4 x (aaC hx);obtain ⟨A1,c1,e1,_,hm⟩:=hi.sl;have c0:=hc 0 _ rfl;rw[e1]at c0 hi;rw[abj,Nat.add_zero]at c0;exact ⟨A1,c1,c0,hm,hi⟩
structure Bs (w:World) (B:Nat) (b o:Nat) (m:gu) (A1:Option Addr) (c1:Nat) (A2:Option Addr) (c2:Nat):Prop where
 k0:w.cell? ⟨b,o,none⟩=some (.string m.al)
 k1:w.cell? ⟨b,o+1,none⟩=some (.int .i64 m.br)
 k2:w.cell? ⟨b,o+2,none⟩=some (.slice A1 m.pat.length c1)
 k3:w.cell? ⟨b,o+3,none⟩=some (.int .i64 m.a8)
 k4:w.cell? ⟨b,o+4,none⟩=some (.int .i64 m.fin)
 k5:w.cell? ⟨b,o+5,none⟩=some (.int .i64 m.aj)
 k6:w.cell? ⟨b,o+6,none⟩=some (.slice A2 m.ax.length c2)
 k7:w.cell? ⟨b,o+7,none⟩=some (.int .i64 m.result)
 m1:c1<=maxLen
 m2:c2<=maxLen
 fF:bg w B (.slice A1 m.pat.length c1) m.pat
 ints:Ints w B (.slice A2 m.ax.length c2) m.ax
theorem fQ {w:World} {B:Nat} {v:Value} {ls:List gu} (h:nA w B v ls): ∃(A:Option Addr) (c:Nat),v= .slice A ls.length c/\ls.length<=c/\c<=maxLen/\(0<ls.length-> ∃b off,A=some ⟨b,off,none⟩/\b<B/\
 ∀(k:Nat) (a:gu),ls[k]?=some a-> ∃A1 c1 A2 c2,Bs w B b (off+k*8) a A1 c1 A2 c2):=by
 obtain ⟨L,rfl,⟨A,c,rfl,h1,h2,h3⟩,h4⟩:=h;rw[aap];refine ⟨A,c,rfl,h1,h2,λh0=>?_⟩;obtain ⟨b,off,rfl,hb,hk⟩:=h3 h0;refine ⟨b,off,rfl,hb,λk a ha=>?_⟩;rw[aaX]at ha;cases hx:L[k]? with
 |none=>rw[hx]at ha;cases ha
 |some x=>
  rw[hx]at ha;injection ha with ha
  subst ha;obtain ⟨us,hl,hp,hc⟩:=hk k x hx;have hp:us=cK x:=hp;subst hp;obtain ⟨hi,hj⟩:=h4 x (aaC hx);obtain ⟨A1,c1,e1,_,EU⟩:=hi.sl;obtain ⟨A2,c2,e2,_,EV⟩:=hj.sl;obtain ⟨m,p,t⟩:=x;have f1:p= .slice A1 m.pat.length c1:=e1;have f2:t= .slice A2 m.ax.length c2:=e2;clear e1 e2;subst f1 f2;exact ⟨A1,c1,A2,c2,hc 0 _ rfl,hc 1 _ rfl,hc 2 _ rfl,hc 3 _ rfl,hc 4 _ rfl,hc 5 _ rfl,hc 6 _ rfl,hc 7 _ rfl,EU,EV,hi,hj⟩
theorem Bs.on {w w':World} {B B' b o:Nat} {m:gu} {A1:Option Addr} {c1:Nat} {A2:Option Addr} {c2:Nat} (h:Bs w B b o m A1 c1 A2 c2) (hb:Below B w w') (hB:B<=B') (aI:b<B):Bs w' B' b o m A1 c1 A2 c2 where
 k0:=(hb.cell (p:=⟨b,o,none⟩) aI).trans h.k0
 k1:=(hb.cell (p:=⟨b,o+1,none⟩) aI).trans h.k1
 k2:=(hb.cell (p:=⟨b,o+2,none⟩) aI).trans h.k2
 k3:=(hb.cell (p:=⟨b,o+3,none⟩) aI).trans h.k3
 k4:=(hb.cell (p:=⟨b,o+4,none⟩) aI).trans h.k4
 k5:=(hb.cell (p:=⟨b,o+5,none⟩) aI).trans h.k5
 k6:=(hb.cell (p:=⟨b,o+6,none⟩) aI).trans h.k6
 k7:=(hb.cell (p:=⟨b,o+7,none⟩) aI).trans h.k7
 m1:=h.m1
 m2:=h.m2
 fF:=cz.on h.fF (Pl.stays _) hb hB
 ints:=cz.on h.ints (Pl.stays _) hb hB
structure cS where
 t:Value
 b:Value
 c:Value
 m:Value
def eu (a:cp) (x:cS):Value:= .agg #[.int .i64 a.day,.int .i64 a.rule,x.t,x.b,x.c,x.m]
structure jv (w:World) (B:Nat) (x:cS) (a:cp):Prop where
 t:kH w B x.t a.af
 b:iT w B x.b a.base
 c:eE w B x.c a.av
 m:nA w B x.m a.ao
theorem jv.on {w w':World} {B B':Nat} {x:cS} {a:cp} (h:jv w B x a) (hb:Below B w w') (hB:B<=B'):jv w' B' x a:=
 ⟨h.t.on hb hB,cz.on h.b (Pl.stays _) hb hB,h.c.on hb hB,h.m.on hb hB⟩
theorem jv.km {w:World} {B:Nat} {x:cS} {a:cp} (h:jv w B x a) (hB:B<=w.heap.size): ∀y:ar w,jv y.val y.val.heap.size x a:=λy=>h.on (y.ok.mono hB) (aaB hB y.ok.size)
structure ua (a:cp):Prop where
 b: ∀x∈a.base,x.text.size<=maxLen
 c:ms a.av
 m: ∀x∈a.ao,x.al.size<=maxLen/\bS x.pat
def fZ (vs:List Int):Bool:=cE vs.length (λk=>dO (vs.getD k 0) 0 3)
def dD (m:gu) (day n:Int):Bool:=
 dU m.al.toList&&dO m.br 0 (n-1)&&!((m.pat.length:Int)==0)&&bF m.pat&&jd m.a8 m.fin m.aj&&((m.ax.length:Int)==n)&&fZ m.ax&&dO m.result 0 4&&((m.result==0)==decide (day<m.aj))
def ko (L:List gu) (day n:Int) (k:Nat):Bool:=((L[k]?).map (λm=>dD m day n&&!((L.take k).any (λo=>o.al.toList==m.al.toList)))).getD true
def kE (L:List gu) (day n:Int):Bool:=cE L.length (ko L day n)
def vJ (L:List (List Int)) (n:Int) (k:Nat):Bool:=((L[k]?).map (λl=>cF l (k:Int) n)).getD true
def ij (L:List (List Int)):Bool:=cE L.length (vJ L L.length)
def gS (a:cp):Bool:=dO a.day 0 999&&dO a.rule 0 2&&dO (a.af.length:Int) 1 12&&decide (a.ao.length<=6)
open Classical in
noncomputable def fI (a:cp):Bool:=gS a&&ij a.af&&kE a.ao a.day a.af.length&&cd a.base&&bJ a.av&&decide (eJ a.base a.av)
def rL (a:bo):Prop:=a.pat.length<=1048576/\ ∀e∈a.pat,yc e
def rM (m:gu):Prop:=m.al.size<=1048576/\m.pat.length<=1048576/\(∀e∈m.pat,yc e)/\m.ax.length<=1048576
structure rN (a:cp):Prop where
 t0:a.af.length<=1048576
 t: ∀x∈a.af,x.length<=1048576
 b0:a.base.length<=1048576
 b: ∀x∈a.base,x.text.size<=1048576
 c0:a.av.length<=1048576
 c: ∀x∈a.av,rL x
 m0:a.ao.length<=1048576
 m: ∀x∈a.ao,rM x
theorem rO {w:World} {B n c k:Nat} {A:Option Addr} {es:List bE} {e:bE} (h:iT w B (.slice A n c) es) (hk:es[k]?=some e):
 ∃b off,A=some ⟨b,off,none⟩/\b<B/\w.cell? ⟨b,off+k*2,none⟩=some (.int .i64 e.id)/\w.cell? ⟨b,off+k*2+1,none⟩=some (.string e.text):=by
 obtain ⟨A',c',hv,h1,h2,h3⟩:=h;injection hv with e1 e2 e3
 subst e1;have aI:k<es.length:=(aal.1 hk).1;obtain ⟨b,off,hA,hb,hc⟩:=h3 (by omega);exact ⟨b,off,hA,hb,ke hc hk⟩
theorem Dt (ls:List (List Int)) (v:Value) (left:Int) (w:World) (h:kH w w.heap.size v ls) (h0:0<=left) (h1:left<=1048576):
 Calls prog 58 #[v,.int .i64 left] w (kz (ls.length<=1048576/\ ∀x∈ls,x.length<=1048576) w):=by
 have HE:=I (λy:ar w=>h.on y.ok y.ok.size);obtain ⟨A,c,rfl,hc,hm,-⟩:=fY h;unfold maxLen at hm;clear h;refine aL λx0=>?_;by_cases aI:left-(ls.length:Int)<0
 ·go_enter func58,ntmps58;go_wp2;go_ret;exact ⟨_,rfl,.inl (by omega),x0.ok⟩
 go_enter func58,ntmps58;go_wp2;go_loopw [1,5] (λl i wr=> ∃(k:Nat) (r:Int) (x:ar w),k<=ls.length/\i= .int .i64 (k:Int)/\l= .int .i64 r/\0<=r/\r<=1048576/\(∀e∈ls.take k,(λz:List Int=>z.length<=1048576) e)/\wr=x.val) (λ_ i _=>ls.length-(intOf i).toNat);case atStart=>exact ⟨0,_,x0,aaf _,rfl,rfl,by omega,by omega,by simp,rfl⟩
 case round=>
  obtain ⟨k,r,x,hk,rfl,rfl,yd,mU,dn,rfl⟩:=hrel;have HA:=I dn;clear dn;by_cases xz:k<ls.length
  ·have aH:ls[k]?=some ls[k]:=aag xz;obtain ⟨A',c',hv,_,_,cn⟩:=fY (HE.o x);injection hv with e1 e2 e3
   subst e1;obtain ⟨b,off,rfl,hb,aC⟩:=cn (by omega);obtain ⟨A1,c1,k0,m1,hI⟩:=aC k _ aH;have Lc:=I (aaG xz);obtain ⟨l1,l2,l3⟩:=fB hI;clear aH aC cn hI e2 e3;generalize ls[k]=e at*;go_wp2_with (fail);refine (qC A1 e.length c1 r _ (by omega) yd mU).mono ?_;rintro e' w1 ⟨r',rfl,hr,bw⟩;clear k0;obtain ⟨y,rfl⟩: ∃y:ar w,w1=y.val:=⟨⟨w1,x.ok.trans (bw.mono x.ok.size)⟩,rfl⟩
   rcases hr with hr|⟨hf,mV,Ik⟩
   ·go_wp2;go_ret;exact ⟨_,rfl,.inl (by omega),y.ok⟩
   have Nz: ¬r'<0:=by omega
   have HF:=I hf;clear hf;go_wp2;go_roundw;case rel=>exact ⟨k+1,r',y,by omega,by go_num,rfl,mV,Ik,by rw[Lc.o];intro d hd;rcases aau.1 hd with hd|hd;exact HA.o d hd;rw[aas.1 hd];exact HF.o,rfl⟩
   case measure=>simp[intOf];omega
  have eA: ¬(k:Int)<(ls.length:Int):=by omega
  go_wp2;go_ret;refine ⟨_,rfl,.inr ⟨⟨by omega,?_⟩,yd,mU⟩,x.ok⟩;have:=HA.o
  rwa [aaJ (by omega)]at this
theorem F' (e:bE) (left:Int) (w:World) (hs:e.text.size<=maxLen) (h0:0<=left) (h1:left<=1048576):
 Calls prog 122 #[.agg #[.int .i64 e.id,.string e.text],.int .i64 left] w (kz (e.text.size<=1048576) w):=by
 unfold maxLen at hs;by_cases h:left-(e.text.size:Int)<0
 ·go_enter func122,ntmps122;go_wp2;go_ret;exact ⟨_,rfl,.inl (by omega),(aae _ _).alloc (aad _) _⟩
 go_enter func122,ntmps122;go_wp2;go_ret;exact ⟨_,rfl,.inr ⟨by omega,by omega,by omega⟩,(aae _ _).alloc (aad _) _⟩
theorem Du (ls:List bE) (v:Value) (left:Int) (w:World) (h:iT w w.heap.size v ls) (hs: ∀x∈ls,x.text.size<=maxLen) (h0:0<=left) (h1:left<=1048576):
 Calls prog 59 #[v,.int .i64 left] w (kz (ls.length<=1048576/\ ∀x∈ls,x.text.size<=1048576) w):=by
 have HE:=I (cz.km h (Pl.stays _) (aad _));have HS:=I hs;obtain ⟨A,c,rfl,hc,hm,-⟩:=h;unfold maxLen at hm;clear hs;refine aL λx0=>?_;by_cases aI:left-(ls.length:Int)<0
 ·go_enter func59,ntmps59;go_wp2;go_ret;exact ⟨_,rfl,.inl (by omega),x0.ok⟩
 go_enter func59,ntmps59;go_wp2;go_loopw [1,5] (λl i wr=> ∃(k:Nat) (r:Int) (x:ar w),k<=ls.length/\i= .int .i64 (k:Int)/\l= .int .i64 r/\0<=r/\r<=1048576/\(∀e∈ls.take k,(λz:bE=>z.text.size<=1048576) e)/\wr=x.val) (λ_ i _=>ls.length-(intOf i).toNat);case atStart=>exact ⟨0,_,x0,aaf _,rfl,rfl,by omega,by omega,by simp,rfl⟩
 case round=>
  obtain ⟨k,r,x,hk,rfl,rfl,yd,mU,dn,rfl⟩:=hrel;have HA:=I dn;clear dn;by_cases xz:k<ls.length
  ·have aH:ls[k]?=some ls[k]:=aag xz;obtain ⟨b,off,rfl,hb,k0,k1⟩:=rO (HE.o x) aH;have Lc:=I (aaG xz);have gU:=HS.o ls[k] (aax xz);clear aH;generalize ls[k]=e at*;go_wp2_with (fail);refine (F' e r _ gU yd mU).mono ?_;rintro e' w1 ⟨r',rfl,hr,bw⟩;clear k0 k1;obtain ⟨y,rfl⟩: ∃y:ar w,w1=y.val:=⟨⟨w1,x.ok.trans (bw.mono x.ok.size)⟩,rfl⟩
   rcases hr with hr|⟨hf,mV,Ik⟩
   ·go_wp2;go_ret;exact ⟨_,rfl,.inl (by omega),y.ok⟩
   have Nz: ¬r'<0:=by omega
   have HF:=I hf;clear hf;go_wp2;go_roundw;case rel=>exact ⟨k+1,r',y,by omega,by go_num,rfl,mV,Ik,by rw[Lc.o];intro d hd;rcases aau.1 hd with hd|hd;exact HA.o d hd;rw[aas.1 hd];exact HF.o,rfl⟩
   case measure=>simp[intOf];omega
  have eA: ¬(k:Int)<(ls.length:Int):=by omega
  go_wp2;go_ret;refine ⟨_,rfl,.inr ⟨⟨by omega,?_⟩,yd,mU⟩,x.ok⟩;have:=HA.o
  rwa [aaJ (by omega)]at this
theorem Ga (a:bo) (A1:Option Addr) (c1:Nat) (left:Int) (w:World) (hP:bg w w.heap.size (.slice A1 a.pat.length c1) a.pat) (hs:bS a.pat) (h0:0<=left) (h1:left<=1048576):
 Calls prog 123 #[.agg #[.int .i64 a.a8,.int .i64 a.fin,.slice A1 a.pat.length c1],.int .i64 left] w (kz (rL a) w):=by
 have Mz:Below w.heap.size w (w.alloc (.cells #[.int .i64 a.a8,.int .i64 a.fin,.slice A1 a.pat.length c1] 159)):=(aae _ _).alloc (aad _) _;have HB:=I Mz;have H:=I (oI a.pat A1 a.pat.length c1 left _ (hP.on (Pl.stays _) Mz Mz.size) hs h0 h1);clear hP hs Mz;go_enter func123,ntmps123;go_wp2_with (fail);refine H.o.mono ?_;rintro e1 w1 ⟨r1,rfl,mU,bw⟩;have da:=I (HB.o.trans (bw.mono HB.o.size));clear bw;rcases mU with mU|⟨p1,a1,b1⟩
 ·go_wp2;go_ret;exact ⟨_,rfl,.inl (by omega),da.o⟩
 have mV: ¬r1<0:=by omega
 have HP:=I p1;clear p1;go_wp2;go_ret;exact ⟨_,rfl,.inr ⟨HP.o,a1,b1⟩,da.o⟩
theorem Dv (ls:List bo) (v:Value) (left:Int) (w:World) (h:eE w w.heap.size v ls) (hs:ms ls) (h0:0<=left) (h1:left<=1048576):
 Calls prog 60 #[v,.int .i64 left] w (kz (ls.length<=1048576/\ ∀x∈ls,rL x) w):=by
 have HE:=I (λy:ar w=>h.on y.ok y.ok.size);have HS:=I hs;obtain ⟨A,c,rfl,hc,hm,-⟩:=dk h;unfold maxLen at hm;clear hs h;refine aL λx0=>?_;by_cases aI:left-(ls.length:Int)<0
 ·go_enter func60,ntmps60;go_wp2;go_ret;exact ⟨_,rfl,.inl (by omega),x0.ok⟩
 go_enter func60,ntmps60;go_wp2;go_loopw [1,5] (λl i wr=> ∃(k:Nat) (r:Int) (x:ar w),k<=ls.length/\i= .int .i64 (k:Int)/\l= .int .i64 r/\0<=r/\r<=1048576/\(∀e∈ls.take k,rL e)/\wr=x.val) (λ_ i _=>ls.length-(intOf i).toNat);case atStart=>exact ⟨0,_,x0,aaf _,rfl,rfl,by omega,by omega,by simp,rfl⟩
 case round=>
  obtain ⟨k,r,x,hk,rfl,rfl,yd,mU,dn,rfl⟩:=hrel;have HA:=I dn;clear dn;by_cases xz:k<ls.length
  ·have aH:ls[k]?=some ls[k]:=aag xz;obtain ⟨A',c',hv,_,_,cn⟩:=dk (HE.o x);injection hv with e1 e2 e3
   subst e1;obtain ⟨b,off,rfl,hb,aC⟩:=cn (by omega);obtain ⟨pv,k0,k1,k2,hI⟩:=aC k _ aH;obtain ⟨A1,c1,rfl,_,m1⟩:=bg.sl hI;have HI:=I hI;have Lc:=I (aaG xz);have gU:=HS.o ls[k] (aax xz);unfold maxLen at m1;clear aH aC cn hI e2 e3;generalize ls[k]=e at*;go_wp2_with (fail);refine (Ga e A1 c1 r _ HI.o gU yd mU).mono ?_;rintro e' w1 ⟨r',rfl,hr,bw⟩;clear k0 k1 k2;obtain ⟨y,rfl⟩: ∃y:ar w,w1=y.val:=⟨⟨w1,x.ok.trans (bw.mono x.ok.size)⟩,rfl⟩
   rcases hr with hr|⟨hf,mV,Ik⟩
   ·go_wp2;go_ret;exact ⟨_,rfl,.inl (by omega),y.ok⟩
   have Nz: ¬r'<0:=by omega
   have HF:=I hf;clear hf;go_wp2;go_roundw;case rel=>exact ⟨k+1,r',y,by omega,by go_num,rfl,mV,Ik,by rw[Lc.o];intro d hd;rcases aau.1 hd with hd|hd;exact HA.o d hd;rw[aas.1 hd];exact HF.o,rfl⟩
   case measure=>simp[intOf];omega
  have eA: ¬(k:Int)<(ls.length:Int):=by omega
  go_wp2;go_ret;refine ⟨_,rfl,.inr ⟨⟨by omega,?_⟩,yd,mU⟩,x.ok⟩;have:=HA.o
  rwa [aaJ (by omega)]at this
theorem Gb (m:gu) (A1:Option Addr) (c1:Nat) (A2:Option Addr) (c2:Nat) (left:Int) (w:World) (hP:bg w w.heap.size (.slice A1 m.pat.length c1) m.pat) (hV:Ints w w.heap.size (.slice A2 m.ax.length c2) m.ax) (hs:bS m.pat) (ht:m.al.size<=maxLen) (h0:0<=left) (h1:left<=1048576):
 Calls prog 124 #[.agg #[.string m.al,.int .i64 m.br,.slice A1 m.pat.length c1,.int .i64 m.a8,.int .i64 m.fin,.int .i64 m.aj,.slice A2 m.ax.length c2,.int .i64 m.result],.int .i64 left] w (kz (rM m) w):=by
 unfold maxLen at ht;obtain ⟨_,e2,g2⟩:=fB hV;have rq:m.ax.length<=9223372036854775807:=by omega
 have HS:=I hs;clear e2 g2 hs;by_cases hl:left-(m.al.size:Int)<0
 ·go_enter func124,ntmps124;go_wp2;go_ret;exact ⟨_,rfl,.inl (by omega),(aae _ _).alloc (aad _) _⟩
 go_enter func124,ntmps124;go_wp2_with (fail);obtain ⟨W,hW⟩: ∃W:World,W=w.alloc (.cells #[.string m.al,.int .i64 m.br,.slice A1 m.pat.length c1,.int .i64 m.a8,.int .i64 m.fin,.int .i64 m.aj,.slice A2 m.ax.length c2,.int .i64 m.result] 162):=⟨_,rfl⟩
 have bW:Below w.heap.size w W:=by rw[hW];exact (aae _ _).alloc (aad _) _
 have y6:W.cell? ⟨w.heap.size,6,none⟩=some (.slice A2 m.ax.length c2):=by rw[hW];simp[go_sem]
 rw[<-hW];clear hW;have z6:=λy:ar W=>y.cell y6;have HE:=I (λy:ar W=>hP.on (Pl.stays _) (aJ bW y) (aJ bW y).size);clear y6 hV hP;refine (oI m.pat A1 _ c1 _ _ (HE.o ⟨W,aae _ _⟩) HS.o (by omega) (by omega)).mono ?_;rintro e1 w1 ⟨r1,rfl,mU,bw⟩;obtain ⟨y,rfl⟩: ∃y:ar W,w1=y.val:=⟨⟨w1,bw⟩,rfl⟩
 rcases mU with mU|⟨p1,a1,b1⟩
 ·go_wp2;go_ret;exact ⟨_,rfl,.inl (by omega),aJ bW y⟩
 have mV: ¬r1<0:=by omega
 have HP:=I p1;clear p1;go_wp2_with (fail);refine (qC A2 _ c2 _ _ rq a1 b1).mono ?_;rintro e2 w2 ⟨r2,rfl,mV,cL⟩;have dB:=(aJ bW y).trans (cL.mono (aJ bW y).size);rcases mV with mV|⟨p2,a2,b2⟩
 ·go_wp2;go_ret;exact ⟨_,rfl,.inl (by omega),dB⟩
 have Ik: ¬r2<0:=by omega
 go_wp2;go_ret;exact ⟨_,rfl,.inr ⟨⟨by omega,HP.o.1,HP.o.2,p2⟩,a2,b2⟩,dB⟩
theorem Dw (ls:List gu) (v:Value) (left:Int) (w:World) (h:nA w w.heap.size v ls) (hs: ∀x∈ls,x.al.size<=maxLen/\bS x.pat) (h0:0<=left) (h1:left<=1048576):
 Calls prog 61 #[v,.int .i64 left] w (kz (ls.length<=1048576/\ ∀x∈ls,rM x) w):=by
 have HE:=I (λy:ar w=>h.on y.ok y.ok.size);have HS:=I hs;obtain ⟨A,c,rfl,hc,hm,-⟩:=fQ h;unfold maxLen at hm;clear hs h;refine aL λx0=>?_;by_cases aI:left-(ls.length:Int)<0
 ·go_enter func61,ntmps61;go_wp2;go_ret;exact ⟨_,rfl,.inl (by omega),x0.ok⟩
 go_enter func61,ntmps61;go_wp2;go_loopw [1,5] (λl i wr=> ∃(k:Nat) (r:Int) (x:ar w),k<=ls.length/\i= .int .i64 (k:Int)/\l= .int .i64 r/\0<=r/\r<=1048576/\(∀e∈ls.take k,rM e)/\wr=x.val) (λ_ i _=>ls.length-(intOf i).toNat);case atStart=>exact ⟨0,_,x0,aaf _,rfl,rfl,by omega,by omega,by simp,rfl⟩
 case round=>
  obtain ⟨k,r,x,hk,rfl,rfl,yd,mU,dn,rfl⟩:=hrel;have HA:=I dn;clear dn;by_cases xz:k<ls.length
  ·have aH:ls[k]?=some ls[k]:=aag xz;obtain ⟨A',c',hv,_,_,cn⟩:=fQ (HE.o x);injection hv with e1 e2 e3
   subst e1;obtain ⟨b,off,rfl,hb,aC⟩:=cn (by omega);obtain ⟨A1,c1,A2,c2,hP⟩:=aC k _ aH;have Lc:=I (aaG xz);have gU:=HS.o ls[k] (aax xz);clear aH aC cn e2 e3;generalize ls[k]=e at*;have z0:=hP.k0;have z1:=hP.k1;have z2:=hP.k2;have z3:=hP.k3;have z4:=hP.k4;have z5:=hP.k5;have z6:=hP.k6;have z7:=hP.k7;have HP:=I hP;clear hP;go_wp2_with (fail);refine (Gb e A1 c1 A2 c2 r _ HP.o.fF HP.o.ints gU.2 gU.1 yd mU).mono ?_;rintro e' w1 ⟨r',rfl,hr,bw⟩;clear z0 z1 z2 z3 z4 z5 z6 z7;obtain ⟨y,rfl⟩: ∃y:ar w,w1=y.val:=⟨⟨w1,x.ok.trans (bw.mono x.ok.size)⟩,rfl⟩
   rcases hr with hr|⟨hf,mV,Ik⟩
   ·go_wp2;go_ret;exact ⟨_,rfl,.inl (by omega),y.ok⟩
   have Nz: ¬r'<0:=by omega
   have HF:=I hf;clear hf;go_wp2;go_roundw;case rel=>exact ⟨k+1,r',y,by omega,by go_num,rfl,mV,Ik,by rw[Lc.o];intro d hd;rcases aau.1 hd with hd|hd;exact HA.o d hd;rw[aas.1 hd];exact HF.o,rfl⟩
   case measure=>simp[intOf];omega
  have eA: ¬(k:Int)<(ls.length:Int):=by omega
  go_wp2;go_ret;refine ⟨_,rfl,.inr ⟨⟨by omega,?_⟩,yd,mU⟩,x.ok⟩;have:=HA.o
  rwa [aaJ (by omega)]at this
theorem Gc (a:cp) (x:cS) (left:Int) (w:World) (h:jv w w.heap.size x a) (hs:ua a) (h0:0<=left) (h1:left<=1048576):
 Calls prog 24 #[eu a x,.int .i64 left] w (kz (rN a) w):=by
 have HR:=I h;have HS:=I hs;obtain ⟨At,ct,et,-⟩:=fY h.t;obtain ⟨Ab,cb,eb,-⟩:=h.b;obtain ⟨Ac,cc,ec,-⟩:=dk h.c;obtain ⟨Am,cm,em,-⟩:=fQ h.m;obtain ⟨xt,xb,xc,xm⟩:=x;subst et eb ec em;unfold eu;clear h hs;go_enter func24,ntmps24;go_wp2_with (fail);obtain ⟨W,hW⟩: ∃W:World,W=w.alloc (.cells #[.int .i64 a.day,.int .i64 a.rule,.slice At a.af.length ct,.slice Ab a.base.length cb,.slice Ac a.av.length cc,.slice Am a.ao.length cm] 57):=⟨_,rfl⟩
 have bW:Below w.heap.size w W:=by rw[hW];exact (aae _ _).alloc (aad _) _
 have y3:W.cell? ⟨w.heap.size,3,none⟩=some (.slice Ab a.base.length cb):=by rw[hW];simp[go_sem]
 have y4:W.cell? ⟨w.heap.size,4,none⟩=some (.slice Ac a.av.length cc):=by rw[hW];simp[go_sem]
 have y5:W.cell? ⟨w.heap.size,5,none⟩=some (.slice Am a.ao.length cm):=by rw[hW];simp[go_sem]
 rw[<-hW];clear hW;have z3:=λy:ar W=>y.cell y3;have z4:=λy:ar W=>y.cell y4;have z5:=λy:ar W=>y.cell y5;have HX:=I (λy:ar W=>HR.o.on (aJ bW y) (aJ bW y).size);obtain ⟨u0,qo⟩: ∃y:ar W,y.val=W:=⟨⟨W,aae _ _⟩,rfl⟩
 rw[<-qo];clear y3 y4 y5 qo;refine (Dt a.af _ left _ (HX.o u0).t h0 h1).mono ?_;rintro e1 w1 ⟨r1,rfl,hr,bw⟩;obtain ⟨u1,rfl⟩: ∃y:ar W,w1=y.val:=⟨⟨w1,u0.ok.trans (bw.mono u0.ok.size)⟩,rfl⟩
 clear bw;rcases hr with hr|⟨p1,a1,b1⟩
 ·go_wp2;go_ret;exact ⟨_,rfl,.inl (by omega),aJ bW u1⟩
 have n1: ¬r1<0:=by omega
 have I5:=I p1;clear p1;go_wp2_with (fail);refine (Du a.base _ r1 _ (HX.o u1).b HS.o.b a1 b1).mono ?_;rintro e2 w1 ⟨r2,rfl,hr,bw⟩;obtain ⟨u2,rfl⟩: ∃y:ar W,w1=y.val:=⟨⟨w1,u1.ok.trans (bw.mono u1.ok.size)⟩,rfl⟩
 clear bw;rcases hr with hr|⟨p1,a2,b2⟩
 ·go_wp2;go_ret;exact ⟨_,rfl,.inl (by omega),aJ bW u2⟩
 have n2: ¬r2<0:=by omega
 have pS:=I p1;clear p1;go_wp2_with (fail);refine (Dv a.av _ r2 _ (HX.o u2).c HS.o.c a2 b2).mono ?_;rintro e3 w1 ⟨r3,rfl,hr,bw⟩;obtain ⟨u3,rfl⟩: ∃y:ar W,w1=y.val:=⟨⟨w1,u2.ok.trans (bw.mono u2.ok.size)⟩,rfl⟩
 clear bw;rcases hr with hr|⟨p1,a3,b3⟩
 ·go_wp2;go_ret;exact ⟨_,rfl,.inl (by omega),aJ bW u3⟩
 have n3: ¬r3<0:=by omega
 have EW:=I p1;clear p1;go_wp2_with (fail);refine (Dw a.ao _ r3 _ (HX.o u3).m HS.o.m a3 b3).mono ?_;rintro e4 w1 ⟨r4,rfl,hr,bw⟩;obtain ⟨u4,rfl⟩: ∃y:ar W,w1=y.val:=⟨⟨w1,u3.ok.trans (bw.mono u3.ok.size)⟩,rfl⟩
 clear bw;rcases hr with hr|⟨p1,a4,b4⟩
 ·go_wp2;go_ret;exact ⟨_,rfl,.inl (by omega),aJ bW u4⟩
 have n4: ¬r4<0:=by omega
 have MA:=I p1;clear p1;go_wp2;go_ret;exact ⟨_,rfl,.inr ⟨⟨I5.o.1,I5.o.2,pS.o.1,pS.o.2,EW.o.1,EW.o.2,MA.o.1,MA.o.2⟩,a4,b4⟩,aJ bW u4⟩
theorem rP {P:Program} {f:FuncId} {args:Array Value} {W:World} {α:Type} {c:α->List Value} {size:Nat} {xs:List α} (h:Calls P f args W (C1 c size xs W)):
 Calls P f args W λe w'=> ∃A d,e= .returned (.slice A xs.length d)/\ay c xs W.heap.size w' (.slice A xs.length d)/\Below W.heap.size W w':=
 h.mono λ_ _ ⟨g,d,he,h1,h2,h3,h4,h5,h6⟩=>⟨_,d,he,⟨_,d,rfl,h1,h2,λ_=>⟨g,rfl,h3,h4,h5⟩⟩,h6⟩
def dX:Kind bR where
 cells:=lH
 size:=1
 fa base w x:=ay ak x.a base w x.v
 dR x b:=cx x.a x.v b
 len _:=rfl
 aD h ht hF:=ay.aD h ht hF
 lt h hb:=ay.dw h hb
 less h hb:=ay.less h hb
def cw:Kind bu where
 cells:=cu
 size:=3
 fa base w x:=ay ah x.a.pat base w x.v
 dR x b:=cx x.a.pat x.v b
 len _:=rfl
 aD h ht hF:=ay.aD h ht hF
 lt h hb:=ay.dw h hb
 less h hb:=ay.less h hb
def cX:Kind bH where
 cells:=cK
 size:=8
 fa base w x:=ay ah x.a.pat base w x.p/\ay ak x.a.ax base w x.t/\ ∀b,cx x.a.pat x.p b-> ¬cx x.a.ax x.t b
 dR x b:=cx x.a.pat x.p b\/cx x.a.ax x.t b
 len _:=rfl
 aD h ht hF:=⟨ay.aD h.1 ht (λb hb=>hF b (.inl hb)),ay.aD h.2.1 ht (λb hb=>hF b (.inr hb)),h.2.2⟩
 lt h hb:=by
  rcases hb with hb|hb
  ·exact ay.dw h.1 hb
  exact ay.dw h.2.1 hb
 less h hb:=⟨ay.less h.1 hb,ay.less h.2.1 hb,h.2.2⟩
def iw:Kind bE where
 cells:=ai
 size:=2
 fa _ _ _:=True
 dR _ _:=False
 len _:=rfl
 aD _ _ _:=trivial
 lt _ hb:=hb.elim
 less _ _:=trivial
theorem aR.rows {base:Nat} {w:World} {v:Value} {L:List bR} (h:aR dX base w v L):kH w w.heap.size v (L.map (·.a)):=⟨L,rfl,h.mo,λx hx=>(show ay _ _ _ _ _ from h.fa x hx).mo (size:=1) (λ_=>rfl)⟩
theorem aR.av {base:Nat} {w:World} {v:Value} {L:List bu} (h:aR cw base w v L):eE w w.heap.size v (L.map (·.a)):=⟨L,rfl,h.mo,λx hx=>(show ay _ _ _ _ _ from h.fa x hx).mo (size:=4) (λ_=>rfl)⟩
theorem aR.ao {base:Nat} {w:World} {v:Value} {L:List bH} (h:aR cX base w v L):nA w w.heap.size v (L.map (·.a)):=
 ⟨L,rfl,h.mo,λx hx=>⟨(show ay ah _ base w _ from (h.fa x hx).1).mo (size:=4) (λ_=>rfl),(show ay ak _ base w _ from (h.fa x hx).2.1).mo (size:=1) (λ_=>rfl)⟩⟩
def N9 (a:bo) (w:World) (e:Ending) (w':World):Prop:= ∃x:bu,x.a=a/\e= .returned (.agg #[.int .i64 a.a8,.int .i64 a.fin,x.v])/\cw.fa w.heap.size w' x/\Below w.heap.size w w'
def Oa (m:gu) (w:World) (e:Ending) (w':World):Prop:= ∃x:bH,x.a=m/\e= .returned (.agg #[.string m.al,.int .i64 m.br,x.p,.int .i64 m.a8,.int .i64 m.fin,.int .i64 m.aj,x.t,.int .i64 m.result])/\cX.fa w.heap.size w' x/\Below w.heap.size w w'
def Lv {β α:Type} (K:Kind β) (p:β->α) (ls:List α) (w:World) (e:Ending) (w':World):Prop:= ∃A L,e= .returned (.slice A ls.length ls.length)/\L.map p=ls/\aR K w.heap.size w' (.slice A ls.length ls.length) L/\Below w.heap.size w w'
theorem Gd (a:bo) (A1:Option Addr) (c1:Nat) (w:World) (hP:bg w w.heap.size (.slice A1 a.pat.length c1) a.pat) (h1:a.pat.length<=1048576):
 Calls prog 130 #[.agg #[.int .i64 a.a8,.int .i64 a.fin,.slice A1 a.pat.length c1]] w (N9 a w):=by
 have Uj:=I hP;clear hP;have zm: ∀b,(b=w.heap.size+1\/b=w.heap.size+1+1)->w.heap.size<=b:=λb h=>by omega
 go_enter func130,ntmps130;go_wp2_with (fail);obtain ⟨W1,eG⟩: ∃W:World,W=((w.alloc (.cells #[.int .i64 a.a8,.int .i64 a.fin,.slice A1 a.pat.length c1] 159)).alloc (.cells #[.int .i64 0,.int .i64 0,.slice none 0 0] 141)).alloc (.cells #[.int .i64 a.a8,.int .i64 a.fin,.slice none 0 0] 141):=⟨_,rfl⟩
 have Bu:Below w.heap.size w W1:=by rw[eG];exact (((aae _ _).alloc (aad _) _).alloc (by simp) _).alloc (by simp;omega) _
 have Ge:w.heap.size+1+1<W1.heap.size:=by rw[eG];simp
 have a1:=((Row.new w #[.int .i64 a.a8,.int .i64 a.fin,.slice A1 a.pat.length c1] 159).below (((aae _ (w.alloc (.cells #[.int .i64 a.a8,.int .i64 a.fin,.slice A1 a.pat.length c1] 159))).alloc (aad _) (.cells #[.int .i64 0,.int .i64 0,.slice none 0 0] 141)).alloc (by simp) (.cells #[.int .i64 a.a8,.int .i64 a.fin,.slice none 0 0] 141)) (by simp))
 have a2:=((Row.new (w.alloc (.cells #[.int .i64 a.a8,.int .i64 a.fin,.slice A1 a.pat.length c1] 159)) #[.int .i64 0,.int .i64 0,.slice none 0 0] 141).below ((aae _ _).alloc (aad _) (.cells #[.int .i64 a.a8,.int .i64 a.fin,.slice none 0 0] 141)) (by simp))
 have a3:=Row.new ((w.alloc (.cells #[.int .i64 a.a8,.int .i64 a.fin,.slice A1 a.pat.length c1] 159)).alloc (.cells #[.int .i64 0,.int .i64 0,.slice none 0 0] 141)) #[.int .i64 a.a8,.int .i64 a.fin,.slice none 0 0] 141;have I5:ag (Row W1 w.heap.size [.int .i64 a.a8,.int .i64 a.fin,.slice A1 a.pat.length c1]):=I (by rw[eG];exact a1);have mB:ag (Row W1 (w.heap.size+1) [.int .i64 0,.int .i64 0,.slice none 0 0]):=I (by rw[eG];exact (show Row _ _ _ by simpa using a2));have xd:ag (Row W1 (w.heap.size+1+1) [.int .i64 a.a8,.int .i64 a.fin,.slice none 0 0]):=I (by rw[eG];exact (show Row _ _ _ by simpa using a3));rw[<-eG];clear eG a1 a2 a3;refine (rP (oJ a.pat A1 _ c1 W1 (Uj.o.on (Pl.stays _) Bu Bu.size) h1)).mono ?_;rintro e1 w1 ⟨A5,d5,rfl,hO,bw⟩;have Ob:w.heap.size+1+1<w1.heap.size:=aar Ge bw.size;have da:=I (Bu.trans (bw.mono Bu.size));have Wq:W1.heap.size<=w1.heap.size:=bw.size;have pS:=I (I5.o.below bw (by omega));have gj:=I (mB.o.below bw (by omega));have jO:=I (xd.o.below bw (by omega));have HO:=I (hO.less (abi Ge));have zh: ∀b,cx a.pat (.slice A5 a.pat.length d5) b->W1.heap.size<=b:=λb hb=>(hO.dw hb).1;clear hO;have k0:=jO.o.cell 0 _ rfl;have r0:=gj.o.cell 0 _ rfl;have s0:=gj.o.free 0 (by simp);have k1:=jO.o.cell 1 _ rfl;have r1:=gj.o.cell 1 _ rfl;have s1:=gj.o.free 1 (by simp);have k2:=jO.o.cell 2 _ rfl;have f2:=jO.o.free 2 (by simp);have r2:=gj.o.cell 2 _ rfl;have s2:=gj.o.free 2 (by simp);clear bw Bu I5 mB xd;go_wp2
 have gD: ∀(ac:Go.Act) (w':World),ac.tmps[2]?=some (.pointer (some ⟨w.heap.size+1,0,none⟩))->w'.cell? ⟨w.heap.size+1,0,none⟩=some (.int .i64 a.a8)->w'.cell? ⟨w.heap.size+1,1,none⟩=some (.int .i64 a.fin)->w'.cell? ⟨w.heap.size+1,2,none⟩=some (.slice A5 a.pat.length d5)->(results f130 ac.tmps).run prog w'= .ok (.agg #[.int .i64 a.a8,.int .i64 a.fin,.slice A5 a.pat.length d5]) w':=by
  intro ac w' ha nB nC nE;simp[results,results130,go_sem,ha,nB,nC,nE]
 refine aaT (gD _ _ rfl (by simp[go_sem,r0]) (by simp[go_sem,r1]) (by simp[go_sem,r2])) rfl ?_
 have tF:Touch (λb=>b=w.heap.size+1\/b=w.heap.size+1+1) w1 ((((w1.setCell ⟨w.heap.size+1+1,2,none⟩ (.slice A5 a.pat.length d5)).setCell ⟨w.heap.size+1,0,none⟩ (.int .i64 a.a8)).setCell ⟨w.heap.size+1,1,none⟩ (.int .i64 a.fin)).setCell ⟨w.heap.size+1,2,none⟩ (.slice A5 a.pat.length d5)):=by
  iterate 4 refine Touch.setCell ?_ (by first|exact .inl rfl|exact .inr rfl) _
  exact Touch.refl _ _
 replace HO:=I (ay.aD HO.o tF (λb hb hf=>by have h9:=zh b hb;have h8:b=w.heap.size+1\/b=w.heap.size+1+1:=hf;omega))
 have QU:=da.o.trans (tF.below (abi (abU (by omega) Ob)) zm);exact ⟨⟨a,.slice A5 a.pat.length d5⟩,rfl,rfl,HO.o.less (by omega),QU⟩
theorem Gf (m:gu) (A1:Option Addr) (c1:Nat) (A2:Option Addr) (c2:Nat) (w:World) (hP:bg w w.heap.size (.slice A1 m.pat.length c1) m.pat) (hV:Ints w w.heap.size (.slice A2 m.ax.length c2) m.ax) (h1:m.pat.length<=1048576) (h2:m.ax.length<=1048576):
 Calls prog 131 #[.agg #[.string m.al,.int .i64 m.br,.slice A1 m.pat.length c1,.int .i64 m.a8,.int .i64 m.fin,.int .i64 m.aj,.slice A2 m.ax.length c2,.int .i64 m.result]] w (Oa m w):=by
 have Uj:=I hP;have Yg:=I hV;clear hP hV;have zm: ∀b,(b=w.heap.size+1\/b=w.heap.size+1+1)->w.heap.size<=b:=λb h=>by omega
 go_enter func131,ntmps131;go_wp2_with (fail);obtain ⟨W1,eG⟩: ∃W:World,W=((w.alloc (.cells #[.string m.al,.int .i64 m.br,.slice A1 m.pat.length c1,.int .i64 m.a8,.int .i64 m.fin,.int .i64 m.aj,.slice A2 m.ax.length c2,.int .i64 m.result] 162)).alloc (.cells #[.string ⟨#[]⟩,.int .i64 0,.slice none 0 0,.int .i64 0,.int .i64 0,.int .i64 0,.slice none 0 0,.int .i64 0] 35)).alloc (.cells #[.string m.al,.int .i64 m.br,.slice none 0 0,.int .i64 0,.int .i64 0,.int .i64 0,.slice none 0 0,.int .i64 0] 35):=⟨_,rfl⟩
 have Bu:Below w.heap.size w W1:=by rw[eG];exact (((aae _ _).alloc (aad _) _).alloc (by simp) _).alloc (by simp;omega) _
 have Ge:w.heap.size+1+1<W1.heap.size:=by rw[eG];simp
 have a1:=((Row.new w #[.string m.al,.int .i64 m.br,.slice A1 m.pat.length c1,.int .i64 m.a8,.int .i64 m.fin,.int .i64 m.aj,.slice A2 m.ax.length c2,.int .i64 m.result] 162).below (((aae _ (w.alloc (.cells #[.string m.al,.int .i64 m.br,.slice A1 m.pat.length c1,.int .i64 m.a8,.int .i64 m.fin,.int .i64 m.aj,.slice A2 m.ax.length c2,.int .i64 m.result] 162))).alloc (aad _) (.cells #[.string ⟨#[]⟩,.int .i64 0,.slice none 0 0,.int .i64 0,.int .i64 0,.int .i64 0,.slice none 0 0,.int .i64 0] 35)).alloc (by simp) (.cells #[.string m.al,.int .i64 m.br,.slice none 0 0,.int .i64 0,.int .i64 0,.int .i64 0,.slice none 0 0,.int .i64 0] 35)) (by simp))
 have a2:=((Row.new (w.alloc (.cells #[.string m.al,.int .i64 m.br,.slice A1 m.pat.length c1,.int .i64 m.a8,.int .i64 m.fin,.int .i64 m.aj,.slice A2 m.ax.length c2,.int .i64 m.result] 162)) #[.string ⟨#[]⟩,.int .i64 0,.slice none 0 0,.int .i64 0,.int .i64 0,.int .i64 0,.slice none 0 0,.int .i64 0] 35).below ((aae _ _).alloc (aad _) (.cells #[.string m.al,.int .i64 m.br,.slice none 0 0,.int .i64 0,.int .i64 0,.int .i64 0,.slice none 0 0,.int .i64 0] 35)) (by simp))
 have a3:=Row.new ((w.alloc (.cells #[.string m.al,.int .i64 m.br,.slice A1 m.pat.length c1,.int .i64 m.a8,.int .i64 m.fin,.int .i64 m.aj,.slice A2 m.ax.length c2,.int .i64 m.result] 162)).alloc (.cells #[.string ⟨#[]⟩,.int .i64 0,.slice none 0 0,.int .i64 0,.int .i64 0,.int .i64 0,.slice none 0 0,.int .i64 0] 35)) #[.string m.al,.int .i64 m.br,.slice none 0 0,.int .i64 0,.int .i64 0,.int .i64 0,.slice none 0 0,.int .i64 0] 35;have I5:ag (Row W1 w.heap.size [.string m.al,.int .i64 m.br,.slice A1 m.pat.length c1,.int .i64 m.a8,.int .i64 m.fin,.int .i64 m.aj,.slice A2 m.ax.length c2,.int .i64 m.result]):=I (by rw[eG];exact a1);have mB:ag (Row W1 (w.heap.size+1) [.string ⟨#[]⟩,.int .i64 0,.slice none 0 0,.int .i64 0,.int .i64 0,.int .i64 0,.slice none 0 0,.int .i64 0]):=I (by rw[eG];exact (show Row _ _ _ by simpa using a2));have xd:ag (Row W1 (w.heap.size+1+1) [.string m.al,.int .i64 m.br,.slice none 0 0,.int .i64 0,.int .i64 0,.int .i64 0,.slice none 0 0,.int .i64 0]):=I (by rw[eG];exact (show Row _ _ _ by simpa using a3));rw[<-eG];clear eG a1 a2 a3;refine (rP (oJ m.pat A1 _ c1 W1 (Uj.o.on (Pl.stays _) Bu Bu.size) h1)).mono ?_;rintro e1 w1 ⟨A5,d5,rfl,hO,bw⟩;have Ob:w.heap.size+1+1<w1.heap.size:=aar Ge bw.size;have da:=I (Bu.trans (bw.mono Bu.size));have Wq:W1.heap.size<=w1.heap.size:=bw.size;have pS:=I (I5.o.below bw (by omega));have gj:=I (mB.o.below bw (by omega));have jO:=I (xd.o.below bw (by omega));have HO:=I hO;have zh: ∀b,cx m.pat (.slice A5 m.pat.length d5) b->W1.heap.size<=b/\b<w1.heap.size:=λb hb=>hO.dw hb;clear hO;have x3:=pS.o.cell 3 _ rfl;have x4:=pS.o.cell 4 _ rfl;have x5:=pS.o.cell 5 _ rfl;have x6:=pS.o.cell 6 _ rfl;have x7:=pS.o.cell 7 _ rfl;have k0:=jO.o.cell 0 _ rfl;have r0:=gj.o.cell 0 _ rfl;have s0:=gj.o.free 0 (by simp);have k1:=jO.o.cell 1 _ rfl;have r1:=gj.o.cell 1 _ rfl;have s1:=gj.o.free 1 (by simp);have k2:=jO.o.cell 2 _ rfl;have f2:=jO.o.free 2 (by simp);have r2:=gj.o.cell 2 _ rfl;have s2:=gj.o.free 2 (by simp);have k3:=jO.o.cell 3 _ rfl;have f3:=jO.o.free 3 (by simp);have r3:=gj.o.cell 3 _ rfl;have s3:=gj.o.free 3 (by simp);have k4:=jO.o.cell 4 _ rfl;have f4:=jO.o.free 4 (by simp);have r4:=gj.o.cell 4 _ rfl;have s4:=gj.o.free 4 (by simp);have k5:=jO.o.cell 5 _ rfl;have f5:=jO.o.free 5 (by simp);have r5:=gj.o.cell 5 _ rfl;have s5:=gj.o.free 5 (by simp);have k6:=jO.o.cell 6 _ rfl;have f6:=jO.o.free 6 (by simp);have r6:=gj.o.cell 6 _ rfl;have s6:=gj.o.free 6 (by simp);have k7:=jO.o.cell 7 _ rfl;have f7:=jO.o.free 7 (by simp);have r7:=gj.o.cell 7 _ rfl;have s7:=gj.o.free 7 (by simp);clear bw Bu I5 mB xd;go_wp2_with (fail);obtain ⟨W2,im⟩: ∃W:World,W=((((w1.setCell ⟨w.heap.size+1+1,2,none⟩ (.slice A5 m.pat.length d5)).setCell ⟨w.heap.size+1+1,3,none⟩ (.int .i64 m.a8)).setCell ⟨w.heap.size+1+1,4,none⟩ (.int .i64 m.fin)).setCell ⟨w.heap.size+1+1,5,none⟩ (.int .i64 m.aj)):=⟨_,rfl⟩
 have I6:Touch (λb=>b=w.heap.size+1\/b=w.heap.size+1+1) w1 W2:=by rw[im];exact ((((Touch.refl _ _).setCell (F:=(λb=>b=w.heap.size+1\/b=w.heap.size+1+1)) (.inr rfl) _).setCell (F:=(λb=>b=w.heap.size+1\/b=w.heap.size+1+1)) (.inr rfl) _).setCell (F:=(λb=>b=w.heap.size+1\/b=w.heap.size+1+1)) (.inr rfl) _).setCell (F:=(λb=>b=w.heap.size+1\/b=w.heap.size+1+1)) (.inr rfl) _
 have Bv:Below w.heap.size w W2:=da.o.trans (I6.below (abi (abU (by omega) Ob)) zm);have KL:w.heap.size+1+1<W2.heap.size:=aar Ob I6.size
 replace HO:=I (ay.aD HO.o I6 (λb hb hf=>by have h9:=zh b hb;have h8:b=w.heap.size+1\/b=w.heap.size+1+1:=hf;omega))
 replace pS:ag (Row W2 w.heap.size [.string m.al,.int .i64 m.br,.slice A1 m.pat.length c1,.int .i64 m.a8,.int .i64 m.fin,.int .i64 m.aj,.slice A2 m.ax.length c2,.int .i64 m.result]):=I (by rw[im];exact ((((pS.o).nP _ (by simp;omega)).nP _ (by simp;omega)).nP _ (by simp;omega)).nP _ (by simp;omega))
 replace gj:ag (Row W2 (w.heap.size+1) [.string ⟨#[]⟩,.int .i64 0,.slice none 0 0,.int .i64 0,.int .i64 0,.int .i64 0,.slice none 0 0,.int .i64 0]):=I (by rw[im];exact ((((gj.o).nP _ (by simp)).nP _ (by simp)).nP _ (by simp)).nP _ (by simp))
 replace jO:ag (Row W2 (w.heap.size+1+1) [.string m.al,.int .i64 m.br,.slice A5 m.pat.length d5,.int .i64 m.a8,.int .i64 m.fin,.int .i64 m.aj,.slice none 0 0,.int .i64 0]):=I (by rw[im];exact ((((jO.o).set 2 _ (by simp)).set 3 _ (by simp)).set 4 _ (by simp)).set 5 _ (by simp))
 rw[<-im];have Wr:w1.heap.size<=W2.heap.size:=I6.size;clear im I6 x3 x4 x5 x6 x7 k0 r0 s0 k1 r1 s1 k2 r2 s2 f2 k3 r3 s3 f3 k4 r4 s4 f4 k5 r5 s5 f5 k6 r6 s6 f6 k7 r7 s7 f7;refine (rP (qD m.ax A2 _ c2 W2 (Yg.o.on (Pl.stays _) Bv Bv.size) h2)).mono ?_;rintro e2 w2 ⟨A6,d6,rfl,Uk,cL⟩;have SW:w.heap.size+1+1<w2.heap.size:=aar KL cL.size;have dy:=I (Bv.trans (cL.mono Bv.size))
 replace HO:=I (ay.aD HO.o (Touch.dV (F:=(λb=>b=w.heap.size+1\/b=w.heap.size+1+1)) cL) (λb hb hf=>by have h9:=zh b hb;have h8:b=w.heap.size+1\/b=w.heap.size+1+1:=hf;omega))
 have Ws:W2.heap.size<=w2.heap.size:=cL.size;have EW:=I (pS.o.below cL (by omega));have fU:=I (gj.o.below cL (by omega));have sH:=I (jO.o.below cL (by omega));have zl:=I Uk;have QV: ∀b,cx m.ax (.slice A6 m.ax.length d6) b->W2.heap.size<=b:=λb hb=>(Uk.dw hb).1;clear Uk;have x7:=EW.o.cell 7 _ rfl;have k0:=sH.o.cell 0 _ rfl;have r0:=fU.o.cell 0 _ rfl;have s0:=fU.o.free 0 (by simp);have k1:=sH.o.cell 1 _ rfl;have r1:=fU.o.cell 1 _ rfl;have s1:=fU.o.free 1 (by simp);have k2:=sH.o.cell 2 _ rfl;have r2:=fU.o.cell 2 _ rfl;have s2:=fU.o.free 2 (by simp);have k3:=sH.o.cell 3 _ rfl;have r3:=fU.o.cell 3 _ rfl;have s3:=fU.o.free 3 (by simp);have k4:=sH.o.cell 4 _ rfl;have r4:=fU.o.cell 4 _ rfl;have s4:=fU.o.free 4 (by simp);have k5:=sH.o.cell 5 _ rfl;have r5:=fU.o.cell 5 _ rfl;have s5:=fU.o.free 5 (by simp);have k6:=sH.o.cell 6 _ rfl;have f6:=sH.o.free 6 (by simp);have r6:=fU.o.cell 6 _ rfl;have s6:=fU.o.free 6 (by simp);have k7:=sH.o.cell 7 _ rfl;have f7:=sH.o.free 7 (by simp);have r7:=fU.o.cell 7 _ rfl;have s7:=fU.o.free 7 (by simp);clear cL Bv pS gj jO;go_wp2
 have gD: ∀(ac:Go.Act) (w':World),ac.tmps[2]?=some (.pointer (some ⟨w.heap.size+1,0,none⟩))->w'.cell? ⟨w.heap.size+1,0,none⟩=some (.string m.al)->w'.cell? ⟨w.heap.size+1,1,none⟩=some (.int .i64 m.br)->w'.cell? ⟨w.heap.size+1,2,none⟩=some (.slice A5 m.pat.length d5)->w'.cell? ⟨w.heap.size+1,3,none⟩=some (.int .i64 m.a8)->w'.cell? ⟨w.heap.size+1,4,none⟩=some (.int .i64 m.fin)->w'.cell? ⟨w.heap.size+1,5,none⟩=some (.int .i64 m.aj)->w'.cell? ⟨w.heap.size+1,6,none⟩=some (.slice A6 m.ax.length d6)->w'.cell? ⟨w.heap.size+1,7,none⟩=some (.int .i64 m.result)->(results f131 ac.tmps).run prog w'= .ok (.agg #[.string m.al,.int .i64 m.br,.slice A5 m.pat.length d5,.int .i64 m.a8,.int .i64 m.fin,.int .i64 m.aj,.slice A6 m.ax.length d6,.int .i64 m.result]) w':=by
  intro ac w' ha nB nC nE ob oc od Ul Um;simp[results,results131,go_sem,ha,nB,nC,nE,ob,oc,od,Ul,Um]
 refine aaT (gD _ _ rfl (by simp[go_sem,r0]) (by simp[go_sem,r1]) (by simp[go_sem,r2]) (by simp[go_sem,r3]) (by simp[go_sem,r4]) (by simp[go_sem,r5]) (by simp[go_sem,r6]) (by simp[go_sem,r7])) rfl ?_
 have tF:Touch (λb=>b=w.heap.size+1\/b=w.heap.size+1+1) w2 ((((((((((w2.setCell ⟨w.heap.size+1+1,6,none⟩ (.slice A6 m.ax.length d6)).setCell ⟨w.heap.size+1+1,7,none⟩ (.int .i64 m.result)).setCell ⟨w.heap.size+1,0,none⟩ (.string m.al)).setCell ⟨w.heap.size+1,1,none⟩ (.int .i64 m.br)).setCell ⟨w.heap.size+1,2,none⟩ (.slice A5 m.pat.length d5)).setCell ⟨w.heap.size+1,3,none⟩ (.int .i64 m.a8)).setCell ⟨w.heap.size+1,4,none⟩ (.int .i64 m.fin)).setCell ⟨w.heap.size+1,5,none⟩ (.int .i64 m.aj)).setCell ⟨w.heap.size+1,6,none⟩ (.slice A6 m.ax.length d6)).setCell ⟨w.heap.size+1,7,none⟩ (.int .i64 m.result)):=by
  iterate 10 refine Touch.setCell ?_ (by first|exact .inl rfl|exact .inr rfl) _
  exact Touch.refl _ _
 replace HO:=I (ay.aD HO.o tF (λb hb hf=>by have h9:=zh b hb;have h8:b=w.heap.size+1\/b=w.heap.size+1+1:=hf;omega))
 replace zl:=I (ay.aD zl.o tF (λb hb hf=>by have h9:=QV b hb;have h8:b=w.heap.size+1\/b=w.heap.size+1+1:=hf;omega))
 have QU:=dy.o.trans (tF.below (abi (abU (by omega) SW)) zm);exact ⟨⟨m,.slice A5 m.pat.length d5,.slice A6 m.ax.length d6⟩,rfl,rfl,⟨HO.o.less (by omega),zl.o.less (by omega),λb h1 h2=>by have:=zh b h1;have:=QV b h2;omega⟩,QU⟩
theorem rQ:(prog.info? 35).map (λi=>(i.zero,i.size,i.bytes))=some (some (.agg #[.string ⟨#[]⟩,.int .i64 0,.slice none 0 0,.int .i64 0,.int .i64 0,.int .i64 0,.slice none 0 0,.int .i64 0]),8,104):=by kernel_rfl
theorem Dx (zs:List Int) (A:Option Addr) (c:Nat) (w:World) (h:Ints w w.heap.size (.slice A zs.length c) zs) (hn:zs.length<=1048576):
 Calls prog 128 #[.slice A zs.length c] w (λe w'=> ∃A d,e= .returned (.slice A zs.length d)/\ay ak zs w.heap.size w' (.slice A zs.length d)/\Below w.heap.size w w'):=
 rP (qD zs A _ c w h hn)
theorem Gg (e:bE) (w:World):
 Calls prog 129 #[.agg #[.int .i64 e.id,.string e.text]] w (bT (.agg #[.int .i64 e.id,.string e.text]) w):=by
 go_enter func129,ntmps129;go_wp2;exact aaT (v:= .agg #[.int .i64 e.id,.string e.text]) (by simp[results,results129,go_sem]) rfl ⟨rfl,(((aae _ _).alloc (aad _) _).alloc (by simp) _).alloc (by simp;omega) _⟩
theorem kg {α β:Type} {p:β->α} {L:List β} {ls:List α} {k:Nat} (h:L.map p=ls.take k) (hk:k<ls.length) {x:β} (hx:p x=ls[k]):(L++[x]).map p=ls.take (k+1):=by
 rw[aaK,h,aa4,abl,hx,aaG hk]
theorem fR {α β:Type} {p:β->α} {L:List β} {ls:List α} {k:Nat} (h:L.map p=ls.take k) (hk:k<=ls.length):L.length=k:=by
 have:=congrArg List.length h;rw[aap,aao]at this;omega
theorem Dy (ls:List (List Int)) (v:Value) (w:World) (h:kH w w.heap.size v ls) (hn:ls.length<=1048576) (hf: ∀x∈ls,x.length<=1048576):
 Calls prog 66 #[v] w (Lv dX bR.a ls w):=by
 have HE:=I (λW (hb:Below w.heap.size w W)=>h.on hb hb.size);have HS:=I hf;obtain ⟨A,c,rfl,hc,hm,-⟩:=fY h;unfold maxLen at hm;clear hf h;obtain ⟨i0,hi,dK,ez,ek⟩:=aaq zi;obtain ⟨W,Z0,qe,bi,hZ,ow,ox⟩:=lx (P:=prog) w 24 33 i0 _ 1 underlying24 hi dK ez ls.length (by rw[ek];omega) hn;have HR:ag (rh dX w.heap.size ls.length W w.heap.size [] Z0):=I (rh.start bi hZ);clear hi dK ez ek bi hZ;go_enter func66,ntmps66;go_wp2;go_loopw [4] (λi wr=> ∃(k:Nat) (L:List bR) (Z:List Value),k<=ls.length/\i= .int .i64 (k:Int)/\L.map bR.a=ls.take k/\rh dX w.heap.size ls.length wr w.heap.size L Z/\Below w.heap.size w wr/\w.heap.size<wr.heap.size) (λi _=>ls.length-(intOf i).toNat);case atStart=>exact ⟨0,[],Z0,aaf _,rfl,rfl,HR.o,ox,ow⟩
 case round=>
  obtain ⟨k,L,Z,hk,rfl,hM,hF,hb,iK⟩:=hrel;have HM:=I hM;have HF:=I hF;clear hM hF;by_cases aI:k<ls.length
  ·obtain ⟨A',c',hv,_,_,cn⟩:=fY (HE.o wr hb);injection hv with e1 e2 e3
   subst e1;obtain ⟨b,off,rfl,j7,aC⟩:=cn (by omega);obtain ⟨A1,c1,k0,m1,hI⟩:=aC k _ (aag aI);have HI:=I hI;have gU:=HS.o ls[k] (aax aI);have iG:=I (λ(x:bR) hx=>kg HM.o aI (x:=x) hx);clear aC cn hI e2 e3;generalize ls[k]=e at*;go_wp2_with (fail);refine (Dx e A1 c1 wr HI.o gU).mono ?_;rintro e' w1 ⟨A5,c5,rfl,iq,bw⟩;clear k0;have tY:=I iq;have ng:=aar iK bw.size;have pa:=I (HF.o.below bw iK);have da:=I (hb.trans (bw.mono hb.size));have I7:=I (HF.o.lt);have hl:=fR HM.o hk;have Oc:k<ls.length:=aI;have f0:w1.frozen? ⟨w.heap.size,k,none⟩=false:=by have:=(pa.o.cell hl aI (i:=0) (by decide)).2;rwa [show k*dX.size+0=k from abj k]at this
   obtain ⟨o0,s0⟩: ∃u,w1.cell? ⟨w.heap.size,k,none⟩=some u:=by have:=(pa.o.cell hl aI (i:=0) (by decide)).1;rwa [show k*dX.size+0=k from abj k]at this
   have lE:ag (rh dX w.heap.size ls.length (w1.setCell ⟨w.heap.size,k,none⟩ (.slice A5 e.length c5)) w.heap.size (L++[⟨e,.slice A5 e.length c5⟩]) (Z.drop 1)):=I (by
    have:=pa.o.step hl aI (x:=⟨e,.slice A5 e.length c5⟩) (lo:=wr.heap.size) (dX.less tY.o hb.size) (λb hb=>(ay.dw tY.o hb).1) iK I7.o;rw[show k*dX.size=k from abj k]at this;exact this)
   clear iq bw;go_wp2;go_roundw;case rel=>exact ⟨k+1,_,_,by omega,by go_num,iG.o ⟨e,.slice A5 e.length c5⟩ rfl,lE.o,da.o.setCell (aad _) _,by simpa using ng⟩
   case measure=>simp[intOf];omega
  have eA: ¬(k:Int)<(ls.length:Int):=by omega
  have di:k=ls.length:=by omega
  have eB:ag (L.map bR.a=ls/\aR dX w.heap.size wr (.slice (some ⟨w.heap.size,0,none⟩) ls.length ls.length) L):=I (by
   have hl:=fR HM.o hk;refine ⟨by rw[HM.o,di,aa1],HF.o.tree (hl.trans di) iK (aad _) (by unfold maxLen;omega)⟩)
  clear di aI;go_wp2;go_ret;exact ⟨_,L,rfl,eB.o.1,eB.o.2,hb⟩
theorem Dz (ls:List bE) (v:Value) (w:World) (h:iT w w.heap.size v ls) (hn:ls.length<=1048576):
 Calls prog 67 #[v] w (Lv iw id ls w):=by
 have HE:=I (λW (hb:Below w.heap.size w W)=>(cz.on h (Pl.stays _) hb hb.size:iT W W.heap.size v ls));obtain ⟨A,c,rfl,hc,hm,-⟩:=h;unfold maxLen at hm;obtain ⟨i0,hi,dK,ez,ek⟩:=aaq oQ;obtain ⟨W,Z0,qe,bi,hZ,ow,ox⟩:=lx (P:=prog) w 25 139 i0 _ 2 underlying25 hi dK ez ls.length (by rw[ek];omega) hn;have HR:ag (rh iw w.heap.size ls.length W w.heap.size [] Z0):=I (rh.start bi hZ);clear hi dK ez ek bi hZ;go_enter func67,ntmps67;go_wp2;go_loopw [4] (λi wr=> ∃(k:Nat) (L:List bE) (Z:List Value),k<=ls.length/\i= .int .i64 (k:Int)/\L.map id=ls.take k/\rh iw w.heap.size ls.length wr w.heap.size L Z/\Below w.heap.size w wr/\w.heap.size<wr.heap.size) (λi _=>ls.length-(intOf i).toNat);case atStart=>exact ⟨0,[],Z0,aaf _,rfl,rfl,HR.o,ox,ow⟩
 case round=>
  obtain ⟨k,L,Z,hk,rfl,hM,hF,hb,iK⟩:=hrel;have HM:=I hM;have HF:=I hF;clear hM hF;by_cases aI:k<ls.length
  ·obtain ⟨b,off,rfl,j7,k0,k1⟩:=rO (HE.o wr hb) (aag aI);have iG:=I (λ(x:bE) hx=>kg (p:=id) HM.o aI (x:=x) hx);generalize ls[k]=e at*;go_wp2_with (fail);refine (Gg e _).mono ?_;rintro e' w1 ⟨rfl,bw⟩;clear k0 k1;have ng:=aar iK bw.size;have pa:=I (HF.o.below bw iK);have da:=I (hb.trans (bw.mono hb.size));have I7:=I (HF.o.lt);have hl:=fR HM.o hk;have Oc:k<ls.length:=aI;have f0:w1.frozen? ⟨w.heap.size,k*2,none⟩=false:=(pa.o.cell hl aI (i:=0) (by decide)).2;obtain ⟨o0,s0⟩: ∃u,w1.cell? ⟨w.heap.size,k*2,none⟩=some u:=(pa.o.cell hl aI (i:=0) (by decide)).1;have f1:w1.frozen? ⟨w.heap.size,k*2+1,none⟩=false:=(pa.o.cell hl aI (i:=1) (by decide)).2;obtain ⟨o1,s1⟩: ∃u,w1.cell? ⟨w.heap.size,k*2+1,none⟩=some u:=(pa.o.cell hl aI (i:=1) (by decide)).1;have lE:ag (rh iw w.heap.size ls.length ((w1.setCell ⟨w.heap.size,k*2,none⟩ (.int .i64 e.id)).setCell ⟨w.heap.size,k*2+1,none⟩ (.string e.text)) w.heap.size (L++[e]) (Z.drop 2)):=I (pa.o.step hl aI (x:=e) (lo:=wr.heap.size) trivial (λb hb=>hb.elim) iK I7.o);clear bw;go_wp2;go_roundw;case rel=>exact ⟨k+1,_,_,by omega,by go_num,iG.o e rfl,lE.o,(da.o.setCell (aad _) _).setCell (aad _) _,by simpa using ng⟩
   case measure=>simp[intOf];omega
  have eA: ¬(k:Int)<(ls.length:Int):=by omega
  have di:k=ls.length:=by omega
  have eB:ag (L.map id=ls/\aR iw w.heap.size wr (.slice (some ⟨w.heap.size,0,none⟩) ls.length ls.length) L):=I (by
   have hl:=fR HM.o hk;refine ⟨by rw[HM.o,di,aa1],HF.o.tree (hl.trans di) iK (aad _) (by unfold maxLen;omega)⟩)
  clear di aI;go_wp2;go_ret;exact ⟨_,L,rfl,eB.o.1,eB.o.2,hb⟩
theorem DA (ls:List bo) (v:Value) (w:World) (h:eE w w.heap.size v ls) (hn:ls.length<=1048576) (hf: ∀x∈ls,rL x):
 Calls prog 68 #[v] w (Lv cw bu.a ls w):=by
 have HE:=I (λW (hb:Below w.heap.size w W)=>h.on hb hb.size);have HS:=I hf;obtain ⟨A,c,rfl,hc,hm,-⟩:=dk h;unfold maxLen at hm;clear hf h;obtain ⟨i0,hi,dK,ez,ek⟩:=aaq kf;obtain ⟨W,Z0,qe,bi,hZ,ow,ox⟩:=lx (P:=prog) w 26 141 i0 _ 3 underlying26 hi dK ez ls.length (by rw[ek];omega) hn;have HR:ag (rh cw w.heap.size ls.length W w.heap.size [] Z0):=I (rh.start bi hZ);clear hi dK ez ek bi hZ;go_enter func68,ntmps68;go_wp2;go_loopw [4] (λi wr=> ∃(k:Nat) (L:List bu) (Z:List Value),k<=ls.length/\i= .int .i64 (k:Int)/\L.map bu.a=ls.take k/\rh cw w.heap.size ls.length wr w.heap.size L Z/\Below w.heap.size w wr/\w.heap.size<wr.heap.size) (λi _=>ls.length-(intOf i).toNat);case atStart=>exact ⟨0,[],Z0,aaf _,rfl,rfl,HR.o,ox,ow⟩
 case round=>
  obtain ⟨k,L,Z,hk,rfl,hM,hF,hb,iK⟩:=hrel;have HM:=I hM;have HF:=I hF;clear hM hF;by_cases aI:k<ls.length
  ·obtain ⟨A',c',hv,_,_,cn⟩:=dk (HE.o wr hb);injection hv with e1 e2 e3
   subst e1;obtain ⟨b,off,rfl,j7,aC⟩:=cn (by omega);obtain ⟨pv,k0,k1,k2,hI⟩:=aC k _ (aag aI);obtain ⟨A1,c1,rfl,_,m1⟩:=bg.sl hI;have HI:=I hI;have gU:=(HS.o ls[k] (aax aI)).1;have iG:=I (λ(x:bu) hx=>kg HM.o aI (x:=x) hx);clear aC cn hI e2 e3 m1;generalize ls[k]=e at*;go_wp2_with (fail);refine (Gd e A1 c1 wr HI.o gU).mono ?_;rintro e' w1 ⟨⟨e2,v5⟩,mu,rfl,iq,bw⟩;have mu:e2=e:=mu;subst mu;clear k0 k1 k2;have tY:=I iq;obtain ⟨A5,c5,q5,_⟩:=(iq:ay ah e2.pat _ _ v5)
   have Un:v5= .slice A5 e2.pat.length c5:=q5;clear q5;subst Un
   dsimp only
   have ng:=aar iK bw.size;have pa:=I (HF.o.below bw iK);have da:=I (hb.trans (bw.mono hb.size));have I7:=I (HF.o.lt);have hl:=fR HM.o hk;have Oc:k<ls.length:=aI;have f0:w1.frozen? ⟨w.heap.size,k*3,none⟩=false:=(pa.o.cell hl aI (i:=0) (by decide)).2;obtain ⟨o0,s0⟩: ∃u,w1.cell? ⟨w.heap.size,k*3,none⟩=some u:=(pa.o.cell hl aI (i:=0) (by decide)).1;have f1:w1.frozen? ⟨w.heap.size,k*3+1,none⟩=false:=(pa.o.cell hl aI (i:=1) (by decide)).2;obtain ⟨o1,s1⟩: ∃u,w1.cell? ⟨w.heap.size,k*3+1,none⟩=some u:=(pa.o.cell hl aI (i:=1) (by decide)).1;have f2:w1.frozen? ⟨w.heap.size,k*3+2,none⟩=false:=(pa.o.cell hl aI (i:=2) (by decide)).2;obtain ⟨o2,s2⟩: ∃u,w1.cell? ⟨w.heap.size,k*3+2,none⟩=some u:=(pa.o.cell hl aI (i:=2) (by decide)).1;have lE:ag (rh cw w.heap.size ls.length (((w1.setCell ⟨w.heap.size,k*3,none⟩ (.int .i64 e2.a8)).setCell ⟨w.heap.size,k*3+1,none⟩ (.int .i64 e2.fin)).setCell ⟨w.heap.size,k*3+2,none⟩ (.slice A5 e2.pat.length c5)) w.heap.size (L++[⟨e2,.slice A5 e2.pat.length c5⟩]) (Z.drop 3)):=I (pa.o.step hl aI (x:=⟨e2,.slice A5 e2.pat.length c5⟩) (lo:=wr.heap.size) (cw.less tY.o hb.size) (λb hb=>(cw.lt tY.o hb).1) iK I7.o);clear bw;go_wp2;go_roundw;case rel=>exact ⟨k+1,_,_,by omega,by go_num,iG.o ⟨e2,.slice A5 e2.pat.length c5⟩ rfl,lE.o,((da.o.setCell (aad _) _).setCell (aad _) _).setCell (aad _) _,by simpa using ng⟩
   case measure=>simp[intOf];omega
  have eA: ¬(k:Int)<(ls.length:Int):=by omega
  have di:k=ls.length:=by omega
  have eB:ag (L.map bu.a=ls/\aR cw w.heap.size wr (.slice (some ⟨w.heap.size,0,none⟩) ls.length ls.length) L):=I (by
   have hl:=fR HM.o hk;refine ⟨by rw[HM.o,di,aa1],HF.o.tree (hl.trans di) iK (aad _) (by unfold maxLen;omega)⟩)
  clear di aI;go_wp2;go_ret;exact ⟨_,L,rfl,eB.o.1,eB.o.2,hb⟩
theorem DB (ls:List gu) (v:Value) (w:World) (h:nA w w.heap.size v ls) (hn:ls.length<=1048576) (hf: ∀x∈ls,rM x):
 Calls prog 69 #[v] w (Lv cX bH.a ls w):=by
 have HE:=I (λW (hb:Below w.heap.size w W)=>h.on hb hb.size);have HS:=I hf;obtain ⟨A,c,rfl,hc,hm,-⟩:=fQ h;unfold maxLen at hm;clear hf h;obtain ⟨i0,hi,dK,ez,ek⟩:=aaq rQ;obtain ⟨W,Z0,qe,bi,hZ,ow,ox⟩:=lx (P:=prog) w 27 35 i0 _ 8 underlying27 hi dK ez ls.length (by rw[ek];omega) hn;have HR:ag (rh cX w.heap.size ls.length W w.heap.size [] Z0):=I (rh.start bi hZ);clear hi dK ez ek bi hZ;go_enter func69,ntmps69;go_wp2;go_loopw [4] (λi wr=> ∃(k:Nat) (L:List bH) (Z:List Value),k<=ls.length/\i= .int .i64 (k:Int)/\L.map bH.a=ls.take k/\rh cX w.heap.size ls.length wr w.heap.size L Z/\Below w.heap.size w wr/\w.heap.size<wr.heap.size) (λi _=>ls.length-(intOf i).toNat);case atStart=>exact ⟨0,[],Z0,aaf _,rfl,rfl,HR.o,ox,ow⟩
 case round=>
  obtain ⟨k,L,Z,hk,rfl,hM,hF,hb,iK⟩:=hrel;have HM:=I hM;have HF:=I hF;clear hM hF;by_cases aI:k<ls.length
  ·obtain ⟨A',c',hv,_,_,cn⟩:=fQ (HE.o wr hb);injection hv with e1 e2 e3
   subst e1;obtain ⟨b,off,rfl,j7,aC⟩:=cn (by omega);obtain ⟨A1,c1,A2,c2,hP⟩:=aC k _ (aag aI);have z0:=hP.k0;have z1:=hP.k1;have z2:=hP.k2;have z3:=hP.k3;have z4:=hP.k4;have z5:=hP.k5;have z6:=hP.k6;have z7:=hP.k7;have HP:=I hP;have gU:=(HS.o ls[k] (aax aI))
   have n1:=gU.2.1;have n2:=gU.2.2.2;have iG:=I (λ(x:bH) hx=>kg HM.o aI (x:=x) hx);clear aC cn hP e2 e3 gU;generalize ls[k]=e at*;go_wp2_with (fail);refine (Gf e A1 c1 A2 c2 wr HP.o.fF HP.o.ints n1 n2).mono ?_;rintro e' w1 ⟨⟨e2,v5,v6⟩,mu,rfl,iq,bw⟩;have mu:e2=e:=mu;subst mu;clear z0 z1 z2 z3 z4 z5 z6 z7;have tY:=I iq;obtain ⟨A5,c5,q5,_⟩:=(iq.1:ay ah e2.pat _ _ v5)
   obtain ⟨A6,c6,q6,_⟩:=(iq.2.1:ay ak e2.ax _ _ v6)
   have Un:v5= .slice A5 e2.pat.length c5:=q5;have Yh:v6= .slice A6 e2.ax.length c6:=q6;clear q5 q6;subst Un;subst Yh
   dsimp only
   have ng:=aar iK bw.size;have pa:=I (HF.o.below bw iK);have da:=I (hb.trans (bw.mono hb.size));have I7:=I (HF.o.lt);have hl:=fR HM.o hk;have Oc:k<ls.length:=aI;have f0:w1.frozen? ⟨w.heap.size,k*8,none⟩=false:=(pa.o.cell hl aI (i:=0) (by decide)).2;obtain ⟨o0,s0⟩: ∃u,w1.cell? ⟨w.heap.size,k*8,none⟩=some u:=(pa.o.cell hl aI (i:=0) (by decide)).1;have f1:w1.frozen? ⟨w.heap.size,k*8+1,none⟩=false:=(pa.o.cell hl aI (i:=1) (by decide)).2;obtain ⟨o1,s1⟩: ∃u,w1.cell? ⟨w.heap.size,k*8+1,none⟩=some u:=(pa.o.cell hl aI (i:=1) (by decide)).1;have f2:w1.frozen? ⟨w.heap.size,k*8+2,none⟩=false:=(pa.o.cell hl aI (i:=2) (by decide)).2;obtain ⟨o2,s2⟩: ∃u,w1.cell? ⟨w.heap.size,k*8+2,none⟩=some u:=(pa.o.cell hl aI (i:=2) (by decide)).1;have f3:w1.frozen? ⟨w.heap.size,k*8+3,none⟩=false:=(pa.o.cell hl aI (i:=3) (by decide)).2;obtain ⟨o3,s3⟩: ∃u,w1.cell? ⟨w.heap.size,k*8+3,none⟩=some u:=(pa.o.cell hl aI (i:=3) (by decide)).1;have f4:w1.frozen? ⟨w.heap.size,k*8+4,none⟩=false:=(pa.o.cell hl aI (i:=4) (by decide)).2;obtain ⟨o4,s4⟩: ∃u,w1.cell? ⟨w.heap.size,k*8+4,none⟩=some u:=(pa.o.cell hl aI (i:=4) (by decide)).1;have f5:w1.frozen? ⟨w.heap.size,k*8+5,none⟩=false:=(pa.o.cell hl aI (i:=5) (by decide)).2;obtain ⟨o5,s5⟩: ∃u,w1.cell? ⟨w.heap.size,k*8+5,none⟩=some u:=(pa.o.cell hl aI (i:=5) (by decide)).1;have f6:w1.frozen? ⟨w.heap.size,k*8+6,none⟩=false:=(pa.o.cell hl aI (i:=6) (by decide)).2;obtain ⟨o6,s6⟩: ∃u,w1.cell? ⟨w.heap.size,k*8+6,none⟩=some u:=(pa.o.cell hl aI (i:=6) (by decide)).1;have f7:w1.frozen? ⟨w.heap.size,k*8+7,none⟩=false:=(pa.o.cell hl aI (i:=7) (by decide)).2;obtain ⟨o7,s7⟩: ∃u,w1.cell? ⟨w.heap.size,k*8+7,none⟩=some u:=(pa.o.cell hl aI (i:=7) (by decide)).1;have lE:ag (rh cX w.heap.size ls.length ((((((((w1.setCell ⟨w.heap.size,k*8,none⟩ (.string e2.al)).setCell ⟨w.heap.size,k*8+1,none⟩ (.int .i64 e2.br)).setCell ⟨w.heap.size,k*8+2,none⟩ (.slice A5 e2.pat.length c5)).setCell ⟨w.heap.size,k*8+3,none⟩ (.int .i64 e2.a8)).setCell ⟨w.heap.size,k*8+4,none⟩ (.int .i64 e2.fin)).setCell ⟨w.heap.size,k*8+5,none⟩ (.int .i64 e2.aj)).setCell ⟨w.heap.size,k*8+6,none⟩ (.slice A6 e2.ax.length c6)).setCell ⟨w.heap.size,k*8+7,none⟩ (.int .i64 e2.result)) w.heap.size (L++[⟨e2,.slice A5 e2.pat.length c5,.slice A6 e2.ax.length c6⟩]) (Z.drop 8)):=I (pa.o.step hl aI (x:=⟨e2,.slice A5 e2.pat.length c5,.slice A6 e2.ax.length c6⟩) (lo:=wr.heap.size) (cX.less tY.o hb.size) (λb hb=>(cX.lt tY.o hb).1) iK I7.o);clear iq bw;go_wp2;go_roundw;case rel=>exact ⟨k+1,_,_,by omega,by go_num,iG.o ⟨e2,.slice A5 e2.pat.length c5,.slice A6 e2.ax.length c6⟩ rfl,lE.o,((((((((da.o.setCell (aad _) _).setCell (aad _) _).setCell (aad _) _).setCell (aad _) _).setCell (aad _) _).setCell (aad _) _).setCell (aad _) _).setCell (aad _) _),by simpa using ng⟩
   case measure=>simp[intOf];omega
  have eA: ¬(k:Int)<(ls.length:Int):=by omega
  have di:k=ls.length:=by omega
  have eB:ag (L.map bH.a=ls/\aR cX w.heap.size wr (.slice (some ⟨w.heap.size,0,none⟩) ls.length ls.length) L):=I (by
   have hl:=fR HM.o hk;refine ⟨by rw[HM.o,di,aa1],HF.o.tree (hl.trans di) iK (aad _) (by unfold maxLen;omega)⟩)
  clear di aI;go_wp2;go_ret;exact ⟨_,L,rfl,eB.o.1,eB.o.2,hb⟩
def ji (p q:Nat->Prop):Prop:= ∀b,p b-> ¬q b
structure kP (base:Nat) (w:World) (x:cS) (a:cp) (T:List bR) (C:List bu) (M:List bH):Prop where
 tm:T.map bR.a=a.af
 cm:C.map bu.a=a.av
 mm:M.map bH.a=a.ao
 t:aR dX base w x.t T
 b:aR iw base w x.b a.base
 c:aR cw base w x.c C
 m:aR cX base w x.m M
 tb:ji (bN dX x.t T) (bN iw x.b a.base)
 tc:ji (bN dX x.t T) (bN cw x.c C)
 Bw:ji (bN dX x.t T) (bN cX x.m M)
 bc:ji (bN iw x.b a.base) (bN cw x.c C)
 bm:ji (bN iw x.b a.base) (bN cX x.m M)
 EX:ji (bN cw x.c C) (bN cX x.m M)
theorem kP.r {base:Nat} {w:World} {x:cS} {a:cp} {T:List bR} {C:List bu} {M:List bH} (h:kP base w x a T C M):jv w w.heap.size x a:=
 ⟨by rw[<-h.tm];exact h.t.rows,h.b.mo,by rw[<-h.cm];exact h.c.av,by rw[<-h.mm];exact h.m.ao⟩
def bz (x:cS) (a:cp) (T:List bR) (C:List bu) (M:List bH) (b:Nat):Prop:=bN dX x.t T b\/bN iw x.b a.base b\/bN cw x.c C b\/bN cX x.m M b
theorem kP.aD {base:Nat} {w w':World} {x:cS} {a:cp} {T:List bR} {C:List bu} {M:List bH} {F:Nat->Prop} (h:kP base w x a T C M) (ht:Touch F w w') (hF: ∀b,bz x a T C M b-> ¬F b):kP base w' x a T C M:=
 ⟨h.tm,h.cm,h.mm,h.t.aD ht (λb hb=>hF b (.inl hb)),h.b.aD ht (λb hb=>hF b (.inr (.inl hb))),h.c.aD ht (λb hb=>hF b (.inr (.inr (.inl hb)))),h.m.aD ht (λb hb=>hF b (.inr (.inr (.inr hb)))),h.tb,h.tc,h.Bw,h.bc,h.bm,h.EX⟩
theorem kP.below {base:Nat} {w w':World} {x:cS} {a:cp} {T:List bR} {C:List bu} {M:List bH} (h:kP base w x a T C M) (hb:Below w.heap.size w w'):kP base w' x a T C M:=
 h.aD (F:=λ_=>False) (Touch.dV hb) (λ_ _ h=>h)
theorem kP.lt {base:Nat} {w:World} {x:cS} {a:cp} {T:List bR} {C:List bu} {M:List bH} (h:kP base w x a T C M) {b:Nat} (hb:bz x a T C M b):base<=b/\b<w.heap.size:=by
 rcases hb with hb|hb|hb|hb
 ·exact h.t.lt hb
 ·exact h.b.lt hb
 ·exact h.c.lt hb
 exact h.m.lt hb
def vK (a:cp) (w:World) (e:Ending) (w':World):Prop:= ∃x T C M,e= .returned (eu a x)/\kP w.heap.size w' x a T C M/\Below w.heap.size w w'
theorem Lw {a:cp} {w W2 W3 W4 W1 w1 w2 w3 w4 w':World} {A1 A2 A3 A4:Option Addr} {T:List bR} {B:List bE} {C:List bu} {M:List bH} {e:Ending}
 (he:e= .returned (.agg #[.int .i64 a.day,.int .i64 a.rule,.slice A1 a.af.length a.af.length,.slice A2 a.base.length a.base.length,.slice A3 a.av.length a.av.length,.slice A4 a.ao.length a.ao.length]))
 (m1:T.map bR.a=a.af) (m2:B.map id=a.base) (m3:C.map bu.a=a.av) (m4:M.map bH.a=a.ao)
 (h1:aR dX w.heap.size w' (.slice A1 a.af.length a.af.length) T) (h2:aR iw w.heap.size w' (.slice A2 a.base.length a.base.length) B) (h3:aR cw w.heap.size w' (.slice A3 a.av.length a.av.length) C) (h4:aR cX w.heap.size w' (.slice A4 a.ao.length a.ao.length) M)
 (l1: ∀b,bN dX (.slice A1 a.af.length a.af.length) T b->W1.heap.size<=b/\b<w1.heap.size) (l2: ∀b,bN iw (.slice A2 a.base.length a.base.length) B b->W2.heap.size<=b/\b<w2.heap.size)
 (l3: ∀b,bN cw (.slice A3 a.av.length a.av.length) C b->W3.heap.size<=b/\b<w3.heap.size) (l4: ∀b,bN cX (.slice A4 a.ao.length a.ao.length) M b->W4.heap.size<=b/\b<w4.heap.size)
 (s2:w1.heap.size<=W2.heap.size) (s3:w2.heap.size<=W3.heap.size) (s4:w3.heap.size<=W4.heap.size) (z2:W2.heap.size<=w2.heap.size) (z3:W3.heap.size<=w3.heap.size) (hb:Below w.heap.size w w'):vK a w e w':=by
 rw[List.map_id]at m2;subst m2;refine ⟨⟨_,_,_,_⟩,T,C,M,he,⟨m1,m3,m4,h1,h2,h3,h4,?_,?_,?_,?_,?_,?_⟩,hb⟩
 ·intro b p q;have:=l1 b p;have:=l2 b q;omega
 ·intro b p q;have:=l1 b p;have:=l3 b q;omega
 ·intro b p q;have:=l1 b p;have:=l4 b q;omega
 ·intro b p q;have:=l2 b p;have:=l3 b q;omega
 ·intro b p q;have:=l2 b p;have:=l4 b q;omega
 intro b p q;have:=l3 b p;have:=l4 b q;omega
theorem I8 (a:cp) (At:Option Addr) (ct:Nat) (Ab:Option Addr) (cb:Nat) (Ac:Option Addr) (cc:Nat) (Am:Option Addr) (cm:Nat) (w:World) (hR:jv w w.heap.size ⟨.slice At a.af.length ct,.slice Ab a.base.length cb,.slice Ac a.av.length cc,.slice Am a.ao.length cm⟩ a) (hf:rN a):
 Calls prog 27 #[.agg #[.int .i64 a.day,.int .i64 a.rule,.slice At a.af.length ct,.slice Ab a.base.length cb,.slice Ac a.av.length cc,.slice Am a.ao.length cm]] w (vK a w):=by
 have SX:=I hR;have Od:=I hf;clear hR hf;have zm: ∀b,(b=w.heap.size+1\/b=w.heap.size+1+1)->w.heap.size<=b:=λb h=>by omega
 go_enter func27,ntmps27;go_wp2_with (fail);obtain ⟨W1,eG⟩: ∃W:World,W=((w.alloc (.cells #[.int .i64 a.day,.int .i64 a.rule,.slice At a.af.length ct,.slice Ab a.base.length cb,.slice Ac a.av.length cc,.slice Am a.ao.length cm] 57)).alloc (.cells #[.int .i64 0,.int .i64 0,.slice none 0 0,.slice none 0 0,.slice none 0 0,.slice none 0 0] 29)).alloc (.cells #[.int .i64 a.day,.int .i64 a.rule,.slice none 0 0,.slice none 0 0,.slice none 0 0,.slice none 0 0] 29):=⟨_,rfl⟩
 have Bu:Below w.heap.size w W1:=by rw[eG];exact (((aae _ _).alloc (aad _) _).alloc (by simp) _).alloc (by simp;omega) _
 have Ge:w.heap.size+1+1<W1.heap.size:=by rw[eG];simp
 have a1:=((Row.new w #[.int .i64 a.day,.int .i64 a.rule,.slice At a.af.length ct,.slice Ab a.base.length cb,.slice Ac a.av.length cc,.slice Am a.ao.length cm] 57).below (((aae _ (w.alloc (.cells #[.int .i64 a.day,.int .i64 a.rule,.slice At a.af.length ct,.slice Ab a.base.length cb,.slice Ac a.av.length cc,.slice Am a.ao.length cm] 57))).alloc (aad _) (.cells #[.int .i64 0,.int .i64 0,.slice none 0 0,.slice none 0 0,.slice none 0 0,.slice none 0 0] 29)).alloc (by simp) (.cells #[.int .i64 a.day,.int .i64 a.rule,.slice none 0 0,.slice none 0 0,.slice none 0 0,.slice none 0 0] 29)) (by simp))
 have a2:=((Row.new (w.alloc (.cells #[.int .i64 a.day,.int .i64 a.rule,.slice At a.af.length ct,.slice Ab a.base.length cb,.slice Ac a.av.length cc,.slice Am a.ao.length cm] 57)) #[.int .i64 0,.int .i64 0,.slice none 0 0,.slice none 0 0,.slice none 0 0,.slice none 0 0] 29).below ((aae _ _).alloc (aad _) (.cells #[.int .i64 a.day,.int .i64 a.rule,.slice none 0 0,.slice none 0 0,.slice none 0 0,.slice none 0 0] 29)) (by simp))
 have a3:=Row.new ((w.alloc (.cells #[.int .i64 a.day,.int .i64 a.rule,.slice At a.af.length ct,.slice Ab a.base.length cb,.slice Ac a.av.length cc,.slice Am a.ao.length cm] 57)).alloc (.cells #[.int .i64 0,.int .i64 0,.slice none 0 0,.slice none 0 0,.slice none 0 0,.slice none 0 0] 29)) #[.int .i64 a.day,.int .i64 a.rule,.slice none 0 0,.slice none 0 0,.slice none 0 0,.slice none 0 0] 29;have I5:ag (Row W1 w.heap.size [.int .i64 a.day,.int .i64 a.rule,.slice At a.af.length ct,.slice Ab a.base.length cb,.slice Ac a.av.length cc,.slice Am a.ao.length cm]):=I (by rw[eG];exact a1);have mB:ag (Row W1 (w.heap.size+1) [.int .i64 0,.int .i64 0,.slice none 0 0,.slice none 0 0,.slice none 0 0,.slice none 0 0]):=I (by rw[eG];exact (show Row _ _ _ by simpa using a2));have xd:ag (Row W1 (w.heap.size+1+1) [.int .i64 a.day,.int .i64 a.rule,.slice none 0 0,.slice none 0 0,.slice none 0 0,.slice none 0 0]):=I (by rw[eG];exact (show Row _ _ _ by simpa using a3));rw[<-eG];clear eG a1 a2 a3;refine (Dy a.af _ W1 (SX.o.on Bu Bu.size).t Od.o.t0 Od.o.t).mono ?_;rintro e1 w1 ⟨A1,L1,rfl,EU,hT,bw⟩;have Ob:w.heap.size+1+1<w1.heap.size:=aar Ge bw.size;have da:=I (Bu.trans (bw.mono Bu.size));have Wq:W1.heap.size<=w1.heap.size:=bw.size;have pS:=I (I5.o.below bw (by omega));have gj:=I (mB.o.below bw (by omega));have jO:=I (xd.o.below bw (by omega));have lQ:=I hT;have Bx: ∀b,bN dX (.slice A1 a.af.length a.af.length) L1 b->W1.heap.size<=b/\b<w1.heap.size:=λb hb=>hT.lt hb;have MB:=I EU;clear hT EU;have x3:=pS.o.cell 3 _ rfl;have x4:=pS.o.cell 4 _ rfl;have x5:=pS.o.cell 5 _ rfl;have k0:=jO.o.cell 0 _ rfl;have r0:=gj.o.cell 0 _ rfl;have s0:=gj.o.free 0 (by simp);have k1:=jO.o.cell 1 _ rfl;have r1:=gj.o.cell 1 _ rfl;have s1:=gj.o.free 1 (by simp);have k2:=jO.o.cell 2 _ rfl;have f2:=jO.o.free 2 (by simp);have r2:=gj.o.cell 2 _ rfl;have s2:=gj.o.free 2 (by simp);have k3:=jO.o.cell 3 _ rfl;have f3:=jO.o.free 3 (by simp);have r3:=gj.o.cell 3 _ rfl;have s3:=gj.o.free 3 (by simp);have k4:=jO.o.cell 4 _ rfl;have f4:=jO.o.free 4 (by simp);have r4:=gj.o.cell 4 _ rfl;have s4:=gj.o.free 4 (by simp);have k5:=jO.o.cell 5 _ rfl;have f5:=jO.o.free 5 (by simp);have r5:=gj.o.cell 5 _ rfl;have s5:=gj.o.free 5 (by simp);clear bw Bu I5 mB xd;go_wp2_with (fail);obtain ⟨W2,im⟩: ∃W:World,W=(w1.setCell ⟨w.heap.size+1+1,2,none⟩ (.slice A1 a.af.length a.af.length)):=⟨_,rfl⟩
 have I6:Touch (λb=>b=w.heap.size+1\/b=w.heap.size+1+1) w1 W2:=by rw[im];exact (Touch.refl _ _).setCell (F:=(λb=>b=w.heap.size+1\/b=w.heap.size+1+1)) (.inr rfl) _
 have Bv:Below w.heap.size w W2:=da.o.trans (I6.below (abi (abU (by omega) Ob)) zm);have KL:w.heap.size+1+1<W2.heap.size:=aar Ob I6.size
 replace lQ:=I (aR.aD lQ.o I6 (λb hb hf=>by have h9:=Bx b hb;have h8:b=w.heap.size+1\/b=w.heap.size+1+1:=hf;omega))
 replace pS:ag (Row W2 w.heap.size [.int .i64 a.day,.int .i64 a.rule,.slice At a.af.length ct,.slice Ab a.base.length cb,.slice Ac a.av.length cc,.slice Am a.ao.length cm]):=I (by rw[im];exact (pS.o).nP _ (by simp;omega))
 replace gj:ag (Row W2 (w.heap.size+1) [.int .i64 0,.int .i64 0,.slice none 0 0,.slice none 0 0,.slice none 0 0,.slice none 0 0]):=I (by rw[im];exact (gj.o).nP _ (by simp))
 replace jO:ag (Row W2 (w.heap.size+1+1) [.int .i64 a.day,.int .i64 a.rule,.slice A1 a.af.length a.af.length,.slice none 0 0,.slice none 0 0,.slice none 0 0]):=I (by rw[im];exact (jO.o).set 2 _ (by simp))
 rw[<-im];have Wr:w1.heap.size<=W2.heap.size:=I6.size;clear im I6 x3 x4 x5 k0 r0 s0 k1 r1 s1 k2 r2 s2 f2 k3 r3 s3 f3 k4 r4 s4 f4 k5 r5 s5 f5;refine (Dz a.base _ W2 (SX.o.on Bv Bv.size).b Od.o.b0).mono ?_;rintro e2 w2 ⟨A2,L2,rfl,EV,hT,cL⟩;have SW:w.heap.size+1+1<w2.heap.size:=aar KL cL.size;have dy:=I (Bv.trans (cL.mono Bv.size))
 replace lQ:=I (aR.aD lQ.o (Touch.dV (F:=(λb=>b=w.heap.size+1\/b=w.heap.size+1+1)) cL) (λb hb hf=>by have h9:=Bx b hb;have h8:b=w.heap.size+1\/b=w.heap.size+1+1:=hf;omega))
 have Ws:W2.heap.size<=w2.heap.size:=cL.size;have EW:=I (pS.o.below cL (by omega));have fU:=I (gj.o.below cL (by omega));have sH:=I (jO.o.below cL (by omega));have oe:=I hT;have Gh: ∀b,bN iw (.slice A2 a.base.length a.base.length) L2 b->W2.heap.size<=b/\b<w2.heap.size:=λb hb=>hT.lt hb;have MC:=I EV;clear hT EV;have x4:=EW.o.cell 4 _ rfl;have x5:=EW.o.cell 5 _ rfl;have k0:=sH.o.cell 0 _ rfl;have r0:=fU.o.cell 0 _ rfl;have s0:=fU.o.free 0 (by simp);have k1:=sH.o.cell 1 _ rfl;have r1:=fU.o.cell 1 _ rfl;have s1:=fU.o.free 1 (by simp);have k2:=sH.o.cell 2 _ rfl;have r2:=fU.o.cell 2 _ rfl;have s2:=fU.o.free 2 (by simp);have k3:=sH.o.cell 3 _ rfl;have f3:=sH.o.free 3 (by simp);have r3:=fU.o.cell 3 _ rfl;have s3:=fU.o.free 3 (by simp);have k4:=sH.o.cell 4 _ rfl;have f4:=sH.o.free 4 (by simp);have r4:=fU.o.cell 4 _ rfl;have s4:=fU.o.free 4 (by simp);have k5:=sH.o.cell 5 _ rfl;have f5:=sH.o.free 5 (by simp);have r5:=fU.o.cell 5 _ rfl;have s5:=fU.o.free 5 (by simp);clear cL Bv pS gj jO;go_wp2_with (fail);obtain ⟨W3,EN⟩: ∃W:World,W=(w2.setCell ⟨w.heap.size+1+1,3,none⟩ (.slice A2 a.base.length a.base.length)):=⟨_,rfl⟩
 have PO:Touch (λb=>b=w.heap.size+1\/b=w.heap.size+1+1) w2 W3:=by rw[EN];exact (Touch.refl _ _).setCell (F:=(λb=>b=w.heap.size+1\/b=w.heap.size+1+1)) (.inr rfl) _
 have QW:Below w.heap.size w W3:=dy.o.trans (PO.below (abi (abU (by omega) SW)) zm);have Yi:w.heap.size+1+1<W3.heap.size:=aar SW PO.size
 replace lQ:=I (aR.aD lQ.o PO (λb hb hf=>by have h9:=Bx b hb;have h8:b=w.heap.size+1\/b=w.heap.size+1+1:=hf;omega))
 replace oe:=I (aR.aD oe.o PO (λb hb hf=>by have h9:=Gh b hb;have h8:b=w.heap.size+1\/b=w.heap.size+1+1:=hf;omega))
 replace EW:ag (Row W3 w.heap.size [.int .i64 a.day,.int .i64 a.rule,.slice At a.af.length ct,.slice Ab a.base.length cb,.slice Ac a.av.length cc,.slice Am a.ao.length cm]):=I (by rw[EN];exact (EW.o).nP _ (by simp;omega))
 replace fU:ag (Row W3 (w.heap.size+1) [.int .i64 0,.int .i64 0,.slice none 0 0,.slice none 0 0,.slice none 0 0,.slice none 0 0]):=I (by rw[EN];exact (fU.o).nP _ (by simp))
 replace sH:ag (Row W3 (w.heap.size+1+1) [.int .i64 a.day,.int .i64 a.rule,.slice A1 a.af.length a.af.length,.slice A2 a.base.length a.base.length,.slice none 0 0,.slice none 0 0]):=I (by rw[EN];exact (sH.o).set 3 _ (by simp))
 rw[<-EN];have Yj:w2.heap.size<=W3.heap.size:=PO.size;clear EN PO x4 x5 k0 r0 s0 k1 r1 s1 k2 r2 s2 k3 r3 s3 f3 k4 r4 s4 f4 k5 r5 s5 f5;refine (DA a.av _ W3 (SX.o.on QW QW.size).c Od.o.c0 Od.o.c).mono ?_;rintro e3 w3 ⟨A3,L3,rfl,MD,hT,dB⟩;have Wt:w.heap.size+1+1<w3.heap.size:=aar Yi dB.size;have dI:=I (QW.trans (dB.mono QW.size))
 replace lQ:=I (aR.aD lQ.o (Touch.dV (F:=(λb=>b=w.heap.size+1\/b=w.heap.size+1+1)) dB) (λb hb hf=>by have h9:=Bx b hb;have h8:b=w.heap.size+1\/b=w.heap.size+1+1:=hf;omega))
 replace oe:=I (aR.aD oe.o (Touch.dV (F:=(λb=>b=w.heap.size+1\/b=w.heap.size+1+1)) dB) (λb hb hf=>by have h9:=Gh b hb;have h8:b=w.heap.size+1\/b=w.heap.size+1+1:=hf;omega))
 have Yk:W3.heap.size<=w3.heap.size:=dB.size;have MA:=I (EW.o.below dB (by omega));have yu:=I (fU.o.below dB (by omega));have CG:=I (sH.o.below dB (by omega));have oa:=I hT;have Lx: ∀b,bN cw (.slice A3 a.av.length a.av.length) L3 b->W3.heap.size<=b/\b<w3.heap.size:=λb hb=>hT.lt hb;have PP:=I MD;clear hT MD;have x5:=MA.o.cell 5 _ rfl;have k0:=CG.o.cell 0 _ rfl;have r0:=yu.o.cell 0 _ rfl;have s0:=yu.o.free 0 (by simp);have k1:=CG.o.cell 1 _ rfl;have r1:=yu.o.cell 1 _ rfl;have s1:=yu.o.free 1 (by simp);have k2:=CG.o.cell 2 _ rfl;have r2:=yu.o.cell 2 _ rfl;have s2:=yu.o.free 2 (by simp);have k3:=CG.o.cell 3 _ rfl;have r3:=yu.o.cell 3 _ rfl;have s3:=yu.o.free 3 (by simp);have k4:=CG.o.cell 4 _ rfl;have f4:=CG.o.free 4 (by simp);have r4:=yu.o.cell 4 _ rfl;have s4:=yu.o.free 4 (by simp);have k5:=CG.o.cell 5 _ rfl;have f5:=CG.o.free 5 (by simp);have r5:=yu.o.cell 5 _ rfl;have s5:=yu.o.free 5 (by simp);clear dB QW EW fU sH;go_wp2_with (fail);obtain ⟨W4,PQ⟩: ∃W:World,W=(w3.setCell ⟨w.heap.size+1+1,4,none⟩ (.slice A3 a.av.length a.av.length)):=⟨_,rfl⟩
 have Oe:Touch (λb=>b=w.heap.size+1\/b=w.heap.size+1+1) w3 W4:=by rw[PQ];exact (Touch.refl _ _).setCell (F:=(λb=>b=w.heap.size+1\/b=w.heap.size+1+1)) (.inr rfl) _
 have QX:Below w.heap.size w W4:=dI.o.trans (Oe.below (abi (abU (by omega) Wt)) zm);have Yl:w.heap.size+1+1<W4.heap.size:=aar Wt Oe.size
 replace lQ:=I (aR.aD lQ.o Oe (λb hb hf=>by have h9:=Bx b hb;have h8:b=w.heap.size+1\/b=w.heap.size+1+1:=hf;omega))
 replace oe:=I (aR.aD oe.o Oe (λb hb hf=>by have h9:=Gh b hb;have h8:b=w.heap.size+1\/b=w.heap.size+1+1:=hf;omega))
 replace oa:=I (aR.aD oa.o Oe (λb hb hf=>by have h9:=Lx b hb;have h8:b=w.heap.size+1\/b=w.heap.size+1+1:=hf;omega))
 replace MA:ag (Row W4 w.heap.size [.int .i64 a.day,.int .i64 a.rule,.slice At a.af.length ct,.slice Ab a.base.length cb,.slice Ac a.av.length cc,.slice Am a.ao.length cm]):=I (by rw[PQ];exact (MA.o).nP _ (by simp;omega))
 replace yu:ag (Row W4 (w.heap.size+1) [.int .i64 0,.int .i64 0,.slice none 0 0,.slice none 0 0,.slice none 0 0,.slice none 0 0]):=I (by rw[PQ];exact (yu.o).nP _ (by simp))
 replace CG:ag (Row W4 (w.heap.size+1+1) [.int .i64 a.day,.int .i64 a.rule,.slice A1 a.af.length a.af.length,.slice A2 a.base.length a.base.length,.slice A3 a.av.length a.av.length,.slice none 0 0]):=I (by rw[PQ];exact (CG.o).set 4 _ (by simp))
 rw[<-PQ];have Ym:w3.heap.size<=W4.heap.size:=Oe.size;clear PQ Oe x5 k0 r0 s0 k1 r1 s1 k2 r2 s2 k3 r3 s3 k4 r4 s4 f4 k5 r5 s5 f5;refine (DB a.ao _ W4 (SX.o.on QX QX.size).m Od.o.m0 Od.o.m).mono ?_;rintro e4 w4 ⟨A4,L4,rfl,Wu,hT,l8⟩;have Yn:w.heap.size+1+1<w4.heap.size:=aar Yl l8.size;have kC:=I (QX.trans (l8.mono QX.size))
 replace lQ:=I (aR.aD lQ.o (Touch.dV (F:=(λb=>b=w.heap.size+1\/b=w.heap.size+1+1)) l8) (λb hb hf=>by have h9:=Bx b hb;have h8:b=w.heap.size+1\/b=w.heap.size+1+1:=hf;omega))
 replace oe:=I (aR.aD oe.o (Touch.dV (F:=(λb=>b=w.heap.size+1\/b=w.heap.size+1+1)) l8) (λb hb hf=>by have h9:=Gh b hb;have h8:b=w.heap.size+1\/b=w.heap.size+1+1:=hf;omega))
 replace oa:=I (aR.aD oa.o (Touch.dV (F:=(λb=>b=w.heap.size+1\/b=w.heap.size+1+1)) l8) (λb hb hf=>by have h9:=Lx b hb;have h8:b=w.heap.size+1\/b=w.heap.size+1+1:=hf;omega))
 have zW4:W4.heap.size<=w4.heap.size:=l8.size;have HP5:=I (MA.o.below l8 (by omega));have EY:=I (yu.o.below l8 (by omega));have Gi:=I (CG.o.below l8 (by omega));have I9:=I hT;have QY: ∀b,bN cX (.slice A4 a.ao.length a.ao.length) L4 b->W4.heap.size<=b/\b<w4.heap.size:=λb hb=>hT.lt hb;have Lt:=I Wu;clear hT Wu;have k0:=Gi.o.cell 0 _ rfl;have r0:=EY.o.cell 0 _ rfl;have s0:=EY.o.free 0 (by simp);have k1:=Gi.o.cell 1 _ rfl;have r1:=EY.o.cell 1 _ rfl;have s1:=EY.o.free 1 (by simp);have k2:=Gi.o.cell 2 _ rfl;have r2:=EY.o.cell 2 _ rfl;have s2:=EY.o.free 2 (by simp);have k3:=Gi.o.cell 3 _ rfl;have r3:=EY.o.cell 3 _ rfl;have s3:=EY.o.free 3 (by simp);have k4:=Gi.o.cell 4 _ rfl;have r4:=EY.o.cell 4 _ rfl;have s4:=EY.o.free 4 (by simp);have k5:=Gi.o.cell 5 _ rfl;have f5:=Gi.o.free 5 (by simp);have r5:=EY.o.cell 5 _ rfl;have s5:=EY.o.free 5 (by simp);clear l8 QX MA yu CG;go_wp2
 have gD: ∀(ac:Go.Act) (w':World),ac.tmps[2]?=some (.pointer (some ⟨w.heap.size+1,0,none⟩))->w'.cell? ⟨w.heap.size+1,0,none⟩=some (.int .i64 a.day)->w'.cell? ⟨w.heap.size+1,1,none⟩=some (.int .i64 a.rule)->w'.cell? ⟨w.heap.size+1,2,none⟩=some (.slice A1 a.af.length a.af.length)->w'.cell? ⟨w.heap.size+1,3,none⟩=some (.slice A2 a.base.length a.base.length)->w'.cell? ⟨w.heap.size+1,4,none⟩=some (.slice A3 a.av.length a.av.length)->w'.cell? ⟨w.heap.size+1,5,none⟩=some (.slice A4 a.ao.length a.ao.length)->(results f27 ac.tmps).run prog w'= .ok (.agg #[.int .i64 a.day,.int .i64 a.rule,.slice A1 a.af.length a.af.length,.slice A2 a.base.length a.base.length,.slice A3 a.av.length a.av.length,.slice A4 a.ao.length a.ao.length]) w':=by
  intro ac w' ha nB nC nE ob oc od;simp[results,results27,go_sem,ha,nB,nC,nE,ob,oc,od]
 refine aaT (gD _ _ rfl (by simp[go_sem,r0]) (by simp[go_sem,r1]) (by simp[go_sem,r2]) (by simp[go_sem,r3]) (by simp[go_sem,r4]) (by simp[go_sem,r5])) rfl ?_
 have tF:Touch (λb=>b=w.heap.size+1\/b=w.heap.size+1+1) w4 (((((((w4.setCell ⟨w.heap.size+1+1,5,none⟩ (.slice A4 a.ao.length a.ao.length)).setCell ⟨w.heap.size+1,0,none⟩ (.int .i64 a.day)).setCell ⟨w.heap.size+1,1,none⟩ (.int .i64 a.rule)).setCell ⟨w.heap.size+1,2,none⟩ (.slice A1 a.af.length a.af.length)).setCell ⟨w.heap.size+1,3,none⟩ (.slice A2 a.base.length a.base.length)).setCell ⟨w.heap.size+1,4,none⟩ (.slice A3 a.av.length a.av.length)).setCell ⟨w.heap.size+1,5,none⟩ (.slice A4 a.ao.length a.ao.length)):=by
  iterate 7 refine Touch.setCell ?_ (by first|exact .inl rfl|exact .inr rfl) _
  exact Touch.refl _ _
 replace lQ:=I (aR.aD lQ.o tF (λb hb hf=>by have h9:=Bx b hb;have h8:b=w.heap.size+1\/b=w.heap.size+1+1:=hf;omega))
 replace oe:=I (aR.aD oe.o tF (λb hb hf=>by have h9:=Gh b hb;have h8:b=w.heap.size+1\/b=w.heap.size+1+1:=hf;omega))
 replace oa:=I (aR.aD oa.o tF (λb hb hf=>by have h9:=Lx b hb;have h8:b=w.heap.size+1\/b=w.heap.size+1+1:=hf;omega))
 replace I9:=I (aR.aD I9.o tF (λb hb hf=>by have h9:=QY b hb;have h8:b=w.heap.size+1\/b=w.heap.size+1+1:=hf;omega))
 have QU:=kC.o.trans (tF.below (abi (abU (by omega) Yn)) zm);exact Lw rfl MB.o MC.o PP.o Lt.o (lQ.o.less (by omega)) (oe.o.less (by omega)) (oa.o.less (by omega)) (I9.o.less (by omega)) Bx Gh Lx QY Wr Yj Ym Ws Yk QU
theorem jv.slices {w:World} {B:Nat} {x:cS} {a:cp} (h:jv w B x a): ∃At ct Ab cb Ac cc Am cm,x=⟨.slice At a.af.length ct,.slice Ab a.base.length cb,.slice Ac a.av.length cc,.slice Am a.ao.length cm⟩:=by
 obtain ⟨At,ct,et,-⟩:=fY h.t;obtain ⟨Ab,cb,eb,-⟩:=h.b;obtain ⟨Ac,cc,ec,-⟩:=dk h.c;obtain ⟨Am,cm,em,-⟩:=fQ h.m;obtain ⟨xt,xb,xc,xm⟩:=x;exact ⟨At,ct,Ab,cb,Ac,cc,Am,cm,by rw[show xt=_ from et,show xb=_ from eb,show xc=_ from ec,show xm=_ from em]⟩
theorem yv (a:cp) (x:cS) (w:World) (h:jv w w.heap.size x a) (hf:rN a):Calls prog 27 #[eu a x] w (vK a w):=by
 obtain ⟨At,ct,Ab,cb,Ac,cc,Am,cm,rfl⟩:=h.slices;exact I8 a At ct Ab cb Ac cc Am cm w h hf
open Go.Joins Go.ChangeShapes Go.WideShapes Go.Deep
section
variable {H:Type} {enc:TypeId×Value->H} {P:Program} {w:World} {base:Nat} {spare:Nat->Bool} {held:Bool}
theorem gX {t e:TypeId} {fs:Array Field} {dP:Nat} {cs:List Value} {x:DataW H×List MemPlace} (ht:P.underlying t=some (.slice e)) (he:P.underlying e=some (.struct fs))
 (jJ:oneCellFields P fs=true) (hC:P.cellsOf e=fs.size) (h:DataW.trod enc P w base spare held dP t cs=some x):
 (cs=[.slice none 0 0]/\x=(.nil,[]))\/
 ∃(a:Addr) (len cap m:Nat) (D:Nat->DataW H) (Pl:Nat->List MemPlace),cs=[.slice (some a) len cap]/\base<=a.block/\len<=cap/\cap<=maxLen/\m=(if spare a.block then cap else len)/\
  x=(.slice ((List.range len).map D) ((List.range (m-len)).map λj=>D (len+j)),MemPlace.row a (m*fs.size)++(List.range m).flatMap Pl)/\
  ∀i,i<m-> ∃(ys:List (DataW H×List MemPlace)) (n:Nat),D i= .agg (ys.map (·.1))/\Pl i=ys.flatMap (·.2)/\ys.length=fs.size/\
   ∀(j:Nat) (f:Field),fs[j]?=some f-> ∃(v:Value) (y:DataW H×List MemPlace),w.cell? (a.add (i*fs.size+j))=some v/\ys[j]?=some y/\DataW.trod enc P w base spare held n f.type [v]=some y:=by
 rcases open_slice ht h with h0|⟨a,len,cap,m,n,D,Pl,og,hb,hl,hm,EZ,hx,hi⟩
 ·exact .inl h0
 refine .inr ⟨a,len,cap,m,D,Pl,og,hb,hl,hm,EZ,by rw[hC]at hx;exact hx,λi vL=>?_⟩;obtain ⟨PR,hc,kv⟩:=hi i vL;rw[hC]at hc;obtain ⟨ys,n',N5,hy,hlen,Yo,hf⟩:=DataW.trod_struct he kv;obtain ⟨_,CX,iH⟩:=World.cells?_some hc;simp only[Prod.mk.injEq]at hy;refine ⟨ys,n',hy.1,hy.2,Yo,λj f hj=>?_⟩;obtain ⟨ho,hk⟩:=hone_of jJ j f hj;have yb:j<fs.size:=(Array.getElem?_eq_some_iff.1 hj).1;have aC:=iH j yb;have hv:PR[j]?=some (PR[j]'(by omega)):=aag (by omega);have h1:=hf j f hj;rw[ho,hk]at h1
 have QZ:(PR.drop j).take 1=[PR[j]'(by omega)]:=by
  rw[abu (by omega)];rfl
 rw[QZ]at h1;have SJ:ys[j]?=some (ys[j]'(by omega)):=aag (by omega);refine ⟨_,_,?_,SJ,h1.trans SJ⟩;rw[<-Go.Deep.add_add,aC,hv]
end
theorem tk {w:World} {a:Addr} {v:Value} (h:w.cell? a=some v):a.spot=none:=by simpa using World.cell?_spot h
theorem pT (b off i:Nat):(⟨b,off,none⟩:Addr).add i=⟨b,off+i,none⟩:=by
 unfold Addr.add;by_cases h:i=0<;>simp[h]
theorem vM {w:World} {b o:Nat} {v:Value} (h:w.cell? ⟨b,o,none⟩=some v):b<w.heap.size:=aaL w ⟨b,o,none⟩ h
section
variable {H:Type} {enc:TypeId×Value->H} {P:Program} {w:World} {base dP:Nat} {held:Bool} {x:DataW H×List MemPlace}
theorem zn {t e:TypeId} {v:Value} (ht:P.underlying t=some (.slice e)) (he:P.underlying e=some (.int .i64)) (hc:P.cellsOf e=1) (h:DataW.trod enc P w base (λ_=>true) held dP t [v]=some x):
 ∃A n c zs,v= .slice A n c/\Ints w w.heap.size (.slice A n c) zs:=by
 rcases open_ints ht he hc h with ⟨og,_⟩|⟨a,len,cap,zs,og,_,hl,hm,hz,_,aC,_⟩
 ·simp only[List.cons.injEq,aaZ]at og;exact ⟨none,0,0,[],og,cz.nil _ _ _ _ _ _ (aaf _)⟩
 simp only[List.cons.injEq,aaZ]at og;have SY:zs.length=cap:=by simpa using hz
 have hlen:(zs.take len).length=len:=by rw[aao];omega
 refine ⟨some a,len,cap,zs.take len,og,⟨some a,cap,by rw[hlen],by omega,hm,λh0=>?_⟩⟩;have Uo:=aC 0 (by omega);obtain ⟨b,off,spot⟩:=a;have hs:spot=none:=by simpa [Addr.add]using tk Uo
 subst hs;refine ⟨b,off,rfl,?_,λk z hk=>⟨ak z,rfl,rfl,λj u hu=>?_⟩⟩
 ·rw[pT]at Uo;exact vM Uo
 match j,hu with
 |0,hu=>
  injection hu with hu
  subst hu;have H0:k<len:=by have:=(aal.1 hk).1;omega
  have:=aC k (by omega);rw[pT]at this;rw[abj,Nat.add_zero,this];rw[abP,aaj H0]at hk;rw[abA,hk];rfl
theorem vN {t e:TypeId} {v:Value} {fs:Array Field} {f0 f1 f2 f3:Field} (ht:P.underlying t=some (.slice e)) (he:P.underlying e=some (.struct fs)) (Of:fs= #[f0,f1,f2,f3]) (jJ:oneCellFields P fs=true) (hC:P.cellsOf e=fs.size)
 (t0:P.underlying f0.type=some (.int .i64)) (t1:P.underlying f1.type=some (.int .i64)) (t2:P.underlying f2.type=some .string) (t3:P.underlying f3.type=some .string)
 (h:DataW.trod enc P w base (λ_=>true) held dP t [v]=some x):
 ∃A n c es,v= .slice A n c/\bg w w.heap.size (.slice A n c) es/\bS es:=by
 rcases gX ht he jJ hC h with ⟨og,_⟩|⟨a,len,cap,m,D,SZ,og,_,hl,hm,EZ,_,hi⟩
 ·simp only[List.cons.injEq,aaZ]at og;exact ⟨none,0,0,[],og,cz.nil _ _ _ _ _ _ (aaf _),λe he=>by cases he⟩
 simp only[List.cons.injEq,aaZ]at og;have KM:m=cap:=by simpa using EZ
 have H: ∀i,i<m-> ∃e:aV,mY e/\w.cell? (a.add (i*4))=some (.int .i64 e.kind)/\w.cell? (a.add (i*4+1))=some (.int .i64 e.id)/\w.cell? (a.add (i*4+2))=some (.string e.dA)/\w.cell? (a.add (i*4+3))=some (.string e.new):=by
  intro i vL;obtain ⟨ys,n,_,_,_,hf⟩:=hi i vL;subst Of;obtain ⟨u0,y0,c0,_,r0⟩:=hf 0 f0 rfl;obtain ⟨u1,y1,c1,_,r1⟩:=hf 1 f1 rfl;obtain ⟨u2,y2,c2,_,r2⟩:=hf 2 f2 rfl;obtain ⟨u3,y3,c3,_,r3⟩:=hf 3 f3 rfl;obtain ⟨k0,e0,_,_⟩:=aa7 t0 r0;obtain ⟨k1,e1,_,_⟩:=aa7 t1 r1;obtain ⟨s2,e2,_,l2⟩:=DataW.trod_string t2 r2;obtain ⟨s3,e3,_,l3⟩:=DataW.trod_string t3 r3;simp only[List.cons.injEq,aaZ]at e0 e1 e2 e3;subst e0 e1 e2 e3;exact ⟨⟨k0,k1,s2,s3⟩,⟨l2,l3⟩,c0,c1,c2,c3⟩
 obtain ⟨F,hF⟩: ∃F:Nat->aV,∀i,i<m->mY (F i)/\w.cell? (a.add (i*4))=some (.int .i64 (F i).kind)/\w.cell? (a.add (i*4+1))=some (.int .i64 (F i).id)/\w.cell? (a.add (i*4+2))=some (.string (F i).dA)/\w.cell? (a.add (i*4+3))=some (.string (F i).new):=
  ⟨λi=>if h:i<m then Classical.choose (H i h)else ⟨0,0,⟨#[]⟩,⟨#[]⟩⟩,λi hi=>by simp only[dif_pos hi];exact Classical.choose_spec (H i hi)⟩
 clear H;have hlen:((List.range len).map F).length=len:=by simp
 have aH: ∀(i:Nat) (e:aV),((List.range len).map F)[i]?=some e->i<m/\e=F i:=by
  intro i e he;have hi:i<len:=by have:=(aal.1 he).1;omega
  refine ⟨by omega,?_⟩;simp only[aaX,List.getElem?_range hi,Option.map_some,Option.some.injEq]at he;exact he.symm
 refine ⟨some a,len,cap,(List.range len).map F,og,⟨some a,cap,by rw[hlen],by omega,hm,λh0=>?_⟩,λe he=>?_⟩
 ·obtain ⟨_,c0,_⟩:=hF 0 (by omega);obtain ⟨b,off,spot⟩:=a;have hs:spot=none:=by simpa [Addr.add]using tk c0
  subst hs;rw[pT]at c0;refine ⟨b,off,rfl,vM c0,λk z hk=>⟨ah z,rfl,rfl,λj u hu=>?_⟩⟩;obtain ⟨Up,rfl⟩:=aH k z hk;obtain ⟨_,d0,d1,d2,d3⟩:=hF k Up;simp only[pT]at d0 d1 d2 d3
  match j,hu with
  |0,hu=>injection hu with hu;subst hu;exact d0
  |1,hu=>injection hu with hu;subst hu;rw[abH];exact d1
  |2,hu=>injection hu with hu;subst hu;rw[abH];exact d2
  |3,hu=>injection hu with hu;subst hu;rw[abH];exact d3
 obtain ⟨i,hi⟩:=aa2 he;obtain ⟨vL,rfl⟩:=aH i e hi;exact (hF i vL).1
end
end Go.Proofs.YtbcggaldkihcaaaGreat
