/- The statute of a day, the program's, walked. A patch applied, the reference's, walked. -/
import Derived.Test.YtbcggaldkihcaaaGreatDoorQC
import Derived.Maps.AppendAt
import Derived.Test.YtbcggaldkihcaaaGreatDoorShelfT
import Derived.OwnWalk
import Derived.Test.YtbcggaldkihcaaaGreatDoorQB
import Derived.ProofKit
import Derived.OpenShut
import Derived.Below
set_option maxHeartbeats 4000000
set_option maxRecDepth 100000
namespace Go.Proofs.YtbcggaldkihcaaaGreatDoor
open Tryz
open Go.RowKit Go.Lib
theorem vu {R T:List bE} {P:List aV} (hR:cd R=true) (hP:bF P=true) (h:fT R P=some T):cd T=true:=(FH (jD.of hR) hP h).1
def iW (S:List bE) (P:List aV) (n:Nat):List bE:=
 (List.range n).filterMap (λj:Nat=>if (target S P ((j:Int)+1)).toList=[]then none else some ⟨(j:Int)+1,target S P ((j:Int)+1)⟩)
theorem FY {S:List bE} {P:List aV} {n:Nat} (h:(target S P ((n:Int)+1)).toList=[]):iW S P (n+1)=iW S P n:=by
 unfold iW;rw[List.range_succ,List.filterMap_append];simp[h]
theorem Di {S:List bE} {P:List aV} {n:Nat} (h:(target S P ((n:Int)+1)).toList≠[]):iW S P (n+1)=iW S P n++[⟨(n:Int)+1,target S P ((n:Int)+1)⟩]:=by
 unfold iW;rw[List.range_succ,List.filterMap_append];simp[h]
theorem Dj (S:List bE) (P:List aV) (n:Nat):(iW S P n).length<=n:=by
 unfold iW;exact Nat.le_trans (List.length_filterMap_le _ _) (by simp)
def Bi (S:List bE) (P:List aV) (i:Int):Prop:=(bQ P i).kind≠0->(bC S i).toList=(bQ P i).dA.toList
theorem FZ {S:List bE} {P:List aV} {i:Int} (h1:(bQ P i).kind≠0) (h2:(bC S i).toList≠(bQ P i).dA.toList):fT S P=none:=by
 apply yf;rw[Bool.eq_false_iff];intro hf;rcases rB P i with ⟨hm,hi⟩|⟨hn,_⟩
 ·have:=rD.1 hf _ hm;rw[hi]at this;exact h2 (by rw[this])
 rw[hn]at h1;exact h1 rfl
theorem Ll {S:List bE} {P:List aV} (hP:bF P=true) (h: ∀j:Nat,j<99->Bi S P ((j:Int)+1)):fits S P=true:=by
 obtain ⟨ha,hr,_⟩:=(fO P).1 hP;rw[rD];intro e he;obtain ⟨h1,h2,hk⟩:=gy (ha e he);have NY:bQ P e.id=e:=u9 hr he;have:=h (e.id-1).toNat (by omega);have e1:(((e.id-1).toNat:Nat):Int)+1=e.id:=by omega
 rw[e1]at this;have:=this (by rw[NY];omega);rw[NY]at this;rw[<-gO (bC S e.id),this,gO]
theorem Dk (S:List bE) (P:List aV) (w:World) (vs vp:Value) (hS:iT w w.heap.size vs S) (hE:bg w w.heap.size vp P) (hp:bF P=true):
 Calls prog 93 #[vs,vp] w (EO S P w):=by
 have HS:=I (λw' (hb:Below w.heap.size w w') (q:Int)=>FK S q w' vs (cz.on hS (Pl.stays _) hb hb.size));have HE:=I (λw' (hb:Below w.heap.size w w') (q:Int)=>AL P q w' vp (cz.on hE (Pl.stays _) hb hb.size));have HP:=I hp;have bW:=(Below.refl w.heap.size w).alloc (Nat.le_refl _) (.cells #[] 115);have jT:=I bW;have cN:(w.alloc (.cells #[] 115)).ownsRow w.heap.size 115 2 (.slice (some ⟨w.heap.size,0,none⟩) 0 0) 0 []:=by simpa using World.ownsRow_made w #[] 0 (Nat.le_refl _) (Nat.zero_le _) rfl
 have dY:=I cN;obtain ⟨A,c,rfl,_⟩:=hS;obtain ⟨A2,c2,rfl,_⟩:=hE;obtain ⟨i0,hi,dK,ez,ek⟩:=info_parts oQ;clear hp bW cN;go_enter func93,ntmps93;go_wp2;go_loopw [6,7] (λo i wr=> ∃(j:Nat),i= .int .i64 ((j:Int)+1)/\j<=99/\wr.ownsRow w.heap.size 115 2 o (iW S P j).length ((iW S P j).flatMap ai)/\o≠ .slice none 0 0/\(∀m:Nat,m<j->Bi S P ((m:Int)+1))/\Below w.heap.size w wr) (λ_ i _=>100-(RowKit.intOf i).toNat);case atStart=>exact ⟨0,rfl,Nat.zero_le _,dY.o,by simp,(λm h=>absurd h (Nat.not_lt_zero _)),jT.o⟩
 case round=>
  obtain ⟨j,rfl,hj,cr,nm,iS,hb⟩:=hrel;obtain ⟨g,cap,rfl,SD,nj⟩:=bG cr nm;unfold maxLen at nj;have eH:=I cr;have Mt:=I iS;have HB:=I hb;have qg:=Dj S P j;clear cr nm iS hb;by_cases aI:j<99
  ·have hc:(j:Int)+1<=99:=by omega
   have HF:=I (HS.o wr HB.o ((j:Int)+1));have HT:ag (target S P ((j:Int)+1)=if (bQ P ((j:Int)+1)).kind=0 then bC S ((j:Int)+1)else (bQ P ((j:Int)+1)).new):=I rfl;have hY:=I (λh=>FY (S:=S) (P:=P) (n:=j) h);have xB:=I (λh=>Di (S:=S) (P:=P) (n:=j) h);have cB:=I (λh1 h2=>FZ (S:=S) (P:=P) (i:=(j:Int)+1) h1 h2);have Mu:ag (Bi S P ((j:Int)+1)↔((bQ P ((j:Int)+1)).kind≠0->(bC S ((j:Int)+1)).toList=(bQ P ((j:Int)+1)).dA.toList)):=I Iff.rfl
   have js:ag (Bi S P ((j:Int)+1)-> ∀m:Nat,m<j+1->Bi S P ((m:Int)+1)):=I (λh m hm=>by
    by_cases e:m=j
    ·rw[e];exact h
    exact Mt.o m (by omega))
   go_wp2_with (fail);refine (HF.o).mono ?_;rintro e' w1 ⟨rfl,m,rfl⟩;have da:=I (below_drewN HB.o m);have uJ:=I (HE.o _ da.o ((j:Int)+1));have gW:=I (aT eH.o (below_drewN (Below.refl wr.heap.size wr) m));generalize bC S ((j:Int)+1)=F at*;generalize bQ P ((j:Int)+1)=e at*;generalize iW S P j=Z at*;clear HF;go_wp2_with (fail);refine (uJ.o).mono ?_;rintro e' w2 ⟨rfl,cL⟩;have dy:=I (da.o.trans (cL.mono da.o.size));have l9:=I (aT gW.o cL);clear uJ cL;unfold Hz;by_cases jA:e.kind=0
   ·have e0:(e.kind==0)=true:=by simp[jA]
    replace js:=I (js.o (Mu.o.2 (λh=>absurd jA h)))
    have hT:=HT.o;rw[if_pos jA]at hT;rw[hT]at hY xB;clear jA cB;by_cases hn:F.toList=[]
    ·have Eb:(F.toList==[])=true:=by simp[hn]
     replace hY:=I (hY.o hn)
     clear xB hn;go_wp2;go_roundw;case rel=>exact ⟨j+1,by go_num,by omega,by rw[hY.o];exact l9.o.alloc _,by simp,js.o,dy.o.alloc dy.o.size _⟩
     case measure=>simp[RowKit.intOf];omega
    have Eb:(F.toList==[])=false:=by simp[hn]
    replace xB:=I (xB.o hn)
    clear hY hn;have j5:=(l9.o.lt g rfl).2;go_wp2_with (at_builtin;refine wpList_append_own _ rfl _ _ 25 rfl w.heap.size 115 i0 (.agg #[.int .i64 0,.string ⟨#[]⟩]) 2 24 underlying25 hi dK ez ek rfl (by decide) _ _ _ rfl ((l9.o.alloc _).alloc _) ⟨w2.heap.size+1,0,none⟩ 1 1 (ai ⟨(j:Int)+1,F⟩) rfl rfl (λj u hj=>kN hj) (λu hu=>eU hu) ?c3 ?c4 (aS (aS dy.o.size)) ?_);case c3=>unfold maxLen;omega
    case c4=>omega
    intro v' w9 aG aA aU;have mF:v'≠ .slice none 0 0:=by simpa using aU
    have wZ:=((dy.o.alloc dy.o.size (.cells #[.int .i64 e.kind,.int .i64 e.id,.string e.dA,.string e.new] 93)).alloc (aS dy.o.size) (.cells #[.int .i64 ((j:Int)+1),.string F] 115)).grown aA (aS (aS dy.o.size)) (λj hj=>(l9.o.lt j hj).1);clear aA aU;go_wp2;go_roundw;case rel=>exact ⟨j+1,by go_num,by omega,by rw[xB.o,List.flatMap_append,List.length_append];simpa using aG,mF,js.o,wZ⟩
    case measure=>simp[RowKit.intOf];omega
   have e0:(e.kind==0)=false:=by simp[jA]
   by_cases hf:F.toList=e.dA.toList
   ·have ef:(F.toList==e.dA.toList)=true:=by simp[hf]
    replace js:=I (js.o (Mu.o.2 (λ_=>hf)))
    have hT:=HT.o;rw[if_neg jA]at hT;rw[hT]at hY xB;clear jA cB hf;by_cases hn:e.new.toList=[]
    ·have Eb:(e.new.toList==[])=true:=by simp[hn]
     replace hY:=I (hY.o hn)
     clear xB hn;go_wp2;go_roundw;case rel=>exact ⟨j+1,by go_num,by omega,by rw[hY.o];exact l9.o.alloc _,by simp,js.o,dy.o.alloc dy.o.size _⟩
     case measure=>simp[RowKit.intOf];omega
    have Eb:(e.new.toList==[])=false:=by simp[hn]
    replace xB:=I (xB.o hn)
    clear hY hn;have j5:=(l9.o.lt g rfl).2;go_wp2_with (at_builtin;refine wpList_append_own _ rfl _ _ 25 rfl w.heap.size 115 i0 (.agg #[.int .i64 0,.string ⟨#[]⟩]) 2 24 underlying25 hi dK ez ek rfl (by decide) _ _ _ rfl ((l9.o.alloc _).alloc _) ⟨w2.heap.size+1,0,none⟩ 1 1 (ai ⟨(j:Int)+1,e.new⟩) rfl rfl (λj u hj=>kN hj) (λu hu=>eU hu) ?c3 ?c4 (aS (aS dy.o.size)) ?_);case c3=>unfold maxLen;omega
    case c4=>omega
    intro v' w9 aG aA aU;have mF:v'≠ .slice none 0 0:=by simpa using aU
    have wZ:=((dy.o.alloc dy.o.size (.cells #[.int .i64 e.kind,.int .i64 e.id,.string e.dA,.string e.new] 93)).alloc (aS dy.o.size) (.cells #[.int .i64 ((j:Int)+1),.string e.new] 115)).grown aA (aS (aS dy.o.size)) (λj hj=>(l9.o.lt j hj).1);clear aA aU;go_wp2;go_roundw;case rel=>exact ⟨j+1,by go_num,by omega,by rw[xB.o,List.flatMap_append,List.length_append];simpa using aG,mF,js.o,wZ⟩
    case measure=>simp[RowKit.intOf];omega
   have ef:(F.toList==e.dA.toList)=false:=by simp[hf]
   replace cB:=I (cB.o jA hf)
   clear jA hf;go_wp2;go_ret2;exact ⟨_,by rw[cB.o];rfl,(λR h=>by rw[cB.o]at h;cases h),⟨_,_,_,rfl⟩,dy.o.alloc dy.o.size _⟩
  have hc: ¬(j:Int)+1<=99:=by omega
  have SI:=I (Ll HP.o (λm hm=>Mt.o m (by omega)));have X6:ag (iW S P j=ni S P):=I (by rw[show j=99 from by omega];rfl);have zh:=I (ay.bI ai (size:=2) (λ_=>rfl) eH.o)
  have Wj:ag (fT S P=if (iW S P j).length<=8 then some (iW S P j)else none):=I (by
   rw[X6.o];unfold fT;rw[SI.o];simp)
  generalize iW S P j=Z at*;clear aI;by_cases h8:Z.length<=8
  ·have e8:decide ((Z.length:Int)<=8)=true:=by simp;omega
   have HS:ag (fT S P=some Z):=I (by rw[Wj.o,if_pos h8]);clear h8;go_wp2;go_ret2;exact ⟨.slice (some ⟨g,0,none⟩) Z.length cap,by rw[HS.o];simp,(λR h=>by rw[HS.o]at h;injection h with h;subst h;exact zh.o),⟨_,_,_,rfl⟩,HB.o⟩
  have e8:decide ((Z.length:Int)<=8)=false:=by simp;omega
  have HS:ag (fT S P=none):=I (by rw[Wj.o,if_neg h8]);clear h8;go_wp2;go_ret2;exact ⟨.slice (some ⟨g,0,none⟩) Z.length cap,by rw[HS.o];simp,(λR h=>by rw[HS.o]at h;cases h),⟨_,_,_,rfl⟩,HB.o⟩
theorem Lm (S:List bE) (ls:List bo) (day:Int) (w:World) (vs va:Value) (hS:iT w w.heap.size vs S) (hA:eE w w.heap.size va ls) (cy:cd S=true) (hp:bJ ls=true):
 Calls prog 66 #[vs,va,.int .i64 day] w (IL S ls day w):=by
 have IM:=eM hp;have Wg:=lz cy;have bW:=(Below.refl w.heap.size w).alloc (Nat.le_refl _) (.cells #[] 115);have FR:=I (cz.on hS (Pl.stays _) bW bW.size);have HA:=I (λw' (hb:Below w.heap.size w w')=>hA.on hb hb.size);have ii:=I cy;have HP:=I hp;have jT:=I bW;have cN:(w.alloc (.cells #[] 115)).ownsRow w.heap.size 115 2 (.slice (some ⟨w.heap.size,0,none⟩) 0 0) 0 []:=by simpa using World.ownsRow_made w #[] 0 (Nat.le_refl _) (Nat.zero_le _) rfl
 have dY:=I cN;obtain ⟨A,c,rfl,hc,hm,cn⟩:=dk hA;have gH:=I cn;obtain ⟨T,tc,rfl,_⟩:=hS;obtain ⟨i0,hi,dK,ez,ek⟩:=info_parts oQ;clear cn cy hp bW cN hA;go_enter func66,ntmps66;go_wp2_with (at_builtin;refine eI ai rfl _ _ 25 rfl w.heap.size 115 i0 (.agg #[.int .i64 0,.string ⟨#[]⟩]) 2 24 underlying25 hi dK ez ek rfl (by decide) _ _ _ rfl dY.o _ S _ rfl FR.o (λ_=>rfl) (λy u hu=>eU hu) ?c3 ?c4 jT.o.size ?_);case c3=>unfold maxLen;omega
 case c4=>omega
 intro o1 w1 fe gC uv;have jh:ag (ay ai S w.heap.size w1 o1):=I (ay.bI ai (size:=2) (λ_=>rfl) (by simpa using fe));have da:ag (Below w.heap.size w w1):=I (jT.o.grown gC jT.o.size (λj hj=>(dY.o.lt j hj).1));have HF:=I (Df ls day w1 _ (HA.o w1 da.o) (by omega));obtain ⟨A1,c1,rfl,_⟩:=jh.o;clear fe gC uv;go_wp2_with (fail);refine (HF.o).mono ?_;rintro e w2 ⟨v2,rfl,xa,cL⟩;have dy:ag (Below w.heap.size w w2):=I (da.o.trans (cL.mono da.o.size));have ju:ag (ay ai S w.heap.size w2 (.slice A1 S.length c1)):=I (jh.o.on cL);have NT:ag (∀w':World,Below w2.heap.size w2 w'->cz (Pl ak) 1 w' w'.heap.size v2 (de ls day)):=I (λw' hb=>(xa.on hb).mo (size:=1) (λ_=>rfl));have PI:(de ls day).length<=ls.length:=nr ls day ls.length;obtain ⟨A2,c2,rfl,_⟩:=xa;clear cL HF;go_wp2;go_loopw [8,10] (λo i wr=> ∃(k:Nat) (R:List bE),i= .int .i64 (k:Int)/\k<=(de ls day).length/\Hi S ls day k=some R/\ay ai R w.heap.size wr o/\cd R=true/\Below w2.heap.size w2 wr) (λ_ i _=>(de ls day).length-(RowKit.intOf i).toNat);case atStart=>exact ⟨0,S,rfl,Nat.zero_le _,rfl,ju.o,ii.o,Below.refl _ _⟩
 case round=>
  obtain ⟨k,R,rfl,hk,oU,cr,IP,hb⟩:=hrel;have HB:=I hb;have Dh:=I oU;have FW:=I IP;have eH:=I cr;obtain ⟨A3,c3,rfl,_⟩:=cr;clear oU IP;by_cases aI:k<(de ls day).length
  ·obtain ⟨A',c',hv,_,_,IQ⟩:=NT.o wr hb;injection hv with Dc Hj TW
   subst Dc TW;obtain ⟨b2,NU,rfl,QF,vv⟩:=IQ (by omega);have oV:(de ls day)[k]?=some (de ls day)[k]:=List.getElem?_eq_getElem aI;obtain ⟨us,_,hp,CE⟩:=vv k _ oV;have hp:us=ak (de ls day)[k]:=hp;subst hp;have x9:wr.cell? ⟨b2,NU+k,none⟩=some (.int .i64 (de ls day)[k]):=by have:=CE 0 _ rfl;simpa using this
   obtain ⟨j,hj,yb⟩:=yo oV;rw[hj]at x9 oV;obtain ⟨b,off,rfl,bD,aC⟩:=gH.o (by omega);have aH:ls[j]?=some ls[j]:=List.getElem?_eq_getElem yb;obtain ⟨pv,_,_,d2,hE⟩:=aC j _ aH;have qf:=dy.o.trans (hb.mono dy.o.size);have x2:=(qf.cell (p:=⟨b,off+j*3+2,none⟩) bD).trans d2;have Lk:bg wr wr.heap.size pv ls[j].pat:=cz.on hE (Pl.stays _) qf qf.size;have CF:=I (ep.1 (fj HP.o aH)).pat;have lE:ag (Hi S ls day (k+1)=fT R ls[j].pat):=I (by rw[AX oV,Dh.o,Bg R aH]);have FX:=I (Dk R ls[j].pat wr _ _ (eH.o.mo (size:=2) (λ_=>rfl)) Lk CF.o);have iG:=I (λT=>vu (T:=T) FW.o CF.o);generalize ls[j].pat=P at*;obtain ⟨pA,pc,rfl,_⟩:=Lk;clear IQ vv oV CE hj aC aH d2 hE hb Hj qf;go_wp2_with (fail);refine (FX.o).mono ?_;rintro e w3 ⟨v3,rfl,KK,⟨A4,n4,c4,rfl⟩,dB⟩;have dI:=I (HB.o.trans (dB.mono HB.o.size));cases hr:fT R P with
   |none=>
    have hY:ag (nU S ls day=none):=I (AY (lE.o.trans hr));clear hr KK dB;go_wp2;go_ret2;exact ⟨_,by rw[hY.o];rfl,(λR h=>by rw[hY.o]at h;cases h),⟨_,_,_,rfl⟩,dy.o.trans (dI.o.mono dy.o.size)⟩
   |some T=>
    have HT:=I ((KK T hr).less (dy.o.trans (HB.o.mono dy.o.size)).size);have NV:ag (Hi S ls day (k+1)=some T):=I (lE.o.trans hr);have NW:=I (iG.o T hr);clear hr KK dB;go_wp2;go_roundw;case rel=>exact ⟨k+1,T,by go_num,by omega,NV.o,HT.o,NW.o,dI.o⟩
    case measure=>simp[RowKit.intOf];omega
  have eA: ¬(k:Int)<((de ls day).length:Int):=by omega
  have eB:ag (nU S ls day=some R):=I (by rw[<-ET (k:=k) (by omega)];exact Dh.o);clear aI hb;go_wp2;go_ret2;exact ⟨_,by rw[eB.o];rfl,(λT h=>by rw[eB.o]at h;injection h with h;subst h;exact ⟨eH.o,FW.o⟩),⟨_,_,_,rfl⟩,dy.o.trans (HB.o.mono dy.o.size)⟩
def aet (B:Nat) (w:World) (b k:Nat) (e:Ending) (w':World):Prop:=
 ∃v P,e= .returned v/\w'.ownsRow w.heap.size 93 4 v P.length (P.flatMap ah)/\v≠ .slice none 0 0/\bF P=true/\Src B w' b k/\iJ b w w'
theorem ahd (p:List UInt8->Prop) (w:World) (t:TypeId) (L:List (List UInt8)) (hL: ∀l∈L,p l) (j:Nat) (hj:j<L.length): ∃l,p l/\(w.alloc (.cells (L.map (λl=>Value.string ⟨l.toArray⟩)).toArray t)).cell? ⟨w.heap.size,j,none⟩=some (.string ⟨l.toArray⟩):=by
 refine ⟨L[j],hL _ (List.getElem_mem hj),?_⟩;have:=(Row.new w (L.map (λl=>Value.string ⟨l.toArray⟩)).toArray t).cell j (.string ⟨L[j].toArray⟩) (by simp[List.getElem?_eq_getElem hj]);exact this
def ad3 (B:Nat) (w:World) (b k:Nat) (e:Ending) (w':World):Prop:=
 ∃x:Int,e= .returned (.int .i64 x)/\Src B w' b k/\iJ b w w'
def af3 (B:Nat) (w:World) (b k:Nat) (e:Ending) (w':World):Prop:=
 ∃v P,e= .returned v/\ay ah P w.heap.size w' v/\bS P/\Src B w' b k/\iJ b w w'
theorem ay.apart {α:Type} {f:α->List Value} {xs:List α} {base b:Nat} {w w':World} {v:Value} (h:ay f xs base w v) (ho:iJ b w w') (gm:xs≠[]->v.ownBlock≠some b):ay f xs base w' v:=by
 obtain ⟨A,c,rfl,h1,h2,h3⟩:=h;refine ⟨A,c,rfl,h1,h2,λh0=>?_⟩;obtain ⟨g,rfl,hg,aI,hr⟩:=h3 h0;exact ⟨g,rfl,hg,Nat.lt_of_lt_of_le aI ho.size,hr.only aI (λe=>gm h0 (by rw[<-e];rfl)) ho⟩
theorem ay.dR {α:Type} {f:α->List Value} {xs:List α} {base:Nat} {w:World} {v:Value} (h:ay f xs base w v) (h0:xs≠[]): ∃g,v.ownBlock=some g/\base<=g/\g<w.heap.size:=by
 obtain ⟨A,c,rfl,h1,h2,h3⟩:=h;obtain ⟨g,rfl,hg,aI,_⟩:=h3 h0;exact ⟨g,rfl,hg,aI⟩
structure dL (base:Nat) (w:World) (S T:List bE) (vs vt:Value) (g cap:Nat) (L:List bu):Prop where
 s:ay ai S base w vs
 sn:S≠[]->vs.ownBlock≠some g
 t:ay ai T base w vt
 tn:T≠[]->vt.ownBlock≠some g
 row:w.ownsRow base 139 3 (.slice (some ⟨g,0,none⟩) L.length cap) L.length (L.flatMap cu)
 nt: ∀x∈L,ay ah x.a.pat base w x.v/\(x.a.pat≠[]->x.v.ownBlock≠some g)/\bS x.a.pat
theorem dL.only {base b:Nat} {w w':World} {S T:List bE} {vs vt:Value} {g cap:Nat} {L:List bu} (h:dL base w S T vs vt g cap L) (hb:b<base) (ho:iJ b w w'):dL base w' S T vs vt g cap L:=
 ⟨h.s.only hb ho,h.sn,h.t.only hb ho,h.tn,Iq h.row hb ho,λx hx=>⟨(h.nt x hx).1.only hb ho,(h.nt x hx).2⟩⟩
theorem dL.push {base:Nat} {w w':World} {S T:List bE} {vs vt:Value} {g cap g' fq:Nat} {L:List bu} {x:bu} (h:dL base w S T vs vt g cap L) (hg:w.grownBy w' (some g))
 (gd:g'=g\/g'=w.heap.size) (bi:w'.ownsRow base 139 3 (.slice (some ⟨g',0,none⟩) (L.length+1) fq) (L.length+1) (L.flatMap cu++cu x))
 (hx:ay ah x.a.pat base w x.v) (F0:x.a.pat≠[]->x.v.ownBlock≠some g) (TX:bS x.a.pat):dL base w' S T vs vt g' fq (L++[x]):=by
 have gm: ∀{α:Type} {f:α->List Value} {xs:List α} {v:Value},ay f xs base w v->(xs≠[]->v.ownBlock≠some g)->xs≠[]->v.ownBlock≠some g':=λho hn h0 e=>by
  rcases gd with e'|e'
  ·rw[e']at e;exact hn h0 e
  obtain ⟨k,hk,_,aI⟩:=ho.dR h0;rw[hk]at e;injection e with e
  omega
 refine ⟨h.s.apart hg h.sn,gm h.s h.sn,h.t.apart hg h.tn,gm h.t h.tn,by simpa using bi,λy hy=>?_⟩;rcases List.mem_append.1 hy with hy|hy
 ·obtain ⟨p1,p2,p3⟩:=h.nt y hy;exact ⟨p1.apart hg p2,gm p1 p2,p3⟩
 rw[List.mem_singleton.1 hy];exact ⟨hx.apart hg F0,gm hx F0,TX⟩
theorem dL.av {base:Nat} {w:World} {S T:List bE} {vs vt:Value} {g cap:Nat} {L:List bu} (h:dL base w S T vs vt g cap L):eE w w.heap.size (.slice (some ⟨g,0,none⟩) L.length cap) (L.map (·.a)):=
 ⟨L,rfl,cz.bI cu (size:=3) (λ_=>rfl) h.row,λx hx=>(h.nt x hx).1.mo (size:=4) (λ_=>rfl)⟩
theorem dL.nn {base:Nat} {w:World} {S T:List bE} {vs vt:Value} {g cap:Nat} {L:List bu} (h:dL base w S T vs vt g cap L):ms (L.map (·.a)):=λa ha=>by
 obtain ⟨x,hx,rfl⟩:=List.mem_map.1 ha;exact (h.nt x hx).2.2
theorem oW {w:World} {base g n cap size:Nat} {e:TypeId} {xs:List Value} (h:w.ownsRow base e size (.slice (some ⟨g,0,none⟩) n cap) n xs) {j:Nat} {u:Value} (hj:xs[j]?=some u):w.cell? ⟨g,j,none⟩=some u/\w.frozen? ⟨g,j,none⟩=false:=by
 obtain ⟨T,hB,_⟩:=dH h;have aI:=(List.getElem?_eq_some_iff.1 hj).1;refine ⟨?_,hB.free (by rw[List.length_append];omega)⟩;rw[hB.cell,List.getElem?_append_left aI,hj]
theorem F1 {w:World} {base g n cap size:Nat} {e:TypeId} {xs:List Value} (h:w.ownsRow base e size (.slice (some ⟨g,0,none⟩) n cap) n xs) (j:Nat) (hj:j<xs.length) (u:Value) (hu:u.oneCell'=true):
 (w.setCell ⟨g,j,none⟩ u).ownsRow base e size (.slice (some ⟨g,0,none⟩) n cap) n (xs.set j u):=by
 obtain ⟨T,hB,hC,xy,nj,kd,sY⟩:=dH h;have hs:=hB.set prog j [u] (by rw[List.length_append,List.length_singleton];omega) (λv hv=>by rw[List.mem_singleton]at hv;subst hv;exact hu)
 have e1:splice (xs++T) j [u]=xs.set j u++T:=by
  unfold splice;rw[List.take_append_of_le_length (by omega),List.length_singleton,List.drop_append_of_le_length (by omega),List.set_eq_take_append_cons_drop,if_pos hj];simp
 rw[e1]at hs;have tO:(xs.set j u).length=n*size:=by rw[List.length_set];exact sY
 exact gz hs (by rw[List.length_append,tO,<-sY,<-List.length_append];exact hC) (by rw[List.take_left' tO]) tO xy nj kd
theorem mem_set {α:Type} {L:List α} {i:Nat} {y x:α} (h:x∈L.set i y):x=y\/x∈L:=(List.mem_or_eq_of_mem_set h).symm
theorem dL.put {base:Nat} {w:World} {S T:List bE} {vs vt:Value} {g cap:Nat} {L:List bu} (h:dL base w S T vs vt g cap L) (j i:Nat) (u:Value) (hu:u.oneCell'=true) (y:bu) (hj:j<L.length*3) (he:(L.flatMap cu).set j u=(L.set i y).flatMap cu)
 (hy:ay ah y.a.pat base w y.v) (QG:y.a.pat≠[]->y.v.ownBlock≠some g) (SJ:bS y.a.pat):dL base (w.setCell ⟨g,j,none⟩ u) S T vs vt g cap (L.set i y):=by
 have hg:iJ g w (w.setCell ⟨g,j,none⟩ u):=mX (pI g w) (.inl rfl) u;have hl:(L.flatMap cu).length=L.length*3:=bp (k:=3) cu (λ_=>rfl) L;have hr:=F1 h.row j (by omega) u hu;refine ⟨h.s.apart hg h.sn,h.sn,h.t.apart hg h.tn,h.tn,by rw[List.length_set,<-he];exact hr,λx hx=>?_⟩;rcases mem_set hx with rfl|hx
 ·exact ⟨hy.apart hg QG,QG,SJ⟩
 obtain ⟨p1,p2,p3⟩:=h.nt x hx;exact ⟨p1.apart hg p2,p2,p3⟩
theorem kf:(prog.info? 139).map (λi=>(i.zero,i.size,i.bytes))=some (some (.agg #[.int .i64 0,.int .i64 0,.slice none 0 0]),3,40):=by kernel_rfl
theorem oX {x:bu} {A:Option Addr} {n c:Nat} (hv:x.v= .slice A n c) {u:Value} (h:u∈cu x):u.oneCell'=true:=by
 unfold cu at h;rcases List.mem_cons.1 h with rfl|h
 ·rfl
 rcases List.mem_cons.1 h with rfl|h
 ·rfl
 rw[List.mem_singleton]at h;subst h;rw[hv];rfl
def mG:Value->Nat
 | .slice _ n _=>n
 |_=>0
def QH (b:Nat) (w:World) (e:Ending) (w':World):Prop:=
 ∃v1 v2 S ls,e= .returned (.tuple #[v1,v2])/\ay ai S w.heap.size w' v1/\cd S=true/\eE w' w'.heap.size v2 ls/\ms ls/\iJ b w w'
def QI (w:World) (e:Ending) (w':World):Prop:=
 ∃v1 v2 S ls,e= .returned (.tuple #[v1,v2])/\ay ai S w.heap.size w' v1/\cd S=true/\eE w' w'.heap.size v2 ls/\bJ ls=true/\Below w.heap.size w w'
def rJ (d:Int):Bool:=dO d 0 999
def eN (ls:List bo) (k:Nat):List Int:=0::(ls.take k).flatMap (λa=>[a.a8,a.fin].filter rJ)
theorem oY {ls:List bo} {k:Nat} (h:k<ls.length):eN ls (k+1)=eN ls k++[ls[k].a8,ls[k].fin].filter rJ:=by
 unfold eN;rw[List.take_succ_eq_append_getElem h,List.flatMap_append];simp
def xC (ls:List bo) (d:Int):Prop:=d=0\/(0<=d/\d<=999/\ ∃a∈ls,d=a.a8\/d=a.fin)
theorem vx {ls:List bo} {d:Int}:d∈eN ls ls.length↔xC ls d:=by
 unfold eN xC;rw[List.take_length,List.mem_cons,List.mem_flatMap];refine or_congr Iff.rfl ⟨?_,?_⟩
 ·rintro ⟨a,ha,hd⟩;obtain ⟨h1,h2⟩:=List.mem_filter.1 hd;unfold rJ at h2;rw[dS]at h2;exact ⟨h2.1,h2.2,a,ha,by simpa using h1⟩
 rintro ⟨h1,h2,a,ha,hd⟩;exact ⟨a,ha,List.mem_filter.2 ⟨by simpa using hd,by unfold rJ;rw[dS];exact ⟨h1,h2⟩⟩⟩
theorem vy (n:Int) (w:World) (r:Bool) (h:rJ n=r):Calls prog 143 #[.int .i64 n] w (f' (.bool r) w):=h▸AZ n w
def Ln (L:List Int) (n:Int) (w:World) (e:Ending) (w':World):Prop:=
 ∃v M,e= .returned v/\ay ak M w.heap.size w' v/\(∀x,x∈M↔x=n\/x∈L)/\M.length<=L.length+1/\Below w.heap.size w w'
structure fP (L:List Int) (n:Int) (k:Nat) (d:Bool) (M:List Int):Prop where
 mem: ∀x,x∈M↔(d=true/\x=n)\/x∈L.take k
 len:M.length<=k+(if d then 1 else 0)
theorem jF {L:List Int} {k:Nat} (hk:k<L.length) (x:Int):x∈L.take (k+1)↔x∈L.take k\/x=L[k]:=by
 rw[List.take_succ_eq_append_getElem hk,List.mem_append,List.mem_singleton]
theorem fP.start (L:List Int) (n:Int):fP L n 0 false []:=⟨by simp,by simp⟩
theorem fP.keep {L M:List Int} {n:Int} {k:Nat} {d:Bool} (h:fP L n k d M) (hk:k<L.length):fP L n (k+1) d (M++[L[k]]):=⟨λx=>by
 rw[jF hk,List.mem_append,List.mem_singleton,h.mem x,or_assoc],by rw[List.length_append,List.length_singleton];have:=h.len;omega⟩
theorem fP.hit {L M:List Int} {n:Int} {k:Nat} (h:fP L n k false M) (hk:k<L.length) (e:L[k]=n):fP L n (k+1) true (M++[L[k]]):=⟨λx=>by
 rw[jF hk,List.mem_append,List.mem_singleton,h.mem x,e];by_cases h1:x=n<;>by_cases h2:x∈L.take k<;>simp only[h1,h2,or_true,or_false,false_or,and_true,and_false,reduceCtorEq],by rw[List.length_append,List.length_singleton];have:=h.len;simp at this⊢;omega⟩
theorem fP.add {L M:List Int} {n:Int} {k:Nat} (h:fP L n k false M) (hk:k<L.length):fP L n (k+1) true ((M++[n])++[L[k]]):=⟨λx=>by
 rw[jF hk,List.mem_append,List.mem_append,List.mem_singleton,List.mem_singleton,h.mem x];generalize L[k]=y;by_cases h1:x=n<;>by_cases h2:x∈L.take k<;>by_cases h3:x=y<;>simp only[h1,h2,h3,true_and,false_and,or_true,true_or,or_false,false_or,and_true,and_false,reduceCtorEq],by simp;have:=h.len;simp at this;omega⟩
theorem fP.done {L M:List Int} {n:Int} (h:fP L n L.length true M):(∀x,x∈M↔x=n\/x∈L)/\M.length<=L.length+1:=⟨λx=>by
 rw[h.mem x,List.take_length];simp,by have:=h.len;simp at this;omega⟩
theorem fP.last {L M:List Int} {n:Int} (h:fP L n L.length false M):(∀x,x∈M++[n]↔x=n\/x∈L)/\(M++[n]).length<=L.length+1:=⟨λx=>by
 rw[List.mem_append,h.mem x,List.take_length];simp;exact or_comm,by simp;have:=h.len;simp at this;omega⟩
theorem Dl (zs:List Int) (hs:zs.Pairwise (· <= ·)): ∀m,m<=zs.length->(compactUpTo zs.toArray m).Pairwise (· < ·)/\ ∀x,x∈compactUpTo zs.toArray m↔x∈zs.take m:=by
 intro m;induction m with
 |zero=>intro _;exact ⟨by simp[compactUpTo],by simp[compactUpTo]⟩
 |succ m ih=>
  intro hm;obtain ⟨h1,h2⟩:=ih (by omega);have aI:m<zs.length:=by omega
  have hd:zs.toArray[m]! =zs[m]:=by simp[aI]
  have ht: ∀x,x∈zs.take (m+1)↔x∈zs.take m\/x=zs[m]:=jF aI
  have hle: ∀x∈zs.take m,x<=zs[m]:=λx hx=>by
   obtain ⟨j,hj,rfl⟩:=List.mem_iff_getElem.1 hx;rw[List.length_take]at hj;rw[List.getElem_take];exact (List.pairwise_iff_getElem.1 hs) j m (by omega) aI (by omega)
  rw[compactUpTo_succ,hd];by_cases hk:keeps zs.toArray m=true
  ·rw[if_pos hk];refine ⟨?_,λx=>by rw[List.mem_append,List.mem_singleton,h2,ht]⟩;rw[List.pairwise_append];refine ⟨h1,by simp,λx hx y hy=>?_⟩;rw[List.mem_singleton.1 hy];have Ih:=(h2 x).1 hx;have h3:=hle x Ih;rcases Nat.eq_zero_or_pos m with h0|h0
   ·subst h0;simp at Ih
   have hp:zs.toArray[m-1]! =zs[m-1]:=by simp[show m-1<zs.length by omega]
   have gm:zs[m]≠zs[m-1]:=by
    have:=hk;unfold keeps at this;rw[hd,hp]at this;simp at this;omega
   have h4:=(List.pairwise_iff_getElem.1 hs) (m-1) m (by omega) aI (by omega);obtain ⟨j,hj,rfl⟩:=List.mem_iff_getElem.1 Ih;rw[List.length_take]at hj;rw[List.getElem_take];by_cases e:j=m-1
   ·subst e;omega
   have h5:=(List.pairwise_iff_getElem.1 hs) j (m-1) (by omega) (by omega) (by omega);omega
  rw[if_neg hk,List.append_nil];refine ⟨h1,λx=>?_⟩;rw[h2,ht];constructor
  ·exact .inl
  rintro (h|rfl)
  ·exact h
  rcases Nat.eq_zero_or_pos m with h0|h0
  ·subst h0
   exfalso
   apply hk;unfold keeps;simp
  have hp:zs.toArray[m-1]! =zs[m-1]:=by simp[show m-1<zs.length by omega]
  have he:zs[m]=zs[m-1]:=by
   unfold keeps at hk;rw[hd,hp]at hk;simp at hk;exact hk.2
  rw[he];exact List.mem_iff_getElem.2 ⟨m-1,by rw[List.length_take];omega,by rw[List.getElem_take]⟩
def bB (ls:List bo):List Int:=compact ((eN ls ls.length).mergeSort (λx y=>decide (x<=y)))
theorem nu (ls:List bo):(bB ls).Pairwise (· < ·)/\ ∀x,x∈bB ls↔xC ls x:=by
 have hs:((eN ls ls.length).mergeSort (λx y=>decide (x<=y))).Pairwise (· <= ·):=by
  have:=List.pairwise_mergeSort (le:=λx y:Int=>decide (x<=y)) (λa b c h1 h2=>by simp at*;omega) (λa b=>by simp;omega) (eN ls ls.length);exact this.imp (λh=>by simpa using h)
 obtain ⟨h1,h2⟩:=Dl _ hs _ (Nat.le_refl _);refine ⟨h1,λx=>?_⟩;unfold bB compact;rw[h2,List.take_length,(List.mergeSort_perm _ _).mem_iff,vx]
theorem jG: ∀L:List Int,L.flatMap ak=L.map (λx=>Value.int .i64 x)
 |[]=>rfl
 |x::L=>by rw[List.flatMap_cons,List.map_cons,jG L];rfl
theorem Bj {ls:List bo} {d d':Int} (h: ∀a∈ls,IK d a=IK d' a):de ls d=de ls d':=by
 unfold de
 congr 1
 apply List.filter_congr;intro k hk;have hk:=List.mem_range.1 hk;rw[List.getElem?_eq_getElem hk];exact h _ (List.getElem_mem hk)
theorem IU {S:List bE} {ls:List bo} {d d':Int} (h: ∀a∈ls,IK d a=IK d' a):nU S ls d=nU S ls d':=by
 unfold nU;rw[Bj h]
theorem Bk {S:List bE} {ls:List bo} {t d:Int} (cy:bJ ls=true) (ht:0<=t) (htd:t<=d) (hd:d<=999) (h: ∀x,xC ls x->x<=t\/d<x):nU S ls d=nU S ls t:=by
 apply IU;intro a ha;obtain ⟨k,hk⟩:=List.getElem?_of_mem ha;have ho:=ep.1 (fj cy hk);have o1:=ho.J;have o2:=ho.bU;have o3:=ho.f0;have o4:=ho.f1
 have hb:a.a8<=d->a.a8<=t:=λhb=>by
  rcases h a.a8 (.inr ⟨o1,by omega,a,ha,.inl rfl⟩)with h|h<;>omega
 have hf:a.fin<=d->a.fin<=t:=λhb=>by
  rcases h a.fin (.inr ⟨o3,by omega,a,ha,.inr rfl⟩)with h|h<;>omega
 unfold IK;have e1:decide (a.a8<=d)=decide (a.a8<=t):=by rw[decide_eq_decide];exact ⟨hb,λh=>by omega⟩
 have e2:decide (d<a.fin)=decide (t<a.fin):=by rw[decide_eq_decide];exact ⟨λh=>by omega,λh=>by have:=hf;omega⟩
 rw[e1,e2]
def jH (T:List Int) (i:Nat):Int:=if i+1<T.length then (T[i+1]?.getD 0)-1 else 999
theorem j6 {ls:List bo} {x:Int} (h:xC ls x):0<=x/\x<=999:=by
 rcases h with rfl|⟨h1,h2,_⟩<;>omega
theorem tZ (ls:List bo):(bB ls)[0]?=some 0:=by
 obtain ⟨h1,h2⟩:=nu ls;have h0:(0:Int)∈bB ls:=(h2 0).2 (.inl rfl);obtain ⟨j,hj,hz⟩:=List.mem_iff_getElem.1 h0;rcases Nat.eq_zero_or_pos j with e|e
 ·subst e;rw[List.getElem?_eq_getElem hj,hz]
 exfalso
 have:=(List.pairwise_iff_getElem.1 h1) 0 j (by omega) hj e;have h3:=(j6 ((h2 _).1 (List.getElem_mem (by omega:0<(bB ls).length)))).1;omega
theorem td {ls:List bo} {i:Nat} (hi:i<(bB ls).length):(bB ls)[i]<=jH (bB ls) i/\jH (bB ls) i<=999/\0<=(bB ls)[i]/\ ∀x,xC ls x->x<=(bB ls)[i]\/jH (bB ls) i<x:=by
 obtain ⟨h1,h2⟩:=nu ls;have hb:=j6 ((h2 _).1 (List.getElem_mem hi));unfold jH;by_cases hn:i+1<(bB ls).length
 ·rw[if_pos hn,List.getElem?_eq_getElem hn,Option.getD_some];have aI:=(List.pairwise_iff_getElem.1 h1) i (i+1) hi hn (by omega);have cL:=j6 ((h2 _).1 (List.getElem_mem hn));refine ⟨by omega,by omega,hb.1,λx hx=>?_⟩;obtain ⟨j,hj,rfl⟩:=List.mem_iff_getElem.1 ((h2 x).2 hx);by_cases F5:j<=i
  ·by_cases e:j=i
   ·subst e;left;omega
   have:=(List.pairwise_iff_getElem.1 h1) j i hj hi (by omega)
   left;omega
  by_cases e:j=i+1
  ·subst e;right;omega
  have:=(List.pairwise_iff_getElem.1 h1) (i+1) j hn hj (by omega)
  right;omega
 rw[if_neg hn];refine ⟨hb.2,by omega,hb.1,λx hx=>?_⟩;obtain ⟨j,hj,rfl⟩:=List.mem_iff_getElem.1 ((h2 x).2 hx);by_cases e:j=i
 ·subst e;left;omega
 have:=(List.pairwise_iff_getElem.1 h1) j i hj hi (by omega)
 left;omega
def jI (T:List Int) (i:Nat):Int:=if i<T.length then T[i]?.getD 0 else 1000
theorem nv {T:List Int} {i:Nat}:jI T (i+1)=jH T i+1:=by
 unfold jI jH
 split<;>omega
structure gp (S:List bE) (ls:List bo) (i:Nat) (R:List (Int×Int)):Prop where
 ok: ∀r∈R,0<=r.1/\r.1<=r.2/\r.2<jI (bB ls) i
 all: ∀d,0<=d->d<jI (bB ls) i->((∃r∈R,r.1<=d/\d<=r.2)↔nU S ls d=none)
theorem gp.start (S:List bE) (ls:List bo):gp S ls 0 []:=by
 refine ⟨(λr hr=>by cases hr),λd h0 h1=>?_⟩
 exfalso
 have h:=tZ ls;have hl:=(List.getElem?_eq_some_iff.1 h).1;unfold jI at h1;rw[if_pos hl,h]at h1;simp at h1;omega
theorem gp.skip {S:List bE} {ls:List bo} {i:Nat} {R:List (Int×Int)} (h:gp S ls i R) (cy:bJ ls=true) (hi:i<(bB ls).length) (ho:(nU S ls (bB ls)[i]).isSome=true):gp S ls (i+1) R:=by
 obtain ⟨g1,g2,g3,g4⟩:=td hi;have hb:jI (bB ls) i=(bB ls)[i]:=by unfold jI;rw[if_pos hi,List.getElem?_eq_getElem hi];rfl
 refine ⟨λr hr=>?_,λd h0 h1=>?_⟩
 ·have:=h.ok r hr;rw[nv];rw[hb]at this;omega
 rw[nv]at h1;by_cases hd:d<(bB ls)[i]
 ·exact h.all d h0 (by rw[hb];exact hd)
 rw[Bk (S:=S) cy g3 (by omega) (by omega) (λx hx=>by rcases g4 x hx with h|h<;>omega)];constructor
 ·rintro ⟨r,hr,h3,h4⟩;have:=h.ok r hr;rw[hb]at this;omega
 intro e;rw[e]at ho;cases ho
theorem gp.add {S:List bE} {ls:List bo} {i:Nat} {R:List (Int×Int)} (h:gp S ls i R) (cy:bJ ls=true) (hi:i<(bB ls).length) (ho:(nU S ls (bB ls)[i]).isSome=false):gp S ls (i+1) (R++[((bB ls)[i],jH (bB ls) i)]):=by
 obtain ⟨g1,g2,g3,g4⟩:=td hi;have hb:jI (bB ls) i=(bB ls)[i]:=by unfold jI;rw[if_pos hi,List.getElem?_eq_getElem hi];rfl
 refine ⟨λr hr=>?_,λd h0 h1=>?_⟩
 ·rw[nv];rcases List.mem_append.1 hr with hr|hr
  ·have:=h.ok r hr;rw[hb]at this;omega
  rw[List.mem_singleton.1 hr];exact ⟨g3,g1,by omega⟩
 rw[nv]at h1;by_cases hd:d<(bB ls)[i]
 ·rw[<-h.all d h0 (by rw[hb];exact hd)];constructor
  ·rintro ⟨r,hr,h3,h4⟩;rcases List.mem_append.1 hr with hr|hr
   ·exact ⟨r,hr,h3,h4⟩
   rw[List.mem_singleton.1 hr]at h3;have h3:(bB ls)[i]<=d:=h3;omega
  rintro ⟨r,hr,h3⟩;exact ⟨r,List.mem_append_left _ hr,h3⟩
 rw[Bk (S:=S) cy g3 (by omega) (by omega) (λx hx=>by rcases g4 x hx with h|h<;>omega)];constructor
 ·intro _;cases e:nU S ls (bB ls)[i]with
  |none=>rfl
  |some x=>rw[e]at ho;cases ho
 intro _;exact ⟨_,List.mem_append_right _ (List.mem_singleton.2 rfl),by show (bB ls)[i]<=d;omega,by show d<=jH (bB ls) i;omega⟩
theorem gp.join {S:List bE} {ls:List bo} {i:Nat} {R:List (Int×Int)} {x y z:Int} (h:gp S ls i (R++[(x,y)]++[(y+1,z)])):gp S ls i (R++[(x,z)]):=by
 have hx:=h.ok (x,y) (by simp);have hy:=h.ok (y+1,z) (by simp);simp only at hx hy;refine ⟨λr hr=>?_,λd h0 h1=>?_⟩
 ·rcases List.mem_append.1 hr with hr|hr
  ·exact h.ok r (by simp[hr])
  rw[List.mem_singleton.1 hr];exact ⟨hx.1,by show x<=z;omega,hy.2.2⟩
 rw[<-h.all d h0 h1];constructor
 ·rintro ⟨r,hr,h3,h4⟩;rcases List.mem_append.1 hr with hr|hr
  ·exact ⟨r,by simp[hr],h3,h4⟩
  rw[List.mem_singleton.1 hr]at h3 h4;have h3:x<=d:=h3;have h4:d<=z:=h4;by_cases hd:d<=y
  ·exact ⟨(x,y),by simp,h3,hd⟩
  exact ⟨(y+1,z),by simp,by show y+1<=d;omega,h4⟩
 rintro ⟨r,hr,h3,h4⟩;rw[List.append_assoc,List.mem_append]at hr;rcases hr with hr|hr
 ·exact ⟨r,by simp[hr],h3,h4⟩
 refine ⟨(x,z),by simp,?_⟩;simp at hr;rcases hr with rfl|rfl
 ·exact ⟨h3,by show d<=z;have h4:d<=y:=h4;omega⟩
 exact ⟨by show x<=d;have h3:y+1<=d:=h3;omega,h4⟩
structure qi where
 lo:Int
 hi:Int
 h:Nat
def eW (x:qi):List Value:=[.slice (some ⟨x.h,0,none⟩) 2 2]
def Bl (x:qi):Int×Int:=(x.lo,x.hi)
structure Rows (base:Nat) (w:World) (g cap:Nat) (L:List qi):Prop where
 row:w.ownsRow base 35 1 (.slice (some ⟨g,0,none⟩) L.length cap) L.length (L.flatMap eW)
 each: ∀x∈L,Row w x.h [.int .i64 x.lo,.int .i64 x.hi]/\base<=x.h/\x.h<w.heap.size/\x.h≠g
 ord:L.Pairwise (λa b=>a.h<b.h)
theorem Rows.below {base:Nat} {w w':World} {g cap:Nat} {L:List qi} (h:Rows base w g cap L) (hb:Below w.heap.size w w'):Rows base w' g cap L:=
 ⟨aT h.row hb,λx hx=>by
  obtain ⟨h1,h2,h3,h4⟩:=h.each x hx;exact ⟨h1.below hb h3,h2,Nat.lt_of_lt_of_le h3 hb.size,h4⟩,h.ord⟩
theorem Rows.push {base:Nat} {W w':World} {g cap g' fq:Nat} {L:List qi} {x:qi} (h:Rows base W g cap L) (hg:W.grownBy w' (some g)) (gd:g'=g\/g'=W.heap.size)
 (bi:w'.ownsRow base 35 1 (.slice (some ⟨g',0,none⟩) (L.length+1) fq) (L.length+1) (L.flatMap eW++eW x))
 (hx:Row W x.h [.int .i64 x.lo,.int .i64 x.hi]) (Lo:base<=x.h) (sY:x.h<W.heap.size) (QL:x.h≠g) (Ub: ∀y∈L,y.h<x.h):Rows base w' g' fq (L++[x]):=by
 have jJ: ∀y:qi,Row W y.h [.int .i64 y.lo,.int .i64 y.hi]->y.h<W.heap.size->y.h≠g->Row w' y.h [.int .i64 y.lo,.int .i64 y.hi]/\y.h<w'.heap.size/\y.h≠g':=λy h1 h2 h3=>
  ⟨h1.only h2 h3 hg,Nat.lt_of_lt_of_le h2 hg.size,by rcases gd with e|e<;>omega⟩
 refine ⟨by simpa using bi,λy hy=>?_,?_⟩
 ·rcases List.mem_append.1 hy with hy|hy
  ·obtain ⟨h1,h2,h3,h4⟩:=h.each y hy;obtain ⟨q1,q2,q3⟩:=jJ y h1 h3 h4;exact ⟨q1,h2,q2,q3⟩
  rw[List.mem_singleton.1 hy];obtain ⟨q1,q2,q3⟩:=jJ x hx sY QL;exact ⟨q1,Lo,q2,q3⟩
 rw[List.pairwise_append];exact ⟨h.ord,by simp,λa ha b hb=>by rw[List.mem_singleton.1 hb];exact Ub a ha⟩
theorem Rows.turn {base:Nat} {w:World} {g cap:Nat} {L:List qi} {x:qi} (h:Rows base w g cap (L++[x])) (n:Int):Rows base (w.setCell ⟨x.h,1,none⟩ (.int .i64 n)) g cap (L++[⟨x.lo,n,x.h⟩]):=by
 obtain ⟨x1,x2,x3,x4⟩:=h.each x (by simp);have hO:iJ x.h w (w.setCell ⟨x.h,1,none⟩ (.int .i64 n)):=mX (pI _ _) (.inl rfl) _;have hr:=h.row.kept hO (.inr (λe=>by injection e with e;exact x4 e.symm));refine ⟨by simpa [eW]using hr,λy hy=>?_,?_⟩
 ·rcases List.mem_append.1 hy with hy|hy
  ·obtain ⟨h1,h2,h3,h4⟩:=h.each y (List.mem_append_left _ hy);have aI:=(List.pairwise_append.1 h.ord).2.2 y hy x (by simp);exact ⟨h1.only h3 (by omega) hO,h2,Nat.lt_of_lt_of_le h3 hO.size,h4⟩
  rw[List.mem_singleton.1 hy];exact ⟨x1.set 1 _ (by simp),x2,Nat.lt_of_lt_of_le x3 hO.size,x4⟩
 have:=h.ord;rw[List.pairwise_append]at this⊢;refine ⟨this.1,by simp,λa ha b hb=>?_⟩;rw[List.mem_singleton.1 hb];exact this.2.2 a ha x (by simp)
def Dn (S:List bE) (ls:List bo) (w:World) (e:Ending) (w':World):Prop:=
 ∃g cap L,e= .returned (.slice (some ⟨g,0,none⟩) L.length cap)/\Rows w.heap.size w' g cap L/\L.length<=1000/\gp S ls (bB ls).length (L.map Bl)/\Below w.heap.size w w'
theorem kV {x:qi} {u:Value} (h:u∈eW x):u.oneCell'=true:=by
 unfold eW at h;rw[List.mem_singleton]at h;subst h;rfl
theorem zi:(prog.info? 35).map (λi=>(i.zero,i.size,i.bytes))=some (some (.slice none 0 0),1,24):=by kernel_rfl
def IY (S:List bE) (ls:List bo) (w:World) (e:Ending) (w':World):Prop:=
 ∃g cap L,e= .returned (.tuple #[.slice (some ⟨g,0,none⟩) L.length cap,.bool true])/\Rows w.heap.size w' g cap L/\L.length<=1000/\gp S ls (bB ls).length (L.map Bl)/\Below w.heap.size w w'
theorem Rows.less {base b:Nat} {w:World} {g cap:Nat} {L:List qi} (h:Rows base w g cap L) (hb:b<=base):Rows b w g cap L:=by
 obtain ⟨T,hB,hC,xy,nj,kd,sY⟩:=dH h.row
 exact ⟨gz hB hC (by rw[List.take_left' sY]) sY xy nj (by omega),λx hx=>by
  obtain ⟨h1,h2,h3,h4⟩:=h.each x hx;exact ⟨h1,by omega,h3,h4⟩,h.ord⟩
def eJ (S:List bE) (ls:List bo):Prop:= ∀d,0<=d->d<=999->nU S ls d≠none
theorem tg (T:List Int):jI T T.length=1000:=by unfold jI;rw[if_neg (Nat.lt_irrefl _)]
theorem gp.none {S:List bE} {ls:List bo} {R:List (Int×Int)} (h:gp S ls (bB ls).length R):R=[]↔eJ S ls:=by
 constructor
 ·rintro rfl d h0 h1 e;obtain ⟨r,hr,_⟩:=(h.all d h0 (by rw[tg];omega)).2 e;cases hr
 intro hg;cases R with
 |nil=>rfl
 |cons r R=>
  exfalso
  have h1:=h.ok r List.mem_cons_self;rw[tg]at h1;exact hg r.1 h1.1 (by omega) ((h.all r.1 h1.1 (by rw[tg];omega)).1 ⟨r,List.mem_cons_self,Int.le_refl _,h1.2.1⟩)
def kO (S:List bE) (ls:List bo) (k:Nat) (D:List Int):Prop:=D.length<=k/\ ∀d,d∈D↔d∈((bB ls).drop 1).take k/\nU S ls (d-1)≠nU S ls d
theorem kO.start (S:List bE) (ls:List bo):kO S ls 0 []:=⟨Nat.le_refl _,λd=>by simp⟩
theorem kO.no {S:List bE} {ls:List bo} {k:Nat} {D:List Int} {x:Int} (h:kO S ls k D) (hx:((bB ls).drop 1)[k]?=some x) (e:nU S ls (x-1)=nU S ls x):kO S ls (k+1) D:=by
 obtain ⟨h1,h2⟩:=List.getElem?_eq_some_iff.1 hx;refine ⟨by have:=h.1;omega,λd=>?_⟩;rw[jF h1,h2,h.2 d];constructor
 ·rintro ⟨a,b⟩;exact ⟨.inl a,b⟩
 rintro ⟨a|a,b⟩
 ·exact ⟨a,b⟩
 rw[a]at b;exact absurd e b
theorem kO.Wm {S:List bE} {ls:List bo} {k:Nat} {D:List Int} {x:Int} (h:kO S ls k D) (hx:((bB ls).drop 1)[k]?=some x) (e:nU S ls (x-1)≠nU S ls x):kO S ls (k+1) (D++[x]):=by
 obtain ⟨h1,h2⟩:=List.getElem?_eq_some_iff.1 hx;refine ⟨by have:=h.1;simp;omega,λd=>?_⟩;rw[jF h1,h2,List.mem_append,List.mem_singleton,h.2 d];constructor
 ·rintro (⟨a,b⟩|a)
  ·exact ⟨.inl a,b⟩
  rw[a];exact ⟨.inr rfl,e⟩
 rintro ⟨a|a,b⟩
 ·exact .inl ⟨a,b⟩
 exact .inr a
def N6 (S:List bE) (ls:List bo) (w:World) (e:Ending) (w':World):Prop:=
 ((¬eJ S ls/\e= .returned (.tuple #[.slice none 0 0,.bool false]))\/
  (eJ S ls/\ ∃v D,e= .returned (.tuple #[v,.bool true])/\ay ak D w.heap.size w' v/\kO S ls ((bB ls).length-1) D))/\Below w.heap.size w w'
def Ue (m:Int) (w:World) (e:Ending) (w':World):Prop:= ∃x:Int,0<=x/\x<m/\e= .returned (.int .i64 x)/\ ∃k,w'=w.drewN k
theorem ahr (A:Option Addr) (n c i:Nat) (m:Int) (w:World) (h:za w w.heap.size A n) (hi:i<=1000) (hm:1<=m) (EV:m<=65536):
 Calls prog 12 #[.slice A n c,.int .i64 (i:Int),.int .i64 m] w (Ue m w):=by
 by_cases h1:m<=1
 ·go_enter func12,ntmps12;go_wp2;go_ret;exact ⟨0,by omega,by omega,rfl,0,rfl⟩
 have h1': ¬m<=1:=h1;have h1:1<m:=by omega
 by_cases h2:i<n
 ·have Og:(i:Int)<(n:Int):=by omega
  obtain ⟨b,off,rfl,aI,hc⟩:=h.2 (by omega);obtain ⟨x,hx,x0⟩:=hc i h2;have hn:=h.1;unfold maxLen at hn;clear hc h;go_enter func12,ntmps12;go_wp2;go_ret;exact ⟨(x:Int)% m,Int.emod_nonneg _ (by omega),Int.emod_lt_of_pos _ (by omega),rfl,0,rfl⟩
 have Og: ¬(i:Int)<(n:Int):=by omega
 clear h;go_enter func12,ntmps12;go_wp2;go_ret;exact ⟨((i:Int)*37+11)% m,Int.emod_nonneg _ (by omega),Int.emod_lt_of_pos _ (by omega),rfl,0,rfl⟩
def xF (es:List bE):Nat->List aV->List aV
 |_,[]=>[]
 |n,e::r=>if (bC es e.id).toList≠e.dA.toList\/(e.kind=1/\8<=n)then xF es n r else e::xF es (if e.kind=1 then n+1 else n) r
theorem vG (es:List bE): ∀(P:List aV) (n:Nat),(xF es n P).Sublist P
 |[],_=>List.Sublist.refl _
 |e::r,n=>by
  rw[xF]
  split
  ·exact (vG es r n).cons _
  exact (vG es r _).cons_cons _
theorem vH (es:List bE): ∀(P:List aV) (n:Nat),∀e∈xF es n P,(bC es e.id).toList=e.dA.toList
 |[],_,e,h=>by cases h
 |a::r,n,e,h=>by
  rw[xF]at h
  split at h
  ·exact vH es r n e h
  rename_i hc;rcases List.mem_cons.1 h with rfl|h
  ·exact Classical.byContradiction λgm=>hc (.inl gm)
  exact vH es r _ e h
theorem pR (es:List bE): ∀(P:List aV) (n:Nat),n<=8->n+((xF es n P).filter (λe=>decide (e.kind=1))).length<=8
 |[],n,h=>by simpa [xF]using h
 |a::r,n,h=>by
  rw[xF]
  split
  ·exact pR es r n h
  rename_i hc;by_cases hk:a.kind=1
  ·have hn:n<8:=by
    rcases Nat.lt_or_ge n 8 with h8|h8
    ·exact h8
    exact absurd (.inr ⟨hk,h8⟩) hc
   have:=pR es r (n+1) (by omega);rw[if_pos hk,List.filter_cons,if_pos (by simp[hk]),List.length_cons];omega
  have:=pR es r n h;rw[if_neg hk,List.filter_cons,if_neg (by simp[hk])];exact this
theorem N8 {P Q:List aV} (h:bF P=true) (hs:Q.Sublist P):bF Q=true:=by
 rw[fO]at*;exact ⟨λa ha=>h.1 a (hs.subset ha),h.2.1.sublist hs,Nat.le_trans hs.length_le h.2.2⟩
structure Fits (S:List bE) (P:List aV):Prop where
 ok:bF P=true
 dA: ∀e∈P,(bC S e.id).toList=e.dA.toList
 room:S.length+(P.filter (λe=>decide (e.kind=1))).length<=8
theorem Fits.of {S:List bE} {P:List aV} (h:bF P=true) (h8:S.length<=8):Fits S (xF S S.length P):=
 ⟨N8 h (vG S P _),vH S P _,pR S P _ h8⟩
def Yc (P:List aV) (e:aV):aV:=if (bQ P e.id).kind=0 then e else bQ P e.id
def Mw (w:World) (e:Ending) (w':World):Prop:=
 ∃v1 v2 v3 S P Q,e= .returned (.tuple #[v1,v2,v3])/\ay ai S w.heap.size w' v1/\ay ah P w.heap.size w' v2/\ay ah Q w.heap.size w' v3/\cd S=true/\Fits S P/\Fits S Q/\Below w.heap.size w w'
theorem th: ∀{a b:List aV},gV a->gV b->(∀e,e∈a↔e∈b)->a=b
 |[],[],_,_,_=>rfl
 |[],y::b,_,_,h=>absurd ((h y).2 List.mem_cons_self) (by simp)
 |x::a,[],_,_,h=>absurd ((h x).1 List.mem_cons_self) (by simp)
 |x::a,y::b,ha,hb,h=>by
  obtain ⟨Wn,Yd⟩:=List.pairwise_cons.1 ha;obtain ⟨bw,cL⟩:=List.pairwise_cons.1 hb
  have Lr:x=y:=by
   rcases List.mem_cons.1 ((h x).1 List.mem_cons_self)with e|hx
   ·exact e
   rcases List.mem_cons.1 ((h y).2 List.mem_cons_self)with e|hy
   ·exact e.symm
   have:=bw x hx;have:=Wn y hy;omega
  subst Lr
  rw[th Yd cL (λi=>by
   constructor
   ·intro hi;rcases List.mem_cons.1 ((h i).1 (List.mem_cons_of_mem _ hi))with e|h'
    ·subst e;exact absurd (Wn i hi) (by omega)
    exact h'
   intro hi;rcases List.mem_cons.1 ((h i).2 (List.mem_cons_of_mem _ hi))with e|h'
   ·subst e;exact absurd (bw i hi) (by omega)
   exact h')]
theorem vI {α:Type} (p:α->Bool) (l:List α):l.length=(l.filter p).length+(l.filter (λx=>!p x)).length:=by
 induction l with
 |nil=>rfl
 |cons x r ih=>
  rw[List.filter_cons,List.filter_cons];cases h:p x
  ·simp;omega
  simp;omega
theorem IZ {P Q:List aV} (hP:gV P) (hQ:gV Q):P.length+(oT P Q).length=Q.length+(oT Q P).length:=by
 have h1:P.filter (λe=>xA Q e)=Q.filter (λe=>xA P e):=th (hP.sublist List.filter_sublist) (hQ.sublist List.filter_sublist) (λe=>by
  rw[List.mem_filter,List.mem_filter,rH,rH];exact ⟨λh=>⟨h.2,h.1⟩,λh=>⟨h.2,h.1⟩⟩)
 have h2:=vI (λe=>xA Q e) P;have h3:=vI (λe=>xA P e) Q;rw[h1]at h2;have e1:oT P Q=Q.filter (λe=>!xA P e):=rfl;have e2:oT Q P=P.filter (λe=>!xA Q e):=rfl;rw[e1,e2];omega
theorem lD.symm {P Q R:List aV} (h:lD P Q R) (hP:gV P) (hQ:gV Q):lD Q P R:=⟨h.lS,λe=>by rw[h.mem];exact Or.comm,by rw[h.len,IZ hP hQ]⟩
theorem lD.Qt {P Q R T:List aV} (h:lD P Q R) (k:lD P Q T):R=T:=th h.lS k.lS (λe=>by rw[h.mem,k.mem])
theorem lD.ok {P Q R:List aV} (h:lD P Q R) (hP:bF P=true) (hQ:bF Q=true) (rp:P.length+(oT P Q).length<=16):bF R=true:=by
 rw[fO];refine ⟨λe he=>?_,h.lS,by rw[h.len];exact rp⟩;rcases (h.mem e).1 he with hm|hm
 ·exact ((fO P).1 hP).1 e hm
 exact ((fO Q).1 hQ).1 e hm
theorem ahg (A1:Option Addr) (n1 c1:Nat) (A2:Option Addr) (n2 c2:Nat) (w:World) (h1:n1<=1048576) (h2:n2<=1048576):
 Calls prog 5 #[.slice A1 n1 c1,.slice A2 n2 c2] w (f' (.bool false) w):=by
 have e1: ¬(1048576:Int)<(n1:Int):=by omega
 have e2:decide ((1048576:Int)<(n2:Int))=false:=by simp;omega
 clear h1 h2;go_enter func5,ntmps5;go_wp2;go_ret;exact ⟨rfl,0,rfl⟩
theorem agL (A1:Option Addr) (n1 c1:Nat) (A2:Option Addr) (n2 c2:Nat) (w:World) (h: ¬(n1<=1048576/\n2<=1048576)):
 Calls prog 5 #[.slice A1 n1 c1,.slice A2 n2 c2] w (f' (.bool true) w):=by
 by_cases h1:n1<=1048576
 ·have e1: ¬(1048576:Int)<(n1:Int):=by omega
  have e2:decide ((1048576:Int)<(n2:Int))=true:=by simp;omega
  clear h1 h;go_enter func5,ntmps5;go_wp2;go_ret;exact ⟨rfl,0,rfl⟩
 have e1:(1048576:Int)<(n1:Int):=by omega
 clear h1 h;go_enter func5,ntmps5;go_wp2;go_ret;exact ⟨rfl,0,rfl⟩
open Go.ChangeShapes Go.WideShapes Go.ChangeAt
theorem agM {H:Type} {enc:TypeId×Value->H} {W:World} {v:Value} {d:DataW H} {p:List MemPlace} {r:Reach} {base:Nat} (hv:Value.okWide prog W r base 22 v) (h:DataW.Trod enc prog W 0 (λ_=>true) true 22 v d p):
 ∃A n c,v= .slice A n c/\za W W.heap.size A n:=by
 obtain ⟨A,n,c,rfl⟩:=okWide_slice underlying22 hv;obtain ⟨dP,hf⟩:=h;have aI:=DataW.trod_lt dP _ _ _ hf;rcases open_ints underlying22 underlying5 (by kernel_rfl) hf with ⟨og,_⟩|⟨x,l,c',zs,og,_,hl,hm,hz,_,aC,hwz⟩
 ·simp[Value.cells]at og;obtain ⟨rfl,rfl,rfl⟩:=og;exact ⟨none,0,0,rfl,Nat.zero_le _,λh=>absurd h (Nat.lt_irrefl 0)⟩
 simp[Value.cells]at og;obtain ⟨rfl,rfl,rfl⟩:=og;refine ⟨some x,n,c,rfl,Nat.le_trans hl hm,λhn=>?_⟩;have SY:zs.length=c:=by simpa using hz
 obtain ⟨b,off,spot⟩:=x;have h0:=aC 0 (by omega);have agN:spot=none:=by simpa [Addr.add]using World.cell?_spot h0
 subst agN
 have CX: ∀i,i<zs.length->W.cell? ⟨b,off+i,none⟩=some (.int .u8 (zs.getD i 0)):=λi hi=>by
  have e:(⟨b,off,none⟩:Addr).add i=⟨b,off+i,none⟩:=by
   unfold Addr.add;by_cases h:i=0<;>simp[h]
  rw[<-e];exact aC i hi
 refine ⟨b,off,rfl,?_,λi hi=>?_⟩
 ·have:=CX 0 (by omega);rcases Nat.lt_or_ge b W.heap.size with Ey|eA
  ·exact Ey
  simp[World.cell?,Array.getElem?_eq_none eA]at this
 have iq:zs.getD i 0∈zs:=by
  rw[List.getD_eq_getElem?_getD,List.getElem?_eq_getElem (by omega)];exact List.getElem_mem _
 have hw:=hwz _ iq;have hb:=bounds_u8 hw;refine ⟨(zs.getD i 0).toNat,by omega,?_⟩;rw[CX i (by omega)]
 congr 2
 omega
theorem aeu {w:World} {B b off:Nat} {xs:List Int} (h: ∀(k:Nat) (x:Int),xs[k]?=some x-> ∃us,us.length=1/\Pl ak w B us x/\ ∀(j:Nat) (u:Value),us[j]?=some u->w.cell? ⟨b,off+k*1+j,none⟩=some u) {k:Nat} {x:Int} (hk:xs[k]?=some x):w.cell? ⟨b,off+k,none⟩=some (.int .i64 x):=by
 obtain ⟨us,_,hp,CX⟩:=h k x hk;have hp:us=ak x:=hp;subst hp;have:=CX 0 _ rfl
 rwa [Nat.mul_one,Nat.add_zero]at this
theorem aeV (xs ys:List Int) (w:World) (v1 v2:Value) (h1:cz (Pl ak) 1 w w.heap.size v1 xs) (h2:cz (Pl ak) 1 w w.heap.size v2 ys):
 Calls prog 28 #[v1,v2] w (QC xs ys w):=by
 obtain ⟨A1,c1,rfl,pQ,EU,agO⟩:=h1;obtain ⟨A2,c2,rfl,E4,EV,IQ⟩:=h2;unfold maxLen at EU EV;have agP:=I agO;have agQ:=I IQ;clear agO IQ;by_cases hl:xs.length=ys.length
 ·have hle:((xs.length:Int)==(ys.length:Int))=true:=by simp[hl]
  have hli:(xs.length:Int)<=9223372036854775807:=by omega
  go_enter func28,ntmps28;go_wp2;go_loopw [5] (λi wr=> ∃k:Nat,k<=xs.length/\i= .int .i64 (k:Int)/\xs.take k=ys.take k/\Below w.heap.size w wr) (λi _=>xs.length-(RowKit.intOf i).toNat);case atStart=>exact ⟨0,Nat.zero_le _,rfl,rfl,Below.refl _ _⟩
  case round=>
   obtain ⟨k,hk,rfl,ht,hb⟩:=hrel;have HT:=I ht;clear ht;by_cases aI:k<xs.length
   ·obtain ⟨bU,o1,rfl,bw,aev⟩:=agP.o (by omega);obtain ⟨b2,o2,rfl,cL,vv⟩:=agQ.o (by omega);have g1:xs[k]?=some xs[k]:=List.getElem?_eq_getElem aI;have g2:ys[k]?=some (ys[k]'(by omega)):=List.getElem?_eq_getElem (by omega);have d0:=aeu aev g1;have e0:=aeu vv g2;have z0:=λx:ar wr=>x.cell ((hb.cell (p:=⟨bU,o1+k,none⟩) bw).trans d0);have z1:=λx:ar wr=>x.cell ((hb.cell (p:=⟨b2,o2+k,none⟩) cL).trans e0);have G1:=I g1;have G2:=I g2;clear aev vv d0 e0 g1 g2;have H0:(k:Int)<(ys.length:Int):=by omega
    generalize xs[k]=x at*;generalize (ys[k]'(by omega))=y at*;go_upto_region 6 with (fail)
    by_cases Lr:x=y
    ·have heq:(x==y)=true:=by simp[Lr]
     have HN:=I (ad0 G1.o G2.o HT.o Lr);clear Lr;refine bj (by kernel_rfl) (by kernel_rfl) ?_
     repeat (go_big_quiet_step (fail))
     refine wpQuiet_nil ?_;rintro _ ⟨y,rfl⟩;have bY:=hb.trans (y.ok.mono hb.size);go_wp2;go_roundw;case rel=>exact ⟨k+1,by omega,by go_num,HN.o,bY⟩
     case measure=>simp[RowKit.intOf];omega
    have heq:(x==y)=false:=by simp[Lr]
    have HN:ag (xs≠ys):=I (λe=>Lr (by
     have a:=G1.o;rw[e,G2.o]at a;exact (Option.some.inj a).symm))
    clear Lr;refine bj (by kernel_rfl) (by kernel_rfl) ?_
    repeat (go_big_quiet_step (fail))
    refine wpQuiet_nil ?_;rintro _ ⟨y,rfl⟩;have bY:=hb.trans (y.ok.mono hb.size);go_wp2;go_ret;exact ⟨false,rfl,by simp[HN.o],bY⟩
   have eA: ¬(k:Int)<(xs.length:Int):=by omega
   have HN:ag (xs=ys):=I (by
    have:=HT.o;rw[List.take_of_length_le (by omega),List.take_of_length_le (by omega)]at this;exact this)
   clear hl hk aI;go_wp2;go_ret;exact ⟨true,rfl,by simp[HN.o],hb⟩
 have hle:((xs.length:Int)==(ys.length:Int))=false:=by simp;omega
 have HN:ag (xs≠ys):=I (λe=>hl (by rw[e]));clear hl pQ E4 EU EV agP agQ;generalize xs.length=n1 at hle⊢;generalize ys.length=n2 at hle⊢;go_enter func28,ntmps28;go_wp2;go_ret;exact ⟨false,rfl,by simp[HN.o],Below.refl _ _⟩
def inR (d:Int) (x:qi):Bool:=decide (x.lo<=d)&&decide (d<=x.hi)
theorem I0 {S:List bE} {ls:List bo} {d:Int} (h:eJ S ls) (h0:0<=d) (h1:d<=999):(nU S ls d).isSome=true:=by
 cases e:nU S ls d with
 |none=>exact absurd e (h d h0 h1)
 |some R=>rfl
theorem za.on {w w':World} {B B':Nat} {A:Option Addr} {n:Nat} (h:za w B A n) (hb:Below B w w') (hB:B<=B'):za w' B' A n:=⟨h.1,λh0=>by
 obtain ⟨b,off,rfl,aI,hc⟩:=h.2 h0
 exact ⟨b,off,rfl,by omega,λi hi=>by
  obtain ⟨x,hx,SP⟩:=hc i hi;exact ⟨x,hx,(hb.cell (p:=⟨b,off+i,none⟩) aI).trans SP⟩⟩⟩
theorem zj (L:List Int) (n:Int) (w:World) (v:Value) (h:cz (Pl ak) 1 w w.heap.size v L) (hl:L.length<=1000):
 Calls prog 144 #[v,.int .i64 n] w (Ln L n w):=by
 obtain ⟨A,c,rfl,hc,hm,cn⟩:=h;unfold maxLen at hm;have gH:=I cn;obtain ⟨i0,hi,dK,ez,ek⟩:=info_parts iD;have cN:(w.alloc (.cells #[] 2)).ownsRow w.heap.size 2 1 (.slice (some ⟨w.heap.size,0,none⟩) 0 0) 0 []:=by simpa using World.ownsRow_made w #[] 0 (Nat.le_refl _) (Nat.zero_le _) rfl
 have dY:=I cN;have jT:ag (Below w.heap.size w (w.alloc (.cells #[] 2))):=I ((Below.refl _ _).alloc (Nat.le_refl _) _);clear cn cN;go_enter func144,ntmps144;go_wp2;go_loopw [5,6,7] (λo d i wr=> ∃(k:Nat) (b:Bool) (M:List Int),i= .int .i64 (k:Int)/\d= .bool b/\k<=L.length/\wr.ownsRow w.heap.size 2 1 o M.length (M.flatMap ak)/\o≠ .slice none 0 0/\fP L n k b M/\Below w.heap.size w wr) (λ_ _ i _=>L.length-(RowKit.intOf i).toNat);case atStart=>exact ⟨0,false,[],rfl,rfl,Nat.zero_le _,dY.o,by simp,fP.start L n,jT.o⟩
 case round=>
  obtain ⟨k,b,M,rfl,rfl,hk,cr,nm,hP,hb⟩:=hrel;obtain ⟨g,cap,rfl,SD,nj⟩:=bG cr nm;unfold maxLen at nj;have eH:=I cr;have HB:=I hb;have HP:=I hP;have hML:M.length<=k+1:=by have:=hP.len;split at this<;>omega
  clear cr nm hP;by_cases aI:k<L.length
  ·obtain ⟨bb,off,rfl,bD,aC⟩:=gH.o (by omega);have aH:L[k]?=some L[k]:=List.getElem?_eq_getElem aI;obtain ⟨us,_,hp,CE⟩:=aC k _ aH;have hp:us=ak L[k]:=hp;subst hp;have xE:w.cell? ⟨bb,off+k,none⟩=some (.int .i64 L[k]):=by have:=CE 0 _ rfl;simpa using this
   have x0:=(hb.cell (p:=⟨bb,off+k,none⟩) bD).trans xE;have Mv:=I xE;clear xE;have HK:=I (HP.o.keep aI);clear aC aH CE hb;cases b with
   |true=>
    generalize L[k]=y at*;go_wp2_with (at_builtin;refine wpList_append_own _ rfl _ _ 35 rfl w.heap.size 2 i0 (.int .i64 0) 1 8 underlying35 hi dK ez ek rfl (by decide) _ _ _ rfl (eH.o.alloc _) ⟨wr.heap.size,0,none⟩ 1 1 (ak y) rfl rfl (cell_one_new _ _ _) (λu hu=>cf _ hu) ?c3 ?c4 (aS HB.o.size) ?_);case c3=>unfold maxLen;omega
    case c4=>omega
    intro v' w9 aG aA aU;have mF:v'≠ .slice none 0 0:=by simpa using aU
    have iM:=I ((HB.o.alloc HB.o.size (.cells #[.int .i64 y] 2)).grown aA (aS HB.o.size) (λj hj=>(eH.o.lt j hj).1));clear aA aU;go_wp2;go_roundw;case rel=>exact ⟨k+1,true,_,by go_num,rfl,by omega,by rw[cq,List.length_append];exact aG,mF,HK.o,iM.o⟩
    case measure=>simp[RowKit.intOf];omega
   |false=>
    have HH:=I (λe=>HP.o.hit aI e);have HA:=I (HP.o.add aI);generalize L[k]=y at*;by_cases eA:n<=y
    ·by_cases XR:n<y
     ·go_wp2_with (at_builtin;refine wpList_append_own _ rfl _ _ 35 rfl w.heap.size 2 i0 (.int .i64 0) 1 8 underlying35 hi dK ez ek rfl (by decide) _ _ _ rfl (eH.o.alloc _) ⟨wr.heap.size,0,none⟩ 1 1 (ak n) rfl rfl (cell_one_new _ _ _) (λu hu=>cf _ hu) ?c3 ?c4 (aS HB.o.size) ?_);case c3=>unfold maxLen;omega
      case c4=>omega
      intro v' w8 aG aA aU;have mF:v'≠ .slice none 0 0:=by simpa using aU
      have kx:=I ((HB.o.alloc HB.o.size (.cells #[.int .i64 n] 2)).grown aA (aS HB.o.size) (λj hj=>(eH.o.lt j hj).1));clear aA aU;obtain ⟨g',fq,rfl,qh,lB⟩:=bG aG mF;have I2:=I aG;have x8:=(kx.o.cell (p:=⟨bb,off+k,none⟩) bD).trans Mv.o
      replace I2:ag (w8.ownsRow w.heap.size 2 1 (.slice (some ⟨g',0,none⟩) (M++[n]).length fq) (M++[n]).length ((M++[n]).flatMap ak)):=I (by rw[cq,List.length_append];exact aG)
      have IM:(M++[n]).length=M.length+1:=by simp
      clear aG mF x0;rw[<-IM];generalize M++[n]=M8 at*;unfold maxLen at lB;go_wp2_with (at_builtin;refine wpList_append_own _ rfl _ _ 35 rfl w.heap.size 2 i0 (.int .i64 0) 1 8 underlying35 hi dK ez ek rfl (by decide) _ _ _ rfl (I2.o.alloc _) ⟨w8.heap.size,0,none⟩ 1 1 (ak y) rfl rfl (cell_one_new _ _ _) (λu hu=>cf _ hu) ?c3 ?c4 (aS kx.o.size) ?_);case c3=>unfold maxLen;omega
      case c4=>omega
      intro v' w9 aG aA aU;have mF:v'≠ .slice none 0 0:=by simpa using aU
      have iM:=I ((kx.o.alloc kx.o.size (.cells #[.int .i64 y] 2)).grown aA (aS kx.o.size) (λj hj=>(I2.o.lt j hj).1));clear aA aU;go_wp2;go_roundw;case rel=>exact ⟨k+1,true,_,by go_num,rfl,by omega,by rw[cq,List.length_append,IM];exact aG,mF,HA.o,iM.o⟩
      case measure=>simp[RowKit.intOf];omega
     have QG:y=n:=by omega
     have Ye:=I (HH.o QG);subst QG;go_wp2_with (at_builtin;refine wpList_append_own _ rfl _ _ 35 rfl w.heap.size 2 i0 (.int .i64 0) 1 8 underlying35 hi dK ez ek rfl (by decide) _ _ _ rfl (eH.o.alloc _) ⟨wr.heap.size,0,none⟩ 1 1 (ak y) rfl rfl (cell_one_new _ _ _) (λu hu=>cf _ hu) ?c3 ?c4 (aS HB.o.size) ?_);case c3=>unfold maxLen;omega
     case c4=>omega
     intro v' w9 aG aA aU;have mF:v'≠ .slice none 0 0:=by simpa using aU
     have iM:=I ((HB.o.alloc HB.o.size (.cells #[.int .i64 y] 2)).grown aA (aS HB.o.size) (λj hj=>(eH.o.lt j hj).1));clear aA aU;go_wp2;go_roundw;case rel=>exact ⟨k+1,true,_,by go_num,rfl,by omega,by rw[cq,List.length_append];exact aG,mF,Ye.o,iM.o⟩
     case measure=>simp[RowKit.intOf];omega
    go_wp2_with (at_builtin;refine wpList_append_own _ rfl _ _ 35 rfl w.heap.size 2 i0 (.int .i64 0) 1 8 underlying35 hi dK ez ek rfl (by decide) _ _ _ rfl (eH.o.alloc _) ⟨wr.heap.size,0,none⟩ 1 1 (ak y) rfl rfl (cell_one_new _ _ _) (λu hu=>cf _ hu) ?c3 ?c4 (aS HB.o.size) ?_);case c3=>unfold maxLen;omega
    case c4=>omega
    intro v' w9 aG aA aU;have mF:v'≠ .slice none 0 0:=by simpa using aU
    have iM:=I ((HB.o.alloc HB.o.size (.cells #[.int .i64 y] 2)).grown aA (aS HB.o.size) (λj hj=>(eH.o.lt j hj).1));clear aA aU;go_wp2;go_roundw;case rel=>exact ⟨k+1,false,_,by go_num,rfl,by omega,by rw[cq,List.length_append];exact aG,mF,HK.o,iM.o⟩
    case measure=>simp[RowKit.intOf];omega
  have eA: ¬(k:Int)<(L.length:Int):=by omega
  have di:k=L.length:=by omega
  rw[di]at HP;clear di aI;cases b with
  |true=>
   have HD:=I HP.o.done;have zh:ag (ay ak M w.heap.size wr (.slice (some ⟨g,0,none⟩) M.length cap)):=I (ay.bI ak (size:=1) (λ_=>rfl) eH.o);go_wp2;go_ret;exact ⟨_,M,rfl,zh.o,HD.o.1,HD.o.2,hb⟩
  |false=>
   have HD:=I HP.o.last;go_wp2_with (at_builtin;refine wpList_append_own _ rfl _ _ 35 rfl w.heap.size 2 i0 (.int .i64 0) 1 8 underlying35 hi dK ez ek rfl (by decide) _ _ _ rfl (eH.o.alloc _) ⟨wr.heap.size,0,none⟩ 1 1 (ak n) rfl rfl (cell_one_new _ _ _) (λu hu=>cf _ hu) ?c3 ?c4 (aS HB.o.size) ?_);case c3=>unfold maxLen;omega
   case c4=>omega
   intro v' w9 aG aA aU;have mF:v'≠ .slice none 0 0:=by simpa using aU
   have iM:=I ((HB.o.alloc HB.o.size (.cells #[.int .i64 n] 2)).grown aA (aS HB.o.size) (λj hj=>(eH.o.lt j hj).1));clear aA aU;have zh:ag (ay ak (M++[n]) w.heap.size w9 v'):=I (ay.bI ak (size:=1) (λ_=>rfl) (by rw[cq,List.length_append];exact aG));obtain ⟨q1,q2,rfl,_⟩:=zh.o;clear aG mF;go_wp2;go_ret;exact ⟨_,M++[n],rfl,zh.o,HD.o.1,HD.o.2,iM.o⟩
theorem Bp {ls:List bo} {k:Nat} (h:k<ls.length) (x:Int):x∈eN ls (k+1)↔x∈eN ls k\/(rJ ls[k].a8=true/\x=ls[k].a8)\/(rJ ls[k].fin=true/\x=ls[k].fin):=by
 rw[oY h,List.mem_append,List.mem_filter];simp only[List.mem_cons,List.not_mem_nil,or_false];constructor
 ·rintro (h|⟨rfl|rfl,h⟩)
  ·exact .inl h
  ·exact .inr (.inl ⟨h,rfl⟩)
  exact .inr (.inr ⟨h,rfl⟩)
 rintro (h|⟨h,rfl⟩|⟨h,rfl⟩)
 ·exact .inl h
 ·exact .inr ⟨.inl rfl,h⟩
 exact .inr ⟨.inr rfl,h⟩
def F8 (ls:List bo) (w:World) (e:Ending) (w':World):Prop:=
 ∃v M,e= .returned v/\ay ak M w.heap.size w' v/\(∀x,x∈M↔xC ls x)/\M.length<=1+2*ls.length/\Below w.heap.size w w'
theorem Ds (ls:List bo) (w:World) (v:Value) (h:eE w w.heap.size v ls) (hl:ls.length<=400):
 Calls prog 136 #[v] w (F8 ls w):=by
 obtain ⟨A,c,rfl,hc,hm,cn⟩:=dk h;have gH:=I cn;clear cn h;have SQ:ag (ay ak [0] w.heap.size (w.alloc (.cells #[.int .i64 0] 2)) (.slice (some ⟨w.heap.size,0,none⟩) 1 1)):=I ⟨_,1,rfl,Nat.le_refl _,by unfold maxLen;decide,λ_=>⟨_,rfl,Nat.le_refl _,by simp,Row.new w #[.int .i64 0] 2⟩⟩;have jT:ag (Below w.heap.size w (w.alloc (.cells #[.int .i64 0] 2))):=I ((Below.refl _ _).alloc (Nat.le_refl _) _);go_enter func136,ntmps136;go_wp2;go_loopw [3,4] (λo i wr=> ∃(k:Nat) (M:List Int),i= .int .i64 (k:Int)/\k<=ls.length/\ay ak M w.heap.size wr o/\(∀x,x∈M↔x∈eN ls k)/\M.length<=1+2*k/\Below w.heap.size w wr) (λ_ i _=>ls.length-(RowKit.intOf i).toNat);case atStart=>exact ⟨0,[0],rfl,Nat.zero_le _,SQ.o,(λx=>by simp[eN]),by simp,jT.o⟩
 case round=>
  obtain ⟨k,M,rfl,hk,hO,hM,SR,hb⟩:=hrel;have HO:=I hO;have HB:=I hb;obtain ⟨p1,p2,rfl,_⟩:=hO;by_cases aI:k<ls.length
  ·obtain ⟨b,off,rfl,bD,aC⟩:=gH.o (by omega);have aH:ls[k]?=some ls[k]:=List.getElem?_eq_getElem aI;obtain ⟨pv,c0,c1,_,_⟩:=aC k _ aH;have x0:=(hb.cell (p:=⟨b,off+k*3,none⟩) bD).trans c0;have Mv:=I c0;have FN:=I c1;have HT:=I (λx=>(Bp aI x).trans (or_congr (hM x).symm Iff.rfl));clear aC c0 c1 aH hb hM;generalize ls[k]=a at*;have HD:=I (vy a.a8 wr (rJ a.a8) rfl);cases iq:rJ a.a8 with
   |false=>
    rw[iq]at HD HT;clear iq;go_wp2_with (fail);refine (HD.o).mono ?_;rintro e _ ⟨rfl,q4,rfl⟩;have kC:=I (below_drewN HB.o q4);have QP:=I (HO.o.on (below_drewN (Below.refl wr.heap.size wr) q4));generalize wr.drewN q4=w4 at*;have x5:=(kC.o.cell (p:=⟨b,off+k*3+1,none⟩) bD).trans FN.o;have xG:=I (vy a.fin w4 (rJ a.fin) rfl);cases zk:rJ a.fin with
    |false=>
     rw[zk]at xG HT;clear zk;go_wp2_with (fail);refine (xG.o).mono ?_;rintro e _ ⟨rfl,q5,rfl⟩;have F9:=I (below_drewN kC.o q5);have zl:=I (QP.o.on (below_drewN (Below.refl w4.heap.size w4) q5));generalize w4.drewN q5=w6 at*;go_wp2;go_roundw;case rel=>exact ⟨k+1,M,by go_num,by omega,zl.o,(λx=>by rw[HT.o x];simp),by omega,F9.o⟩
     case measure=>simp[RowKit.intOf];omega
    |true=>
     rw[zk]at xG HT;clear zk;go_wp2_with (fail);refine (xG.o).mono ?_;rintro e _ ⟨rfl,q5,rfl⟩;have F9:=I (below_drewN kC.o q5);have zl:=I (QP.o.on (below_drewN (Below.refl w4.heap.size w4) q5));generalize w4.drewN q5=w6 at*;have x6:=(F9.o.cell (p:=⟨b,off+k*3+1,none⟩) bD).trans FN.o;go_wp2_with (fail);refine (zj M a.fin w6 _ (zl.o.mo (size:=1) (λ_=>rfl)) (by omega)).mono ?_;rintro e w7 ⟨v',N7,rfl,hO,hm,hl,dF⟩;have Uf:=I (hO.less F9.o.size);have Ug:=I (F9.o.trans (dF.mono F9.o.size));have QQ:=I hm;obtain ⟨p1,p2,rfl,_⟩:=hO;clear hm dF;go_wp2;go_roundw;case rel=>exact ⟨k+1,N7,by go_num,by omega,Uf.o,(λx=>by rw[HT.o x,QQ.o x];(simp;exact or_comm)),by omega,Ug.o⟩
     case measure=>simp[RowKit.intOf];omega
   |true=>
    rw[iq]at HD HT;clear iq;go_wp2_with (fail);refine (HD.o).mono ?_;rintro e _ ⟨rfl,q3,rfl⟩;have dI:=I (below_drewN HB.o q3);have Ls:=I (HO.o.on (below_drewN (Below.refl wr.heap.size wr) q3));generalize wr.drewN q3=w3 at*;have x3:=(dI.o.cell (p:=⟨b,off+k*3,none⟩) bD).trans Mv.o;go_wp2_with (fail);refine (zj M a.a8 w3 _ (Ls.o.mo (size:=1) (λ_=>rfl)) (by omega)).mono ?_;rintro e w4 ⟨v',N4,rfl,hO,hm,hl,dF⟩;have QP:=I (hO.less dI.o.size);have kC:=I (dI.o.trans (dF.mono dI.o.size));have Lt:=I hm;obtain ⟨p1,p2,rfl,_⟩:=hO;clear hm dF;have x5:=(kC.o.cell (p:=⟨b,off+k*3+1,none⟩) bD).trans FN.o;have xG:=I (vy a.fin w4 (rJ a.fin) rfl);cases zk:rJ a.fin with
    |false=>
     rw[zk]at xG HT;clear zk;go_wp2_with (fail);refine (xG.o).mono ?_;rintro e _ ⟨rfl,q5,rfl⟩;have F9:=I (below_drewN kC.o q5);have zl:=I (QP.o.on (below_drewN (Below.refl w4.heap.size w4) q5));generalize w4.drewN q5=w6 at*;go_wp2;go_roundw;case rel=>exact ⟨k+1,N4,by go_num,by omega,zl.o,(λx=>by rw[HT.o x];(rw[Lt.o x];simp;exact or_comm)),by omega,F9.o⟩
     case measure=>simp[RowKit.intOf];omega
    |true=>
     rw[zk]at xG HT;clear zk;go_wp2_with (fail);refine (xG.o).mono ?_;rintro e _ ⟨rfl,q5,rfl⟩;have F9:=I (below_drewN kC.o q5);have zl:=I (QP.o.on (below_drewN (Below.refl w4.heap.size w4) q5));generalize w4.drewN q5=w6 at*;have x6:=(F9.o.cell (p:=⟨b,off+k*3+1,none⟩) bD).trans FN.o;go_wp2_with (fail);refine (zj N4 a.fin w6 _ (zl.o.mo (size:=1) (λ_=>rfl)) (by omega)).mono ?_;rintro e w7 ⟨v',N7,rfl,hO,hm,hl,dF⟩;have Uf:=I (hO.less F9.o.size);have Ug:=I (F9.o.trans (dF.mono F9.o.size));have QQ:=I hm;obtain ⟨p1,p2,rfl,_⟩:=hO;clear hm dF;go_wp2;go_roundw;case rel=>exact ⟨k+1,N7,by go_num,by omega,Uf.o,(λx=>by rw[HT.o x,QQ.o x];(rw[Lt.o x];simp;by_cases z1:x=a.a8<;>by_cases z2:x=a.fin<;>by_cases z3:x∈M<;>simp[z1,z2,z3])),by omega,Ug.o⟩
     case measure=>simp[RowKit.intOf];omega
  have eA: ¬(k:Int)<(ls.length:Int):=by omega
  have di:k=ls.length:=by omega
  have I4:ag (∀x,x∈M↔xC ls x):=I (λx=>by rw[hM x,di,vx]);clear di hM aI;go_wp2;go_ret;exact ⟨_,M,rfl,HO.o,I4.o,by omega,hb⟩
end Go.Proofs.YtbcggaldkihcaaaGreatDoor
