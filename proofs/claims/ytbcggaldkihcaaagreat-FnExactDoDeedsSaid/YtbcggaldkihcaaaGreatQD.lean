/- The statute of a day, the program's, walked. A patch applied, the reference's, walked. -/
import Derived.Test.YtbcggaldkihcaaaGreatQC
import Derived.Maps.AppendAt
import Derived.Test.YtbcggaldkihcaaaGreatShelfT
import Derived.OwnWalk
import Derived.Test.YtbcggaldkihcaaaGreatQB
import Derived.ProofKit
import Derived.OpenShut
import Derived.Below
set_option maxHeartbeats 8000000
set_option maxRecDepth 100000
namespace Go.Proofs.YtbcggaldkihcaaaGreat
open Tryz
open Go.RowKit Go.Lib
theorem aa6:type_of% @Iff.rfl:=@Iff.rfl
theorem aaZ:type_of% @and_true:=@and_true
theorem aj2:type_of% @Nat.eq_zero_or_pos:=@Nat.eq_zero_or_pos
theorem aam:type_of% @Nat.le_of_eq:=@Nat.le_of_eq
theorem aaH:type_of% @Go.wpList_append_own_at:=@Go.wpList_append_own_at
theorem ab3:type_of% @Nat.lt_succ_of_lt:=@Nat.lt_succ_of_lt
theorem aj0:type_of% @Go.DataW.trod_lt:=@Go.DataW.trod_lt
theorem vu {R T:List bE} {P:List aV} (hR:cd R=true) (hP:bF P=true) (h:fT R P=some T):cd T=true:=(FH (jD.of hR) hP h).1
theorem Bh (S:List bE) (ls:List bo) (day:Int) (w:World) (vs va:Value) (hS:iT w w.heap.size vs S) (hA:eE w w.heap.size va ls) (cy:cd S=true) (hp:bJ ls=true):
 Calls prog 112 #[vs,va,.int .i64 day] w (IL S ls day w):=by
 have IM:=eM hp;have Wg:=lz cy;have bW:=(aae w.heap.size w).alloc (aad _) (.cells #[] 139);have FR:=I (cz.on hS (Pl.stays _) bW bW.size);have HA:=I (λw' (hb:Below w.heap.size w w')=>hA.on hb hb.size);have ii:=I cy;have HP:=I hp;have jT:=I bW;have cN:(w.alloc (.cells #[] 139)).ownsRow w.heap.size 139 2 (.slice (some ⟨w.heap.size,0,none⟩) 0 0) 0 []:=by simpa using aaz w #[] 0 (aad _) (aaf _) rfl
 have dY:=I cN;obtain ⟨A,c,rfl,hc,hm,cn⟩:=dk hA;have gH:=I cn;obtain ⟨T,tc,rfl,_⟩:=hS;obtain ⟨i0,hi,dK,ez,ek⟩:=aaq oQ;clear cn cy hp bW cN hA;go_enter func112,ntmps112;go_wp2_with (at_builtin;refine eI ai rfl _ _ 25 rfl w.heap.size 139 i0 (.agg #[.int .i64 0,.string ⟨#[]⟩]) 2 24 underlying25 hi dK ez ek rfl (by decide) _ _ _ rfl dY.o _ S _ rfl FR.o (λ_=>rfl) (λy u hu=>eU hu) ?c3 ?c4 jT.o.size ?_);case c3=>unfold maxLen;omega
 case c4=>omega
 intro o1 w1 fe gC uv;have jh:ag (ay ai S w.heap.size w1 o1):=I (ay.bI ai (size:=2) (λ_=>rfl) (by simpa using fe));have da:ag (Below w.heap.size w w1):=I (jT.o.grown gC jT.o.size (λj hj=>(dY.o.lt j hj).1));have HF:=I (Dg ls day w1 _ (HA.o w1 da.o) (by omega));obtain ⟨A1,c1,rfl,_⟩:=jh.o;clear fe gC uv;go_wp2_with (fail);refine (HF.o).mono ?_;rintro e w2 ⟨v2,rfl,xa,cL⟩;have dy:ag (Below w.heap.size w w2):=I (da.o.trans (cL.mono da.o.size));have ju:ag (ay ai S w.heap.size w2 (.slice A1 S.length c1)):=I (jh.o.on cL);have NT:ag (∀w':World,Below w2.heap.size w2 w'->cz (Pl ak) 1 w' w'.heap.size v2 (de ls day)):=I (λw' hb=>(xa.on hb).mo (size:=1) (λ_=>rfl));have PI:(de ls day).length<=ls.length:=nr ls day ls.length;obtain ⟨A2,c2,rfl,_⟩:=xa;clear cL HF;go_wp2;go_loopw [8,9,11,19] (λo k _ i wr=> ∃(k:Nat) (R:List bE),i= .int .i64 (k:Int)/\k<=(de ls day).length/\Hi S ls day k=some R/\ay ai R w.heap.size wr o/\cd R=true/\Below w2.heap.size w2 wr) (λ_ _ _ i _=>(de ls day).length-(intOf i).toNat);case atStart=>exact ⟨0,S,rfl,aaf _,rfl,ju.o,ii.o,aae _ _⟩
 case round=>
  obtain ⟨k,R,rfl,hk,oU,cr,IP,hb⟩:=hrel;have HB:=I hb;have Dh:=I oU;have FW:=I IP;have eH:=I cr;obtain ⟨A3,c3,rfl,_⟩:=cr;clear oU IP;by_cases aI:k<(de ls day).length
  ·obtain ⟨A',c',hv,_,_,IQ⟩:=NT.o wr hb;injection hv with Dc Hj TW
   subst Dc TW;obtain ⟨b2,NU,rfl,QF,vv⟩:=IQ (by omega);have oV:(de ls day)[k]?=some (de ls day)[k]:=aag aI;obtain ⟨us,_,hp,CE⟩:=vv k _ oV;have hp:us=ak (de ls day)[k]:=hp;subst hp;have x9:wr.cell? ⟨b2,NU+k,none⟩=some (.int .i64 (de ls day)[k]):=by have:=CE 0 _ rfl;simpa using this
   obtain ⟨j,hj,yb⟩:=yo oV;rw[hj]at x9 oV;obtain ⟨b,off,rfl,bD,aC⟩:=gH.o (by omega);have aH:ls[j]?=some ls[j]:=aag yb;obtain ⟨pv,_,_,d2,hE⟩:=aC j _ aH;have qf:=dy.o.trans (hb.mono dy.o.size);have x2:=(qf.cell (p:=⟨b,off+j*3+2,none⟩) bD).trans d2;have Lk:bg wr wr.heap.size pv ls[j].pat:=cz.on hE (Pl.stays _) qf qf.size;have CF:=I (ep.1 (fj HP.o aH)).pat;have lE:ag (Hi S ls day (k+1)=fT R ls[j].pat):=I (by rw[AX oV,Dh.o,Bg R aH]);have FX:=I (AR R ls[j].pat wr _ _ (eH.o.mo (size:=2) (λ_=>rfl)) Lk FW.o CF.o);have iG:=I (λT=>vu (T:=T) FW.o CF.o);generalize ls[j].pat=P at*;obtain ⟨pA,pc,rfl,_⟩:=Lk;clear IQ vv oV CE hj aC aH d2 hE hb Hj qf;go_wp2_with (fail);refine (FX.o).mono ?_;rintro e w3 ⟨v3,rfl,KK,⟨A4,n4,c4,rfl⟩,dB⟩;have dI:=I (HB.o.trans (dB.mono HB.o.size));cases hr:fT R P with
   |none=>
    have hY:ag (nU S ls day=none):=I (AY (lE.o.trans hr));clear hr KK dB;go_wp2;go_ret2;exact ⟨_,by rw[hY.o];rfl,(λR h=>by rw[hY.o]at h;cases h),⟨_,_,_,rfl⟩,dy.o.trans (dI.o.mono dy.o.size)⟩
   |some T=>
    have HT:=I ((KK T hr).less (dy.o.trans (HB.o.mono dy.o.size)).size);have NV:ag (Hi S ls day (k+1)=some T):=I (lE.o.trans hr);have NW:=I (iG.o T hr);clear hr KK dB;go_wp2;go_roundw;case rel=>exact ⟨k+1,T,by go_num,by omega,NV.o,HT.o,NW.o,dI.o⟩
    case measure=>simp[intOf];omega
  have eA: ¬(k:Int)<((de ls day).length:Int):=by omega
  have eB:ag (nU S ls day=some R):=I (by rw[<-ET (k:=k) (by omega)];exact Dh.o);clear aI hb;go_wp2;go_ret2;exact ⟨_,by rw[eB.o];rfl,(λT h=>by rw[eB.o]at h;injection h with h;subst h;exact ⟨eH.o,FW.o⟩),⟨_,_,_,rfl⟩,dy.o.trans (HB.o.mono dy.o.size)⟩
def iW (S:List bE) (P:List aV) (n:Nat):List bE:=
 (List.range n).filterMap (λj:Nat=>if (target S P ((j:Int)+1)).toList=[]then none else some ⟨(j:Int)+1,target S P ((j:Int)+1)⟩)
theorem FY {S:List bE} {P:List aV} {n:Nat} (h:(target S P ((n:Int)+1)).toList=[]):iW S P (n+1)=iW S P n:=by
 unfold iW;rw[List.range_succ,List.filterMap_append];simp[h]
theorem Di {S:List bE} {P:List aV} {n:Nat} (h:(target S P ((n:Int)+1)).toList≠[]):iW S P (n+1)=iW S P n++[⟨(n:Int)+1,target S P ((n:Int)+1)⟩]:=by
 unfold iW;rw[List.range_succ,List.filterMap_append];simp[h]
theorem Dj (S:List bE) (P:List aV) (n:Nat):(iW S P n).length<=n:=by
 unfold iW;exact aaB (List.length_filterMap_le _ _) (by simp)
def Bi (S:List bE) (P:List aV) (i:Int):Prop:=(bQ P i).kind≠0->(bC S i).toList=(bQ P i).dA.toList
theorem FZ {S:List bE} {P:List aV} {i:Int} (h1:(bQ P i).kind≠0) (h2:(bC S i).toList≠(bQ P i).dA.toList):fT S P=none:=by
 apply yf;rw[abF];intro hf;rcases rB P i with ⟨hm,hi⟩|⟨hn,_⟩
 ·have:=rD.1 hf _ hm;rw[hi]at this;exact h2 (by rw[this])
 rw[hn]at h1;exact h1 rfl
theorem Ll {S:List bE} {P:List aV} (hP:bF P=true) (h: ∀j:Nat,j<99->Bi S P ((j:Int)+1)):fits S P=true:=by
 obtain ⟨ha,hr,_⟩:=(fO P).1 hP;rw[rD];intro e he;obtain ⟨h1,h2,hk⟩:=gy (ha e he);have NY:bQ P e.id=e:=u9 hr he;have:=h (e.id-1).toNat (by omega);have e1:(((e.id-1).toNat:Nat):Int)+1=e.id:=by omega
 rw[e1]at this;have:=this (by rw[NY];omega);rw[NY]at this;rw[<-gO (bC S e.id),this,gO]
theorem Dk (S:List bE) (P:List aV) (w:World) (vs vp:Value) (hS:iT w w.heap.size vs S) (hE:bg w w.heap.size vp P) (hp:bF P=true):
 Calls prog 178 #[vs,vp] w (EO S P w):=by
 have HS:=I (λw' (hb:Below w.heap.size w w') (q:Int)=>FK S q w' vs (cz.on hS (Pl.stays _) hb hb.size));have HE:=I (λw' (hb:Below w.heap.size w w') (q:Int)=>AL P q w' vp (cz.on hE (Pl.stays _) hb hb.size));have HP:=I hp;have bW:=(aae w.heap.size w).alloc (aad _) (.cells #[] 139);have jT:=I bW;have cN:(w.alloc (.cells #[] 139)).ownsRow w.heap.size 139 2 (.slice (some ⟨w.heap.size,0,none⟩) 0 0) 0 []:=by simpa using aaz w #[] 0 (aad _) (aaf _) rfl
 have dY:=I cN;obtain ⟨A,c,rfl,_⟩:=hS;obtain ⟨A2,c2,rfl,_⟩:=hE;obtain ⟨i0,hi,dK,ez,ek⟩:=aaq oQ;clear hp bW cN;go_enter func178,ntmps178;go_wp2;go_loopw [6,7] (λo i wr=> ∃(j:Nat),i= .int .i64 ((j:Int)+1)/\j<=99/\wr.ownsRow w.heap.size 139 2 o (iW S P j).length ((iW S P j).flatMap ai)/\o≠ .slice none 0 0/\(∀m:Nat,m<j->Bi S P ((m:Int)+1))/\Below w.heap.size w wr) (λ_ i _=>100-(intOf i).toNat);case atStart=>exact ⟨0,rfl,aaf _,dY.o,by simp,(λm h=>absurd h (aa' _)),jT.o⟩
 case round=>
  obtain ⟨j,rfl,hj,cr,nm,iS,hb⟩:=hrel;obtain ⟨g,cap,rfl,SD,nj⟩:=bG cr nm;unfold maxLen at nj;have eH:=I cr;have Mt:=I iS;have HB:=I hb;have qg:=Dj S P j;clear cr nm iS hb;by_cases aI:j<99
  ·have hc:(j:Int)+1<=99:=by omega
   have HF:=I (HS.o wr HB.o ((j:Int)+1));have HT:ag (target S P ((j:Int)+1)=if (bQ P ((j:Int)+1)).kind=0 then bC S ((j:Int)+1)else (bQ P ((j:Int)+1)).new):=I rfl;have hY:=I (λh=>FY (S:=S) (P:=P) (n:=j) h);have xB:=I (λh=>Di (S:=S) (P:=P) (n:=j) h);have cB:=I (λh1 h2=>FZ (S:=S) (P:=P) (i:=(j:Int)+1) h1 h2);have Mu:ag (Bi S P ((j:Int)+1)↔((bQ P ((j:Int)+1)).kind≠0->(bC S ((j:Int)+1)).toList=(bQ P ((j:Int)+1)).dA.toList)):=I aa6
   have js:ag (Bi S P ((j:Int)+1)-> ∀m:Nat,m<j+1->Bi S P ((m:Int)+1)):=I (λh m hm=>by
    by_cases e:m=j
    ·rw[e];exact h
    exact Mt.o m (by omega))
   go_wp2_with (fail);refine (HF.o).mono ?_;rintro e' w1 ⟨rfl,m,rfl⟩;have da:=I (below_drewN HB.o m);have uJ:=I (HE.o _ da.o ((j:Int)+1));have gW:=I (aT eH.o (below_drewN (aae wr.heap.size wr) m));generalize bC S ((j:Int)+1)=F at*;generalize bQ P ((j:Int)+1)=e at*;generalize iW S P j=Z at*;clear HF;go_wp2_with (fail);refine (uJ.o).mono ?_;rintro e' w2 ⟨rfl,cL⟩;have dy:=I (da.o.trans (cL.mono da.o.size));have l9:=I (aT gW.o cL);clear uJ cL;unfold Hz;by_cases jA:e.kind=0
   ·have e0:(e.kind==0)=true:=by simp[jA]
    replace js:=I (js.o (Mu.o.2 (λh=>absurd jA h)))
    have hT:=HT.o;rw[aaj jA]at hT;rw[hT]at hY xB;clear jA cB;by_cases hn:F.toList=[]
    ·have en:(F.toList==[])=true:=by simp[hn]
     replace hY:=I (hY.o hn)
     clear xB hn;go_wp2;go_roundw;case rel=>exact ⟨j+1,by go_num,by omega,by rw[hY.o];exact l9.o.alloc _,by simp,js.o,dy.o.alloc dy.o.size _⟩
     case measure=>simp[intOf];omega
    have en:(F.toList==[])=false:=by simp[hn]
    replace xB:=I (xB.o hn)
    clear hY hn;have j5:=(l9.o.lt g rfl).2;go_wp2_with (at_builtin;refine abg _ rfl _ _ 25 rfl w.heap.size 139 i0 (.agg #[.int .i64 0,.string ⟨#[]⟩]) 2 24 underlying25 hi dK ez ek rfl (by decide) _ _ _ rfl ((l9.o.alloc _).alloc _) ⟨w2.heap.size+1,0,none⟩ 1 1 (ai ⟨(j:Int)+1,F⟩) rfl rfl (λj u hj=>kN hj) (λu hu=>eU hu) ?c3 ?c4 (aS (aS dy.o.size)) ?_);case c3=>unfold maxLen;omega
    case c4=>omega
    intro v' w9 aG aA aU;have mF:v'≠ .slice none 0 0:=by simpa using aU
    have wZ:=((dy.o.alloc dy.o.size (.cells #[.int .i64 e.kind,.int .i64 e.id,.string e.dA,.string e.new] 174)).alloc (aS dy.o.size) (.cells #[.int .i64 ((j:Int)+1),.string F] 139)).grown aA (aS (aS dy.o.size)) (λj hj=>(l9.o.lt j hj).1);clear aA aU;go_wp2;go_roundw;case rel=>exact ⟨j+1,by go_num,by omega,by rw[xB.o,abf,aak];simpa using aG,mF,js.o,wZ⟩
    case measure=>simp[intOf];omega
   have e0:(e.kind==0)=false:=by simp[jA]
   by_cases hf:F.toList=e.dA.toList
   ·have ef:(F.toList==e.dA.toList)=true:=by simp[hf]
    replace js:=I (js.o (Mu.o.2 (λ_=>hf)))
    have hT:=HT.o;rw[aah jA]at hT;rw[hT]at hY xB;clear jA cB hf;by_cases hn:e.new.toList=[]
    ·have en:(e.new.toList==[])=true:=by simp[hn]
     replace hY:=I (hY.o hn)
     clear xB hn;go_wp2;go_roundw;case rel=>exact ⟨j+1,by go_num,by omega,by rw[hY.o];exact l9.o.alloc _,by simp,js.o,dy.o.alloc dy.o.size _⟩
     case measure=>simp[intOf];omega
    have en:(e.new.toList==[])=false:=by simp[hn]
    replace xB:=I (xB.o hn)
    clear hY hn;have j5:=(l9.o.lt g rfl).2;go_wp2_with (at_builtin;refine abg _ rfl _ _ 25 rfl w.heap.size 139 i0 (.agg #[.int .i64 0,.string ⟨#[]⟩]) 2 24 underlying25 hi dK ez ek rfl (by decide) _ _ _ rfl ((l9.o.alloc _).alloc _) ⟨w2.heap.size+1,0,none⟩ 1 1 (ai ⟨(j:Int)+1,e.new⟩) rfl rfl (λj u hj=>kN hj) (λu hu=>eU hu) ?c3 ?c4 (aS (aS dy.o.size)) ?_);case c3=>unfold maxLen;omega
    case c4=>omega
    intro v' w9 aG aA aU;have mF:v'≠ .slice none 0 0:=by simpa using aU
    have wZ:=((dy.o.alloc dy.o.size (.cells #[.int .i64 e.kind,.int .i64 e.id,.string e.dA,.string e.new] 174)).alloc (aS dy.o.size) (.cells #[.int .i64 ((j:Int)+1),.string e.new] 139)).grown aA (aS (aS dy.o.size)) (λj hj=>(l9.o.lt j hj).1);clear aA aU;go_wp2;go_roundw;case rel=>exact ⟨j+1,by go_num,by omega,by rw[xB.o,abf,aak];simpa using aG,mF,js.o,wZ⟩
    case measure=>simp[intOf];omega
   have ef:(F.toList==e.dA.toList)=false:=by simp[hf]
   replace cB:=I (cB.o jA hf)
   clear jA hf;go_wp2;go_ret2;exact ⟨_,by rw[cB.o];rfl,(λR h=>by rw[cB.o]at h;cases h),⟨_,_,_,rfl⟩,dy.o.alloc dy.o.size _⟩
  have hc: ¬(j:Int)+1<=99:=by omega
  have SI:=I (Ll HP.o (λm hm=>Mt.o m (by omega)));have X6:ag (iW S P j=ni S P):=I (by rw[show j=99 from by omega];rfl);have zh:=I (ay.bI ai (size:=2) (λ_=>rfl) eH.o)
  have Wj:ag (fT S P=if (iW S P j).length<=8 then some (iW S P j)else none):=I (by
   rw[X6.o];unfold fT;rw[SI.o];simp)
  generalize iW S P j=Z at*;clear aI;by_cases h8:Z.length<=8
  ·have e8:decide ((Z.length:Int)<=8)=true:=by simp;omega
   have HS:ag (fT S P=some Z):=I (by rw[Wj.o,aaj h8]);clear h8;go_wp2;go_ret2;exact ⟨.slice (some ⟨g,0,none⟩) Z.length cap,by rw[HS.o];simp,(λR h=>by rw[HS.o]at h;injection h with h;subst h;exact zh.o),⟨_,_,_,rfl⟩,HB.o⟩
  have e8:decide ((Z.length:Int)<=8)=false:=by simp;omega
  have HS:ag (fT S P=none):=I (by rw[Wj.o,aah h8]);clear h8;go_wp2;go_ret2;exact ⟨.slice (some ⟨g,0,none⟩) Z.length cap,by rw[HS.o];simp,(λR h=>by rw[HS.o]at h;cases h),⟨_,_,_,rfl⟩,HB.o⟩
theorem Lm (S:List bE) (ls:List bo) (day:Int) (w:World) (vs va:Value) (hS:iT w w.heap.size vs S) (hA:eE w w.heap.size va ls) (cy:cd S=true) (hp:bJ ls=true):
 Calls prog 145 #[vs,va,.int .i64 day] w (IL S ls day w):=by
 have IM:=eM hp;have Wg:=lz cy;have bW:=(aae w.heap.size w).alloc (aad _) (.cells #[] 139);have FR:=I (cz.on hS (Pl.stays _) bW bW.size);have HA:=I (λw' (hb:Below w.heap.size w w')=>hA.on hb hb.size);have ii:=I cy;have HP:=I hp;have jT:=I bW;have cN:(w.alloc (.cells #[] 139)).ownsRow w.heap.size 139 2 (.slice (some ⟨w.heap.size,0,none⟩) 0 0) 0 []:=by simpa using aaz w #[] 0 (aad _) (aaf _) rfl
 have dY:=I cN;obtain ⟨A,c,rfl,hc,hm,cn⟩:=dk hA;have gH:=I cn;obtain ⟨T,tc,rfl,_⟩:=hS;obtain ⟨i0,hi,dK,ez,ek⟩:=aaq oQ;clear cn cy hp bW cN hA;go_enter func145,ntmps145;go_wp2_with (at_builtin;refine eI ai rfl _ _ 25 rfl w.heap.size 139 i0 (.agg #[.int .i64 0,.string ⟨#[]⟩]) 2 24 underlying25 hi dK ez ek rfl (by decide) _ _ _ rfl dY.o _ S _ rfl FR.o (λ_=>rfl) (λy u hu=>eU hu) ?c3 ?c4 jT.o.size ?_);case c3=>unfold maxLen;omega
 case c4=>omega
 intro o1 w1 fe gC uv;have jh:ag (ay ai S w.heap.size w1 o1):=I (ay.bI ai (size:=2) (λ_=>rfl) (by simpa using fe));have da:ag (Below w.heap.size w w1):=I (jT.o.grown gC jT.o.size (λj hj=>(dY.o.lt j hj).1));have HF:=I (Df ls day w1 _ (HA.o w1 da.o) (by omega));obtain ⟨A1,c1,rfl,_⟩:=jh.o;clear fe gC uv;go_wp2_with (fail);refine (HF.o).mono ?_;rintro e w2 ⟨v2,rfl,xa,cL⟩;have dy:ag (Below w.heap.size w w2):=I (da.o.trans (cL.mono da.o.size));have ju:ag (ay ai S w.heap.size w2 (.slice A1 S.length c1)):=I (jh.o.on cL);have NT:ag (∀w':World,Below w2.heap.size w2 w'->cz (Pl ak) 1 w' w'.heap.size v2 (de ls day)):=I (λw' hb=>(xa.on hb).mo (size:=1) (λ_=>rfl));have PI:(de ls day).length<=ls.length:=nr ls day ls.length;obtain ⟨A2,c2,rfl,_⟩:=xa;clear cL HF;go_wp2;go_loopw [8,10] (λo i wr=> ∃(k:Nat) (R:List bE),i= .int .i64 (k:Int)/\k<=(de ls day).length/\Hi S ls day k=some R/\ay ai R w.heap.size wr o/\cd R=true/\Below w2.heap.size w2 wr) (λ_ i _=>(de ls day).length-(intOf i).toNat);case atStart=>exact ⟨0,S,rfl,aaf _,rfl,ju.o,ii.o,aae _ _⟩
 case round=>
  obtain ⟨k,R,rfl,hk,oU,cr,IP,hb⟩:=hrel;have HB:=I hb;have Dh:=I oU;have FW:=I IP;have eH:=I cr;obtain ⟨A3,c3,rfl,_⟩:=cr;clear oU IP;by_cases aI:k<(de ls day).length
  ·obtain ⟨A',c',hv,_,_,IQ⟩:=NT.o wr hb;injection hv with Dc Hj TW
   subst Dc TW;obtain ⟨b2,NU,rfl,QF,vv⟩:=IQ (by omega);have oV:(de ls day)[k]?=some (de ls day)[k]:=aag aI;obtain ⟨us,_,hp,CE⟩:=vv k _ oV;have hp:us=ak (de ls day)[k]:=hp;subst hp;have x9:wr.cell? ⟨b2,NU+k,none⟩=some (.int .i64 (de ls day)[k]):=by have:=CE 0 _ rfl;simpa using this
   obtain ⟨j,hj,yb⟩:=yo oV;rw[hj]at x9 oV;obtain ⟨b,off,rfl,bD,aC⟩:=gH.o (by omega);have aH:ls[j]?=some ls[j]:=aag yb;obtain ⟨pv,_,_,d2,hE⟩:=aC j _ aH;have qf:=dy.o.trans (hb.mono dy.o.size);have x2:=(qf.cell (p:=⟨b,off+j*3+2,none⟩) bD).trans d2;have Lk:bg wr wr.heap.size pv ls[j].pat:=cz.on hE (Pl.stays _) qf qf.size;have CF:=I (ep.1 (fj HP.o aH)).pat;have lE:ag (Hi S ls day (k+1)=fT R ls[j].pat):=I (by rw[AX oV,Dh.o,Bg R aH]);have FX:=I (Dk R ls[j].pat wr _ _ (eH.o.mo (size:=2) (λ_=>rfl)) Lk CF.o);have iG:=I (λT=>vu (T:=T) FW.o CF.o);generalize ls[j].pat=P at*;obtain ⟨pA,pc,rfl,_⟩:=Lk;clear IQ vv oV CE hj aC aH d2 hE hb Hj qf;go_wp2_with (fail);refine (FX.o).mono ?_;rintro e w3 ⟨v3,rfl,KK,⟨A4,n4,c4,rfl⟩,dB⟩;have dI:=I (HB.o.trans (dB.mono HB.o.size));cases hr:fT R P with
   |none=>
    have hY:ag (nU S ls day=none):=I (AY (lE.o.trans hr));clear hr KK dB;go_wp2;go_ret2;exact ⟨_,by rw[hY.o];rfl,(λR h=>by rw[hY.o]at h;cases h),⟨_,_,_,rfl⟩,dy.o.trans (dI.o.mono dy.o.size)⟩
   |some T=>
    have HT:=I ((KK T hr).less (dy.o.trans (HB.o.mono dy.o.size)).size);have NV:ag (Hi S ls day (k+1)=some T):=I (lE.o.trans hr);have NW:=I (iG.o T hr);clear hr KK dB;go_wp2;go_roundw;case rel=>exact ⟨k+1,T,by go_num,by omega,NV.o,HT.o,NW.o,dI.o⟩
    case measure=>simp[intOf];omega
  have eA: ¬(k:Int)<((de ls day).length:Int):=by omega
  have eB:ag (nU S ls day=some R):=I (by rw[<-ET (k:=k) (by omega)];exact Dh.o);clear aI hb;go_wp2;go_ret2;exact ⟨_,by rw[eB.o];rfl,(λT h=>by rw[eB.o]at h;injection h with h;subst h;exact ⟨eH.o,FW.o⟩),⟨_,_,_,rfl⟩,dy.o.trans (HB.o.mono dy.o.size)⟩
def aet (B:Nat) (w:World) (b k:Nat) (e:Ending) (w':World):Prop:=
 ∃v P,e= .returned v/\w'.ownsRow w.heap.size 174 4 v P.length (P.flatMap ah)/\v≠ .slice none 0 0/\bF P=true/\Src B w' b k/\iJ b w w'
def ad3 (B:Nat) (w:World) (b k:Nat) (e:Ending) (w':World):Prop:=
 ∃x:Int,e= .returned (.int .i64 x)/\Src B w' b k/\iJ b w w'
def af3 (B:Nat) (w:World) (b k:Nat) (e:Ending) (w':World):Prop:=
 ∃v P,e= .returned v/\ay ah P w.heap.size w' v/\bS P/\Src B w' b k/\iJ b w w'
theorem ay.apart {α:Type} {f:α->List Value} {xs:List α} {base b:Nat} {w w':World} {v:Value} (h:ay f xs base w v) (ho:iJ b w w') (gm:xs≠[]->v.ownBlock≠some b):ay f xs base w' v:=by
 obtain ⟨A,c,rfl,h1,h2,h3⟩:=h;refine ⟨A,c,rfl,h1,h2,λh0=>?_⟩;obtain ⟨g,rfl,hg,aI,hr⟩:=h3 h0;exact ⟨g,rfl,hg,aar aI ho.size,hr.only aI (λe=>gm h0 (by rw[<-e];rfl)) ho⟩
theorem ay.dR {α:Type} {f:α->List Value} {xs:List α} {base:Nat} {w:World} {v:Value} (h:ay f xs base w v) (h0:xs≠[]): ∃g,v.ownBlock=some g/\base<=g/\g<w.heap.size:=by
 obtain ⟨A,c,rfl,h1,h2,h3⟩:=h;obtain ⟨g,rfl,hg,aI,_⟩:=h3 h0;exact ⟨g,rfl,hg,aI⟩
structure dL (base:Nat) (w:World) (S T:List bE) (vs vt:Value) (g cap:Nat) (L:List bu):Prop where
 s:ay ai S base w vs
 sn:S≠[]->vs.ownBlock≠some g
 t:ay ai T base w vt
 tn:T≠[]->vt.ownBlock≠some g
 row:w.ownsRow base 141 3 (.slice (some ⟨g,0,none⟩) L.length cap) L.length (L.flatMap cu)
 nt: ∀x∈L,ay ah x.a.pat base w x.v/\(x.a.pat≠[]->x.v.ownBlock≠some g)/\bS x.a.pat
theorem dL.only {base b:Nat} {w w':World} {S T:List bE} {vs vt:Value} {g cap:Nat} {L:List bu} (h:dL base w S T vs vt g cap L) (hb:b<base) (ho:iJ b w w'):dL base w' S T vs vt g cap L:=
 ⟨h.s.only hb ho,h.sn,h.t.only hb ho,h.tn,Iq h.row hb ho,λx hx=>⟨(h.nt x hx).1.only hb ho,(h.nt x hx).2⟩⟩
theorem dL.push {base:Nat} {w w':World} {S T:List bE} {vs vt:Value} {g cap g' fq:Nat} {L:List bu} {x:bu} (h:dL base w S T vs vt g cap L) (hg:w.grownBy w' (some g))
 (gd:g'=g\/g'=w.heap.size) (bi:w'.ownsRow base 141 3 (.slice (some ⟨g',0,none⟩) (L.length+1) fq) (L.length+1) (L.flatMap cu++cu x))
 (hx:ay ah x.a.pat base w x.v) (F0:x.a.pat≠[]->x.v.ownBlock≠some g) (TX:bS x.a.pat):dL base w' S T vs vt g' fq (L++[x]):=by
 have gm: ∀{α:Type} {f:α->List Value} {xs:List α} {v:Value},ay f xs base w v->(xs≠[]->v.ownBlock≠some g)->xs≠[]->v.ownBlock≠some g':=λho hn h0 e=>by
  rcases gd with e'|e'
  ·rw[e']at e;exact hn h0 e
  obtain ⟨k,hk,_,aI⟩:=ho.dR h0;rw[hk]at e;injection e with e
  omega
 refine ⟨h.s.apart hg h.sn,gm h.s h.sn,h.t.apart hg h.tn,gm h.t h.tn,by simpa using bi,λy hy=>?_⟩;rcases aau.1 hy with hy|hy
 ·obtain ⟨p1,p2,p3⟩:=h.nt y hy;exact ⟨p1.apart hg p2,gm p1 p2,p3⟩
 rw[aas.1 hy];exact ⟨hx.apart hg F0,gm hx F0,TX⟩
theorem dL.av {base:Nat} {w:World} {S T:List bE} {vs vt:Value} {g cap:Nat} {L:List bu} (h:dL base w S T vs vt g cap L):eE w w.heap.size (.slice (some ⟨g,0,none⟩) L.length cap) (L.map (·.a)):=
 ⟨L,rfl,cz.bI cu (size:=3) (λ_=>rfl) h.row,λx hx=>(h.nt x hx).1.mo (size:=4) (λ_=>rfl)⟩
theorem oW {w:World} {base g n cap size:Nat} {e:TypeId} {xs:List Value} (h:w.ownsRow base e size (.slice (some ⟨g,0,none⟩) n cap) n xs) {j:Nat} {u:Value} (hj:xs[j]?=some u):w.cell? ⟨g,j,none⟩=some u/\w.frozen? ⟨g,j,none⟩=false:=by
 obtain ⟨T,hB,_⟩:=dH h;have aI:=(aal.1 hj).1;refine ⟨?_,hB.free (by rw[aak];omega)⟩;rw[hB.cell,aaW aI,hj]
theorem F1 {w:World} {base g n cap size:Nat} {e:TypeId} {xs:List Value} (h:w.ownsRow base e size (.slice (some ⟨g,0,none⟩) n cap) n xs) (j:Nat) (hj:j<xs.length) (u:Value) (hu:u.oneCell'=true):
 (w.setCell ⟨g,j,none⟩ u).ownsRow base e size (.slice (some ⟨g,0,none⟩) n cap) n (xs.set j u):=by
 obtain ⟨T,hB,hC,xy,nj,kd,sY⟩:=dH h;have hs:=hB.set prog j [u] (by rw[aak,List.length_singleton];omega) (λv hv=>by rw[aas]at hv;subst hv;exact hu)
 have e1:splice (xs++T) j [u]=xs.set j u++T:=by
  unfold splice;rw[ab8 (by omega),List.length_singleton,List.drop_append_of_le_length (by omega),List.set_eq_take_append_cons_drop,aaj hj];simp
 rw[e1]at hs;have tO:(xs.set j u).length=n*size:=by rw[aaE];exact sY
 exact gz hs (by rw[aak,tO,<-sY,<-aak];exact hC) (by rw[abm tO]) tO xy nj kd
theorem mem_set {α:Type} {L:List α} {i:Nat} {y x:α} (h:x∈L.set i y):x=y\/x∈L:=(abq h).symm
theorem dL.put {base:Nat} {w:World} {S T:List bE} {vs vt:Value} {g cap:Nat} {L:List bu} (h:dL base w S T vs vt g cap L) (j i:Nat) (u:Value) (hu:u.oneCell'=true) (y:bu) (hj:j<L.length*3) (he:(L.flatMap cu).set j u=(L.set i y).flatMap cu)
 (hy:ay ah y.a.pat base w y.v) (QG:y.a.pat≠[]->y.v.ownBlock≠some g) (SJ:bS y.a.pat):dL base (w.setCell ⟨g,j,none⟩ u) S T vs vt g cap (L.set i y):=by
 have hg:iJ g w (w.setCell ⟨g,j,none⟩ u):=mX (pI g w) (.inl rfl) u;have hl:(L.flatMap cu).length=L.length*3:=bp (k:=3) cu (λ_=>rfl) L;have hr:=F1 h.row j (by omega) u hu;refine ⟨h.s.apart hg h.sn,h.sn,h.t.apart hg h.tn,h.tn,by rw[aaE,<-he];exact hr,λx hx=>?_⟩;rcases mem_set hx with rfl|hx
 ·exact ⟨hy.apart hg QG,QG,SJ⟩
 obtain ⟨p1,p2,p3⟩:=h.nt x hx;exact ⟨p1.apart hg p2,p2,p3⟩
theorem kf:(prog.info? 141).map (λi=>(i.zero,i.size,i.bytes))=some (some (.agg #[.int .i64 0,.int .i64 0,.slice none 0 0]),3,40):=by kernel_rfl
theorem oX {x:bu} {A:Option Addr} {n c:Nat} (hv:x.v= .slice A n c) {u:Value} (h:u∈cu x):u.oneCell'=true:=by
 unfold cu at h;rcases aaF.1 h with rfl|h
 ·rfl
 rcases aaF.1 h with rfl|h
 ·rfl
 rw[aas]at h;subst h;rw[hv];rfl
def mG:Value->Nat
 | .slice _ n _=>n
 |_=>0
def QH (b:Nat) (w:World) (e:Ending) (w':World):Prop:=
 ∃v1 v2 S ls,e= .returned (.tuple #[v1,v2])/\ay ai S w.heap.size w' v1/\cd S=true/\eE w' w'.heap.size v2 ls/\ms ls/\iJ b w w'
def QI (w:World) (e:Ending) (w':World):Prop:=
 ∃v1 v2 S ls,e= .returned (.tuple #[v1,v2])/\ay ai S w.heap.size w' v1/\cd S=true/\eE w' w'.heap.size v2 ls/\bJ ls=true/\Below w.heap.size w w'
def rJ (d:Int):Bool:=dO d 0 999
def eN (ls:List bo) (k:Nat):List Int:=0::(ls.take k).flatMap (λa=>[a.a8,a.fin].filter rJ)
theorem oY {ls:List bo} {k:Nat} (h:k<ls.length):eN ls (k+1)=eN ls k++[ls[k].a8,ls[k].fin].filter rJ:=by
 unfold eN;rw[aaG h,abf];simp
theorem vw (ls:List bo) (k:Nat):(eN ls k).length<=1+2*k:=by
 induction k with
 |zero=>simp[eN]
 |succ k ih=>
  by_cases h:k<ls.length
  ·rw[oY h,aak];have:=ab6 rJ [ls[k].a8,ls[k].fin];simp at this;omega
  have e1:ls.take (k+1)=ls:=aaJ (by omega);have e2:ls.take k=ls:=aaJ (by omega);unfold eN at*;rw[e1];rw[e2]at ih;omega
def xC (ls:List bo) (d:Int):Prop:=d=0\/(0<=d/\d<=999/\ ∃a∈ls,d=a.a8\/d=a.fin)
theorem vx {ls:List bo} {d:Int}:d∈eN ls ls.length↔xC ls d:=by
 unfold eN xC;rw[aa1,aaF,List.mem_flatMap];refine or_congr aa6 ⟨?_,?_⟩
 ·rintro ⟨a,ha,hd⟩;obtain ⟨h1,h2⟩:=abt.1 hd;unfold rJ at h2;rw[dS]at h2;exact ⟨h2.1,h2.2,a,ha,by simpa using h1⟩
 rintro ⟨h1,h2,a,ha,hd⟩;exact ⟨a,ha,abt.2 ⟨by simpa using hd,by unfold rJ;rw[dS];exact ⟨h1,h2⟩⟩⟩
theorem IR (n:Int) (w:World) (r:Bool) (h:rJ n=r):Calls prog 38 #[.int .i64 n] w (f' (.bool r) w):=h▸Ba n w
theorem vy (n:Int) (w:World) (r:Bool) (h:rJ n=r):Calls prog 96 #[.int .i64 n] w (f' (.bool r) w):=h▸AZ n w
def Ln (L:List Int) (n:Int) (w:World) (e:Ending) (w':World):Prop:=
 ∃v M,e= .returned v/\ay ak M w.heap.size w' v/\(∀x,x∈M↔x=n\/x∈L)/\M.length<=L.length+1/\Below w.heap.size w w'
structure fP (L:List Int) (n:Int) (k:Nat) (d:Bool) (M:List Int):Prop where
 mem: ∀x,x∈M↔(d=true/\x=n)\/x∈L.take k
 len:M.length<=k+(if d then 1 else 0)
theorem jF {L:List Int} {k:Nat} (hk:k<L.length) (x:Int):x∈L.take (k+1)↔x∈L.take k\/x=L[k]:=by
 rw[aaG hk,aau,aas]
theorem fP.start (L:List Int) (n:Int):fP L n 0 false []:=⟨by simp,by simp⟩
theorem fP.keep {L M:List Int} {n:Int} {k:Nat} {d:Bool} (h:fP L n k d M) (hk:k<L.length):fP L n (k+1) d (M++[L[k]]):=⟨λx=>by
 rw[jF hk,aau,aas,h.mem x,or_assoc],by rw[aak,List.length_singleton];have:=h.len;omega⟩
theorem fP.hit {L M:List Int} {n:Int} {k:Nat} (h:fP L n k false M) (hk:k<L.length) (e:L[k]=n):fP L n (k+1) true (M++[L[k]]):=⟨λx=>by
 rw[jF hk,aau,aas,h.mem x,e];by_cases h1:x=n<;>by_cases h2:x∈L.take k<;>simp only[h1,h2,or_true,or_false,false_or,aaZ,and_false,reduceCtorEq],by rw[aak,List.length_singleton];have:=h.len;simp at this⊢;omega⟩
theorem fP.add {L M:List Int} {n:Int} {k:Nat} (h:fP L n k false M) (hk:k<L.length):fP L n (k+1) true ((M++[n])++[L[k]]):=⟨λx=>by
 rw[jF hk,aau,aau,aas,aas,h.mem x];generalize L[k]=y;by_cases h1:x=n<;>by_cases h2:x∈L.take k<;>by_cases h3:x=y<;>simp only[h1,h2,h3,true_and,false_and,or_true,true_or,or_false,false_or,aaZ,and_false,reduceCtorEq],by simp;have:=h.len;simp at this;omega⟩
theorem fP.done {L M:List Int} {n:Int} (h:fP L n L.length true M):(∀x,x∈M↔x=n\/x∈L)/\M.length<=L.length+1:=⟨λx=>by
 rw[h.mem x,aa1];simp,by have:=h.len;simp at this;omega⟩
theorem fP.last {L M:List Int} {n:Int} (h:fP L n L.length false M):(∀x,x∈M++[n]↔x=n\/x∈L)/\(M++[n]).length<=L.length+1:=⟨λx=>by
 rw[aau,h.mem x,aa1];simp;exact or_comm,by simp;have:=h.len;simp at this;omega⟩
theorem Dl (zs:List Int) (hs:zs.Pairwise (· <= ·)): ∀m,m<=zs.length->(compactUpTo zs.toArray m).Pairwise (· < ·)/\ ∀x,x∈compactUpTo zs.toArray m↔x∈zs.take m:=by
 intro m;induction m with
 |zero=>intro _;exact ⟨by simp[compactUpTo],by simp[compactUpTo]⟩
 |succ m ih=>
  intro hm;obtain ⟨h1,h2⟩:=ih (by omega);have aI:m<zs.length:=by omega
  have hd:zs.toArray[m]! =zs[m]:=by simp[aI]
  have ht: ∀x,x∈zs.take (m+1)↔x∈zs.take m\/x=zs[m]:=jF aI
  have hle: ∀x∈zs.take m,x<=zs[m]:=λx hx=>by
   obtain ⟨j,hj,rfl⟩:=abh.1 hx;rw[aao]at hj;rw[List.getElem_take];exact (abn.1 hs) j m (by omega) aI (by omega)
  rw[compactUpTo_succ,hd];by_cases hk:keeps zs.toArray m=true
  ·rw[aaj hk];refine ⟨?_,λx=>by rw[aau,aas,h2,ht]⟩;rw[aaY];refine ⟨h1,by simp,λx hx y hy=>?_⟩;rw[aas.1 hy];have Ih:=(h2 x).1 hx;have h3:=hle x Ih;rcases aj2 m with h0|h0
   ·subst h0;simp at Ih
   have hp:zs.toArray[m-1]! =zs[m-1]:=by simp[show m-1<zs.length by omega]
   have gm:zs[m]≠zs[m-1]:=by
    have:=hk;unfold keeps at this;rw[hd,hp]at this;simp at this;omega
   have h4:=(abn.1 hs) (m-1) m (by omega) aI (by omega);obtain ⟨j,hj,rfl⟩:=abh.1 Ih;rw[aao]at hj;rw[List.getElem_take];by_cases e:j=m-1
   ·subst e;omega
   have h5:=(abn.1 hs) j (m-1) (by omega) (by omega) (by omega);omega
  rw[aah hk,abv];refine ⟨h1,λx=>?_⟩;rw[h2,ht];constructor
  ·exact .inl
  rintro (h|rfl)
  ·exact h
  rcases aj2 m with h0|h0
  ·subst h0
   exfalso
   apply hk;unfold keeps;simp
  have hp:zs.toArray[m-1]! =zs[m-1]:=by simp[show m-1<zs.length by omega]
  have he:zs[m]=zs[m-1]:=by
   unfold keeps at hk;rw[hd,hp]at hk;simp at hk;exact hk.2
  rw[he];exact abh.2 ⟨m-1,by rw[aao];omega,by rw[List.getElem_take]⟩
def bB (ls:List bo):List Int:=compact ((eN ls ls.length).mergeSort (λx y=>decide (x<=y)))
theorem nu (ls:List bo):(bB ls).Pairwise (· < ·)/\ ∀x,x∈bB ls↔xC ls x:=by
 have hs:((eN ls ls.length).mergeSort (λx y=>decide (x<=y))).Pairwise (· <= ·):=by
  have:=List.pairwise_mergeSort (le:=λx y:Int=>decide (x<=y)) (λa b c h1 h2=>by simp at*;omega) (λa b=>by simp;omega) (eN ls ls.length);exact this.imp (λh=>by simpa using h)
 obtain ⟨h1,h2⟩:=Dl _ hs _ (aad _);refine ⟨h1,λx=>?_⟩;unfold bB compact;rw[h2,aa1,(List.mergeSort_perm _ _).mem_iff,vx]
theorem vz (zs:List Int) (dR cap:Nat) (w:World) (hH:Go.Sort.Holds (Value.int .i64) w dR 0 zs.toArray) (ta:dR<w.heap.size) (ja:zs.length<4611686018427387904):
 Calls prog 162 #[.slice (some ⟨dR,0,none⟩) zs.length cap] w λe w'=>
  e= .returned (.tuple #[])/\ ∃n os,w'=Go.Sort.grow (Go.Sort.putRow (Value.int .i64) (Go.Sort.ahead w n) dR 0 (zs.mergeSort λx y=>decide (x<=y)).toArray) os:=
 calls_of_every_depth λD=>AnySM.slices_Sort_int_in NZ D dR 0 cap zs w hH ta ja
theorem xD (zs:List Int) (dR cap:Nat) (w:World) (hH:Go.Sort.Holds (Value.int .i64) w dR 0 zs.toArray) (ja:zs.length<=9223372036854775807) (QJ:zs.length<=cap):
 Calls prog 163 #[.slice (some ⟨dR,0,none⟩) zs.length cap] w λe w'=>
  e= .returned (.slice (some ⟨dR,0,none⟩) (compact zs).length cap)/\ ∃q,w'=Go.Sort.putRow (Value.int .i64) (Go.Sort.ahead w q) dR 0 (compact zs++List.replicate (zs.length-(compact zs).length) 0).toArray:=
 AnyG.slices_Compact_int F2 dR 0 cap zs w hH ja QJ
theorem jG: ∀L:List Int,L.flatMap ak=L.map (λx=>Value.int .i64 x)
 |[]=>rfl
 |x::L=>by rw[aa0,aa4,jG L];rfl
theorem yq {w:World} {base g cap:Nat} {L:List Int} (h:w.ownsRow base 2 1 (.slice (some ⟨g,0,none⟩) L.length cap) L.length (L.flatMap ak)):Go.Sort.Holds (Value.int .i64) w g 0 L.toArray:=by
 intro j hj;have Qs:j<L.length:=by simpa using hj
 have:=oW h (j:=j) (u:= .int .i64 L[j]) (by rw[jG,aaX,aag Qs];rfl);have e:L.toArray[j]! =L[j]:=by simp[Qs]
 rw[aan,e];exact this
theorem oZ {w:World} {g:Nat} (L:List Int) (n:Nat):iJ g w (Go.Sort.putRow (Value.int .i64) (Go.Sort.ahead w n) g 0 L.toArray):=by
 refine ⟨rfl,rfl,rfl,aam (by rw[Go.Sort.size_putRow];rfl),λi hi gm=>?_⟩;unfold Go.Sort.putRow Go.Sort.mapBlock;have X7:g≠i:=λe=>gm (by rw[e]);show (w.heap.modify g _)[i]?=_
 rw[Array.getElem?_modify,aah X7]
theorem yr {w w':World} {g:Nat} (h:iJ g w w') (os:Array Obj):iJ g w (Go.Sort.grow w' os):=
 ⟨h.os,h.tape,h.output,by rw[Go.Sort.size_grow];have:=h.size;omega,λi hi gm=>(Go.Sort.heap_grow_old w' os (aar hi h.size)).trans (h.block i hi gm)⟩
theorem F3 {w:World} {g:Nat} {L T:List Int} (h:Go.Sort.Holds (Value.int .i64) w g 0 (L++T).toArray):Row w g (L.flatMap ak):=by
 have hl:(L.flatMap ak).length=L.length:=by rw[jG,aap]
 refine ⟨λj u hj=>?_,λj hj=>?_⟩
 ·rw[jG,aaX]at hj;cases hx:L[j]? with
  |none=>rw[hx]at hj;cases hj
  |some x=>
   rw[hx]at hj;injection hj with hj
   subst hj;obtain ⟨aI,X8⟩:=aal.1 hx;have:=(h j (by simp;omega)).1;rw[aan]at this;rw[this];simp[aaW aI,aI,X8]
 have:=(h j (by simp;omega)).2
 rwa [aan]at this
theorem Dm (ls:List bo) (w:World) (v:Value) (h:eE w w.heap.size v ls) (hl:ls.length<=1000):
 Calls prog 111 #[v] w (sS ak (bB ls) w):=by
 obtain ⟨A,c,rfl,hc,hm,cn⟩:=dk h;have gH:=I cn;clear cn h;obtain ⟨i0,hi,dK,ez,ek⟩:=aaq iD;have cN:(w.alloc (.cells #[.int .i64 0] 2)).ownsRow w.heap.size 2 1 (.slice (some ⟨w.heap.size,0,none⟩) 1 1) 1 [.int .i64 0]:=gz (C:=[.int .i64 0]) (heap_alloc_new w _) rfl rfl rfl (aad _) (by unfold maxLen;decide) (aad _);have dY:=I cN;have jT:ag (Below w.heap.size w (w.alloc (.cells #[.int .i64 0] 2))):=I ((aae _ _).alloc (aad _) _);unfold sS;clear cN;go_enter func111,ntmps111;go_wp2;go_loopw [3,11] (λo i wr=> ∃(k g cap:Nat),i= .int .i64 (k:Int)/\k<=ls.length/\o= .slice (some ⟨g,0,none⟩) (eN ls k).length cap/\wr.ownsRow w.heap.size 2 1 (.slice (some ⟨g,0,none⟩) (eN ls k).length cap) (eN ls k).length ((eN ls k).flatMap ak)/\Below w.heap.size w wr) (λ_ i _=>ls.length-(intOf i).toNat);case atStart=>exact ⟨0,w.heap.size,1,rfl,aaf _,rfl,dY.o,jT.o⟩
 case round=>
  obtain ⟨k,g,cap,rfl,hk,rfl,cr,hb⟩:=hrel;have eH:=I cr;have HB:=I hb;have PI:=vw ls k;clear cr;by_cases aI:k<ls.length
  ·obtain ⟨b,off,rfl,bD,aC⟩:=gH.o (by omega);have aH:ls[k]?=some ls[k]:=aag aI;obtain ⟨pv,c0,c1,c2,hE⟩:=aC k _ aH;obtain ⟨pA,pc,rfl,_⟩:=hE;have x0:=(hb.cell (p:=⟨b,off+k*3,none⟩) bD).trans c0;have x1:=(hb.cell (p:=⟨b,off+k*3+1,none⟩) bD).trans c1;have x2:=(hb.cell (p:=⟨b,off+k*3+2,none⟩) bD).trans c2;have HT:=I (oY aI);generalize eN ls k=Z at*;clear aC c0 c1 c2 aH hb;generalize ls[k]=a at*;have hg:=eH.o.lt g rfl;have gW:=I ((eH.o.alloc (.cells #[.int .i64 a.a8,.int .i64 a.fin,.slice pA a.pat.length pc] 141)).alloc (.cells #[.int .i64 a.a8,.int .i64 a.fin] 2));have da:=I ((HB.o.alloc HB.o.size (.cells #[.int .i64 a.a8,.int .i64 a.fin,.slice pA a.pat.length pc] 141)).alloc (aS HB.o.size) (.cells #[.int .i64 a.a8,.int .i64 a.fin] 2));have TY:g≠wr.heap.size+1:=by omega
   have Mv:ag (((wr.alloc (.cells #[.int .i64 a.a8,.int .i64 a.fin,.slice pA a.pat.length pc] 141)).alloc (.cells #[.int .i64 a.a8,.int .i64 a.fin] 2)).cell? ⟨wr.heap.size+1,0,none⟩=some (.int .i64 a.a8)):=I (by simp);have FN:ag (((wr.alloc (.cells #[.int .i64 a.a8,.int .i64 a.fin,.slice pA a.pat.length pc] 141)).alloc (.cells #[.int .i64 a.a8,.int .i64 a.fin] 2)).cell? ⟨wr.heap.size+1,1,none⟩=some (.int .i64 a.fin)):=I (by simp);go_wp2;generalize wr.heap.size+1=gs at*;go_loopw [3,21] (λo i wr=> ∃(j g cap:Nat),i= .int .i64 (j:Int)/\j<=2/\o= .slice (some ⟨g,0,none⟩) (Z++([a.a8,a.fin].take j).filter rJ).length cap/\wr.ownsRow w.heap.size 2 1 (.slice (some ⟨g,0,none⟩) (Z++([a.a8,a.fin].take j).filter rJ).length cap) (Z++([a.a8,a.fin].take j).filter rJ).length ((Z++([a.a8,a.fin].take j).filter rJ).flatMap ak)/\wr.cell? ⟨gs,0,none⟩=some (.int .i64 a.a8)/\wr.cell? ⟨gs,1,none⟩=some (.int .i64 a.fin)/\g≠gs/\Below w.heap.size w wr) (λ_ i _=>2-(intOf i).toNat);case atStart=>exact ⟨0,g,cap,rfl,by omega,by simp,by simpa using gW.o,Mv.o,FN.o,TY,da.o⟩
   case round=>
    obtain ⟨j,g,cap,rfl,hj,rfl,cr,xE,pQ,ow,hb⟩:=hrel
    replace eH:=I cr
    replace HB:=I hb
    replace Mv:=I xE
    replace FN:=I pQ
    have Wk:=ab6 rJ ([a.a8,a.fin].take j);rw[aao]at Wk;simp only[List.length_cons,List.length_nil]at Wk;clear cr hb;by_cases vB:j<2
    ·have N0:(j:Int)<2:=by omega
     obtain ⟨d,hd,x9⟩: ∃d,[a.a8,a.fin][j]?=some d/\wr.cell? ⟨gs,j,none⟩=some (.int .i64 d):=by
      rcases (show j=0\/j=1 by omega)with rfl|rfl
      ·exact ⟨_,rfl,xE⟩
      exact ⟨_,rfl,pQ⟩
     have ht:[a.a8,a.fin].take (j+1)=[a.a8,a.fin].take j++[d]:=by
      obtain ⟨q1,q2⟩:=aal.1 hd;rw[aaG q1,q2]
     have SK:=I ht;have HD:=I (IR d wr);generalize [a.a8,a.fin].take j=J at*;have X9:(Z++J.filter rJ).length<=2010:=by rw[aak];omega
     clear hd ht xE pQ;cases iq:rJ d with
     |false=>
      replace HD:=I (HD.o false iq)
      have HX:ag (Z++([a.a8,a.fin].take (j+1)).filter rJ=Z++J.filter rJ):=I (by rw[SK.o,abT];simp[iq]);clear iq;go_wp2_with (fail);refine (HD.o).mono ?_;rintro e w1 ⟨rfl,q,rfl⟩;go_wp2;go_roundw;case rel=>exact ⟨j+1,g,cap,by go_num,by omega,by rw[HX.o];simp,by rw[HX.o];exact aT eH.o (below_drewN (aae wr.heap.size wr) q),Mv.o,FN.o,ow,below_drewN HB.o q⟩
      case measure=>simp[intOf]<;>omega
     |true=>
      replace HD:=I (HD.o true iq)
      have HX:ag (Z++([a.a8,a.fin].take (j+1)).filter rJ=(Z++J.filter rJ)++[d]):=I (by rw[SK.o,abT];simp[iq]);generalize Z++J.filter rJ=X at*;clear iq;go_wp2_with (fail);refine (HD.o).mono ?_;rintro e w1 ⟨rfl,q,rfl⟩;have l9:=I (aT eH.o (below_drewN (aae wr.heap.size wr) q));have dy:=I (below_drewN HB.o q);have QK:ag ((wr.drewN q).cell? ⟨gs,0,none⟩=some (.int .i64 a.a8)):=I Mv.o;have TZ:ag ((wr.drewN q).cell? ⟨gs,1,none⟩=some (.int .i64 a.fin)):=I FN.o;generalize wr.drewN q=w2 at*;go_wp2_with (at_builtin;refine aaH _ rfl _ _ 33 rfl w.heap.size 2 i0 (.int .i64 0) 1 8 underlying33 hi dK ez ek rfl (by decide) _ _ _ rfl (l9.o.alloc _) ⟨w2.heap.size,0,none⟩ 1 1 (ak d) rfl rfl (cell_one_new _ _ _) (λu hu=>cf _ hu) ?c3 ?c4 (aS dy.o.size) ?_);case c3=>unfold maxLen;omega
      case c4=>omega
      intro v' w9 aG aA aU gd;obtain ⟨g',fq,rfl,qh,lB⟩:=bG aG aU;have SL:=aaL w2 ⟨gs,0,none⟩ QK.o
      have T4:g'≠gs:=by
       rcases gd with h|h<;>injection h with h
       ·exact λe=>ow (by rw[<-e];exact h.symm)
       intro e;have h:g'=w2.heap.size+1:=h;have SL:gs<w2.heap.size:=SL;omega
      have T6:w9.heap[gs]?=w2.heap[gs]?:=(aA.block gs (by simp;exact ab3 SL) (λe=>by injection e with e;exact ow e.symm)).trans (((aae w2.heap.size w2).alloc (aad _) (.cells #[.int .i64 d] 2)).block gs SL);have T7:=I ((abW (a:=⟨gs,0,none⟩) T6).trans QK.o);have T8:=I ((abW (a:=⟨gs,1,none⟩) T6).trans TZ.o);have iM:=I ((dy.o.alloc dy.o.size (.cells #[.int .i64 d] 2)).grown aA (aS dy.o.size) (λj hj=>(l9.o.lt j hj).1));clear aA aU gd T6;go_wp2;go_roundw;case rel=>exact ⟨j+1,g',fq,by go_num,by omega,by rw[HX.o,aak,List.length_singleton],by rw[HX.o,cq,aak];exact aG,T7.o,T8.o,T4,iM.o⟩
      case measure=>simp[intOf]<;>omega
    have eA: ¬(j:Int)<2:=by omega
    have HZ:ag (eN ls (k+1)=Z++([a.a8,a.fin].take j).filter rJ):=I (by rw[HT.o,aaJ (by simp;omega)]);clear vB xE pQ;go_wp2;go_roundw;case rel=>exact ⟨k+1,g,cap,by go_num,by omega,by rw[HZ.o],by rw[HZ.o];exact eH.o,HB.o⟩
    case measure=>simp[intOf]<;>omega
  have eA: ¬(k:Int)<(ls.length:Int):=by omega
  have di:k=ls.length:=by omega
  subst di;clear aI;have hg:=eH.o.lt g rfl;have HH:=I (yq eH.o);have QJ:(eN ls ls.length).length<=cap:=by obtain ⟨_,_,_,h1,_⟩:=dH eH.o;exact h1
  have nj:cap<=maxLen:=by obtain ⟨_,_,_,_,h1,_⟩:=dH eH.o;exact h1
  have PM:ag (bB ls=compact ((eN ls ls.length).mergeSort (λx y=>decide (x<=y)))):=I rfl;generalize eN ls ls.length=Z at*;go_wp2_with (fail);refine (vz Z g cap wr HH.o hg.2 (by omega)).mono ?_;rintro e w1 ⟨rfl,q,os,rfl⟩;obtain ⟨S,hS⟩: ∃S,S=Z.mergeSort (λx y=>decide (x<=y)):=⟨_,rfl⟩
  have hlen:S.length=Z.length:=by rw[hS,List.length_mergeSort]
  rw[<-hS]at PM⊢;have ja:S.toArray.size=Z.toArray.size:=by simp[hlen]
  have SM:Go.Sort.Holds (Value.int .i64) (Go.Sort.grow (Go.Sort.putRow (Value.int .i64) (Go.Sort.ahead wr q) g 0 S.toArray) os) g 0 S.toArray:=
   Go.Sort.holds_grow _ _ _ _ _ _ (by rw[Go.Sort.size_putRow];exact hg.2) (Go.Sort.holds_putRow _ (Go.Sort.ahead wr q) g 0 Z.toArray S.toArray HH.o ja)
  have vC:=yr (oZ (w:=wr) (g:=g) S q) os;generalize Go.Sort.grow (Go.Sort.putRow (Value.int .i64) (Go.Sort.ahead wr q) g 0 S.toArray) os=w1 at SM vC⊢;have HC:=xD S g cap w1 SM (by omega) (by omega);rw[hlen]at HC;have iV:g<w1.heap.size:=aar hg.2 vC.size;have dl:=I HC;have jh:=I vC;have Ya:=I SM;have CX:(compact S).length<=S.length:=by unfold compact compactUpTo;rw[aap];exact aaB (ab6 _ _) (by simp)
  clear hS HC vC SM ja;go_wp2_with (fail);refine (dl.o).mono ?_;rintro e w2 ⟨rfl,q2,rfl⟩;have F4:(compact S++List.replicate (Z.length-(compact S).length) (0:Int)).toArray.size=S.toArray.size:=by simp;omega
  have Ua:=Go.Sort.holds_putRow (Value.int .i64) (Go.Sort.ahead w1 q2) g 0 S.toArray (compact S++List.replicate (Z.length-(compact S).length) (0:Int)).toArray Ya.o F4;have xa:=oZ (w:=w1) (g:=g) (compact S++List.replicate (Z.length-(compact S).length) (0:Int)) q2;generalize Go.Sort.putRow (Value.int .i64) (Go.Sort.ahead w1 q2) g 0 (compact S++List.replicate (Z.length-(compact S).length) (0:Int)).toArray=w2 at Ua xa⊢;have HR:=I (F3 Ua);have dy:=I (HB.o.trans ((gx jh.o hg.1 HB.o.size).trans (gx xa hg.1 (by have:=jh.o.size;have:=HB.o.size;omega))));have j5:g<w2.heap.size:=aar iV xa.size;clear Ua xa F4;go_wp2;go_ret;exact ⟨_,rfl,by rw[PM.o];exact ⟨_,cap,rfl,by omega,nj,λ_=>⟨g,rfl,hg.1,j5,HR.o⟩⟩,dy.o⟩
theorem Bj {ls:List bo} {d d':Int} (h: ∀a∈ls,IK d a=IK d' a):de ls d=de ls d':=by
 unfold de
 congr 1
 apply List.filter_congr;intro k hk;have hk:=abS.1 hk;rw[aag hk];exact h _ (aax hk)
theorem IU {S:List bE} {ls:List bo} {d d':Int} (h: ∀a∈ls,IK d a=IK d' a):nU S ls d=nU S ls d':=by
 unfold nU;rw[Bj h]
theorem Bk {S:List bE} {ls:List bo} {t d:Int} (cy:bJ ls=true) (ht:0<=t) (htd:t<=d) (hd:d<=999) (h: ∀x,xC ls x->x<=t\/d<x):nU S ls d=nU S ls t:=by
 apply IU;intro a ha;obtain ⟨k,hk⟩:=aa2 ha;have ho:=ep.1 (fj cy hk);have o1:=ho.b0;have o2:=ho.b1;have o3:=ho.f0;have o4:=ho.f1
 have hb:a.a8<=d->a.a8<=t:=λhb=>by
  rcases h a.a8 (.inr ⟨o1,by omega,a,ha,.inl rfl⟩)with h|h<;>omega
 have hf:a.fin<=d->a.fin<=t:=λhb=>by
  rcases h a.fin (.inr ⟨o3,by omega,a,ha,.inr rfl⟩)with h|h<;>omega
 unfold IK;have e1:decide (a.a8<=d)=decide (a.a8<=t):=by rw[abZ];exact ⟨hb,λh=>by omega⟩
 have e2:decide (d<a.fin)=decide (t<a.fin):=by rw[abZ];exact ⟨λh=>by omega,λh=>by have:=hf;omega⟩
 rw[e1,e2]
def jH (T:List Int) (i:Nat):Int:=if i+1<T.length then (T[i+1]?.getD 0)-1 else 999
theorem j6 {ls:List bo} {x:Int} (h:xC ls x):0<=x/\x<=999:=by
 rcases h with rfl|⟨h1,h2,_⟩<;>omega
theorem tZ (ls:List bo):(bB ls)[0]?=some 0:=by
 obtain ⟨h1,h2⟩:=nu ls;have h0:(0:Int)∈bB ls:=(h2 0).2 (.inl rfl);obtain ⟨j,hj,hz⟩:=abh.1 h0;rcases aj2 j with e|e
 ·subst e;rw[aag hj,hz]
 exfalso
 have:=(abn.1 h1) 0 j (by omega) hj e;have h3:=(j6 ((h2 _).1 (aax (by omega:0<(bB ls).length)))).1;omega
theorem td {ls:List bo} {i:Nat} (hi:i<(bB ls).length):(bB ls)[i]<=jH (bB ls) i/\jH (bB ls) i<=999/\0<=(bB ls)[i]/\ ∀x,xC ls x->x<=(bB ls)[i]\/jH (bB ls) i<x:=by
 obtain ⟨h1,h2⟩:=nu ls;have hb:=j6 ((h2 _).1 (aax hi));unfold jH;by_cases hn:i+1<(bB ls).length
 ·rw[aaj hn,aag hn,Option.getD_some];have aI:=(abn.1 h1) i (i+1) hi hn (by omega);have cL:=j6 ((h2 _).1 (aax hn));refine ⟨by omega,by omega,hb.1,λx hx=>?_⟩;obtain ⟨j,hj,rfl⟩:=abh.1 ((h2 x).2 hx);by_cases F5:j<=i
  ·by_cases e:j=i
   ·subst e;left;omega
   have:=(abn.1 h1) j i hj hi (by omega)
   left;omega
  by_cases e:j=i+1
  ·subst e;right;omega
  have:=(abn.1 h1) (i+1) j hn hj (by omega)
  right;omega
 rw[aah hn];refine ⟨hb.2,by omega,hb.1,λx hx=>?_⟩;obtain ⟨j,hj,rfl⟩:=abh.1 ((h2 x).2 hx);by_cases e:j=i
 ·subst e;left;omega
 have:=(abn.1 h1) j i hj hi (by omega)
 left;omega
def jI (T:List Int) (i:Nat):Int:=if i<T.length then T[i]?.getD 0 else 1000
theorem nv {T:List Int} {i:Nat}:jI T (i+1)=jH T i+1:=by
 unfold jI jH
 split<;>omega
structure gp (S:List bE) (ls:List bo) (i:Nat) (R:List (Int×Int)):Prop where
 ok: ∀r∈R,0<=r.1/\r.1<=r.2/\r.2<jI (bB ls) i
 all: ∀d,0<=d->d<jI (bB ls) i->((∃r∈R,r.1<=d/\d<=r.2)↔nU S ls d=none)
theorem gp.start (S:List bE) (ls:List bo):gp S ls 0 []:=by
 refine ⟨(λr hr=>by cases hr),λd h0 h1=>?_⟩
 exfalso
 have h:=tZ ls;have hl:=(aal.1 h).1;unfold jI at h1;rw[aaj hl,h]at h1;simp at h1;omega
theorem gp.skip {S:List bE} {ls:List bo} {i:Nat} {R:List (Int×Int)} (h:gp S ls i R) (cy:bJ ls=true) (hi:i<(bB ls).length) (ho:(nU S ls (bB ls)[i]).isSome=true):gp S ls (i+1) R:=by
 obtain ⟨g1,g2,g3,g4⟩:=td hi;have hb:jI (bB ls) i=(bB ls)[i]:=by unfold jI;rw[aaj hi,aag hi];rfl
 refine ⟨λr hr=>?_,λd h0 h1=>?_⟩
 ·have:=h.ok r hr;rw[nv];rw[hb]at this;omega
 rw[nv]at h1;by_cases hd:d<(bB ls)[i]
 ·exact h.all d h0 (by rw[hb];exact hd)
 rw[Bk (S:=S) cy g3 (by omega) (by omega) (λx hx=>by rcases g4 x hx with h|h<;>omega)];constructor
 ·rintro ⟨r,hr,h3,h4⟩;have:=h.ok r hr;rw[hb]at this;omega
 intro e;rw[e]at ho;cases ho
theorem gp.add {S:List bE} {ls:List bo} {i:Nat} {R:List (Int×Int)} (h:gp S ls i R) (cy:bJ ls=true) (hi:i<(bB ls).length) (ho:(nU S ls (bB ls)[i]).isSome=false):gp S ls (i+1) (R++[((bB ls)[i],jH (bB ls) i)]):=by
 obtain ⟨g1,g2,g3,g4⟩:=td hi;have hb:jI (bB ls) i=(bB ls)[i]:=by unfold jI;rw[aaj hi,aag hi];rfl
 refine ⟨λr hr=>?_,λd h0 h1=>?_⟩
 ·rw[nv];rcases aau.1 hr with hr|hr
  ·have:=h.ok r hr;rw[hb]at this;omega
  rw[aas.1 hr];exact ⟨g3,g1,by omega⟩
 rw[nv]at h1;by_cases hd:d<(bB ls)[i]
 ·rw[<-h.all d h0 (by rw[hb];exact hd)];constructor
  ·rintro ⟨r,hr,h3,h4⟩;rcases aau.1 hr with hr|hr
   ·exact ⟨r,hr,h3,h4⟩
   rw[aas.1 hr]at h3;have h3:(bB ls)[i]<=d:=h3;omega
  rintro ⟨r,hr,h3⟩;exact ⟨r,abr _ hr,h3⟩
 rw[Bk (S:=S) cy g3 (by omega) (by omega) (λx hx=>by rcases g4 x hx with h|h<;>omega)];constructor
 ·intro _;cases e:nU S ls (bB ls)[i]with
  |none=>rfl
  |some x=>rw[e]at ho;cases ho
 intro _;exact ⟨_,aa5 _ (aas.2 rfl),by show (bB ls)[i]<=d;omega,by show d<=jH (bB ls) i;omega⟩
theorem gp.join {S:List bE} {ls:List bo} {i:Nat} {R:List (Int×Int)} {x y z:Int} (h:gp S ls i (R++[(x,y)]++[(y+1,z)])):gp S ls i (R++[(x,z)]):=by
 have hx:=h.ok (x,y) (by simp);have hy:=h.ok (y+1,z) (by simp);simp only at hx hy;refine ⟨λr hr=>?_,λd h0 h1=>?_⟩
 ·rcases aau.1 hr with hr|hr
  ·exact h.ok r (by simp[hr])
  rw[aas.1 hr];exact ⟨hx.1,by show x<=z;omega,hy.2.2⟩
 rw[<-h.all d h0 h1];constructor
 ·rintro ⟨r,hr,h3,h4⟩;rcases aau.1 hr with hr|hr
  ·exact ⟨r,by simp[hr],h3,h4⟩
  rw[aas.1 hr]at h3 h4;have h3:x<=d:=h3;have h4:d<=z:=h4;by_cases hd:d<=y
  ·exact ⟨(x,y),by simp,h3,hd⟩
  exact ⟨(y+1,z),by simp,by show y+1<=d;omega,h4⟩
 rintro ⟨r,hr,h3,h4⟩;rw[aaI,aau]at hr;rcases hr with hr|hr
 ·exact ⟨r,by simp[hr],h3,h4⟩
 refine ⟨(x,z),by simp,?_⟩;simp at hr;rcases hr with rfl|rfl
 ·exact ⟨h3,by show d<=z;have h4:d<=y:=h4;omega⟩
 exact ⟨by show x<=d;have h3:y+1<=d:=h3;omega,h4⟩
structure qi where
 lo:Int
 hi:Int
 h:Nat
def eW (x:qi):List Value:=[.slice (some ⟨x.h,0,none⟩) 2 2]
def Bl (x:qi):Int×Int:=(x.lo,x.hi)
structure Rows (base:Nat) (w:World) (g cap:Nat) (L:List qi):Prop where
 row:w.ownsRow base 33 1 (.slice (some ⟨g,0,none⟩) L.length cap) L.length (L.flatMap eW)
 each: ∀x∈L,Row w x.h [.int .i64 x.lo,.int .i64 x.hi]/\base<=x.h/\x.h<w.heap.size/\x.h≠g
 ord:L.Pairwise (λa b=>a.h<b.h)
theorem Rows.below {base:Nat} {w w':World} {g cap:Nat} {L:List qi} (h:Rows base w g cap L) (hb:Below w.heap.size w w'):Rows base w' g cap L:=
 ⟨aT h.row hb,λx hx=>by
  obtain ⟨h1,h2,h3,h4⟩:=h.each x hx;exact ⟨h1.below hb h3,h2,aar h3 hb.size,h4⟩,h.ord⟩
theorem Rows.push {base:Nat} {W w':World} {g cap g' fq:Nat} {L:List qi} {x:qi} (h:Rows base W g cap L) (hg:W.grownBy w' (some g)) (gd:g'=g\/g'=W.heap.size)
 (bi:w'.ownsRow base 33 1 (.slice (some ⟨g',0,none⟩) (L.length+1) fq) (L.length+1) (L.flatMap eW++eW x))
 (hx:Row W x.h [.int .i64 x.lo,.int .i64 x.hi]) (Lo:base<=x.h) (sY:x.h<W.heap.size) (QL:x.h≠g) (Ub: ∀y∈L,y.h<x.h):Rows base w' g' fq (L++[x]):=by
 have jJ: ∀y:qi,Row W y.h [.int .i64 y.lo,.int .i64 y.hi]->y.h<W.heap.size->y.h≠g->Row w' y.h [.int .i64 y.lo,.int .i64 y.hi]/\y.h<w'.heap.size/\y.h≠g':=λy h1 h2 h3=>
  ⟨h1.only h2 h3 hg,aar h2 hg.size,by rcases gd with e|e<;>omega⟩
 refine ⟨by simpa using bi,λy hy=>?_,?_⟩
 ·rcases aau.1 hy with hy|hy
  ·obtain ⟨h1,h2,h3,h4⟩:=h.each y hy;obtain ⟨q1,q2,q3⟩:=jJ y h1 h3 h4;exact ⟨q1,h2,q2,q3⟩
  rw[aas.1 hy];obtain ⟨q1,q2,q3⟩:=jJ x hx sY QL;exact ⟨q1,Lo,q2,q3⟩
 rw[aaY];exact ⟨h.ord,by simp,λa ha b hb=>by rw[aas.1 hb];exact Ub a ha⟩
theorem Rows.turn {base:Nat} {w:World} {g cap:Nat} {L:List qi} {x:qi} (h:Rows base w g cap (L++[x])) (n:Int):Rows base (w.setCell ⟨x.h,1,none⟩ (.int .i64 n)) g cap (L++[⟨x.lo,n,x.h⟩]):=by
 obtain ⟨x1,x2,x3,x4⟩:=h.each x (by simp);have hO:iJ x.h w (w.setCell ⟨x.h,1,none⟩ (.int .i64 n)):=mX (pI _ _) (.inl rfl) _;have hr:=h.row.kept hO (.inr (λe=>by injection e with e;exact x4 e.symm));refine ⟨by simpa [eW]using hr,λy hy=>?_,?_⟩
 ·rcases aau.1 hy with hy|hy
  ·obtain ⟨h1,h2,h3,h4⟩:=h.each y (abr _ hy);have aI:=(aaY.1 h.ord).2.2 y hy x (by simp);exact ⟨h1.only h3 (by omega) hO,h2,aar h3 hO.size,h4⟩
  rw[aas.1 hy];exact ⟨x1.set 1 _ (by simp),x2,aar x3 hO.size,x4⟩
 have:=h.ord;rw[aaY]at this⊢;refine ⟨this.1,by simp,λa ha b hb=>?_⟩;rw[aas.1 hb];exact this.2.2 a ha x (by simp)
def Dn (S:List bE) (ls:List bo) (w:World) (e:Ending) (w':World):Prop:=
 ∃g cap L,e= .returned (.slice (some ⟨g,0,none⟩) L.length cap)/\Rows w.heap.size w' g cap L/\L.length<=1000/\gp S ls (bB ls).length (L.map Bl)/\Below w.heap.size w w'
theorem kV {x:qi} {u:Value} (h:u∈eW x):u.oneCell'=true:=by
 unfold eW at h;rw[aas]at h;subst h;rfl
theorem zi:(prog.info? 33).map (λi=>(i.zero,i.size,i.bytes))=some (some (.slice none 0 0),1,24):=by kernel_rfl
theorem Dp {ls:List bo} (h:bJ ls=true):(bB ls).length<=17:=by
 have h8:=eM h;have h1:=vw ls ls.length
 have h2:(bB ls).length<=((eN ls ls.length).mergeSort (λx y=>decide (x<=y))).length:=by
  unfold bB compact compactUpTo;rw[aap];exact aaB (ab6 _ _) (by simp)
 rw[List.length_mergeSort]at h2;omega
theorem Bn (S:List bE) (ls:List bo) (w:World) (vs va:Value) (hS:iT w w.heap.size vs S) (hA:eE w w.heap.size va ls) (cy:cd S=true) (hp:bJ ls=true):
 Calls prog 47 #[vs,va] w (Dn S ls w):=by
 have IM:=eM hp;have Yb:=Dp hp;have HP:=I hp;have jT:ag (Below w.heap.size w (w.alloc (.cells #[] 33))):=I ((aae _ _).alloc (aad _) _);have HT:=I (Dm ls (w.alloc (.cells #[] 33)) va (hA.on jT.o jT.o.size) (by omega));have N1:=I (λ(d:Int) w' (hb:Below w.heap.size w w')=>Bh S ls d w' vs va (cz.on hS (Pl.stays _) hb hb.size) (hA.on hb hb.size) cy hp);have cN:(w.alloc (.cells #[] 33)).ownsRow w.heap.size 33 1 (.slice (some ⟨w.heap.size,0,none⟩) 0 0) 0 []:=by simpa using aaz w #[] 0 (aad _) (aaf _) rfl
 have Uc:ag (Rows w.heap.size (w.alloc (.cells #[] 33)) w.heap.size 0 []):=I ⟨cN,(λx hx=>by cases hx),List.Pairwise.nil⟩;obtain ⟨A,c,rfl,_⟩:=hS;obtain ⟨A2,c2,rfl,_⟩:=dk hA;obtain ⟨i0,hi,dK,ez,ek⟩:=aaq zi;clear cN hA cy hp;go_enter func47,ntmps47;go_wp2_with (fail);refine (HT.o).mono ?_;rintro e w1 ⟨vT,rfl,vC,bw⟩;have N2:=I (Uc.o.below bw);have da:=I (jT.o.trans (bw.mono jT.o.size));have Lp:=tZ ls;have yh:=(aal.1 Lp).1;obtain ⟨AT,cT,rfl,_,nj,h3⟩:=vC;obtain ⟨gT,rfl,QM,F6,QN⟩:=h3 (λe=>by rw[e]at yh;cases yh);have N3:=I QN;clear bw h3 QN Lp;go_wp2;go_loopw [5,18] (λo i wr=> ∃(k g cap:Nat) (L:List qi),i= .int .i64 (k:Int)/\k<=(bB ls).length/\o= .slice (some ⟨g,0,none⟩) L.length cap/\L.length<=k/\Rows w.heap.size wr g cap L/\gp S ls k (L.map Bl)/\Row wr gT ((bB ls).flatMap ak)/\gT<wr.heap.size/\gT≠g/\(∀x∈L,gT<x.h)/\Below w.heap.size w wr) (λ_ i _=>(bB ls).length-(intOf i).toNat);case atStart=>exact ⟨0,w.heap.size,0,[],rfl,aaf _,rfl,aaf _,N2.o,gp.start S ls,N3.o,F6,(by intro e;rw[World.size_alloc]at QM;omega),(λx hx=>by cases hx),da.o⟩
 case round=>
  obtain ⟨k,g,cap,L,rfl,hk,rfl,tf,F7,Wl,QO,F6,qG,lF,hb⟩:=hrel;have kW:=I F7;have PN:=I Wl;have FT:=I QO;have HB:=I hb;clear F7 Wl QO hb;by_cases aI:k<(bB ls).length
  ·have x9:wr.cell? ⟨gT,k,none⟩=some (.int .i64 (bB ls)[k]):=FT.o.cell k _ (by rw[jG,aaX,aag aI];rfl);obtain ⟨q1,q2,q3,_⟩:=td aI;have Dh:=I (N1.o (bB ls)[k] wr HB.o);have SN:=I (λh=>PN.o.skip HP.o aI h);have IV:=I (λh=>PN.o.add HP.o aI h);by_cases hn:k+1<(bB ls).length
   ·have N5:(k:Int)+1<((bB ls).length:Int):=by omega
    have Li:jH (bB ls) k=(bB ls)[k+1]-1:=by unfold jH;rw[aaj hn,aag hn];rfl
    have x8:wr.cell? ⟨gT,k+1,none⟩=some (.int .i64 (jH (bB ls) k+1)):=by
     rw[Li];have:=FT.o.cell (k+1) (.int .i64 (bB ls)[k+1]) (by rw[jG,aaX,aag hn];rfl);rw[this]
     congr 2
     omega
    clear Li;generalize jH (bB ls) k=la at*;generalize (bB ls)[k]=d at*;go_wp2_with (fail);refine (Dh.o).mono ?_;rintro e w3 ⟨v3,rfl,_,⟨A3,n3,c3,rfl⟩,dB⟩;have fU:=I (kW.o.below dB);have dI:=I (HB.o.trans (dB.mono HB.o.size));have nw:=I (FT.o.below dB F6);have lG:gT<w3.heap.size:=aar F6 dB.size;clear dB;cases oU:(nU S ls d).isSome with
    |true=>
     have HC:=I (SN.o oU);clear oU;go_wp2;go_roundw;case rel=>exact ⟨k+1,g,cap,L,by go_num,by omega,rfl,by omega,fU.o,HC.o,nw.o,lG,qG,lF,dI.o⟩
     case measure=>simp[intOf]<;>omega
    |false=>
     replace IV:=I (IV.o oU)
     have kX:=I fU.o.row;clear oU Dh SN;rcases List.eq_nil_or_concat L with hL|⟨L',x,hL⟩
     ·generalize fG:L.length=n at*;have Hh:n=0:=by rw[<-fG,hL];rfl
      subst Hh;clear hL;have mH:((w3.alloc (.cells #[.int .i64 d,.int .i64 (la)] 2)).alloc (.cells #[.slice (some ⟨w3.heap.size,0,none⟩) 2 2] 33)).heap.size=w3.heap.size+2:=by simp
      have rK:Below w3.heap.size w3 ((w3.alloc (.cells #[.int .i64 d,.int .i64 (la)] 2)).alloc (.cells #[.slice (some ⟨w3.heap.size,0,none⟩) 2 2] 33)):=((aae _ _).alloc (aad _) _).alloc (by simp) _;have Bo:=(Row.new w3 #[.int .i64 d,.int .i64 (la)] 2).below ((aae _ _).alloc (aad _) (.cells #[.slice (some ⟨w3.heap.size,0,none⟩) 2 2] 33)) (by simp);have IW:=I Bo;have vD:=I rK;have IX:=I ((kX.o.alloc (.cells #[.int .i64 d,.int .i64 (la)] 2)).alloc (.cells #[.slice (some ⟨w3.heap.size,0,none⟩) 2 2] 33));clear Bo rK;have uI:=fU.o.row.lt g rfl;go_wp2_with (at_builtin;refine aaH _ rfl _ _ 24 rfl w.heap.size 33 i0 (.slice none 0 0) 1 24 underlying24 hi dK ez ek rfl (by decide) _ _ _ rfl IX.o ⟨w3.heap.size+1,0,none⟩ 1 1 (eW ⟨d,la,w3.heap.size⟩) rfl rfl (λj u hj=>kN hj) (λu hu=>kV hu) ?c3 ?c4 (aS (aS dI.o.size)) ?_);case c3=>unfold maxLen;omega
      case c4=>omega
      intro v' w9 aG aA aU gd;obtain ⟨g',fq,rfl,qh,lB⟩:=bG aG (by simpa using aU)
      have o9:g'=g\/g'=w3.heap.size+2:=by
       rcases gd with h|h<;>injection h with h
       ·exact .inl h
       first|exact .inr h|exact .inr (by rw[mH]at h;exact h)
      have Dq:=I (Rows.push (x:=⟨d,la,w3.heap.size⟩) (fU.o.below vD.o) aA (by rw[mH];exact o9) (by rw[fG];exact aG) IW.o dI.o.size (by rw[mH];show w3.heap.size<w3.heap.size+2;omega) (by show w3.heap.size≠g;omega) (λy hy=>(fU.o.each y hy).2.2.1));have vE:=I ((nw.o.below vD.o lG).only (by rw[mH];omega) qG aA);have iM:=I ((dI.o.trans (vD.o.mono dI.o.size)).grown aA (by rw[mH];have:=dI.o.size;omega) (λj hj=>by have:=kX.o.lt j hj;exact this.1));have vF:gT<w9.heap.size:=by have:=aA.size;rw[mH]at this;omega
      clear aG aA aU gd;go_wp2;go_roundw
      case rel=>exact ⟨k+1,g',fq,L++[⟨d,la,w3.heap.size⟩],by go_num,by omega,by rw[aak,List.length_singleton,fG],by rw[aak,List.length_singleton,fG];omega,Dq.o,by rw[aaK];exact IV.o,vE.o,vF,by rcases o9 with e|e<;>omega,(λy hy=>by
       rcases aau.1 hy with hy|hy
       ·exact lF y hy
       rw[aas.1 hy];exact lG),iM.o⟩
      case measure=>simp[intOf]<;>omega
     rw[List.concat_eq_append]at hL;obtain ⟨e1,e2⟩:=oW fU.o.row (j:=L'.length) (u:= .slice (some ⟨x.h,0,none⟩) 2 2) (by rw[hL,abf,aaN (by rw[bp (k:=1) eW (λ_=>rfl)];omega),bp (k:=1) eW (λ_=>rfl)];simp[eW]);have e3:=(fU.o.each x (by rw[hL];simp)).1.cell 1 _ rfl;have e4:=(fU.o.each x (by rw[hL];simp)).1.free 1 (by simp);have HL:=I hL;generalize fG:L.length=n at*;obtain ⟨m,hm⟩: ∃m,m=L'.length:=⟨_,rfl⟩
     rw[<-hm]at e1 e2;have Mq:n=m+1:=by rw[<-fG,hL,hm];simp
     subst Mq;have HM:=I hm;clear hL hm;by_cases Lq:x.hi=d-1
     ·have Ud:(x.hi==d-1)=true:=by simp[Lq]
      have oa:=I (Rows.turn (x:=x) (by rw[<-HL.o];exact fU.o) (la))
      have HJ:ag (gp S ls (k+1) ((L'++[(⟨x.lo,la,x.h⟩:qi)]).map Bl)):=I (by
       have:=IV.o;rw[HL.o,aaK]at this;rw[aaK];exact gp.join (y:=x.hi) (by rw[show x.hi+1=d by omega];exact this))
      have Lo:=(fU.o.each x (by rw[HL.o];simp))
      have kC:=I (dI.o.setCell (p:=⟨x.h,1,none⟩) Lo.2.1 (.int .i64 (la)));have Dr:=I (nw.o.nP (p:=⟨x.h,1,none⟩) (.int .i64 (la)) (by have:=lF x (by rw[HL.o];simp);show x.h≠gT;omega));clear Lq;go_wp2;go_roundw
      case rel=>exact ⟨k+1,g,cap,L'++[⟨x.lo,la,x.h⟩],by go_num,by omega,by simp[HM.o],by have:=HM.o;simp;omega,oa.o,HJ.o,Dr.o,by simpa using lG,qG,(λy hy=>by
       rcases aau.1 hy with hy|hy
       ·exact lF y (by rw[HL.o];exact abr _ hy)
       rw[aas.1 hy];exact lF x (by rw[HL.o];simp)),kC.o⟩
      case measure=>simp[intOf]<;>omega
     have Ud:(x.hi==d-1)=false:=by rw[abY];exact Lq
     clear Lq;have mH:((w3.alloc (.cells #[.int .i64 d,.int .i64 (la)] 2)).alloc (.cells #[.slice (some ⟨w3.heap.size,0,none⟩) 2 2] 33)).heap.size=w3.heap.size+2:=by simp
     have rK:Below w3.heap.size w3 ((w3.alloc (.cells #[.int .i64 d,.int .i64 (la)] 2)).alloc (.cells #[.slice (some ⟨w3.heap.size,0,none⟩) 2 2] 33)):=((aae _ _).alloc (aad _) _).alloc (by simp) _;have Bo:=(Row.new w3 #[.int .i64 d,.int .i64 (la)] 2).below ((aae _ _).alloc (aad _) (.cells #[.slice (some ⟨w3.heap.size,0,none⟩) 2 2] 33)) (by simp);have IW:=I Bo;have vD:=I rK;have IX:=I ((kX.o.alloc (.cells #[.int .i64 d,.int .i64 (la)] 2)).alloc (.cells #[.slice (some ⟨w3.heap.size,0,none⟩) 2 2] 33));clear Bo rK;have uI:=fU.o.row.lt g rfl;go_wp2_with (at_builtin;refine aaH _ rfl _ _ 24 rfl w.heap.size 33 i0 (.slice none 0 0) 1 24 underlying24 hi dK ez ek rfl (by decide) _ _ _ rfl IX.o ⟨w3.heap.size+1,0,none⟩ 1 1 (eW ⟨d,la,w3.heap.size⟩) rfl rfl (λj u hj=>kN hj) (λu hu=>kV hu) ?c3 ?c4 (aS (aS dI.o.size)) ?_);case c3=>unfold maxLen;omega
     case c4=>omega
     intro v' w9 aG aA aU gd;obtain ⟨g',fq,rfl,qh,lB⟩:=bG aG (by simpa using aU)
     have o9:g'=g\/g'=w3.heap.size+2:=by
      rcases gd with h|h<;>injection h with h
      ·exact .inl h
      first|exact .inr h|exact .inr (by rw[mH]at h;exact h)
     have Dq:=I (Rows.push (x:=⟨d,la,w3.heap.size⟩) (fU.o.below vD.o) aA (by rw[mH];exact o9) (by rw[fG];exact aG) IW.o dI.o.size (by rw[mH];show w3.heap.size<w3.heap.size+2;omega) (by show w3.heap.size≠g;omega) (λy hy=>(fU.o.each y hy).2.2.1));have vE:=I ((nw.o.below vD.o lG).only (by rw[mH];omega) qG aA);have iM:=I ((dI.o.trans (vD.o.mono dI.o.size)).grown aA (by rw[mH];have:=dI.o.size;omega) (λj hj=>by have:=kX.o.lt j hj;exact this.1));have vF:gT<w9.heap.size:=by have:=aA.size;rw[mH]at this;omega
     clear aG aA aU gd;go_wp2;go_roundw
     case rel=>exact ⟨k+1,g',fq,L++[⟨d,la,w3.heap.size⟩],by go_num,by omega,by rw[aak,List.length_singleton,fG],by rw[aak,List.length_singleton,fG];omega,Dq.o,by rw[aaK];exact IV.o,vE.o,vF,by rcases o9 with e|e<;>omega,(λy hy=>by
      rcases aau.1 hy with hy|hy
      ·exact lF y hy
      rw[aas.1 hy];exact lG),iM.o⟩
     case measure=>simp[intOf]<;>omega
   have N5: ¬(k:Int)+1<((bB ls).length:Int):=by omega
   have Li:jH (bB ls) k=999:=by unfold jH;rw[aah hn]
   rw[Li]at IV q1;clear q2 Li;generalize (bB ls)[k]=d at*;go_wp2_with (fail);refine (Dh.o).mono ?_;rintro e w3 ⟨v3,rfl,_,⟨A3,n3,c3,rfl⟩,dB⟩;have fU:=I (kW.o.below dB);have dI:=I (HB.o.trans (dB.mono HB.o.size));have nw:=I (FT.o.below dB F6);have lG:gT<w3.heap.size:=aar F6 dB.size;clear dB;cases oU:(nU S ls d).isSome with
   |true=>
    have HC:=I (SN.o oU);clear oU;go_wp2;go_roundw;case rel=>exact ⟨k+1,g,cap,L,by go_num,by omega,rfl,by omega,fU.o,HC.o,nw.o,lG,qG,lF,dI.o⟩
    case measure=>simp[intOf]<;>omega
   |false=>
    replace IV:=I (IV.o oU)
    have kX:=I fU.o.row;clear oU Dh SN;rcases List.eq_nil_or_concat L with hL|⟨L',x,hL⟩
    ·generalize fG:L.length=n at*;have Hh:n=0:=by rw[<-fG,hL];rfl
     subst Hh;clear hL;have mH:((w3.alloc (.cells #[.int .i64 d,.int .i64 (999)] 2)).alloc (.cells #[.slice (some ⟨w3.heap.size,0,none⟩) 2 2] 33)).heap.size=w3.heap.size+2:=by simp
     have rK:Below w3.heap.size w3 ((w3.alloc (.cells #[.int .i64 d,.int .i64 (999)] 2)).alloc (.cells #[.slice (some ⟨w3.heap.size,0,none⟩) 2 2] 33)):=((aae _ _).alloc (aad _) _).alloc (by simp) _;have Bo:=(Row.new w3 #[.int .i64 d,.int .i64 (999)] 2).below ((aae _ _).alloc (aad _) (.cells #[.slice (some ⟨w3.heap.size,0,none⟩) 2 2] 33)) (by simp);have IW:=I Bo;have vD:=I rK;have IX:=I ((kX.o.alloc (.cells #[.int .i64 d,.int .i64 (999)] 2)).alloc (.cells #[.slice (some ⟨w3.heap.size,0,none⟩) 2 2] 33));clear Bo rK;have uI:=fU.o.row.lt g rfl;go_wp2_with (at_builtin;refine aaH _ rfl _ _ 24 rfl w.heap.size 33 i0 (.slice none 0 0) 1 24 underlying24 hi dK ez ek rfl (by decide) _ _ _ rfl IX.o ⟨w3.heap.size+1,0,none⟩ 1 1 (eW ⟨d,999,w3.heap.size⟩) rfl rfl (λj u hj=>kN hj) (λu hu=>kV hu) ?c3 ?c4 (aS (aS dI.o.size)) ?_);case c3=>unfold maxLen;omega
     case c4=>omega
     intro v' w9 aG aA aU gd;obtain ⟨g',fq,rfl,qh,lB⟩:=bG aG (by simpa using aU)
     have o9:g'=g\/g'=w3.heap.size+2:=by
      rcases gd with h|h<;>injection h with h
      ·exact .inl h
      first|exact .inr h|exact .inr (by rw[mH]at h;exact h)
     have Dq:=I (Rows.push (x:=⟨d,999,w3.heap.size⟩) (fU.o.below vD.o) aA (by rw[mH];exact o9) (by rw[fG];exact aG) IW.o dI.o.size (by rw[mH];show w3.heap.size<w3.heap.size+2;omega) (by show w3.heap.size≠g;omega) (λy hy=>(fU.o.each y hy).2.2.1));have vE:=I ((nw.o.below vD.o lG).only (by rw[mH];omega) qG aA);have iM:=I ((dI.o.trans (vD.o.mono dI.o.size)).grown aA (by rw[mH];have:=dI.o.size;omega) (λj hj=>by have:=kX.o.lt j hj;exact this.1));have vF:gT<w9.heap.size:=by have:=aA.size;rw[mH]at this;omega
     clear aG aA aU gd;go_wp2;go_roundw
     case rel=>exact ⟨k+1,g',fq,L++[⟨d,999,w3.heap.size⟩],by go_num,by omega,by rw[aak,List.length_singleton,fG],by rw[aak,List.length_singleton,fG];omega,Dq.o,by rw[aaK];exact IV.o,vE.o,vF,by rcases o9 with e|e<;>omega,(λy hy=>by
      rcases aau.1 hy with hy|hy
      ·exact lF y hy
      rw[aas.1 hy];exact lG),iM.o⟩
     case measure=>simp[intOf]<;>omega
    rw[List.concat_eq_append]at hL;obtain ⟨e1,e2⟩:=oW fU.o.row (j:=L'.length) (u:= .slice (some ⟨x.h,0,none⟩) 2 2) (by rw[hL,abf,aaN (by rw[bp (k:=1) eW (λ_=>rfl)];omega),bp (k:=1) eW (λ_=>rfl)];simp[eW]);have e3:=(fU.o.each x (by rw[hL];simp)).1.cell 1 _ rfl;have e4:=(fU.o.each x (by rw[hL];simp)).1.free 1 (by simp);have HL:=I hL;generalize fG:L.length=n at*;obtain ⟨m,hm⟩: ∃m,m=L'.length:=⟨_,rfl⟩
    rw[<-hm]at e1 e2;have Mq:n=m+1:=by rw[<-fG,hL,hm];simp
    subst Mq;have HM:=I hm;clear hL hm;by_cases Lq:x.hi=d-1
    ·have Ud:(x.hi==d-1)=true:=by simp[Lq]
     have oa:=I (Rows.turn (x:=x) (by rw[<-HL.o];exact fU.o) (999))
     have HJ:ag (gp S ls (k+1) ((L'++[(⟨x.lo,999,x.h⟩:qi)]).map Bl)):=I (by
      have:=IV.o;rw[HL.o,aaK]at this;rw[aaK];exact gp.join (y:=x.hi) (by rw[show x.hi+1=d by omega];exact this))
     have Lo:=(fU.o.each x (by rw[HL.o];simp))
     have kC:=I (dI.o.setCell (p:=⟨x.h,1,none⟩) Lo.2.1 (.int .i64 (999)));have Dr:=I (nw.o.nP (p:=⟨x.h,1,none⟩) (.int .i64 (999)) (by have:=lF x (by rw[HL.o];simp);show x.h≠gT;omega));clear Lq;go_wp2;go_roundw
     case rel=>exact ⟨k+1,g,cap,L'++[⟨x.lo,999,x.h⟩],by go_num,by omega,by simp[HM.o],by have:=HM.o;simp;omega,oa.o,HJ.o,Dr.o,by simpa using lG,qG,(λy hy=>by
      rcases aau.1 hy with hy|hy
      ·exact lF y (by rw[HL.o];exact abr _ hy)
      rw[aas.1 hy];exact lF x (by rw[HL.o];simp)),kC.o⟩
     case measure=>simp[intOf]<;>omega
    have Ud:(x.hi==d-1)=false:=by rw[abY];exact Lq
    clear Lq;have mH:((w3.alloc (.cells #[.int .i64 d,.int .i64 (999)] 2)).alloc (.cells #[.slice (some ⟨w3.heap.size,0,none⟩) 2 2] 33)).heap.size=w3.heap.size+2:=by simp
    have rK:Below w3.heap.size w3 ((w3.alloc (.cells #[.int .i64 d,.int .i64 (999)] 2)).alloc (.cells #[.slice (some ⟨w3.heap.size,0,none⟩) 2 2] 33)):=((aae _ _).alloc (aad _) _).alloc (by simp) _;have Bo:=(Row.new w3 #[.int .i64 d,.int .i64 (999)] 2).below ((aae _ _).alloc (aad _) (.cells #[.slice (some ⟨w3.heap.size,0,none⟩) 2 2] 33)) (by simp);have IW:=I Bo;have vD:=I rK;have IX:=I ((kX.o.alloc (.cells #[.int .i64 d,.int .i64 (999)] 2)).alloc (.cells #[.slice (some ⟨w3.heap.size,0,none⟩) 2 2] 33));clear Bo rK;have uI:=fU.o.row.lt g rfl;go_wp2_with (at_builtin;refine aaH _ rfl _ _ 24 rfl w.heap.size 33 i0 (.slice none 0 0) 1 24 underlying24 hi dK ez ek rfl (by decide) _ _ _ rfl IX.o ⟨w3.heap.size+1,0,none⟩ 1 1 (eW ⟨d,999,w3.heap.size⟩) rfl rfl (λj u hj=>kN hj) (λu hu=>kV hu) ?c3 ?c4 (aS (aS dI.o.size)) ?_);case c3=>unfold maxLen;omega
    case c4=>omega
    intro v' w9 aG aA aU gd;obtain ⟨g',fq,rfl,qh,lB⟩:=bG aG (by simpa using aU)
    have o9:g'=g\/g'=w3.heap.size+2:=by
     rcases gd with h|h<;>injection h with h
     ·exact .inl h
     first|exact .inr h|exact .inr (by rw[mH]at h;exact h)
    have Dq:=I (Rows.push (x:=⟨d,999,w3.heap.size⟩) (fU.o.below vD.o) aA (by rw[mH];exact o9) (by rw[fG];exact aG) IW.o dI.o.size (by rw[mH];show w3.heap.size<w3.heap.size+2;omega) (by show w3.heap.size≠g;omega) (λy hy=>(fU.o.each y hy).2.2.1));have vE:=I ((nw.o.below vD.o lG).only (by rw[mH];omega) qG aA);have iM:=I ((dI.o.trans (vD.o.mono dI.o.size)).grown aA (by rw[mH];have:=dI.o.size;omega) (λj hj=>by have:=kX.o.lt j hj;exact this.1));have vF:gT<w9.heap.size:=by have:=aA.size;rw[mH]at this;omega
    clear aG aA aU gd;go_wp2;go_roundw
    case rel=>exact ⟨k+1,g',fq,L++[⟨d,999,w3.heap.size⟩],by go_num,by omega,by rw[aak,List.length_singleton,fG],by rw[aak,List.length_singleton,fG];omega,Dq.o,by rw[aaK];exact IV.o,vE.o,vF,by rcases o9 with e|e<;>omega,(λy hy=>by
     rcases aau.1 hy with hy|hy
     ·exact lF y hy
     rw[aas.1 hy];exact lG),iM.o⟩
    case measure=>simp[intOf]<;>omega
  have eA: ¬(k:Int)<((bB ls).length:Int):=by omega
  have di:k=(bB ls).length:=by omega
  subst di;clear aI;go_wp2;go_ret;exact ⟨g,cap,L,rfl,kW.o,by omega,PN.o,HB.o⟩
def IY (S:List bE) (ls:List bo) (w:World) (e:Ending) (w':World):Prop:=
 ∃g cap L,e= .returned (.tuple #[.slice (some ⟨g,0,none⟩) L.length cap,.bool true])/\Rows w.heap.size w' g cap L/\L.length<=1000/\gp S ls (bB ls).length (L.map Bl)/\Below w.heap.size w w'
theorem Rows.less {base b:Nat} {w:World} {g cap:Nat} {L:List qi} (h:Rows base w g cap L) (hb:b<=base):Rows b w g cap L:=by
 obtain ⟨T,hB,hC,xy,nj,kd,sY⟩:=dH h.row
 exact ⟨gz hB hC (by rw[abm sY]) sY xy nj (by omega),λx hx=>by
  obtain ⟨h1,h2,h3,h4⟩:=h.each x hx;exact ⟨h1,by omega,h3,h4⟩,h.ord⟩
def eJ (S:List bE) (ls:List bo):Prop:= ∀d,0<=d->d<=999->nU S ls d≠none
theorem tg (T:List Int):jI T T.length=1000:=by unfold jI;rw[aah (Nat.lt_irrefl _)]
theorem gp.none {S:List bE} {ls:List bo} {R:List (Int×Int)} (h:gp S ls (bB ls).length R):R=[]↔eJ S ls:=by
 constructor
 ·rintro rfl d h0 h1 e;obtain ⟨r,hr,_⟩:=(h.all d h0 (by rw[tg];omega)).2 e;cases hr
 intro hg;cases R with
 |nil=>rfl
 |cons r R=>
  exfalso
  have h1:=h.ok r aaA;rw[tg]at h1;exact hg r.1 h1.1 (by omega) ((h.all r.1 h1.1 (by rw[tg];omega)).1 ⟨r,aaA,Int.le_refl _,h1.2.1⟩)
def kO (S:List bE) (ls:List bo) (k:Nat) (D:List Int):Prop:=D.length<=k/\ ∀d,d∈D↔d∈((bB ls).drop 1).take k/\nU S ls (d-1)≠nU S ls d
theorem kO.start (S:List bE) (ls:List bo):kO S ls 0 []:=⟨aad _,λd=>by simp⟩
theorem kO.no {S:List bE} {ls:List bo} {k:Nat} {D:List Int} {x:Int} (h:kO S ls k D) (hx:((bB ls).drop 1)[k]?=some x) (e:nU S ls (x-1)=nU S ls x):kO S ls (k+1) D:=by
 obtain ⟨h1,h2⟩:=aal.1 hx;refine ⟨by have:=h.1;omega,λd=>?_⟩;rw[jF h1,h2,h.2 d];constructor
 ·rintro ⟨a,b⟩;exact ⟨.inl a,b⟩
 rintro ⟨a|a,b⟩
 ·exact ⟨a,b⟩
 rw[a]at b;exact absurd e b
theorem kO.Wm {S:List bE} {ls:List bo} {k:Nat} {D:List Int} {x:Int} (h:kO S ls k D) (hx:((bB ls).drop 1)[k]?=some x) (e:nU S ls (x-1)≠nU S ls x):kO S ls (k+1) (D++[x]):=by
 obtain ⟨h1,h2⟩:=aal.1 hx;refine ⟨by have:=h.1;simp;omega,λd=>?_⟩;rw[jF h1,h2,aau,aas,h.2 d];constructor
 ·rintro (⟨a,b⟩|a)
  ·exact ⟨.inl a,b⟩
  rw[a];exact ⟨.inr rfl,e⟩
 rintro ⟨a|a,b⟩
 ·exact .inl ⟨a,b⟩
 exact .inr a
def N6 (S:List bE) (ls:List bo) (w:World) (e:Ending) (w':World):Prop:=
 ((¬eJ S ls/\e= .returned (.tuple #[.slice none 0 0,.bool false]))\/
  (eJ S ls/\ ∃v D,e= .returned (.tuple #[v,.bool true])/\ay ak D w.heap.size w' v/\kO S ls ((bB ls).length-1) D))/\Below w.heap.size w w'
def Ue (m:Int) (w:World) (e:Ending) (w':World):Prop:= ∃x:Int,0<=x/\x<m/\e= .returned (.int .i64 x)/\ ∃k,w'=w.drewN k
def xF (es:List bE):Nat->List aV->List aV
 |_,[]=>[]
 |n,e::r=>if (bC es e.id).toList≠e.dA.toList\/(e.kind=1/\8<=n)then xF es n r else e::xF es (if e.kind=1 then n+1 else n) r
theorem vG (es:List bE): ∀(P:List aV) (n:Nat),(xF es n P).Sublist P
 |[],_=>List.Sublist.refl _
 |e::r,n=>by
  rw[xF]
  split
  ·exact (vG es r n).cons _
  exact (vG es r _).cons_cons _
theorem vH (es:List bE): ∀(P:List aV) (n:Nat),∀e∈xF es n P,(bC es e.id).toList=e.dA.toList
 |[],_,e,h=>by cases h
 |a::r,n,e,h=>by
  rw[xF]at h
  split at h
  ·exact vH es r n e h
  rename_i hc;rcases aaF.1 h with rfl|h
  ·exact Classical.byContradiction λgm=>hc (.inl gm)
  exact vH es r _ e h
theorem pR (es:List bE): ∀(P:List aV) (n:Nat),n<=8->n+((xF es n P).filter (λe=>decide (e.kind=1))).length<=8
 |[],n,h=>by simpa [xF]using h
 |a::r,n,h=>by
  rw[xF]
  split
  ·exact pR es r n h
  rename_i hc;by_cases hk:a.kind=1
  ·have hn:n<8:=by
    rcases abo n 8 with h8|h8
    ·exact h8
    exact absurd (.inr ⟨hk,h8⟩) hc
   have:=pR es r (n+1) (by omega);rw[aaj hk,List.filter_cons,aaj (by simp[hk]),List.length_cons];omega
  have:=pR es r n h;rw[aah hk,List.filter_cons,aah (by simp[hk])];exact this
theorem N8 {P Q:List aV} (h:bF P=true) (hs:Q.Sublist P):bF Q=true:=by
 rw[fO]at*;exact ⟨λa ha=>h.1 a (hs.subset ha),h.2.1.sublist hs,aaB hs.length_le h.2.2⟩
structure Fits (S:List bE) (P:List aV):Prop where
 ok:bF P=true
 dA: ∀e∈P,(bC S e.id).toList=e.dA.toList
 room:S.length+(P.filter (λe=>decide (e.kind=1))).length<=8
theorem Fits.of {S:List bE} {P:List aV} (h:bF P=true) (h8:S.length<=8):Fits S (xF S S.length P):=
 ⟨N8 h (vG S P _),vH S P _,pR S P _ h8⟩
def Yc (P:List aV) (e:aV):aV:=if (bQ P e.id).kind=0 then e else bQ P e.id
def Mw (w:World) (e:Ending) (w':World):Prop:=
 ∃v1 v2 v3 S P Q,e= .returned (.tuple #[v1,v2,v3])/\ay ai S w.heap.size w' v1/\ay ah P w.heap.size w' v2/\ay ah Q w.heap.size w' v3/\cd S=true/\Fits S P/\Fits S Q/\Below w.heap.size w w'
theorem th: ∀{a b:List aV},gV a->gV b->(∀e,e∈a↔e∈b)->a=b
 |[],[],_,_,_=>rfl
 |[],y::b,_,_,h=>absurd ((h y).2 aaA) (by simp)
 |x::a,[],_,_,h=>absurd ((h x).1 aaA) (by simp)
 |x::a,y::b,ha,hb,h=>by
  obtain ⟨Wn,Yd⟩:=aa9.1 ha;obtain ⟨bw,cL⟩:=aa9.1 hb
  have Lr:x=y:=by
   rcases aaF.1 ((h x).1 aaA)with e|hx
   ·exact e
   rcases aaF.1 ((h y).2 aaA)with e|hy
   ·exact e.symm
   have:=bw x hx;have:=Wn y hy;omega
  subst Lr
  rw[th Yd cL (λi=>by
   constructor
   ·intro hi;rcases aaF.1 ((h i).1 (aaR _ hi))with e|h'
    ·subst e;exact absurd (Wn i hi) (by omega)
    exact h'
   intro hi;rcases aaF.1 ((h i).2 (aaR _ hi))with e|h'
   ·subst e;exact absurd (bw i hi) (by omega)
   exact h')]
theorem vI {α:Type} (p:α->Bool) (l:List α):l.length=(l.filter p).length+(l.filter (λx=>!p x)).length:=by
 induction l with
 |nil=>rfl
 |cons x r ih=>
  rw[List.filter_cons,List.filter_cons];cases h:p x
  ·simp;omega
  simp;omega
theorem IZ {P Q:List aV} (hP:gV P) (hQ:gV Q):P.length+(oT P Q).length=Q.length+(oT Q P).length:=by
 have h1:P.filter (λe=>xA Q e)=Q.filter (λe=>xA P e):=th (hP.sublist List.filter_sublist) (hQ.sublist List.filter_sublist) (λe=>by
  rw[abt,abt,rH,rH];exact ⟨λh=>⟨h.2,h.1⟩,λh=>⟨h.2,h.1⟩⟩)
 have h2:=vI (λe=>xA Q e) P;have h3:=vI (λe=>xA P e) Q;rw[h1]at h2;have e1:oT P Q=Q.filter (λe=>!xA P e):=rfl;have e2:oT Q P=P.filter (λe=>!xA Q e):=rfl;rw[e1,e2];omega
theorem lD.symm {P Q R:List aV} (h:lD P Q R) (hP:gV P) (hQ:gV Q):lD Q P R:=⟨h.lS,λe=>by rw[h.mem];exact Or.comm,by rw[h.len,IZ hP hQ]⟩
theorem lD.Qt {P Q R T:List aV} (h:lD P Q R) (k:lD P Q T):R=T:=th h.lS k.lS (λe=>by rw[h.mem,k.mem])
theorem lD.ok {P Q R:List aV} (h:lD P Q R) (hP:bF P=true) (hQ:bF Q=true) (rp:P.length+(oT P Q).length<=16):bF R=true:=by
 rw[fO];refine ⟨λe he=>?_,h.lS,by rw[h.len];exact rp⟩;rcases (h.mem e).1 he with hm|hm
 ·exact ((fO P).1 hP).1 e hm
 exact ((fO Q).1 hQ).1 e hm
open Go.ChangeShapes Go.WideShapes Go.ChangeAt
def inR (d:Int) (x:qi):Bool:=decide (x.lo<=d)&&decide (d<=x.hi)
theorem I0 {S:List bE} {ls:List bo} {d:Int} (h:eJ S ls) (h0:0<=d) (h1:d<=999):(nU S ls d).isSome=true:=by
 cases e:nU S ls d with
 |none=>exact absurd e (h d h0 h1)
 |some R=>rfl
theorem za.on {w w':World} {B B':Nat} {A:Option Addr} {n:Nat} (h:za w B A n) (hb:Below B w w') (hB:B<=B'):za w' B' A n:=⟨h.1,λh0=>by
 obtain ⟨b,off,rfl,aI,hc⟩:=h.2 h0
 exact ⟨b,off,rfl,by omega,λi hi=>by
  obtain ⟨x,hx,SP⟩:=hc i hi;exact ⟨x,hx,(hb.cell (p:=⟨b,off+i,none⟩) aI).trans SP⟩⟩⟩
theorem zj (L:List Int) (n:Int) (w:World) (v:Value) (h:cz (Pl ak) 1 w w.heap.size v L) (hl:L.length<=1000):
 Calls prog 186 #[v,.int .i64 n] w (Ln L n w):=by
 obtain ⟨A,c,rfl,hc,hm,cn⟩:=h;unfold maxLen at hm;have gH:=I cn;obtain ⟨i0,hi,dK,ez,ek⟩:=aaq iD;have cN:(w.alloc (.cells #[] 2)).ownsRow w.heap.size 2 1 (.slice (some ⟨w.heap.size,0,none⟩) 0 0) 0 []:=by simpa using aaz w #[] 0 (aad _) (aaf _) rfl
 have dY:=I cN;have jT:ag (Below w.heap.size w (w.alloc (.cells #[] 2))):=I ((aae _ _).alloc (aad _) _);clear cn cN;go_enter func186,ntmps186;go_wp2;go_loopw [5,6,7] (λo d i wr=> ∃(k:Nat) (b:Bool) (M:List Int),i= .int .i64 (k:Int)/\d= .bool b/\k<=L.length/\wr.ownsRow w.heap.size 2 1 o M.length (M.flatMap ak)/\o≠ .slice none 0 0/\fP L n k b M/\Below w.heap.size w wr) (λ_ _ i _=>L.length-(intOf i).toNat);case atStart=>exact ⟨0,false,[],rfl,rfl,aaf _,dY.o,by simp,fP.start L n,jT.o⟩
 case round=>
  obtain ⟨k,b,M,rfl,rfl,hk,cr,nm,hP,hb⟩:=hrel;obtain ⟨g,cap,rfl,SD,nj⟩:=bG cr nm;unfold maxLen at nj;have eH:=I cr;have HB:=I hb;have HP:=I hP;have hML:M.length<=k+1:=by have:=hP.len;split at this<;>omega
  clear cr nm hP;by_cases aI:k<L.length
  ·obtain ⟨bb,off,rfl,bD,aC⟩:=gH.o (by omega);have aH:L[k]?=some L[k]:=aag aI;obtain ⟨us,_,hp,CE⟩:=aC k _ aH;have hp:us=ak L[k]:=hp;subst hp;have xE:w.cell? ⟨bb,off+k,none⟩=some (.int .i64 L[k]):=by have:=CE 0 _ rfl;simpa using this
   have x0:=(hb.cell (p:=⟨bb,off+k,none⟩) bD).trans xE;have Mv:=I xE;clear xE;have HK:=I (HP.o.keep aI);clear aC aH CE hb;cases b with
   |true=>
    generalize L[k]=y at*;go_wp2_with (at_builtin;refine abg _ rfl _ _ 33 rfl w.heap.size 2 i0 (.int .i64 0) 1 8 underlying33 hi dK ez ek rfl (by decide) _ _ _ rfl (eH.o.alloc _) ⟨wr.heap.size,0,none⟩ 1 1 (ak y) rfl rfl (cell_one_new _ _ _) (λu hu=>cf _ hu) ?c3 ?c4 (aS HB.o.size) ?_);case c3=>unfold maxLen;omega
    case c4=>omega
    intro v' w9 aG aA aU;have mF:v'≠ .slice none 0 0:=by simpa using aU
    have iM:=I ((HB.o.alloc HB.o.size (.cells #[.int .i64 y] 2)).grown aA (aS HB.o.size) (λj hj=>(eH.o.lt j hj).1));clear aA aU;go_wp2;go_roundw;case rel=>exact ⟨k+1,true,_,by go_num,rfl,by omega,by rw[cq,aak];exact aG,mF,HK.o,iM.o⟩
    case measure=>simp[intOf];omega
   |false=>
    have HH:=I (λe=>HP.o.hit aI e);have HA:=I (HP.o.add aI);generalize L[k]=y at*;by_cases eA:n<=y
    ·by_cases XR:n<y
     ·go_wp2_with (at_builtin;refine abg _ rfl _ _ 33 rfl w.heap.size 2 i0 (.int .i64 0) 1 8 underlying33 hi dK ez ek rfl (by decide) _ _ _ rfl (eH.o.alloc _) ⟨wr.heap.size,0,none⟩ 1 1 (ak n) rfl rfl (cell_one_new _ _ _) (λu hu=>cf _ hu) ?c3 ?c4 (aS HB.o.size) ?_);case c3=>unfold maxLen;omega
      case c4=>omega
      intro v' w8 aG aA aU;have mF:v'≠ .slice none 0 0:=by simpa using aU
      have kx:=I ((HB.o.alloc HB.o.size (.cells #[.int .i64 n] 2)).grown aA (aS HB.o.size) (λj hj=>(eH.o.lt j hj).1));clear aA aU;obtain ⟨g',fq,rfl,qh,lB⟩:=bG aG mF;have I2:=I aG;have x8:=(kx.o.cell (p:=⟨bb,off+k,none⟩) bD).trans Mv.o
      replace I2:ag (w8.ownsRow w.heap.size 2 1 (.slice (some ⟨g',0,none⟩) (M++[n]).length fq) (M++[n]).length ((M++[n]).flatMap ak)):=I (by rw[cq,aak];exact aG)
      have IM:(M++[n]).length=M.length+1:=by simp
      clear aG mF x0;rw[<-IM];generalize M++[n]=M8 at*;unfold maxLen at lB;go_wp2_with (at_builtin;refine abg _ rfl _ _ 33 rfl w.heap.size 2 i0 (.int .i64 0) 1 8 underlying33 hi dK ez ek rfl (by decide) _ _ _ rfl (I2.o.alloc _) ⟨w8.heap.size,0,none⟩ 1 1 (ak y) rfl rfl (cell_one_new _ _ _) (λu hu=>cf _ hu) ?c3 ?c4 (aS kx.o.size) ?_);case c3=>unfold maxLen;omega
      case c4=>omega
      intro v' w9 aG aA aU;have mF:v'≠ .slice none 0 0:=by simpa using aU
      have iM:=I ((kx.o.alloc kx.o.size (.cells #[.int .i64 y] 2)).grown aA (aS kx.o.size) (λj hj=>(I2.o.lt j hj).1));clear aA aU;go_wp2;go_roundw;case rel=>exact ⟨k+1,true,_,by go_num,rfl,by omega,by rw[cq,aak,IM];exact aG,mF,HA.o,iM.o⟩
      case measure=>simp[intOf];omega
     have QG:y=n:=by omega
     have Ye:=I (HH.o QG);subst QG;go_wp2_with (at_builtin;refine abg _ rfl _ _ 33 rfl w.heap.size 2 i0 (.int .i64 0) 1 8 underlying33 hi dK ez ek rfl (by decide) _ _ _ rfl (eH.o.alloc _) ⟨wr.heap.size,0,none⟩ 1 1 (ak y) rfl rfl (cell_one_new _ _ _) (λu hu=>cf _ hu) ?c3 ?c4 (aS HB.o.size) ?_);case c3=>unfold maxLen;omega
     case c4=>omega
     intro v' w9 aG aA aU;have mF:v'≠ .slice none 0 0:=by simpa using aU
     have iM:=I ((HB.o.alloc HB.o.size (.cells #[.int .i64 y] 2)).grown aA (aS HB.o.size) (λj hj=>(eH.o.lt j hj).1));clear aA aU;go_wp2;go_roundw;case rel=>exact ⟨k+1,true,_,by go_num,rfl,by omega,by rw[cq,aak];exact aG,mF,Ye.o,iM.o⟩
     case measure=>simp[intOf];omega
    go_wp2_with (at_builtin;refine abg _ rfl _ _ 33 rfl w.heap.size 2 i0 (.int .i64 0) 1 8 underlying33 hi dK ez ek rfl (by decide) _ _ _ rfl (eH.o.alloc _) ⟨wr.heap.size,0,none⟩ 1 1 (ak y) rfl rfl (cell_one_new _ _ _) (λu hu=>cf _ hu) ?c3 ?c4 (aS HB.o.size) ?_);case c3=>unfold maxLen;omega
    case c4=>omega
    intro v' w9 aG aA aU;have mF:v'≠ .slice none 0 0:=by simpa using aU
    have iM:=I ((HB.o.alloc HB.o.size (.cells #[.int .i64 y] 2)).grown aA (aS HB.o.size) (λj hj=>(eH.o.lt j hj).1));clear aA aU;go_wp2;go_roundw;case rel=>exact ⟨k+1,false,_,by go_num,rfl,by omega,by rw[cq,aak];exact aG,mF,HK.o,iM.o⟩
    case measure=>simp[intOf];omega
  have eA: ¬(k:Int)<(L.length:Int):=by omega
  have di:k=L.length:=by omega
  rw[di]at HP;clear di aI;cases b with
  |true=>
   have HD:=I HP.o.done;have zh:ag (ay ak M w.heap.size wr (.slice (some ⟨g,0,none⟩) M.length cap)):=I (ay.bI ak (size:=1) (λ_=>rfl) eH.o);go_wp2;go_ret;exact ⟨_,M,rfl,zh.o,HD.o.1,HD.o.2,hb⟩
  |false=>
   have HD:=I HP.o.last;go_wp2_with (at_builtin;refine abg _ rfl _ _ 33 rfl w.heap.size 2 i0 (.int .i64 0) 1 8 underlying33 hi dK ez ek rfl (by decide) _ _ _ rfl (eH.o.alloc _) ⟨wr.heap.size,0,none⟩ 1 1 (ak n) rfl rfl (cell_one_new _ _ _) (λu hu=>cf _ hu) ?c3 ?c4 (aS HB.o.size) ?_);case c3=>unfold maxLen;omega
   case c4=>omega
   intro v' w9 aG aA aU;have mF:v'≠ .slice none 0 0:=by simpa using aU
   have iM:=I ((HB.o.alloc HB.o.size (.cells #[.int .i64 n] 2)).grown aA (aS HB.o.size) (λj hj=>(eH.o.lt j hj).1));clear aA aU;have zh:ag (ay ak (M++[n]) w.heap.size w9 v'):=I (ay.bI ak (size:=1) (λ_=>rfl) (by rw[cq,aak];exact aG));obtain ⟨q1,q2,rfl,_⟩:=zh.o;clear aG mF;go_wp2;go_ret;exact ⟨_,M++[n],rfl,zh.o,HD.o.1,HD.o.2,iM.o⟩
theorem Bp {ls:List bo} {k:Nat} (h:k<ls.length) (x:Int):x∈eN ls (k+1)↔x∈eN ls k\/(rJ ls[k].a8=true/\x=ls[k].a8)\/(rJ ls[k].fin=true/\x=ls[k].fin):=by
 rw[oY h,aau,abt];simp only[aaF,List.not_mem_nil,or_false];constructor
 ·rintro (h|⟨rfl|rfl,h⟩)
  ·exact .inl h
  ·exact .inr (.inl ⟨h,rfl⟩)
  exact .inr (.inr ⟨h,rfl⟩)
 rintro (h|⟨h,rfl⟩|⟨h,rfl⟩)
 ·exact .inl h
 ·exact .inr ⟨.inl rfl,h⟩
 exact .inr ⟨.inr rfl,h⟩
def F8 (ls:List bo) (w:World) (e:Ending) (w':World):Prop:=
 ∃v M,e= .returned v/\ay ak M w.heap.size w' v/\(∀x,x∈M↔xC ls x)/\M.length<=1+2*ls.length/\Below w.heap.size w w'
theorem Ds (ls:List bo) (w:World) (v:Value) (h:eE w w.heap.size v ls) (hl:ls.length<=400):
 Calls prog 157 #[v] w (F8 ls w):=by
 obtain ⟨A,c,rfl,hc,hm,cn⟩:=dk h;have gH:=I cn;clear cn h;have SQ:ag (ay ak [0] w.heap.size (w.alloc (.cells #[.int .i64 0] 2)) (.slice (some ⟨w.heap.size,0,none⟩) 1 1)):=I ⟨_,1,rfl,aad _,by unfold maxLen;decide,λ_=>⟨_,rfl,aad _,by simp,Row.new w #[.int .i64 0] 2⟩⟩;have jT:ag (Below w.heap.size w (w.alloc (.cells #[.int .i64 0] 2))):=I ((aae _ _).alloc (aad _) _);go_enter func157,ntmps157;go_wp2;go_loopw [3,4] (λo i wr=> ∃(k:Nat) (M:List Int),i= .int .i64 (k:Int)/\k<=ls.length/\ay ak M w.heap.size wr o/\(∀x,x∈M↔x∈eN ls k)/\M.length<=1+2*k/\Below w.heap.size w wr) (λ_ i _=>ls.length-(intOf i).toNat);case atStart=>exact ⟨0,[0],rfl,aaf _,SQ.o,(λx=>by simp[eN]),by simp,jT.o⟩
 case round=>
  obtain ⟨k,M,rfl,hk,hO,hM,SR,hb⟩:=hrel;have HO:=I hO;have HB:=I hb;obtain ⟨p1,p2,rfl,_⟩:=hO;by_cases aI:k<ls.length
  ·obtain ⟨b,off,rfl,bD,aC⟩:=gH.o (by omega);have aH:ls[k]?=some ls[k]:=aag aI;obtain ⟨pv,c0,c1,_,_⟩:=aC k _ aH;have x0:=(hb.cell (p:=⟨b,off+k*3,none⟩) bD).trans c0;have Mv:=I c0;have FN:=I c1;have HT:=I (λx=>(Bp aI x).trans (or_congr (hM x).symm aa6));clear aC c0 c1 aH hb hM;generalize ls[k]=a at*;have HD:=I (vy a.a8 wr (rJ a.a8) rfl);cases iq:rJ a.a8 with
   |false=>
    rw[iq]at HD HT;clear iq;go_wp2_with (fail);refine (HD.o).mono ?_;rintro e _ ⟨rfl,q4,rfl⟩;have kC:=I (below_drewN HB.o q4);have QP:=I (HO.o.on (below_drewN (aae wr.heap.size wr) q4));generalize wr.drewN q4=w4 at*;have x5:=(kC.o.cell (p:=⟨b,off+k*3+1,none⟩) bD).trans FN.o;have xG:=I (vy a.fin w4 (rJ a.fin) rfl);cases zk:rJ a.fin with
    |false=>
     rw[zk]at xG HT;clear zk;go_wp2_with (fail);refine (xG.o).mono ?_;rintro e _ ⟨rfl,q5,rfl⟩;have F9:=I (below_drewN kC.o q5);have zl:=I (QP.o.on (below_drewN (aae w4.heap.size w4) q5));generalize w4.drewN q5=w6 at*;go_wp2;go_roundw;case rel=>exact ⟨k+1,M,by go_num,by omega,zl.o,(λx=>by rw[HT.o x];simp),by omega,F9.o⟩
     case measure=>simp[intOf];omega
    |true=>
     rw[zk]at xG HT;clear zk;go_wp2_with (fail);refine (xG.o).mono ?_;rintro e _ ⟨rfl,q5,rfl⟩;have F9:=I (below_drewN kC.o q5);have zl:=I (QP.o.on (below_drewN (aae w4.heap.size w4) q5));generalize w4.drewN q5=w6 at*;have x6:=(F9.o.cell (p:=⟨b,off+k*3+1,none⟩) bD).trans FN.o;go_wp2_with (fail);refine (zj M a.fin w6 _ (zl.o.mo (size:=1) (λ_=>rfl)) (by omega)).mono ?_;rintro e w7 ⟨v',N7,rfl,hO,hm,hl,dF⟩;have Uf:=I (hO.less F9.o.size);have Ug:=I (F9.o.trans (dF.mono F9.o.size));have QQ:=I hm;obtain ⟨p1,p2,rfl,_⟩:=hO;clear hm dF;go_wp2;go_roundw;case rel=>exact ⟨k+1,N7,by go_num,by omega,Uf.o,(λx=>by rw[HT.o x,QQ.o x];(simp;exact or_comm)),by omega,Ug.o⟩
     case measure=>simp[intOf];omega
   |true=>
    rw[iq]at HD HT;clear iq;go_wp2_with (fail);refine (HD.o).mono ?_;rintro e _ ⟨rfl,q3,rfl⟩;have dI:=I (below_drewN HB.o q3);have Ls:=I (HO.o.on (below_drewN (aae wr.heap.size wr) q3));generalize wr.drewN q3=w3 at*;have x3:=(dI.o.cell (p:=⟨b,off+k*3,none⟩) bD).trans Mv.o;go_wp2_with (fail);refine (zj M a.a8 w3 _ (Ls.o.mo (size:=1) (λ_=>rfl)) (by omega)).mono ?_;rintro e w4 ⟨v',N4,rfl,hO,hm,hl,dF⟩;have QP:=I (hO.less dI.o.size);have kC:=I (dI.o.trans (dF.mono dI.o.size));have Lt:=I hm;obtain ⟨p1,p2,rfl,_⟩:=hO;clear hm dF;have x5:=(kC.o.cell (p:=⟨b,off+k*3+1,none⟩) bD).trans FN.o;have xG:=I (vy a.fin w4 (rJ a.fin) rfl);cases zk:rJ a.fin with
    |false=>
     rw[zk]at xG HT;clear zk;go_wp2_with (fail);refine (xG.o).mono ?_;rintro e _ ⟨rfl,q5,rfl⟩;have F9:=I (below_drewN kC.o q5);have zl:=I (QP.o.on (below_drewN (aae w4.heap.size w4) q5));generalize w4.drewN q5=w6 at*;go_wp2;go_roundw;case rel=>exact ⟨k+1,N4,by go_num,by omega,zl.o,(λx=>by rw[HT.o x];(rw[Lt.o x];simp;exact or_comm)),by omega,F9.o⟩
     case measure=>simp[intOf];omega
    |true=>
     rw[zk]at xG HT;clear zk;go_wp2_with (fail);refine (xG.o).mono ?_;rintro e _ ⟨rfl,q5,rfl⟩;have F9:=I (below_drewN kC.o q5);have zl:=I (QP.o.on (below_drewN (aae w4.heap.size w4) q5));generalize w4.drewN q5=w6 at*;have x6:=(F9.o.cell (p:=⟨b,off+k*3+1,none⟩) bD).trans FN.o;go_wp2_with (fail);refine (zj N4 a.fin w6 _ (zl.o.mo (size:=1) (λ_=>rfl)) (by omega)).mono ?_;rintro e w7 ⟨v',N7,rfl,hO,hm,hl,dF⟩;have Uf:=I (hO.less F9.o.size);have Ug:=I (F9.o.trans (dF.mono F9.o.size));have QQ:=I hm;obtain ⟨p1,p2,rfl,_⟩:=hO;clear hm dF;go_wp2;go_roundw;case rel=>exact ⟨k+1,N7,by go_num,by omega,Uf.o,(λx=>by rw[HT.o x,QQ.o x];(rw[Lt.o x];simp;by_cases z1:x=a.a8<;>by_cases z2:x=a.fin<;>by_cases z3:x∈M<;>simp[z1,z2,z3])),by omega,Ug.o⟩
     case measure=>simp[intOf];omega
  have eA: ¬(k:Int)<(ls.length:Int):=by omega
  have di:k=ls.length:=by omega
  have I4:ag (∀x,x∈M↔xC ls x):=I (λx=>by rw[hM x,di,vx]);clear di hM aI;go_wp2;go_ret;exact ⟨_,M,rfl,HO.o,I4.o,by omega,hb⟩
end Go.Proofs.YtbcggaldkihcaaaGreat
