/- What was marked is held: members, acts, motions, assemblies, walked. -/
import Derived.Test.YtbcggaldkihcaaaGreatQH
import Derived.Test.YtbcggaldkihcaaaGreatQI
set_option maxHeartbeats 8000000
set_option maxRecDepth 100000
namespace Go.Proofs.YtbcggaldkihcaaaGreat
open Tryz
open Go.RowKit Go.Lib
theorem amR {β:Type} (m:Nat->β->β) (nx:Nat->β->Nat): ∀(L:List β) (k j:Nat) (x:β),L[j]?=some x->(bL m nx k L)[j]?=some (m (bs nx k (L.take j)) x)
 |[],_,_,_,h=>by simp at h
 |y::L,k,0,x,h=>by
  rw[List.getElem?_cons_zero]at h;injection h with h
  subst h;rfl
 |y::L,k,j+1,x,h=>by
  rw[List.getElem?_cons_succ]at h;rw[bL,List.getElem?_cons_succ,amR m nx L (nx k y) j x h];rfl
theorem anc {β:Type} (nx:Nat->β->Nat): ∀(L M:List β) (k:Nat),bs nx k (L++M)=bs nx (bs nx k L) M
 |[],_,_=>rfl
 |x::L,M,k=>anc nx L M (nx k x)
theorem amK {β:Type} {nx:Nat->β->Nat} (h: ∀k x,k<=nx k x): ∀(L:List β) (k:Nat),k<=bs nx k L
 |[],_=>aad _
 |x::L,k=>aaB (h k x) (amK h L (nx k x))
theorem amW {β:Type} {nx:Nat->β->Nat} (h: ∀k x,k<=nx k x) (L:List β) (k j:Nat):bs nx k (L.take j)<=bs nx k L:=by
 have e:bs nx k L=bs nx (bs nx k (L.take j)) (L.drop j):=by rw[<-anc,abG]
 rw[e];exact amK h _ _
theorem am9 (L:List bR) (k:Nat) (A:Option Addr) (c base:Nat) (w:World) (h:aR dX base w (.slice A L.length c) (bL lT cH k L)) (hn:L.length<=1048576) (l8:bs cH k L<=1048576):
 Calls prog 85 #[.slice A L.length c,.int .i64 (k:Int)] w (bT (.int .i64 ((bs cH k L:Nat):Int)) w):=by
 have HM:=I (λy:ar w=>h.below y.ok);have ane:=I (λj=>amW (nx:=cH) (λk x=>by unfold cH;omega) L k j);have Kl:=I (λj=>amK (nx:=cH) (λk x=>by unfold cH;omega) (L.take j) k);have rn:L.length<=9223372036854775807:=by omega
 clear h;refine aL λx0=>?_;go_enter func85,ntmps85;go_wp2;go_loopw [1,5] (λm i wr=> ∃(j:Nat) (x:ar w),j<=L.length/\i= .int .i64 (j:Int)/\m= .int .i64 ((bs cH k (L.take j):Nat):Int)/\wr=x.val) (λ_ i _=>L.length-(intOf i).toNat);case atStart=>exact ⟨0,x0,aaf _,rfl,rfl,rfl⟩
 case round=>
  obtain ⟨j,x,hj,rfl,rfl,rfl⟩:=hrel;by_cases aI:j<L.length
  ·have hq:L[j]?=some L[j]:=aag aI;have aH:=amR lT cH L k j _ hq;have amO:bs cH k (L.take (j+1))=cH (bs cH k (L.take j)) L[j]:=by rw[aaG aI,jk]
   have tp:=ane.o j;have anf:=ane.o (j+1);have anE:=Kl.o j;generalize L[j]=q at*;obtain ⟨g,c',hv,_,_,_,_,_⟩:=(HM.o x).cell aH;injection hv with e1 e2 e3
   subst e1;obtain ⟨K,hK⟩: ∃K,K=bs cH k (L.take j):=⟨_,rfl⟩
   rw[<-hK]at anE tp amO aH⊢;rw[amO]at anf;rw[show cH K q=K+q.a.length from rfl]at anf
   have aC: ∀(y:ar w) (i:Nat) (u:Value),(dX.cells (lT K q))[i]?=some u->y.val.cell? ⟨g,j*1+i,none⟩=some u:=λy i u hu=>by
    obtain ⟨g',c2,hv,_,_,_,_,h7⟩:=(HM.o y).cell aH;injection hv with f1 f2 f3
    injection f1 with f1
    injection f1 with f1
    rw[f1];exact (h7 i u hu).1
   have amZ: ∀y:ar w,dX.fa base y.val (lT K q):=λy=>(HM.o y).fa _ (aaC aH);have iG:=I amO;clear aH amO hq e2 e3;obtain ⟨A9,c9,e9,_⟩:=(show ay ak (jr K q.a.length) base x.val q.v from amZ x)
   rw[gI]at e9;obtain ⟨K2,yy⟩: ∃K2,K2=K+q.a.length:=⟨_,rfl⟩
   have HHI:ag (∀y:ar w,Calls prog 140 #[.slice A9 q.a.length c9,.int .i64 (K:Int)] y.val (f' (.int .i64 (K2:Int)) y.val)):=I (λy=>by
    have ho:=(show ay ak (jr K q.a.length) base y.val q.v from amZ y)
    rw[e9]at ho;have hI:Ints y.val y.val.heap.size (.slice A9 q.a.length c9) (jr K q.a.length):=ho.mo (size:=1) λ_=>rfl;have:=ry q.a.length K A9 c9 y.val hI (by omega) (by omega);rw[show ((K:Nat):Int)=(K:Int) by omega,show ((K+q.a.length:Nat):Int)=(K2:Int) by omega]at this;exact this)
   have z0: ∀y:ar w,y.val.cell? ⟨g,j,none⟩=some (.slice A9 q.a.length c9):=λy=>by
    have:=aC y 0 _ rfl;rw[abj,Nat.add_zero]at this;rw[this];exact congrArg some e9
   have RY:ag (((bs cH k (L.take (j+1)):Nat):Int)=(K2:Int)):=I (by rw[iG.o,yy];rfl);have nm: ¬(K2:Int)<0:=by omega
   clear aC amZ hK yy e9;go_wp2_with (fail);refine (az (HHI.o x)).mono ?_;rintro e _ ⟨rfl,y1,rfl⟩;go_wp2;go_roundw;case rel=>exact ⟨j+1,y1,by omega,by go_num,by rw[RY.o],rfl⟩
   case measure=>simp[intOf];omega
  have eA: ¬(j:Int)<(L.length:Int):=by omega
  have sF:L.take j=L:=aaJ (by omega);rw[sF];have Gz:bs cH k L<=1048576:=l8;go_wp2;go_ret;exact ⟨rfl,x.ok⟩
theorem am' (L:List bu) (k:Nat) (A:Option Addr) (c base:Nat) (w:World) (h:aR cw base w (.slice A L.length c) (bL lU dQ k L)) (rc:0<k) (hn:L.length<=1048576) (l8:bs dQ k L<=1048576):
 Calls prog 87 #[.slice A L.length c,.int .i64 (k:Int)] w (bT (.int .i64 ((bs dQ k L:Nat):Int)) w):=by
 have HM:=I (λy:ar w=>h.below y.ok);have ane:=I (λj=>amW (nx:=dQ) (λk x=>by unfold dQ;omega) L k j);have Kl:=I (λj=>amK (nx:=dQ) (λk x=>by unfold dQ;omega) (L.take j) k);have rn:L.length<=9223372036854775807:=by omega
 clear h;refine aL λx0=>?_;go_enter func87,ntmps87;go_wp2;go_loopw [1,5] (λm i wr=> ∃(j:Nat) (x:ar w),j<=L.length/\i= .int .i64 (j:Int)/\m= .int .i64 ((bs dQ k (L.take j):Nat):Int)/\wr=x.val) (λ_ i _=>L.length-(intOf i).toNat);case atStart=>exact ⟨0,x0,aaf _,rfl,rfl,rfl⟩
 case round=>
  obtain ⟨j,x,hj,rfl,rfl,rfl⟩:=hrel;by_cases aI:j<L.length
  ·have hq:L[j]?=some L[j]:=aag aI;have aH:=amR lU dQ L k j _ hq;have amO:bs dQ k (L.take (j+1))=dQ (bs dQ k (L.take j)) L[j]:=by rw[aaG aI,jk]
   have tp:=ane.o j;have anf:=ane.o (j+1);have anE:=Kl.o j;generalize L[j]=q at*;obtain ⟨g,c',hv,_,_,_,_,_⟩:=(HM.o x).cell aH;injection hv with e1 e2 e3
   subst e1;obtain ⟨K,hK⟩: ∃K,K=bs dQ k (L.take j):=⟨_,rfl⟩
   rw[<-hK]at anE tp amO aH⊢;rw[amO]at anf;rw[show dQ K q=K+2+4*q.a.pat.length from rfl]at anf
   have aC: ∀(y:ar w) (i:Nat) (u:Value),(cw.cells (lU K q))[i]?=some u->y.val.cell? ⟨g,j*3+i,none⟩=some u:=λy i u hu=>by
    obtain ⟨g',c2,hv,_,_,_,_,h7⟩:=(HM.o y).cell aH;injection hv with f1 f2 f3
    injection f1 with f1
    injection f1 with f1
    rw[f1];exact (h7 i u hu).1
   have amZ: ∀y:ar w,cw.fa base y.val (lU K q):=λy=>(HM.o y).fa _ (aaC aH);have iG:=I amO;clear aH amO hq e2 e3;obtain ⟨A9,c9,e9,_⟩:=(show ay ah (dG (K+2) q.a.pat.length) base x.val q.v from amZ x)
   rw[eL]at e9;obtain ⟨K2,yy⟩: ∃K2,K2=K+2+4*q.a.pat.length:=⟨_,rfl⟩
   have HHI:ag (∀y:ar w,Calls prog 141 #[.slice A9 q.a.pat.length c9,.int .i64 ((K:Int)+1+1)] y.val (bT (.int .i64 (K2:Int)) y.val)):=I (λy=>by
    have ho:=(show ay ah (dG (K+2) q.a.pat.length) base y.val q.v from amZ y)
    rw[e9]at ho;have hI:bg y.val y.val.heap.size (.slice A9 q.a.pat.length c9) (dG (K+2) q.a.pat.length):=ho.mo (size:=4) λ_=>rfl;have:=qw q.a.pat.length (K+2) A9 c9 y.val hI (by omega) (by omega) (by omega);rw[show (((K+2):Nat):Int)=((K:Int)+1+1) by omega,show (((K+2)+4*q.a.pat.length:Nat):Int)=(K2:Int) by omega]at this;exact this)
   have z0: ∀y:ar w,y.val.cell? ⟨g,j*3,none⟩=some (.int .i64 (K:Int)):=λy=>aC y 0 _ rfl;have z1: ∀y:ar w,y.val.cell? ⟨g,j*3+1,none⟩=some (.int .i64 ((K:Int)+1)):=λy=>aC y 1 _ rfl;have z2: ∀y:ar w,y.val.cell? ⟨g,j*3+2,none⟩=some (.slice A9 q.a.pat.length c9):=λy=>(aC y 2 _ rfl).trans (congrArg some e9);have RY:ag (((bs dQ k (L.take (j+1)):Nat):Int)=(K2:Int)):=I (by rw[iG.o,yy];rfl);have nm: ¬(K2:Int)<0:=by omega
   clear aC amZ hK yy e9;go_wp2_with (fail);refine (aq (HHI.o x)).mono ?_;rintro e _ ⟨rfl,y1,rfl⟩;go_wp2;go_roundw;case rel=>exact ⟨j+1,y1,by omega,by go_num,by rw[RY.o],rfl⟩
   case measure=>simp[intOf];omega
  have eA: ¬(j:Int)<(L.length:Int):=by omega
  have sF:L.take j=L:=aaJ (by omega);rw[sF];have Gz:bs dQ k L<=1048576:=l8;go_wp2;go_ret;exact ⟨rfl,x.ok⟩
theorem ana (L:List bH) (k:Nat) (A:Option Addr) (c base:Nat) (w:World) (h:aR cX base w (.slice A L.length c) (bL lJ eR k L)) (rc:0<k) (hn:L.length<=1048576) (l8:bs eR k L<=1048576):
 Calls prog 88 #[.slice A L.length c,.int .i64 (k:Int)] w (bT (.int .i64 ((bs eR k L:Nat):Int)) w):=by
 have HM:=I (λy:ar w=>h.below y.ok);have ane:=I (λj=>amW (nx:=eR) (λk x=>by unfold eR;omega) L k j);have Kl:=I (λj=>amK (nx:=eR) (λk x=>by unfold eR;omega) (L.take j) k);have rn:L.length<=9223372036854775807:=by omega
 clear h;refine aL λx0=>?_;go_enter func88,ntmps88;go_wp2;go_loopw [1,5] (λm i wr=> ∃(j:Nat) (x:ar w),j<=L.length/\i= .int .i64 (j:Int)/\m= .int .i64 ((bs eR k (L.take j):Nat):Int)/\wr=x.val) (λ_ i _=>L.length-(intOf i).toNat);case atStart=>exact ⟨0,x0,aaf _,rfl,rfl,rfl⟩
 case round=>
  obtain ⟨j,x,hj,rfl,rfl,rfl⟩:=hrel;by_cases aI:j<L.length
  ·have hq:L[j]?=some L[j]:=aag aI;have aH:=amR lJ eR L k j _ hq;have amO:bs eR k (L.take (j+1))=eR (bs eR k (L.take j)) L[j]:=by rw[aaG aI,jk]
   have tp:=ane.o j;have anf:=ane.o (j+1);have anE:=Kl.o j;generalize L[j]=q at*;obtain ⟨g,c',hv,_,_,_,_,_⟩:=(HM.o x).cell aH;injection hv with e1 e2 e3
   subst e1;obtain ⟨K,hK⟩: ∃K,K=bs eR k (L.take j):=⟨_,rfl⟩
   rw[<-hK]at anE tp amO aH⊢;rw[amO]at anf;rw[show eR K q=K+2+4*q.a.pat.length+3+q.a.ax.length+1 from rfl]at anf
   have aC: ∀(y:ar w) (i:Nat) (u:Value),(cX.cells (lJ K q))[i]?=some u->y.val.cell? ⟨g,j*8+i,none⟩=some u:=λy i u hu=>by
    obtain ⟨g',c2,hv,_,_,_,_,h7⟩:=(HM.o y).cell aH;injection hv with f1 f2 f3
    injection f1 with f1
    injection f1 with f1
    rw[f1];exact (h7 i u hu).1
   have amZ: ∀y:ar w,cX.fa base y.val (lJ K q):=λy=>(HM.o y).fa _ (aaC aH);have iG:=I amO;clear aH amO hq e2 e3;have hiA:=λ(y:ar w)=>(show ay ah (dG (K+2) q.a.pat.length) base y.val q.p from (amZ y).1);have hiB:=λ(y:ar w)=>(show ay ak (jr (K+2+4*q.a.pat.length+3) q.a.ax.length) base y.val q.t from (amZ y).2.1);obtain ⟨A9,c9,e9,_⟩:=hiA x;rw[eL]at e9;obtain ⟨A8,c8,e8,_⟩:=hiB x;rw[gI]at e8;obtain ⟨K2,yy⟩: ∃K2,K2=K+2+4*q.a.pat.length:=⟨_,rfl⟩
   obtain ⟨K3,KO⟩: ∃K3,K3=K2+3+q.a.ax.length:=⟨_,rfl⟩
   rw[<-yy]at hiB
   have HHE:ag (∀y:ar w,Calls prog 141 #[.slice A9 q.a.pat.length c9,.int .i64 ((K:Int)+1+1)] y.val (bT (.int .i64 (K2:Int)) y.val)):=I (λy=>by
    have ho:=hiA y;rw[e9]at ho;have hI:bg y.val y.val.heap.size (.slice A9 q.a.pat.length c9) (dG (K+2) q.a.pat.length):=ho.mo (size:=4) λ_=>rfl;have:=qw q.a.pat.length (K+2) A9 c9 y.val hI (by omega) (by omega) (by omega);rw[show (((K+2):Nat):Int)=((K:Int)+1+1) by omega,show (((K+2)+4*q.a.pat.length:Nat):Int)=(K2:Int) by omega]at this;exact this)
   have HHI:ag (∀y:ar w,Calls prog 140 #[.slice A8 q.a.ax.length c8,.int .i64 ((K2:Int)+1+1+1)] y.val (f' (.int .i64 (K3:Int)) y.val)):=I (λy=>by
    have ho:=hiB y;rw[e8]at ho;have hI:Ints y.val y.val.heap.size (.slice A8 q.a.ax.length c8) (jr (K2+3) q.a.ax.length):=ho.mo (size:=1) λ_=>rfl;have:=ry q.a.ax.length (K2+3) A8 c8 y.val hI (by omega) (by omega);rw[show (((K2+3):Nat):Int)=((K2:Int)+1+1+1) by omega,show (((K2+3)+q.a.ax.length:Nat):Int)=(K3:Int) by omega]at this;exact this)
   have oe:ag (∀W,Calls prog 83 #[.int .i64 (K:Int)] W (bT (.string ⟨(109::itoa ((K:Nat):Int)).toArray⟩) W)):=I (λW=>fg _ K rfl W (by omega) (by omega));have z0: ∀y:ar w,y.val.cell? ⟨g,j*8,none⟩=some (.string ⟨(109::itoa ((K:Nat):Int)).toArray⟩):=λy=>aC y 0 _ rfl;have z1: ∀y:ar w,y.val.cell? ⟨g,j*8+1,none⟩=some (.int .i64 ((K:Int)+1)):=λy=>aC y 1 _ rfl;have z2: ∀y:ar w,y.val.cell? ⟨g,j*8+2,none⟩=some (.slice A9 q.a.pat.length c9):=λy=>(aC y 2 _ rfl).trans (congrArg some e9);have z3: ∀y:ar w,y.val.cell? ⟨g,j*8+3,none⟩=some (.int .i64 (K2:Int)):=λy=>(aC y 3 (.int .i64 ((K+2+4*q.a.pat.length:Nat):Int)) rfl).trans (by rw[yy]);have z4: ∀y:ar w,y.val.cell? ⟨g,j*8+4,none⟩=some (.int .i64 ((K2:Int)+1)):=λy=>(aC y 4 (.int .i64 (((K+2+4*q.a.pat.length:Nat):Int)+1)) rfl).trans (by rw[yy]);have z5: ∀y:ar w,y.val.cell? ⟨g,j*8+5,none⟩=some (.int .i64 ((K2:Int)+1+1)):=λy=>(aC y 5 (.int .i64 (((K+2+4*q.a.pat.length:Nat):Int)+1+1)) rfl).trans (by rw[yy]);have z6: ∀y:ar w,y.val.cell? ⟨g,j*8+6,none⟩=some (.slice A8 q.a.ax.length c8):=λy=>(aC y 6 _ rfl).trans (congrArg some e8);have z7: ∀y:ar w,y.val.cell? ⟨g,j*8+7,none⟩=some (.int .i64 (K3:Int)):=λy=>(aC y 7 (.int .i64 ((K+2+4*q.a.pat.length+3+q.a.ax.length:Nat):Int)) rfl).trans (by rw[KO,yy]);have RY:ag (((bs eR k (L.take (j+1)):Nat):Int)=(K3:Int)+1):=I (by rw[iG.o,KO,yy];unfold eR;omega);have nm: ¬(K2:Int)<0:=by omega
   have aof: ¬(K3:Int)<0:=by omega
   have aog:K2<=1048576:=by omega
   have aoh:K3+1<=1048576:=by omega
   clear aC amZ hK yy KO e9 e8 hiA hiB;generalize (⟨(109::itoa ((K:Nat):Int)).toArray⟩:ByteArray)=t2 at*;go_upto_region 4 with (fail)
   refine ap (by kernel_rfl) (by kernel_rfl) ?_
   repeat (go_big_quiet_step ((first|(go_at_call 83;exact aq (oe.o _)))))
   refine aai ?_;rintro _ ⟨y0,rfl⟩;go_wp2_with (fail);refine (aq (HHE.o y0)).mono ?_;rintro e _ ⟨rfl,y1,rfl⟩;go_wp2_with (fail);refine (az (HHI.o y1)).mono ?_;rintro e _ ⟨rfl,y2,rfl⟩;go_wp2;go_roundw;case rel=>exact ⟨j+1,y2,by omega,by go_num,by rw[RY.o],rfl⟩
   case measure=>simp[intOf];omega
  have eA: ¬(j:Int)<(L.length:Int):=by omega
  have sF:L.take j=L:=aaJ (by omega);rw[sF];have Gz:bs eR k L<=1048576:=l8;go_wp2;go_ret;exact ⟨rfl,x.ok⟩
theorem ang (a:cp) (x:cS) (T:List bR) (C:List bu) (M:List bH) (base:Nat) (w:World) (day rule:Int)
 (h:kP base w x (Ra 1 a T C M) (bL lT cH 1 T) (bL lU dQ (bs dx (bs cH 1 T) a.base) C) (bL lJ eR (bs dQ (bs dx (bs cH 1 T) a.base) C) M)) (mE:T.length<=1048576) (tO:a.base.length<=1048576) (hl3:C.length<=1048576) (Vs:M.length<=1048576) (hb:tq 1 a T C M<=1048576):
 Calls prog 34 #[.agg #[.int .i64 day,.int .i64 rule,x.t,x.b,x.c,x.m],.int .i64 1] w (bT (.int .i64 ((tq 1 a T C M:Nat):Int)) w):=by
 have g1:=amK (nx:=cH) (λk x=>by unfold cH;omega) T 1;have g2:=amK (nx:=dx) (λk x=>by unfold dx;omega) a.base (bs cH 1 T);have g3:=amK (nx:=dQ) (λk x=>by unfold dQ;omega) C (bs dx (bs cH 1 T) a.base);have g4:=amK (nx:=eR) (λk x=>by unfold eR;omega) M (bs dQ (bs dx (bs cH 1 T) a.base) C);unfold tq at hb⊢;obtain ⟨xt,xb,xc,xm⟩:=x;obtain ⟨A1,c1,f1,_⟩:=h.t.row;obtain ⟨A2,c2,f2,_⟩:=h.b.row;obtain ⟨A3,c3,f3,_⟩:=h.c.row;obtain ⟨A4,c4,f4,_⟩:=h.m.row;rw[iy]at f1 f3 f4;have e2:xb= .slice A2 a.base.length c2:=f2.trans (by show Value.slice A2 (bL mL dx _ a.base).length c2=_;rw[iy]);have e1:xt= .slice A1 T.length c1:=f1;have e3:xc= .slice A3 C.length c3:=f3;have e4:xm= .slice A4 M.length c4:=f4;clear f1 f2 f3 f4;subst e1 e2 e3 e4;obtain ⟨W,hW⟩: ∃W:World,W=w.alloc (.cells #[.int .i64 day,.int .i64 rule,.slice A1 T.length c1,.slice A2 a.base.length c2,.slice A3 C.length c3,.slice A4 M.length c4] 29):=⟨_,rfl⟩
 have bW:Below w.heap.size w W:=by rw[hW];exact (aae _ _).alloc (aad _) _
 have a1:Row W w.heap.size [.int .i64 day,.int .i64 rule,.slice A1 T.length c1,.slice A2 a.base.length c2,.slice A3 C.length c3,.slice A4 M.length c4]:=by rw[hW];exact Row.new w _ _
 have z2:=λy:ar W=>y.cell (a1.cell 2 _ rfl);have z3:=λy:ar W=>y.cell (a1.cell 3 _ rfl);have z4:=λy:ar W=>y.cell (a1.cell 4 _ rfl);have z5:=λy:ar W=>y.cell (a1.cell 5 _ rfl);have HT:=I (λy:ar W=>(h.below (aJ bW y)).t);have HB:ag (∀y:ar W,aR iw base y.val (.slice A2 a.base.length c2) (bL mL dx (bs cH 1 T) a.base)):=I (λy=>(h.below (aJ bW y)).b);have HC:=I (λy:ar W=>(h.below (aJ bW y)).c);have HM:=I (λy:ar W=>(h.below (aJ bW y)).m);have H1:=I (λy:ar W=>am9 T 1 A1 c1 base y.val (HT.o y) mE (by omega));obtain ⟨K1,KN⟩: ∃K,K=bs cH 1 T:=⟨_,rfl⟩
 rw[<-KN]at g1 g2 g3 g4 hb HB HC HM H1⊢;have H2:=I (λy:ar W=>zX a.base K1 A2 c2 y.val (HB.o y).mo (by omega) (by omega) tO);obtain ⟨K2,yy⟩: ∃K,K=bs dx K1 a.base:=⟨_,rfl⟩
 rw[<-yy]at g2 g3 g4 hb HC HM H2⊢;have H3:=I (λy:ar W=>am' C K2 A3 c3 base y.val (HC.o y) (by omega) hl3 (by omega));obtain ⟨K3,KO⟩: ∃K,K=bs dQ K2 C:=⟨_,rfl⟩
 rw[<-KO]at g3 g4 hb HM H3⊢;have H4:=I (λy:ar W=>ana M K3 A4 c4 base y.val (HM.o y) (by omega) Vs (by omega));obtain ⟨K4,hK4⟩: ∃K,K=bs eR K3 M:=⟨_,rfl⟩
 rw[<-hK4]at g4 hb H4⊢;obtain ⟨x0,dp⟩: ∃y:ar W,y.val=W:=⟨⟨W,aae _ _⟩,rfl⟩
 have RD:=I dp;have HW:=I hW;have n1: ¬(K1:Int)<0:=by omega
 have n2: ¬(K2:Int)<0:=by omega
 have n3: ¬(K3:Int)<0:=by omega
 have n4: ¬(K4:Int)<0:=by omega
 clear h hW a1 dp KN yy KO hK4 HT HB HC HM;go_enter func34,ntmps34;go_wp2_with (fail);rw[<-HW.o,<-RD.o];refine (aq (H1.o x0)).mono ?_;rintro e _ ⟨rfl,y1,rfl⟩;go_wp2_with (fail);refine (aq (H2.o y1)).mono ?_;rintro e _ ⟨rfl,y2,rfl⟩;go_wp2_with (fail);refine (aq (H3.o y2)).mono ?_;rintro e _ ⟨rfl,y3,rfl⟩;go_wp2_with (fail);refine (aq (H4.o y3)).mono ?_;rintro e _ ⟨rfl,y4,rfl⟩;go_wp2;go_ret;exact ⟨rfl,aJ bW y4⟩
end Go.Proofs.YtbcggaldkihcaaaGreat
