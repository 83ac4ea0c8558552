/- Marks of numbers and edits, walked, where the count may be great (as in the first texts,.. -/
import Derived.Test.YtbcggaldkihcaaaGreatQE
import Derived.Test.YtbcggaldkihcaaaGreatQF
import Derived.Test.YtbcggaldkihcaaaGreatQB
import Derived.Test.YtbcggaldkihcaaaGreatQG
set_option maxHeartbeats 8000000
set_option maxRecDepth 100000
namespace Go.Proofs.YtbcggaldkihcaaaGreat
open Tryz
open Go.RowKit Go.Lib
theorem abV:type_of% @List.mem_map_of_mem:=@List.mem_map_of_mem
theorem zq (k:Nat) (w:World) (h0:0<k) (h2:k<=1125899906842624):
 Calls prog 83 #[.int .i64 (k:Int)] w (bT (.string ⟨(109::itoa (k:Int)).toArray⟩) w):=by
 have SG: ¬(k:Int)<=0:=by omega
 have kM: -9223372036854775808<=(k:Int):=by omega
 have rq:(k:Int)<=9223372036854775807:=by omega
 go_enter func83,ntmps83;go_wp2;go_loopw [0,3] (λm o wr=> ∃(u:Nat) (out:List UInt8),m= .int .i64 (u:Int)/\(u:Int)<=1125899906842624/\o= .string ⟨out.toArray⟩/\out.length<=21/\dg u++out=itoa (k:Int)/\Below w.heap.size w wr) (λm _ _=>(intOf m).toNat);case atStart=>exact ⟨k,[],rfl,by omega,rfl,by simp,by rw[abv];exact Nu (k:Int) (by omega),aae _ _⟩
 case round=>
  obtain ⟨u,out,rfl,hu,rfl,YC,S3,hb⟩:=hrel;by_cases qo:u=0
  ·subst qo;have HO:ag (out=itoa (k:Int)):=I (by simpa [dg]using S3);clear S3;obtain ⟨T1,e1,n1,q1⟩:=H7 (P:=prog) [109] out (by simp) (by omega);have HT:ag (T1=109::itoa (k:Int)):=I (by rw[e1,HO.o];rfl);clear e1;go_wp2;go_ret;exact ⟨by rw[<-HT.o];rfl,hb⟩
  have aI:(0:Int)<(u:Int):=by omega
  have CY:(u:Int).tmod 10=((u% 10:Nat):Int):=by rw[Int.tmod_eq_emod_of_nonneg (by omega)];omega
  have hdiv:(u:Int).tdiv 10=((u/10:Nat):Int):=by rw[Int.tdiv_eq_ediv_of_nonneg (by omega)];omega
  have Q6:u% 10<10:=Nat.mod_lt _ (by omega);have Ux:u/10<u:=Nat.div_lt_self (by omega) (by omega);obtain ⟨r,NB⟩: ∃r,r=u% 10:=⟨_,rfl⟩
  obtain ⟨q,Im⟩: ∃q,q=u/10:=⟨_,rfl⟩
  rw[<-NB]at CY Q6;rw[<-Im]at hdiv Ux;have oy:dg u=dg q++[UInt8.ofNat (48+r)]:=by rw[NB,Im];exact La u qo
  have Ww:=Hv r Q6;generalize UInt8.ofNat (48+r)=ch at*
  have hcv:(convert 22 9 (.slice (some ⟨wr.heap.size,0,none⟩) 1 1)).run prog (wr.alloc (.cells #[.int .u8 (48+(r:Int))] 5))= .ok (.string ⟨#[ch]⟩) (wr.alloc (.cells #[.int .u8 (48+(r:Int))] 5)):=run_convert_bytes_back (P:=prog) (wr.alloc (.cells #[.int .u8 (48+(r:Int))] 5)) 22 9 5 ⟨wr.heap.size,0,none⟩ 1 [ch] underlying22 underlying5 underlying9 (λj hj=>by
   have:j=0:=by simp at hj;omega
   subst this;simp[go_sem,Ww])
  obtain ⟨T1,e1,n1,q1⟩:=H7 (P:=prog) [ch] out (by simp) (by omega);have HT:ag (dg q++T1=itoa (k:Int)):=I (by rw[<-S3,oy,e1,aaI]);have Uy:T1.length<=21:=Qo (dg q) T1 (k:Int) HT.o kM rq;have ox:=hb.alloc hb.size (.cells #[.int .u8 (48+(r:Int))] 5);clear e1 oy NB Im S3 qo Ww;go_wp2;go_roundw;case rel=>exact ⟨q,T1,by go_num,by omega,rfl,Uy,HT.o,ox⟩
  case measure=>simp[intOf];omega
theorem nG (zs:List Int) (v:Value) (base k:Nat) (w:World) (h:ay ak zs base w v) (hk:k<=562949953421312) (hn:zs.length<=1048576):
 Calls prog 82 #[v,.int .i64 (k:Int)] w (sR ak (jr k zs.length) (k+zs.length) base v w):=by
 obtain ⟨A,c,rfl,hc,hm,hg⟩:=h;unfold maxLen at hm;by_cases h0:zs=[]
 ·subst h0;go_enter func82,ntmps82;go_wp2;go_loopw [1,5] (λm i wr=>m= .int .i64 (k:Int)/\i= .int .i64 0/\wr=w) (λ_ _ _=>0);case atStart=>exact ⟨rfl,rfl,rfl⟩
  case round=>
   obtain ⟨rfl,rfl,rfl⟩:=hrel;go_wp2;go_ret;exact ⟨rfl,⟨A,c,rfl,hc,by unfold maxLen;omega,λh=>absurd rfl h⟩,uZ _ _⟩
 obtain ⟨g,rfl,qp,ow,hR⟩:=hg h0;have hlen:((jr k zs.length).flatMap ak).length=(zs.flatMap ak).length:=by rw[sQ,sQ,gI]
 have HL:=I hlen;have HZ:=I (sQ zs);have HR:=I hR;have PS:ag (∀i,i<zs.length->((jr k zs.length).flatMap ak)[i]?=some (.int .i64 ((k+i:Nat):Int))):=I (λi hi=>xx (AB hi));have vW:=I (gI k zs.length);have Q7:0<zs.length:=abp.2 h0;clear hlen hR hg h0;go_enter func82,ntmps82;go_wp2;go_loopw [1,5] (λm i wr=> ∃j:Nat,j<=zs.length/\i= .int .i64 (j:Int)/\m= .int .i64 ((k+j:Nat):Int)/\Row wr g (pN ((jr k zs.length).flatMap ak) (zs.flatMap ak) j)/\iJ g w wr/\g<wr.heap.size) (λ_ i _=>zs.length-(intOf i).toNat);case atStart=>exact ⟨0,aaf _,rfl,rfl,by simpa [pN]using HR.o,pI _ _,ow⟩
 case round=>
  obtain ⟨j,hj,rfl,rfl,bi,oU,fG⟩:=hrel;have HW:=I bi;have HO:=I oU;have nQ:(pN ((jr k zs.length).flatMap ak) (zs.flatMap ak) j).length=zs.length:=by rw[iR HL.o,HZ.o]
  by_cases aI:j<zs.length
  ·obtain ⟨z,x0⟩:=bi.some (by rw[nQ];exact aI);have f0:=bi.free j (by rw[nQ];exact aI);have HN:=I (bi.step HL.o (PS.o j aI));clear bi oU nQ;generalize pN ((jr k zs.length).flatMap ak) (zs.flatMap ak) j=M0 at*;go_wp2;go_roundw;case rel=>exact ⟨j+1,by omega,by go_num,by go_num,HN.o,oF HO.o j _,by simpa using fG⟩
   case measure=>simp[intOf];omega
  have eA: ¬(j:Int)<(zs.length:Int):=by omega
  have sF:j=zs.length:=by omega
  have HF:ag (Row wr g ((jr k zs.length).flatMap ak)):=I (by
   rw[ru HL.o j (by rw[HL.o,HZ.o];omega)]at bi;exact bi)
  have HJ:=I sF;clear bi oU nQ sF aI;go_wp2;go_ret;refine ⟨pJ (by omega),⟨some ⟨g,0,none⟩,c,by rw[vW.o],by rw[vW.o];exact hc,by unfold maxLen;omega,λ_=>⟨g,rfl,qp,fG,HF.o⟩⟩,by rw[vW.o,aah (by omega)];exact HO.o⟩
theorem fg (z:Int) (k:Nat) (hz:z=(k:Int)) (w:World) (h0:0<k) (h2:k<=1125899906842624):
 Calls prog 83 #[.int .i64 z] w (bT (.string ⟨(109::itoa (k:Int)).toArray⟩) w):=by
 subst hz;exact zq k w h0 h2
theorem mv (zs:List aV) (v:Value) (base k:Nat) (w:World) (h:ay ah zs base w v) (jA:0<k) (hk:k<=562949953421312) (hn:zs.length<=1048576):
 Calls prog 84 #[v,.int .i64 (k:Int)] w (sR ah (dG k zs.length) (k+4*zs.length) base v w):=by
 obtain ⟨A,c,rfl,hc,hm,hg⟩:=h;unfold maxLen at hm;by_cases h0:zs=[]
 ·subst h0;go_enter func84,ntmps84;go_wp2;go_loopw [1,5] (λm i wr=>m= .int .i64 (k:Int)/\i= .int .i64 0/\wr=w) (λ_ _ _=>0);case atStart=>exact ⟨rfl,rfl,rfl⟩
  case round=>
   obtain ⟨rfl,rfl,rfl⟩:=hrel;go_wp2;go_ret;exact ⟨rfl,⟨A,c,rfl,hc,by unfold maxLen;omega,λh=>absurd rfl h⟩,uZ _ _⟩
 obtain ⟨g,rfl,qp,ow,hR⟩:=hg h0;have hlen:((dG k zs.length).flatMap ah).length=(zs.flatMap ah).length:=by rw[lv,lv,eL]
 have HL:=I hlen;have HZ:=I (lv zs);have HR:=I hR;have PS:ag (∀i,i<zs.length-> ∀j u,(ah (tQ (k+4*i)))[j]?=some u->((dG k zs.length).flatMap ah)[i*4+j]?=some u):=I (λi hi j u hu=>l5 ah (size:=4) (λ_=>rfl) _ i _ j u (qA hi) hu (by have:=(aal.1 hu).1;simpa [ah]using this));have vW:=I (eL k zs.length);have Q7:0<zs.length:=abp.2 h0;clear hlen hR hg h0;go_enter func84,ntmps84;go_wp2;go_loopw [1,5] (λm i wr=> ∃j:Nat,j<=zs.length/\i= .int .i64 (j:Int)/\m= .int .i64 ((k+4*j:Nat):Int)/\Row wr g (pN ((dG k zs.length).flatMap ah) (zs.flatMap ah) (j*4))/\iJ g w wr/\g<wr.heap.size) (λ_ i _=>zs.length-(intOf i).toNat);case atStart=>exact ⟨0,aaf _,rfl,rfl,by simpa [pN]using HR.o,pI _ _,ow⟩
 case round=>
  obtain ⟨j,hj,rfl,rfl,bi,oU,fG⟩:=hrel;have HO:=I oU;have nQ: ∀i,(pN ((dG k zs.length).flatMap ah) (zs.flatMap ah) i).length=zs.length*4:=λi=>by rw[iR HL.o,HZ.o]
  by_cases aI:j<zs.length
  ·obtain ⟨K,hK⟩: ∃K,K=k+4*j:=⟨_,rfl⟩
   have u0:=PS.o j aI 0 _ rfl;have u1:=PS.o j aI 1 _ rfl;have u2:=PS.o j aI 2 _ rfl;have u3:=PS.o j aI 3 _ rfl;have PT:K<=562949957615616:=by omega
   have PU:0<K:=by omega
   have jO:ag (((k+4*(j+1):Nat):Int)=(K:Int)+1+1+1+1):=I (by omega);rw[<-hK]at u0 u1 u2 u3⊢;clear hK oU;have oe:ag (∀W,Calls prog 83 #[.int .i64 ((K:Int)+1+1)] W (bT (.string ⟨(109::itoa ((K+2:Nat):Int)).toArray⟩) W)):=I (λW=>fg _ (K+2) (by omega) W (by omega) (by omega));have oa:ag (∀W,Calls prog 83 #[.int .i64 ((K:Int)+1+1+1)] W (bT (.string ⟨(109::itoa ((K+3:Nat):Int)).toArray⟩) W)):=I (λW=>fg _ (K+3) (by omega) W (by omega) (by omega));simp only[tQ]at u0 u1 u2 u3;generalize (⟨(109::itoa ((K+2:Nat):Int)).toArray⟩:ByteArray)=t2 at*;generalize (⟨(109::itoa ((K+3:Nat):Int)).toArray⟩:ByteArray)=t3 at*;obtain ⟨z0,x0⟩:=bi.some (j:=j*4) (by rw[nQ];omega);obtain ⟨z1,x1⟩:=bi.some (j:=j*4+1) (by rw[nQ];omega);have f0:=bi.free (j*4) (by rw[nQ];omega);have f1:=bi.free (j*4+1) (by rw[nQ];omega);have R1:=(bi.step HL.o (u:= .int .i64 (K:Int)) u0).step HL.o (u:= .int .i64 ((K:Int)+1)) u1;have mB:=I R1;have YD:=I u2;have YE:=I u3;have pO:=I nQ;clear bi R1 u0 u1 u2 u3 nQ;go_wp2_with (fail);refine (oe.o _).mono ?_;rintro e V1 ⟨rfl,bw⟩;have R2:=mB.o.below bw (by simpa using fG);have O2:iJ g w V1:=ll (oF (oF HO.o _ _) _ _) (uY bw);have iV:g<V1.heap.size:=aar fG (by have:=bw.size;simpa using this);obtain ⟨z2,x2⟩:=R2.some (j:=j*4+2) (by rw[pO.o];omega);have f2:=R2.free (j*4+2) (by rw[pO.o];omega);have fU:=I (R2.step HL.o (u:= .string t2) YD.o);have ju:=I O2;clear x0 x1 f0 f1 bw R2 O2;go_wp2_with (fail);refine (oa.o _).mono ?_;rintro e V2 ⟨rfl,cL⟩;have R4:=fU.o.below cL (by simpa using iV);have O3:iJ g w V2:=ll (oF ju.o _ _) (uY cL);have j5:g<V2.heap.size:=aar iV (by have:=cL.size;simpa using this);obtain ⟨z3,x3⟩:=R4.some (j:=j*4+3) (by rw[pO.o];omega);have f3:=R4.free (j*4+3) (by rw[pO.o];omega);have EY:=I (R4.step HL.o (u:= .string t3) YE.o);have Ls:=I O3;clear x2 f2 cL R4 O3;go_wp2;go_roundw;case rel=>exact ⟨j+1,by omega,by go_num,by rw[jO.o],by rw[show (j+1)*4=j*4+1+1+1+1 by omega];exact EY.o,oF Ls.o _ _,by simpa using j5⟩
   case measure=>simp[intOf];omega
  have eA: ¬(j:Int)<(zs.length:Int):=by omega
  have sF:j=zs.length:=by omega
  have HF:ag (Row wr g ((dG k zs.length).flatMap ah)):=I (by
   rw[ru HL.o (j*4) (by rw[HL.o,HZ.o];omega)]at bi;exact bi)
  have HJ:=I sF;clear bi oU nQ sF aI;go_wp2;go_ret;refine ⟨pJ (by have:=HJ.o;omega),⟨some ⟨g,0,none⟩,c,by rw[vW.o],by rw[vW.o];exact hc,by unfold maxLen;omega,λ_=>⟨g,rfl,qp,fG,HF.o⟩⟩,by rw[vW.o,aah (by omega)];exact HO.o⟩
def bL {β:Type} (m:Nat->β->β) (nx:Nat->β->Nat):Nat->List β->List β
 |_,[]=>[]
 |k,x::xs=>m k x::bL m nx (nx k x) xs
def bs {β:Type} (nx:Nat->β->Nat):Nat->List β->Nat
 |k,[]=>k
 |k,x::xs=>bs nx (nx k x) xs
theorem jk {β:Type} (nx:Nat->β->Nat): ∀(L:List β) (k:Nat) (x:β),bs nx k (L++[x])=nx (bs nx k L) x
 |[],_,_=>rfl
 |y::L,k,x=>jk nx L (nx k y) x
theorem lI {β:Type} (m:Nat->β->β) (nx:Nat->β->Nat): ∀(L:List β) (k:Nat) (x:β),bL m nx k (L++[x])=bL m nx k L++[m (bs nx k L) x]
 |[],_,_=>rfl
 |y::L,k,x=>by
  rw[List.cons_append,bL,lI m nx L (nx k y) x];rfl
theorem iy {β:Type} (m:Nat->β->β) (nx:Nat->β->Nat): ∀(L:List β) (k:Nat),(bL m nx k L).length=L.length
 |[],_=>rfl
 |y::L,k=>by rw[bL,List.length_cons,List.length_cons,iy m nx L]
theorem aR.at {β:Type} {K:Kind β} {base:Nat} {w:World} {v:Value} {P R:List β} {x:β} (h:aR K base w v (P++x::R)) {j g:Nat} (hP:P.length=j) (hv:v.ownBlock=some g) {i:Nat} {u:Value} (hu:(K.cells x)[i]?=some u):w.cell? ⟨g,j*K.size+i,none⟩=some u/\w.frozen? ⟨g,j*K.size+i,none⟩=false:=by
 obtain ⟨g',c,rfl,_,_,_,_,h7⟩:=h.cell (j:=j) (x:=x) (by rw[aaN (by omega),hP,abb];rfl);injection hv with hv
 have hv:g'=g:=hv;subst hv;exact h7 i u hu
theorem aR.put {β:Type} {K:Kind β} {base:Nat} {w:World} {v:Value} {P R:List β} {x x':β} (h:aR K base w v (P++x::R)) {j g:Nat} (hP:P.length=j) (hv:v.ownBlock=some g) (i:Nat) (hi:i<K.size) (u:Value) (hc:K.cells x'=(K.cells x).set i u)
 (hb: ∀b,K.dR x' b↔K.dR x b) (iq: ∀w,K.fa base w x->K.fa base w x'):aR K base (w.setCell ⟨g,j*K.size+i,none⟩ u) v (P++x'::R):=by
 have:=h.setCell (j:=j) (x:=x) (x':=x') (by rw[aaN (by omega),hP,abb];rfl) hv i hi u hc hb iq
 rwa [List.set_append_right _ _ (by omega),hP,abb,ab1]at this
theorem aR.turn {β:Type} {K:Kind β} {base:Nat} {w w':World} {v:Value} {P R:List β} {x x':β} {F:Nat->Prop} (h:aR K base w v (P++x::R)) {j:Nat} (hP:P.length=j) (ht:Touch F w w') (hF: ∀b,b<w.heap.size->F b->K.dR x b) (hc:K.cells x'=K.cells x)
 (hb: ∀b,K.dR x' b↔K.dR x b) (iq:K.fa base w' x'):aR K base w' v (P++x'::R):=by
 have:=h.inner (j:=j) (x:=x) (x':=x') (by rw[aaN (by omega),hP,abb];rfl) ht hF hc hb iq
 rwa [List.set_append_right _ _ (by omega),hP,abb,ab1]at this
theorem zr {α β:Type} {xs:List α} {ys:List β} {v:Value} {b:Nat} (hl:ys.length=xs.length) (h:(if ys.length=0 then none else v.ownBlock)=some b):cx xs v b:=by
 split at h
 ·cases h
 rename_i h0;exact ⟨λe=>h0 (by rw[hl,e];rfl),h⟩
theorem kp {α β:Type} {xs:List α} {ys:List β} {v:Value} {b:Nat} (hl:xs.length=ys.length):cx xs v b↔cx ys v b:=⟨λh=>gK h hl,λh=>gK h hl.symm⟩
def rV {β:Type} (K:Kind β) (m:Nat->β->β) (nx:Nat->β->Nat) (L:List β) (k base:Nat) (v:Value) (w:World) (e:Ending) (w':World):Prop:=
 e= .returned (.int .i64 ((bs nx k L:Nat):Int))/\aR K base w' v (bL m nx k L)/\Touch (bN K v L) w w'
def Wx (k:Nat):ByteArray:=⟨(109::itoa ((k:Nat):Int)).toArray⟩
def cH (k:Nat) (x:bR):Nat:=k+x.a.length
def lT (k:Nat) (x:bR):bR:=⟨jr k x.a.length,x.v⟩
def dx (k:Nat) (_:bE):Nat:=k+2
def mL (k:Nat) (_:bE):bE:=⟨(k:Int),⟨(109::itoa ((k+1:Nat):Int)).toArray⟩⟩
def dQ (k:Nat) (x:bu):Nat:=k+2+4*x.a.pat.length
def lU (k:Nat) (x:bu):bu:=⟨⟨(k:Int),(k:Int)+1,dG (k+2) x.a.pat.length⟩,x.v⟩
def eR (k:Nat) (x:bH):Nat:=k+2+4*x.a.pat.length+3+x.a.ax.length+1
def lJ (k:Nat) (x:bH):bH:=⟨⟨⟨(109::itoa ((k:Nat):Int)).toArray⟩,(k:Int)+1,dG (k+2) x.a.pat.length,((k+2+4*x.a.pat.length:Nat):Int),((k+2+4*x.a.pat.length:Nat):Int)+1,((k+2+4*x.a.pat.length:Nat):Int)+1+1,jr (k+2+4*x.a.pat.length+3) x.a.ax.length,((k+2+4*x.a.pat.length+3+x.a.ax.length:Nat):Int)⟩,x.p,x.t⟩
theorem uL: ∀(L:List bR) (k:Nat),(∀x∈L,x.a.length<=1048576)->bs cH k L<=k+L.length*1048576/\k<=bs cH k L
 |[],k,_=>by simp[bs]
 |x::L,k,h=>by
  have h1:=h x (by simp);have h2:=uL L (cH k x) (λy hy=>h y (by simp[hy]));have h3:k<=cH k x/\cH k x<=k+1048576:=by unfold cH;omega
  rw[bs,List.length_cons,aaO];omega
theorem zt (L:List bR) (v:Value) (base k:Nat) (w:World) (h:aR dX base w v L) (hz: ∀x∈L,x.a.length<=1048576) (hn:L.length<=1048576) (jA:0<k) (hk:k<=35184372088832):
 Calls prog 78 #[v,.int .i64 (k:Int)] w (rV dX lT cH L k base v w):=by
 have vX:=λj=>uL (L.take j) k (λx hx=>hz x (aby hx));obtain ⟨A,c,rfl,hc,hm,hg⟩:=h.row;unfold maxLen at hm;by_cases h0:L=[]
 ·subst h0;have H:=I h;clear h hg;go_enter func78,ntmps78;go_wp2;go_loopw [1,5] (λm i wr=>m= .int .i64 (k:Int)/\i= .int .i64 0/\wr=w) (λ_ _ _=>0);case atStart=>exact ⟨rfl,rfl,rfl⟩
  case round=>
   obtain ⟨rfl,rfl,rfl⟩:=hrel;go_wp2;go_ret;exact ⟨rfl,H.o,Touch.refl _ _⟩
 obtain ⟨g,rfl,qp,ow,hR⟩:=hg h0;have H:=I h;have HZ:=I hz;have DN:=I vX;have Q7:0<L.length:=abp.2 h0;have BE:ag (bN dX (.slice (some ⟨g,0,none⟩) L.length c) L g):=I (.inl ⟨h0,rfl⟩);have nH:ag (∀x∈L,∀b,dX.dR x b->bN dX (.slice (some ⟨g,0,none⟩) L.length c) L b):=I (λx hx b hb=> .inr ⟨x,hx,hb⟩);obtain ⟨F,DO⟩: ∃F,F=bN dX (.slice (some ⟨g,0,none⟩) L.length c) L:=⟨_,rfl⟩
 unfold rV;rw[<-DO]at BE nH⊢;clear h hg hz vX h0 DO hR;go_enter func78,ntmps78;go_wp2;go_loopw [1,5] (λm i wr=> ∃j:Nat,j<=L.length/\i= .int .i64 (j:Int)/\m= .int .i64 ((bs cH k (L.take j):Nat):Int)/\aR dX base wr (.slice (some ⟨g,0,none⟩) L.length c) (bL lT cH k (L.take j)++L.drop j)/\Touch F w wr) (λ_ i _=>L.length-(intOf i).toNat);case atStart=>exact ⟨0,aaf _,rfl,rfl,by simpa [bL]using H.o,Touch.refl _ _⟩
 case round=>
  obtain ⟨j,hj,rfl,rfl,hT,Jl⟩:=hrel;have Jn:=I Jl;clear Jl;by_cases aI:j<L.length
  ·have hq:L[j]?=some L[j]:=aag aI;have pb:L.drop j=L[j]::L.drop (j+1):=abu aI;have lK:L.take (j+1)=L.take j++[L[j]]:=aaG aI;rw[pb]at hT;obtain ⟨vY,tp⟩:=DN.o j;rw[aao,aaP (by omega)]at vY;have iG:ag (bs cH k (L.take (j+1))=cH (bs cH k (L.take j)) L[j]):=I (by rw[lK,jk]);obtain ⟨R,tW⟩: ∃R,R=L.drop (j+1):=⟨_,rfl⟩
   have Jo:ag (bL lT cH k (L.take (j+1))++L.drop (j+1)=bL lT cH k (L.take j)++lT (bs cH k (L.take j)) L[j]::R):=I (by rw[tW,lK,lI,aaI];rfl);rw[<-tW]at hT;have hP:(bL lT cH k (L.take j)).length=j:=by rw[iy,aao,aaP (by omega)]
   have Jp:=HZ.o L[j] (aax aI);have DP:=nH.o L[j] (aax aI);clear hq pb lK;generalize bL lT cH k (L.take j)=P at*;generalize bs cH k (L.take j)=K0 at*;clear tW;obtain ⟨x,hx⟩: ∃x,x=L[j]:=⟨_,rfl⟩
   rw[<-hx]at hT iG Jo DP;first|rw[<-hx]at Jp|skip
   clear hx;have PU:0<K0:=by omega
   have PT:K0<=281474976710656:=by omega
   clear vY tp;obtain ⟨q0,pv⟩:=x
   try dsimp only at Jp DP
   obtain ⟨B0,d0,e0,-⟩:=(hT.fa _ (aa5 _ (aaA ..)):ay ak q0 base wr pv)
   have g0:pv= .slice B0 q0.length d0:=e0;clear e0;subst g0;have c0:wr.cell? ⟨g,j,none⟩=some (.slice B0 q0.length d0):=by have:=(hT.at hP rfl (i:=0) rfl).1;rwa [show j*dX.size+0=j from abj j]at this
   have Gx:=I hT;clear hT;obtain ⟨K1,KN⟩: ∃z:Nat,z=K0+q0.length:=⟨_,rfl⟩
   have LD:ag (∀W,ay ak q0 base W (.slice B0 q0.length d0)->Calls prog 82 #[.slice B0 q0.length d0,.int .i64 ((K0:Int))] W (sR ak (jr K0 q0.length) K1 base (.slice B0 q0.length d0) W)):=I (λV ho=>by
    have:=nG q0 (.slice B0 q0.length d0) base K0 V ho (by omega) (by omega);rw[show ((K0:Nat):Int)=(K0:Int) by omega,<-KN]at this;exact this)
   have Jq:=I KN;have YF:K1<=K0+4194400:=by omega
   have YG:K0<=K1:=by omega
   clear KN;have Jr:=I (Gx.o);go_wp2_with (fail);refine (LD.o _ (Jr.o.fa _ (aa5 _ (aaA ..)))).mono ?_;rintro e V1 ⟨rfl,o1,Q8⟩;have On:Touch (λb=>cx q0 (.slice B0 q0.length d0) b) wr V1:=Touch.aW Q8 (λb hb=>zr (by simp[gI]) hb);have T1:aR dX base V1 (.slice (some ⟨g,0,none⟩) L.length c) (P++(⟨(jr K0 q0.length),.slice B0 q0.length d0⟩:bR)::R):=Jr.o.turn hP On (λb _ hb=>hb) rfl (λb=>kp (by simp[gI])) (show ay ak (jr K0 q0.length) base V1 (.slice B0 q0.length d0)from by have:=o1;exact this);have jh:=I (Jn.o.trans (On.mono (λb _ hb=>DP b (hb))));clear c0 o1 Q8 On;have lQ:=I T1;clear T1;have eB:=I (lQ.o);have Oo:=I (jh.o);go_wp2;go_roundw
   case rel=>
    refine ⟨j+1,by omega,by go_num,?_,?_,Oo.o⟩
    ·rw[iG.o];unfold cH;have:=Jq.o;first|rfl|(congr 1;push_cast;omega)|(congr 1;omega)
    rw[Jo.o];have cn:(⟨(jr K0 q0.length),.slice B0 q0.length d0⟩:bR)=lT K0 (⟨q0,.slice B0 q0.length d0⟩:bR):=by first|rfl|simp only[lT,Jq.o]
    rw[<-cn];exact eB.o
   case measure=>simp[intOf];omega
  have eA: ¬(j:Int)<(L.length:Int):=by omega
  have sF:j=L.length:=by omega
  subst sF;rw[aaJ (aad _),abB (aad _),abv]at hT;rw[aaJ (aad _)];have DQ:=I hT;clear hT;go_wp2;go_ret;exact ⟨rfl,DQ.o,Jn.o⟩
theorem uM: ∀(L:List bE) (k:Nat),(∀x∈L,True)->bs dx k L<=k+L.length*2/\k<=bs dx k L
 |[],k,_=>by simp[bs]
 |x::L,k,h=>by
  have h1:=h x (by simp);have h2:=uM L (dx k x) (λy hy=>h y (by simp[hy]));have h3:k<=dx k x/\dx k x<=k+2:=by unfold dx;omega
  rw[bs,List.length_cons,aaO];omega
theorem zu (L:List bE) (v:Value) (base k:Nat) (w:World) (h:aR iw base w v L) (hz: ∀x∈L,True) (hn:L.length<=1048576) (jA:0<k) (hk:k<=35184372088832):
 Calls prog 79 #[v,.int .i64 (k:Int)] w (rV iw mL dx L k base v w):=by
 have vX:=λj=>uM (L.take j) k (λx hx=>hz x (aby hx));obtain ⟨A,c,rfl,hc,hm,hg⟩:=h.row;unfold maxLen at hm;by_cases h0:L=[]
 ·subst h0;have H:=I h;clear h hg;go_enter func79,ntmps79;go_wp2;go_loopw [1,5] (λm i wr=>m= .int .i64 (k:Int)/\i= .int .i64 0/\wr=w) (λ_ _ _=>0);case atStart=>exact ⟨rfl,rfl,rfl⟩
  case round=>
   obtain ⟨rfl,rfl,rfl⟩:=hrel;go_wp2;go_ret;exact ⟨rfl,H.o,Touch.refl _ _⟩
 obtain ⟨g,rfl,qp,ow,hR⟩:=hg h0;have H:=I h;have HZ:=I hz;have DN:=I vX;have Q7:0<L.length:=abp.2 h0;have BE:ag (bN iw (.slice (some ⟨g,0,none⟩) L.length c) L g):=I (.inl ⟨h0,rfl⟩);have nH:ag (∀x∈L,∀b,iw.dR x b->bN iw (.slice (some ⟨g,0,none⟩) L.length c) L b):=I (λx hx b hb=> .inr ⟨x,hx,hb⟩);obtain ⟨F,DO⟩: ∃F,F=bN iw (.slice (some ⟨g,0,none⟩) L.length c) L:=⟨_,rfl⟩
 unfold rV;rw[<-DO]at BE nH⊢;clear h hg hz vX h0 DO hR;go_enter func79,ntmps79;go_wp2;go_loopw [1,5] (λm i wr=> ∃j:Nat,j<=L.length/\i= .int .i64 (j:Int)/\m= .int .i64 ((bs dx k (L.take j):Nat):Int)/\aR iw base wr (.slice (some ⟨g,0,none⟩) L.length c) (bL mL dx k (L.take j)++L.drop j)/\Touch F w wr) (λ_ i _=>L.length-(intOf i).toNat);case atStart=>exact ⟨0,aaf _,rfl,rfl,by simpa [bL]using H.o,Touch.refl _ _⟩
 case round=>
  obtain ⟨j,hj,rfl,rfl,hT,Jl⟩:=hrel;have Jn:=I Jl;clear Jl;by_cases aI:j<L.length
  ·have hq:L[j]?=some L[j]:=aag aI;have pb:L.drop j=L[j]::L.drop (j+1):=abu aI;have lK:L.take (j+1)=L.take j++[L[j]]:=aaG aI;rw[pb]at hT;obtain ⟨vY,tp⟩:=DN.o j;rw[aao,aaP (by omega)]at vY;have iG:ag (bs dx k (L.take (j+1))=dx (bs dx k (L.take j)) L[j]):=I (by rw[lK,jk]);obtain ⟨R,tW⟩: ∃R,R=L.drop (j+1):=⟨_,rfl⟩
   have Jo:ag (bL mL dx k (L.take (j+1))++L.drop (j+1)=bL mL dx k (L.take j)++mL (bs dx k (L.take j)) L[j]::R):=I (by rw[tW,lK,lI,aaI];rfl);rw[<-tW]at hT;have hP:(bL mL dx k (L.take j)).length=j:=by rw[iy,aao,aaP (by omega)]
   have Jp:=HZ.o L[j] (aax aI);have DP:=nH.o L[j] (aax aI);clear hq pb lK;generalize bL mL dx k (L.take j)=P at*;generalize bs dx k (L.take j)=K0 at*;clear tW;obtain ⟨x,hx⟩: ∃x,x=L[j]:=⟨_,rfl⟩
   rw[<-hx]at hT iG Jo DP;first|rw[<-hx]at Jp|skip
   clear hx;have PU:0<K0:=by omega
   have PT:K0<=281474976710656:=by omega
   clear vY tp;obtain ⟨i0,s1⟩:=x
   try dsimp only at Jp DP
   have c0:wr.cell? ⟨g,j*2,none⟩=some (.int .i64 (i0)):=(hT.at hP rfl (i:=0) rfl).1;have f0:wr.frozen? ⟨g,j*2,none⟩=false:=(hT.at hP rfl (i:=0) rfl).2;have c1:wr.cell? ⟨g,j*2+1,none⟩=some (.string s1):=(hT.at hP rfl (i:=1) rfl).1;have f1:wr.frozen? ⟨g,j*2+1,none⟩=false:=(hT.at hP rfl (i:=1) rfl).2;have Gx:=I hT;clear hT;have LD:ag (∀W,Calls prog 83 #[.int .i64 ((K0:Int)+1)] W (bT (.string ⟨(109::itoa (((K0+1):Nat):Int)).toArray⟩) W)):=I (λW=>fg _ ((K0+1)) (by omega) W (by omega) (by omega));obtain ⟨Al,DR⟩: ∃t:ByteArray,t=⟨(109::itoa (((K0+1):Nat):Int)).toArray⟩:=⟨_,rfl⟩
   rw[<-DR]at LD;have Oq:=I DR;clear DR;go_wp2_with (fail);refine (LD.o _).mono ?_;rintro e V1 ⟨rfl,bw⟩;have T1:=aR.below ((show aR iw base (wr.setCell ⟨g,j*2,none⟩ (.int .i64 ((K0:Int)))) (.slice (some ⟨g,0,none⟩) L.length c) (P++(⟨(K0:Int),s1⟩:bE)::R)from (Gx.o).put hP rfl 0 (by decide) _ rfl (λ_=>aa6) (λ_ h=>h))) bw;have jh:=I ((Jn.o.setCell (p:=⟨g,j*2,none⟩) BE.o (.int .i64 ((K0:Int)))).trans (Touch.dV (F:=F) bw));clear f0 c0 f1 c1 bw;have c1:V1.cell? ⟨g,j*2+1,none⟩=some (.string s1):=(T1.at hP rfl (i:=1) rfl).1;have f1:V1.frozen? ⟨g,j*2+1,none⟩=false:=(T1.at hP rfl (i:=1) rfl).2;have lQ:=I T1;clear T1;have eB:=I ((show aR iw base (V1.setCell ⟨g,j*2+1,none⟩ (.string Al)) (.slice (some ⟨g,0,none⟩) L.length c) (P++(⟨(K0:Int),Al⟩:bE)::R)from (lQ.o).put hP rfl 1 (by decide) _ rfl (λ_=>aa6) (λ_ h=>h)));have Oo:=I ((jh.o.setCell (p:=⟨g,j*2+1,none⟩) BE.o (.string Al)));go_wp2;go_roundw
   case rel=>
    refine ⟨j+1,by omega,by go_num,?_,?_,Oo.o⟩
    ·rw[iG.o];unfold dx;first|rfl|(congr 1;push_cast;omega)|(congr 1;omega)
    rw[Jo.o];have cn:(⟨(K0:Int),Al⟩:bE)=mL K0 (⟨i0,s1⟩:bE):=by first|rfl|simp only[mL,Oq.o]
    rw[<-cn];exact eB.o
   case measure=>simp[intOf];omega
  have eA: ¬(j:Int)<(L.length:Int):=by omega
  have sF:j=L.length:=by omega
  subst sF;rw[aaJ (aad _),abB (aad _),abv]at hT;rw[aaJ (aad _)];have DQ:=I hT;clear hT;go_wp2;go_ret;exact ⟨rfl,DQ.o,Jn.o⟩
theorem uN: ∀(L:List bu) (k:Nat),(∀x∈L,x.a.pat.length<=1048576)->bs dQ k L<=k+L.length*4194306/\k<=bs dQ k L
 |[],k,_=>by simp[bs]
 |x::L,k,h=>by
  have h1:=h x (by simp);have h2:=uN L (dQ k x) (λy hy=>h y (by simp[hy]));have h3:k<=dQ k x/\dQ k x<=k+4194306:=by unfold dQ;omega
  rw[bs,List.length_cons,aaO];omega
theorem zv (L:List bu) (v:Value) (base k:Nat) (w:World) (h:aR cw base w v L) (hz: ∀x∈L,x.a.pat.length<=1048576) (hn:L.length<=1048576) (jA:0<k) (hk:k<=35184372088832):
 Calls prog 80 #[v,.int .i64 (k:Int)] w (rV cw lU dQ L k base v w):=by
 have vX:=λj=>uN (L.take j) k (λx hx=>hz x (aby hx));obtain ⟨A,c,rfl,hc,hm,hg⟩:=h.row;unfold maxLen at hm;by_cases h0:L=[]
 ·subst h0;have H:=I h;clear h hg;go_enter func80,ntmps80;go_wp2;go_loopw [1,5] (λm i wr=>m= .int .i64 (k:Int)/\i= .int .i64 0/\wr=w) (λ_ _ _=>0);case atStart=>exact ⟨rfl,rfl,rfl⟩
  case round=>
   obtain ⟨rfl,rfl,rfl⟩:=hrel;go_wp2;go_ret;exact ⟨rfl,H.o,Touch.refl _ _⟩
 obtain ⟨g,rfl,qp,ow,hR⟩:=hg h0;have H:=I h;have HZ:=I hz;have DN:=I vX;have Q7:0<L.length:=abp.2 h0;have BE:ag (bN cw (.slice (some ⟨g,0,none⟩) L.length c) L g):=I (.inl ⟨h0,rfl⟩);have nH:ag (∀x∈L,∀b,cw.dR x b->bN cw (.slice (some ⟨g,0,none⟩) L.length c) L b):=I (λx hx b hb=> .inr ⟨x,hx,hb⟩);obtain ⟨F,DO⟩: ∃F,F=bN cw (.slice (some ⟨g,0,none⟩) L.length c) L:=⟨_,rfl⟩
 unfold rV;rw[<-DO]at BE nH⊢;clear h hg hz vX h0 DO hR;go_enter func80,ntmps80;go_wp2;go_loopw [1,5] (λm i wr=> ∃j:Nat,j<=L.length/\i= .int .i64 (j:Int)/\m= .int .i64 ((bs dQ k (L.take j):Nat):Int)/\aR cw base wr (.slice (some ⟨g,0,none⟩) L.length c) (bL lU dQ k (L.take j)++L.drop j)/\Touch F w wr) (λ_ i _=>L.length-(intOf i).toNat);case atStart=>exact ⟨0,aaf _,rfl,rfl,by simpa [bL]using H.o,Touch.refl _ _⟩
 case round=>
  obtain ⟨j,hj,rfl,rfl,hT,Jl⟩:=hrel;have Jn:=I Jl;clear Jl;by_cases aI:j<L.length
  ·have hq:L[j]?=some L[j]:=aag aI;have pb:L.drop j=L[j]::L.drop (j+1):=abu aI;have lK:L.take (j+1)=L.take j++[L[j]]:=aaG aI;rw[pb]at hT;obtain ⟨vY,tp⟩:=DN.o j;rw[aao,aaP (by omega)]at vY;have iG:ag (bs dQ k (L.take (j+1))=dQ (bs dQ k (L.take j)) L[j]):=I (by rw[lK,jk]);obtain ⟨R,tW⟩: ∃R,R=L.drop (j+1):=⟨_,rfl⟩
   have Jo:ag (bL lU dQ k (L.take (j+1))++L.drop (j+1)=bL lU dQ k (L.take j)++lU (bs dQ k (L.take j)) L[j]::R):=I (by rw[tW,lK,lI,aaI];rfl);rw[<-tW]at hT;have hP:(bL lU dQ k (L.take j)).length=j:=by rw[iy,aao,aaP (by omega)]
   have Jp:=HZ.o L[j] (aax aI);have DP:=nH.o L[j] (aax aI);clear hq pb lK;generalize bL lU dQ k (L.take j)=P at*;generalize bs dQ k (L.take j)=K0 at*;clear tW;obtain ⟨x,hx⟩: ∃x,x=L[j]:=⟨_,rfl⟩
   rw[<-hx]at hT iG Jo DP;first|rw[<-hx]at Jp|skip
   clear hx;have PU:0<K0:=by omega
   have PT:K0<=281474976710656:=by omega
   clear vY tp;obtain ⟨⟨i0,i1,q2⟩,pv⟩:=x
   try dsimp only at Jp DP
   obtain ⟨B2,d2,e2,-⟩:=(hT.fa _ (aa5 _ (aaA ..)):ay ah q2 base wr pv)
   have g2:pv= .slice B2 q2.length d2:=e2;clear e2;subst g2;have c0:wr.cell? ⟨g,j*3,none⟩=some (.int .i64 (i0)):=(hT.at hP rfl (i:=0) rfl).1;have f0:wr.frozen? ⟨g,j*3,none⟩=false:=(hT.at hP rfl (i:=0) rfl).2;have c1:wr.cell? ⟨g,j*3+1,none⟩=some (.int .i64 (i1)):=(hT.at hP rfl (i:=1) rfl).1;have f1:wr.frozen? ⟨g,j*3+1,none⟩=false:=(hT.at hP rfl (i:=1) rfl).2;have c2:wr.cell? ⟨g,j*3+2,none⟩=some (.slice B2 q2.length d2):=(hT.at hP rfl (i:=2) rfl).1;have Gx:=I hT;clear hT;obtain ⟨K1,KN⟩: ∃z:Nat,z=(K0+2)+4*q2.length:=⟨_,rfl⟩
   have LD:ag (∀W,ay ah q2 base W (.slice B2 q2.length d2)->Calls prog 84 #[.slice B2 q2.length d2,.int .i64 ((K0:Int)+1+1)] W (sR ah (dG (K0+2) q2.length) K1 base (.slice B2 q2.length d2) W)):=I (λV ho=>by
    have:=mv q2 (.slice B2 q2.length d2) base (K0+2) V ho (by omega) (by omega) (by omega);rw[show (((K0+2):Nat):Int)=(K0:Int)+1+1 by omega,<-KN]at this;exact this)
   have Jq:=I KN;have YF:K1<=K0+4194400:=by omega
   have YG:K0<=K1:=by omega
   clear KN;have Jr:=I ((show aR cw base ((wr.setCell ⟨g,j*3,none⟩ (.int .i64 ((K0:Int)))).setCell ⟨g,j*3+1,none⟩ (.int .i64 ((K0:Int)+1))) (.slice (some ⟨g,0,none⟩) L.length c) (P++(⟨⟨(K0:Int),(K0:Int)+1,q2⟩,.slice B2 q2.length d2⟩:bu)::R)from ((show aR cw base (wr.setCell ⟨g,j*3,none⟩ (.int .i64 ((K0:Int)))) (.slice (some ⟨g,0,none⟩) L.length c) (P++(⟨⟨(K0:Int),i1,q2⟩,.slice B2 q2.length d2⟩:bu)::R)from (Gx.o).put hP rfl 0 (by decide) _ rfl (λ_=>aa6) (λ_ h=>h))).put hP rfl 1 (by decide) _ rfl (λ_=>aa6) (λ_ h=>h)));go_wp2_with (fail);refine (LD.o _ (Jr.o.fa _ (aa5 _ (aaA ..)))).mono ?_;rintro e V1 ⟨rfl,o1,Q8⟩;have On:Touch (λb=>cx q2 (.slice B2 q2.length d2) b) ((wr.setCell ⟨g,j*3,none⟩ (.int .i64 ((K0:Int)))).setCell ⟨g,j*3+1,none⟩ (.int .i64 ((K0:Int)+1))) V1:=Touch.aW Q8 (λb hb=>zr (by simp[eL]) hb);have T1:aR cw base V1 (.slice (some ⟨g,0,none⟩) L.length c) (P++(⟨⟨(K0:Int),(K0:Int)+1,(dG (K0+2) q2.length)⟩,.slice B2 q2.length d2⟩:bu)::R):=Jr.o.turn hP On (λb _ hb=>hb) rfl (λb=>kp (by simp[eL])) (show ay ah (dG (K0+2) q2.length) base V1 (.slice B2 q2.length d2)from by have:=o1;exact this);have jh:=I (((Jn.o.setCell (p:=⟨g,j*3,none⟩) BE.o (.int .i64 ((K0:Int)))).setCell (p:=⟨g,j*3+1,none⟩) BE.o (.int .i64 ((K0:Int)+1))).trans (On.mono (λb _ hb=>DP b (hb))));clear f0 c0 f1 c1 c2 o1 Q8 On;have lQ:=I T1;clear T1;have eB:=I (lQ.o);have Oo:=I (jh.o);go_wp2;go_roundw
   case rel=>
    refine ⟨j+1,by omega,by go_num,?_,?_,Oo.o⟩
    ·rw[iG.o];unfold dQ;have:=Jq.o;first|rfl|(congr 1;push_cast;omega)|(congr 1;omega)
    rw[Jo.o];have cn:(⟨⟨(K0:Int),(K0:Int)+1,(dG (K0+2) q2.length)⟩,.slice B2 q2.length d2⟩:bu)=lU K0 (⟨⟨i0,i1,q2⟩,.slice B2 q2.length d2⟩:bu):=by first|rfl|simp only[lU,Jq.o]
    rw[<-cn];exact eB.o
   case measure=>simp[intOf];omega
  have eA: ¬(j:Int)<(L.length:Int):=by omega
  have sF:j=L.length:=by omega
  subst sF;rw[aaJ (aad _),abB (aad _),abv]at hT;rw[aaJ (aad _)];have DQ:=I hT;clear hT;go_wp2;go_ret;exact ⟨rfl,DQ.o,Jn.o⟩
theorem zw: ∀(L:List bH) (k:Nat),(∀x∈L,x.a.pat.length<=1048576/\x.a.ax.length<=1048576)->bs eR k L<=k+L.length*5242886/\k<=bs eR k L
 |[],k,_=>by simp[bs]
 |x::L,k,h=>by
  have h1:=h x (by simp);have h2:=zw L (eR k x) (λy hy=>h y (by simp[hy]));have h3:k<=eR k x/\eR k x<=k+5242886:=by unfold eR;omega
  rw[bs,List.length_cons,aaO];omega
theorem zx (L:List bH) (v:Value) (base k:Nat) (w:World) (h:aR cX base w v L) (hz: ∀x∈L,x.a.pat.length<=1048576/\x.a.ax.length<=1048576) (hn:L.length<=1048576) (jA:0<k) (hk:k<=35184372088832):
 Calls prog 81 #[v,.int .i64 (k:Int)] w (rV cX lJ eR L k base v w):=by
 have vX:=λj=>zw (L.take j) k (λx hx=>hz x (aby hx));obtain ⟨A,c,rfl,hc,hm,hg⟩:=h.row;unfold maxLen at hm;by_cases h0:L=[]
 ·subst h0;have H:=I h;clear h hg;go_enter func81,ntmps81;go_wp2;go_loopw [1,5] (λm i wr=>m= .int .i64 (k:Int)/\i= .int .i64 0/\wr=w) (λ_ _ _=>0);case atStart=>exact ⟨rfl,rfl,rfl⟩
  case round=>
   obtain ⟨rfl,rfl,rfl⟩:=hrel;go_wp2;go_ret;exact ⟨rfl,H.o,Touch.refl _ _⟩
 obtain ⟨g,rfl,qp,ow,hR⟩:=hg h0;have H:=I h;have HZ:=I hz;have DN:=I vX;have Q7:0<L.length:=abp.2 h0;have BE:ag (bN cX (.slice (some ⟨g,0,none⟩) L.length c) L g):=I (.inl ⟨h0,rfl⟩);have nH:ag (∀x∈L,∀b,cX.dR x b->bN cX (.slice (some ⟨g,0,none⟩) L.length c) L b):=I (λx hx b hb=> .inr ⟨x,hx,hb⟩);obtain ⟨F,DO⟩: ∃F,F=bN cX (.slice (some ⟨g,0,none⟩) L.length c) L:=⟨_,rfl⟩
 unfold rV;rw[<-DO]at BE nH⊢;clear h hg hz vX h0 DO hR;go_enter func81,ntmps81;go_wp2;go_loopw [1,5] (λm i wr=> ∃j:Nat,j<=L.length/\i= .int .i64 (j:Int)/\m= .int .i64 ((bs eR k (L.take j):Nat):Int)/\aR cX base wr (.slice (some ⟨g,0,none⟩) L.length c) (bL lJ eR k (L.take j)++L.drop j)/\Touch F w wr) (λ_ i _=>L.length-(intOf i).toNat);case atStart=>exact ⟨0,aaf _,rfl,rfl,by simpa [bL]using H.o,Touch.refl _ _⟩
 case round=>
  obtain ⟨j,hj,rfl,rfl,hT,Jl⟩:=hrel;have Jn:=I Jl;clear Jl;by_cases aI:j<L.length
  ·have hq:L[j]?=some L[j]:=aag aI;have pb:L.drop j=L[j]::L.drop (j+1):=abu aI;have lK:L.take (j+1)=L.take j++[L[j]]:=aaG aI;rw[pb]at hT;obtain ⟨vY,tp⟩:=DN.o j;rw[aao,aaP (by omega)]at vY;have iG:ag (bs eR k (L.take (j+1))=eR (bs eR k (L.take j)) L[j]):=I (by rw[lK,jk]);obtain ⟨R,tW⟩: ∃R,R=L.drop (j+1):=⟨_,rfl⟩
   have Jo:ag (bL lJ eR k (L.take (j+1))++L.drop (j+1)=bL lJ eR k (L.take j)++lJ (bs eR k (L.take j)) L[j]::R):=I (by rw[tW,lK,lI,aaI];rfl);rw[<-tW]at hT;have hP:(bL lJ eR k (L.take j)).length=j:=by rw[iy,aao,aaP (by omega)]
   have Jp:=HZ.o L[j] (aax aI);have DP:=nH.o L[j] (aax aI);clear hq pb lK;generalize bL lJ eR k (L.take j)=P at*;generalize bs eR k (L.take j)=K0 at*;clear tW;obtain ⟨x,hx⟩: ∃x,x=L[j]:=⟨_,rfl⟩
   rw[<-hx]at hT iG Jo DP;first|rw[<-hx]at Jp|skip
   clear hx;have PU:0<K0:=by omega
   have PT:K0<=281474976710656:=by omega
   clear vY tp;obtain ⟨⟨s0,i1,q2,i3,i4,i5,q6,i7⟩,pv,tv⟩:=x
   try dsimp only at Jp DP
   obtain ⟨B2,d2,e2,-⟩:=((hT.fa _ (aa5 _ (aaA ..))).1:ay ah q2 base wr pv)
   have g2:pv= .slice B2 q2.length d2:=e2;clear e2;subst g2;obtain ⟨B6,d6,e6,-⟩:=((hT.fa _ (aa5 _ (aaA ..))).2.1:ay ak q6 base wr tv)
   have g6:tv= .slice B6 q6.length d6:=e6;clear e6;subst g6;have c0:wr.cell? ⟨g,j*8,none⟩=some (.string s0):=(hT.at hP rfl (i:=0) rfl).1;have f0:wr.frozen? ⟨g,j*8,none⟩=false:=(hT.at hP rfl (i:=0) rfl).2;have c1:wr.cell? ⟨g,j*8+1,none⟩=some (.int .i64 (i1)):=(hT.at hP rfl (i:=1) rfl).1;have f1:wr.frozen? ⟨g,j*8+1,none⟩=false:=(hT.at hP rfl (i:=1) rfl).2;have c2:wr.cell? ⟨g,j*8+2,none⟩=some (.slice B2 q2.length d2):=(hT.at hP rfl (i:=2) rfl).1;have c3:wr.cell? ⟨g,j*8+3,none⟩=some (.int .i64 (i3)):=(hT.at hP rfl (i:=3) rfl).1;have f3:wr.frozen? ⟨g,j*8+3,none⟩=false:=(hT.at hP rfl (i:=3) rfl).2;have c4:wr.cell? ⟨g,j*8+4,none⟩=some (.int .i64 (i4)):=(hT.at hP rfl (i:=4) rfl).1;have f4:wr.frozen? ⟨g,j*8+4,none⟩=false:=(hT.at hP rfl (i:=4) rfl).2;have c5:wr.cell? ⟨g,j*8+5,none⟩=some (.int .i64 (i5)):=(hT.at hP rfl (i:=5) rfl).1;have f5:wr.frozen? ⟨g,j*8+5,none⟩=false:=(hT.at hP rfl (i:=5) rfl).2;have c6:wr.cell? ⟨g,j*8+6,none⟩=some (.slice B6 q6.length d6):=(hT.at hP rfl (i:=6) rfl).1;have c7:wr.cell? ⟨g,j*8+7,none⟩=some (.int .i64 (i7)):=(hT.at hP rfl (i:=7) rfl).1;have f7:wr.frozen? ⟨g,j*8+7,none⟩=false:=(hT.at hP rfl (i:=7) rfl).2;have Gx:=I hT;clear hT;have LD:ag (∀W,Calls prog 83 #[.int .i64 ((K0:Int))] W (bT (.string ⟨(109::itoa ((K0:Nat):Int)).toArray⟩) W)):=I (λW=>fg _ (K0) (by omega) W (by omega) (by omega));obtain ⟨Al,DR⟩: ∃t:ByteArray,t=⟨(109::itoa ((K0:Nat):Int)).toArray⟩:=⟨_,rfl⟩
   rw[<-DR]at LD;have Oq:=I DR;clear DR;go_wp2_with (fail);refine (LD.o _).mono ?_;rintro e V1 ⟨rfl,bw⟩;have T1:=aR.below (Gx.o) bw;have jh:=I (Jn.o.trans (Touch.dV (F:=F) bw));clear f0 c0 f1 c1 c2 f3 c3 f4 c4 f5 c5 c6 f7 c7 bw;have c0:V1.cell? ⟨g,j*8,none⟩=some (.string s0):=(T1.at hP rfl (i:=0) rfl).1;have f0:V1.frozen? ⟨g,j*8,none⟩=false:=(T1.at hP rfl (i:=0) rfl).2;have c1:V1.cell? ⟨g,j*8+1,none⟩=some (.int .i64 (i1)):=(T1.at hP rfl (i:=1) rfl).1;have f1:V1.frozen? ⟨g,j*8+1,none⟩=false:=(T1.at hP rfl (i:=1) rfl).2;have c2:V1.cell? ⟨g,j*8+2,none⟩=some (.slice B2 q2.length d2):=(T1.at hP rfl (i:=2) rfl).1;have c3:V1.cell? ⟨g,j*8+3,none⟩=some (.int .i64 (i3)):=(T1.at hP rfl (i:=3) rfl).1;have f3:V1.frozen? ⟨g,j*8+3,none⟩=false:=(T1.at hP rfl (i:=3) rfl).2;have c4:V1.cell? ⟨g,j*8+4,none⟩=some (.int .i64 (i4)):=(T1.at hP rfl (i:=4) rfl).1;have f4:V1.frozen? ⟨g,j*8+4,none⟩=false:=(T1.at hP rfl (i:=4) rfl).2;have c5:V1.cell? ⟨g,j*8+5,none⟩=some (.int .i64 (i5)):=(T1.at hP rfl (i:=5) rfl).1;have f5:V1.frozen? ⟨g,j*8+5,none⟩=false:=(T1.at hP rfl (i:=5) rfl).2;have c6:V1.cell? ⟨g,j*8+6,none⟩=some (.slice B6 q6.length d6):=(T1.at hP rfl (i:=6) rfl).1;have c7:V1.cell? ⟨g,j*8+7,none⟩=some (.int .i64 (i7)):=(T1.at hP rfl (i:=7) rfl).1;have f7:V1.frozen? ⟨g,j*8+7,none⟩=false:=(T1.at hP rfl (i:=7) rfl).2;have lQ:=I T1;clear T1;obtain ⟨K2,yy⟩: ∃z:Nat,z=(K0+2)+4*q2.length:=⟨_,rfl⟩
   have YH:ag (∀W,ay ah q2 base W (.slice B2 q2.length d2)->Calls prog 84 #[.slice B2 q2.length d2,.int .i64 ((K0:Int)+1+1)] W (sR ah (dG (K0+2) q2.length) K2 base (.slice B2 q2.length d2) W)):=I (λV ho=>by
    have:=mv q2 (.slice B2 q2.length d2) base (K0+2) V ho (by omega) (by omega) (by omega);rw[show (((K0+2):Nat):Int)=(K0:Int)+1+1 by omega,<-yy]at this;exact this)
   have Q9:=I yy;have lK2:K2<=K0+4194400:=by omega
   have mK2:K0<=K2:=by omega
   clear yy;have Js:=I ((show aR cX base ((V1.setCell ⟨g,j*8,none⟩ (.string Al)).setCell ⟨g,j*8+1,none⟩ (.int .i64 ((K0:Int)+1))) (.slice (some ⟨g,0,none⟩) L.length c) (P++(⟨⟨Al,(K0:Int)+1,q2,i3,i4,i5,q6,i7⟩,.slice B2 q2.length d2,.slice B6 q6.length d6⟩:bH)::R)from ((show aR cX base (V1.setCell ⟨g,j*8,none⟩ (.string Al)) (.slice (some ⟨g,0,none⟩) L.length c) (P++(⟨⟨Al,i1,q2,i3,i4,i5,q6,i7⟩,.slice B2 q2.length d2,.slice B6 q6.length d6⟩:bH)::R)from (lQ.o).put hP rfl 0 (by decide) _ rfl (λ_=>aa6) (λ_ h=>h))).put hP rfl 1 (by decide) _ rfl (λ_=>aa6) (λ_ h=>h)));go_wp2_with (fail);refine (YH.o _ ((Js.o.fa _ (aa5 _ (aaA ..))).1)).mono ?_;rintro e V2 ⟨rfl,o2,Wy⟩;have S4:Touch (λb=>cx q2 (.slice B2 q2.length d2) b) ((V1.setCell ⟨g,j*8,none⟩ (.string Al)).setCell ⟨g,j*8+1,none⟩ (.int .i64 ((K0:Int)+1))) V2:=Touch.aW Wy (λb hb=>zr (by simp[eL]) hb);have T2:aR cX base V2 (.slice (some ⟨g,0,none⟩) L.length c) (P++(⟨⟨Al,(K0:Int)+1,(dG (K0+2) q2.length),i3,i4,i5,q6,i7⟩,.slice B2 q2.length d2,.slice B6 q6.length d6⟩:bH)::R):=Js.o.turn hP S4 (λb _ hb=>Or.inl hb) rfl (λb=>or_congr_left (kp (by simp[eL]))) ⟨(show ay ah (dG (K0+2) q2.length) base V2 (.slice B2 q2.length d2)from by have:=o2;exact this),ay.aD (show ay ak q6 base _ _ from (Js.o.fa _ (aa5 _ (aaA ..))).2.1) S4 (λb hb cL=>(Js.o.fa _ (aa5 _ (aaA ..))).2.2 b cL hb),λb h1 h2=>(Js.o.fa _ (aa5 _ (aaA ..))).2.2 b (gK h1 (by simp[eL])) h2⟩;have ju:=I (((jh.o.setCell (p:=⟨g,j*8,none⟩) BE.o (.string Al)).setCell (p:=⟨g,j*8+1,none⟩) BE.o (.int .i64 ((K0:Int)+1))).trans (S4.mono (λb _ hb=>DP b (Or.inl hb))));clear f0 c0 f1 c1 c2 f3 c3 f4 c4 f5 c5 c6 f7 c7 o2 Wy S4;have c3:V2.cell? ⟨g,j*8+3,none⟩=some (.int .i64 (i3)):=(T2.at hP rfl (i:=3) rfl).1;have f3:V2.frozen? ⟨g,j*8+3,none⟩=false:=(T2.at hP rfl (i:=3) rfl).2;have c4:V2.cell? ⟨g,j*8+4,none⟩=some (.int .i64 (i4)):=(T2.at hP rfl (i:=4) rfl).1;have f4:V2.frozen? ⟨g,j*8+4,none⟩=false:=(T2.at hP rfl (i:=4) rfl).2;have c5:V2.cell? ⟨g,j*8+5,none⟩=some (.int .i64 (i5)):=(T2.at hP rfl (i:=5) rfl).1;have f5:V2.frozen? ⟨g,j*8+5,none⟩=false:=(T2.at hP rfl (i:=5) rfl).2;have c6:V2.cell? ⟨g,j*8+6,none⟩=some (.slice B6 q6.length d6):=(T2.at hP rfl (i:=6) rfl).1;have c7:V2.cell? ⟨g,j*8+7,none⟩=some (.int .i64 (i7)):=(T2.at hP rfl (i:=7) rfl).1;have f7:V2.frozen? ⟨g,j*8+7,none⟩=false:=(T2.at hP rfl (i:=7) rfl).2;have oe:=I T2;clear T2;obtain ⟨K3,KO⟩: ∃z:Nat,z=(K2+3)+q6.length:=⟨_,rfl⟩
   have YI:ag (∀W,ay ak q6 base W (.slice B6 q6.length d6)->Calls prog 82 #[.slice B6 q6.length d6,.int .i64 ((K2:Int)+1+1+1)] W (sR ak (jr (K2+3) q6.length) K3 base (.slice B6 q6.length d6) W)):=I (λV ho=>by
    have:=nG q6 (.slice B6 q6.length d6) base (K2+3) V ho (by omega) (by omega);rw[show (((K2+3):Nat):Int)=(K2:Int)+1+1+1 by omega,<-KO]at this;exact this)
   have Q':=I KO;have lK3:K3<=K2+4194400:=by omega
   have mK3:K2<=K3:=by omega
   clear KO;have Ju:=I ((show aR cX base (((V2.setCell ⟨g,j*8+3,none⟩ (.int .i64 ((K2:Int)))).setCell ⟨g,j*8+4,none⟩ (.int .i64 ((K2:Int)+1))).setCell ⟨g,j*8+5,none⟩ (.int .i64 ((K2:Int)+1+1))) (.slice (some ⟨g,0,none⟩) L.length c) (P++(⟨⟨Al,(K0:Int)+1,(dG (K0+2) q2.length),(K2:Int),(K2:Int)+1,(K2:Int)+1+1,q6,i7⟩,.slice B2 q2.length d2,.slice B6 q6.length d6⟩:bH)::R)from ((show aR cX base ((V2.setCell ⟨g,j*8+3,none⟩ (.int .i64 ((K2:Int)))).setCell ⟨g,j*8+4,none⟩ (.int .i64 ((K2:Int)+1))) (.slice (some ⟨g,0,none⟩) L.length c) (P++(⟨⟨Al,(K0:Int)+1,(dG (K0+2) q2.length),(K2:Int),(K2:Int)+1,i5,q6,i7⟩,.slice B2 q2.length d2,.slice B6 q6.length d6⟩:bH)::R)from ((show aR cX base (V2.setCell ⟨g,j*8+3,none⟩ (.int .i64 ((K2:Int)))) (.slice (some ⟨g,0,none⟩) L.length c) (P++(⟨⟨Al,(K0:Int)+1,(dG (K0+2) q2.length),(K2:Int),i4,i5,q6,i7⟩,.slice B2 q2.length d2,.slice B6 q6.length d6⟩:bH)::R)from (oe.o).put hP rfl 3 (by decide) _ rfl (λ_=>aa6) (λ_ h=>h))).put hP rfl 4 (by decide) _ rfl (λ_=>aa6) (λ_ h=>h))).put hP rfl 5 (by decide) _ rfl (λ_=>aa6) (λ_ h=>h)));go_wp2_with (fail);refine (YI.o _ ((Ju.o.fa _ (aa5 _ (aaA ..))).2.1)).mono ?_;rintro e V3 ⟨rfl,o3,Wz⟩;have S5:Touch (λb=>cx q6 (.slice B6 q6.length d6) b) (((V2.setCell ⟨g,j*8+3,none⟩ (.int .i64 ((K2:Int)))).setCell ⟨g,j*8+4,none⟩ (.int .i64 ((K2:Int)+1))).setCell ⟨g,j*8+5,none⟩ (.int .i64 ((K2:Int)+1+1))) V3:=Touch.aW Wz (λb hb=>zr (by simp[gI]) hb);have T3:aR cX base V3 (.slice (some ⟨g,0,none⟩) L.length c) (P++(⟨⟨Al,(K0:Int)+1,(dG (K0+2) q2.length),(K2:Int),(K2:Int)+1,(K2:Int)+1+1,(jr (K2+3) q6.length),i7⟩,.slice B2 q2.length d2,.slice B6 q6.length d6⟩:bH)::R):=Ju.o.turn hP S5 (λb _ hb=>Or.inr hb) rfl (λb=>or_congr_right (kp (by simp[gI]))) ⟨ay.aD (show ay ah _ base _ _ from (Ju.o.fa _ (aa5 _ (aaA ..))).1) S5 (λb hb cL=>(Ju.o.fa _ (aa5 _ (aaA ..))).2.2 b hb cL),(show ay ak (jr (K2+3) q6.length) base V3 (.slice B6 q6.length d6)from by have:=o3;exact this),λb h1 h2=>(Ju.o.fa _ (aa5 _ (aaA ..))).2.2 b h1 (gK h2 (by simp[gI]))⟩;have Ls:=I ((((ju.o.setCell (p:=⟨g,j*8+3,none⟩) BE.o (.int .i64 ((K2:Int)))).setCell (p:=⟨g,j*8+4,none⟩) BE.o (.int .i64 ((K2:Int)+1))).setCell (p:=⟨g,j*8+5,none⟩) BE.o (.int .i64 ((K2:Int)+1+1))).trans (S5.mono (λb _ hb=>DP b (Or.inr hb))));clear f3 c3 f4 c4 f5 c5 c6 f7 c7 o3 Wz S5;have c7:V3.cell? ⟨g,j*8+7,none⟩=some (.int .i64 (i7)):=(T3.at hP rfl (i:=7) rfl).1;have f7:V3.frozen? ⟨g,j*8+7,none⟩=false:=(T3.at hP rfl (i:=7) rfl).2;have oa:=I T3;clear T3;have eB:=I ((show aR cX base (V3.setCell ⟨g,j*8+7,none⟩ (.int .i64 ((K3:Int)))) (.slice (some ⟨g,0,none⟩) L.length c) (P++(⟨⟨Al,(K0:Int)+1,(dG (K0+2) q2.length),(K2:Int),(K2:Int)+1,(K2:Int)+1+1,(jr (K2+3) q6.length),(K3:Int)⟩,.slice B2 q2.length d2,.slice B6 q6.length d6⟩:bH)::R)from (oa.o).put hP rfl 7 (by decide) _ rfl (λ_=>aa6) (λ_ h=>h)));have Oo:=I ((Ls.o.setCell (p:=⟨g,j*8+7,none⟩) BE.o (.int .i64 ((K3:Int)))));go_wp2;go_roundw
   case rel=>
    refine ⟨j+1,by omega,by go_num,?_,?_,Oo.o⟩
    ·rw[iG.o];unfold eR;have:=Q9.o;have:=Q'.o;first|rfl|(congr 1;push_cast;omega)|(congr 1;omega)
    rw[Jo.o];have cn:(⟨⟨Al,(K0:Int)+1,(dG (K0+2) q2.length),(K2:Int),(K2:Int)+1,(K2:Int)+1+1,(jr (K2+3) q6.length),(K3:Int)⟩,.slice B2 q2.length d2,.slice B6 q6.length d6⟩:bH)=lJ K0 (⟨⟨s0,i1,q2,i3,i4,i5,q6,i7⟩,.slice B2 q2.length d2,.slice B6 q6.length d6⟩:bH):=by first|rfl|simp only[lJ,Q9.o,Q'.o,Oq.o]
    rw[<-cn];exact eB.o
   case measure=>simp[intOf];omega
  have eA: ¬(j:Int)<(L.length:Int):=by omega
  have sF:j=L.length:=by omega
  subst sF;rw[aaJ (aad _),abB (aad _),abv]at hT;rw[aaJ (aad _)];have DQ:=I hT;clear hT;go_wp2;go_ret;exact ⟨rfl,DQ.o,Jn.o⟩
theorem yz {β:Type} {K:Kind β} {m:Nat->β->β} {nx:Nat->β->Nat} (hm: ∀k x b,K.dR (m k x) b↔K.dR x b) (v:Value) (b:Nat): ∀(L:List β) (k:Nat),(∃q∈bL m nx k L,K.dR q b)↔ ∃q∈L,K.dR q b
 |[],_=>by simp[bL]
 |x::L,k=>by
  rw[bL];simp only[aaF,exists_eq_or_imp];rw[hm k x b,yz hm v b L (nx k x)]
theorem cU {β:Type} {K:Kind β} {m:Nat->β->β} {nx:Nat->β->Nat} (hm: ∀k x b,K.dR (m k x) b↔K.dR x b) (v:Value) (L:List β) (k:Nat):bN K v (bL m nx k L)=bN K v L:=by
 funext b
 apply propext;unfold bN;rw[yz hm v b L k];constructor
 ·rintro (h|h)
  ·exact .inl (gK h (iy m nx L k))
  exact .inr h
 rintro (h|h)
 ·exact .inl (gK h (iy m nx L k).symm)
 exact .inr h
theorem mM (k:Nat) (x:bR) (b:Nat):dX.dR (lT k x) b↔dX.dR x b:=kp (by simp[lT,gI])
theorem pd (k:Nat) (x:bE) (b:Nat):iw.dR (mL k x) b↔iw.dR x b:=aa6
theorem rW (k:Nat) (x:bu) (b:Nat):cw.dR (lU k x) b↔cw.dR x b:=kp (by simp[lU,eL])
theorem vZ (k:Nat) (x:bH) (b:Nat):cX.dR (lJ k x) b↔cX.dR x b:=or_congr (kp (by simp[lJ,eL])) (kp (by simp[lJ,gI]))
def Ra (k:Nat) (a:cp) (T:List bR) (C:List bu) (M:List bH):cp:=
 ⟨a.day,a.rule,(bL lT cH k T).map bR.a,bL mL dx (bs cH k T) a.base,(bL lU dQ (bs dx (bs cH k T) a.base) C).map bu.a,(bL lJ eR (bs dQ (bs dx (bs cH k T) a.base) C) M).map bH.a⟩
def tq (k:Nat) (a:cp) (T:List bR) (C:List bu) (M:List bH):Nat:=bs eR (bs dQ (bs dx (bs cH k T) a.base) C) M
def ME (x:cS) (a:cp) (T:List bR) (C:List bu) (M:List bH) (k base:Nat) (w:World) (e:Ending) (w':World):Prop:=
 e= .returned (.int .i64 ((tq k a T C M:Nat):Int))/\
 kP base w' x (Ra k a T C M) (bL lT cH k T) (bL lU dQ (bs dx (bs cH k T) a.base) C) (bL lJ eR (bs dQ (bs dx (bs cH k T) a.base) C) M)/\
 Touch (bz x a T C M) w w'
structure rX (T:List bR) (b:List bE) (C:List bu) (M:List bH):Prop where
 t0:T.length<=1048576
 t: ∀x∈T,x.a.length<=1048576
 b0:b.length<=1048576
 c0:C.length<=1048576
 c: ∀x∈C,x.a.pat.length<=1048576
 m0:M.length<=1048576
 m: ∀x∈M,x.a.pat.length<=1048576/\x.a.ax.length<=1048576
theorem rN.Rb {a:cp} (h:rN a) {T:List bR} {C:List bu} {M:List bH} (ht:T.map bR.a=a.af) (hc:C.map bu.a=a.av) (hm:M.map bH.a=a.ao):rX T a.base C M where
 t0:=by have:=h.t0;rw[<-ht,aap]at this;exact this
 t:=λx hx=>h.t _ (by rw[<-ht];exact abV hx)
 b0:=h.b0
 c0:=by have:=h.c0;rw[<-hc,aap]at this;exact this
 c:=λx hx=>(h.c _ (by rw[<-hc];exact abV hx)).1
 m0:=by have:=h.m0;rw[<-hm,aap]at this;exact this
 m:=λx hx=>by have:=h.m _ (by rw[<-hm];exact abV hx);exact ⟨this.2.1,this.2.2.2⟩
theorem uc (a:cp) (x:cS) (T:List bR) (C:List bu) (M:List bH) (base k:Nat) (w:World) (h:kP base w x a T C M) (hf:rX T a.base C M) (jA:0<k) (hk:k<=1048576):
 Calls prog 32 #[eu a x,.int .i64 (k:Int)] w (ME x a T C M k base w):=by
 obtain ⟨A1,c1,A2,c2,A3,c3,A4,c4,rfl⟩:=h.r.slices;have l1:=uL T k hf.t;have l2:=uM a.base (bs cH k T) (λ_ _=>trivial);have l3:=uN C (bs dx (bs cH k T) a.base) hf.c;have q1:=hf.t0;have q2:=hf.b0;have q3:=hf.c0;obtain ⟨W,hW⟩: ∃W:World,W=w.alloc (.cells #[.int .i64 a.day,.int .i64 a.rule,.slice A1 a.af.length c1,.slice A2 a.base.length c2,.slice A3 a.av.length c3,.slice A4 a.ao.length c4] 29):=⟨_,rfl⟩
 have bW:Below w.heap.size w W:=by rw[hW];exact (aae _ _).alloc (aad _) _
 have sW:w.heap.size<W.heap.size:=by rw[hW];simp
 have a1:Row W w.heap.size [.int .i64 a.day,.int .i64 a.rule,.slice A1 a.af.length c1,.slice A2 a.base.length c2,.slice A3 a.av.length c3,.slice A4 a.ao.length c4]:=by rw[hW];exact Row.new w _ _
 obtain ⟨F,DO⟩: ∃F,F=bz ⟨.slice A1 a.af.length c1,.slice A2 a.base.length c2,.slice A3 a.av.length c3,.slice A4 a.ao.length c4⟩ a T C M:=⟨_,rfl⟩
 have WA: ∀b,F b->b<w.heap.size:=λb hb=>by rw[DO]at hb;exact (h.lt hb).2
 have eG:=h.below bW;have HF:=I hf;have HO:=I eG;have NT:=I WA;have MF:=I DO;have lV:=I hW;have gf:=I bW;have fv:=I a1;have K1:bs cH k T<=35184372088832:=by omega
 have K2:bs dx (bs cH k T) a.base<=35184372088832:=by omega
 have K3:bs dQ (bs dx (bs cH k T) a.base) C<=35184372088832:=by omega
 have P1:0<bs cH k T:=by omega
 have P2:0<bs dx (bs cH k T) a.base:=by omega
 have P3:0<bs dQ (bs dx (bs cH k T) a.base) C:=by omega
 have MB:=I (λV (ho:aR dX base V (.slice A1 a.af.length c1) T)=>zt T _ base k V ho hf.t hf.t0 jA (by omega));have MC:=I (λV (ho:aR iw base V (.slice A2 a.base.length c2) a.base)=>zu a.base _ base (bs cH k T) V ho (λ_ _=>trivial) hf.b0 P1 K1);have PP:=I (λV (ho:aR cw base V (.slice A3 a.av.length c3) C)=>zv C _ base (bs dx (bs cH k T) a.base) V ho hf.c hf.c0 P2 K2);have Lt:=I (λV (ho:aR cX base V (.slice A4 a.ao.length c4) M)=>zx M _ base (bs dQ (bs dx (bs cH k T) a.base) C) V ho hf.m hf.m0 P3 K3)
 have Jv:ag (∀w4,aR dX base w4 (.slice A1 a.af.length c1) (bL lT cH k T)->aR iw base w4 (.slice A2 a.base.length c2) (bL mL dx (bs cH k T) a.base)->aR cw base w4 (.slice A3 a.av.length c3) (bL lU dQ (bs dx (bs cH k T) a.base) C)->aR cX base w4 (.slice A4 a.ao.length c4) (bL lJ eR (bs dQ (bs dx (bs cH k T) a.base) C) M)->Touch F w w4->ME ⟨.slice A1 a.af.length c1,.slice A2 a.base.length c2,.slice A3 a.av.length c3,.slice A4 a.ao.length c4⟩ a T C M k base w (.returned (.int .i64 ((tq k a T C M:Nat):Int))) w4):=I (λw4 t1 t2 t3 t4 tt=>by
  refine ⟨rfl,⟨rfl,rfl,rfl,t1,t2,t3,t4,?_,?_,?_,?_,?_,?_⟩,by rw[<-MF.o];exact tt⟩
  ·show ji (bN dX _ (bL lT cH k T)) (bN iw _ (bL mL dx _ a.base));rw[cU mM,cU pd];exact h.tb
  ·show ji (bN dX _ (bL lT cH k T)) (bN cw _ (bL lU dQ _ C));rw[cU mM,cU rW];exact h.tc
  ·show ji (bN dX _ (bL lT cH k T)) (bN cX _ (bL lJ eR _ M));rw[cU mM,cU vZ];exact h.Bw
  ·show ji (bN iw _ (bL mL dx _ a.base)) (bN cw _ (bL lU dQ _ C));rw[cU pd,cU rW];exact h.bc
  ·show ji (bN iw _ (bL mL dx _ a.base)) (bN cX _ (bL lJ eR _ M));rw[cU pd,cU vZ];exact h.bm
  show ji (bN cw _ (bL lU dQ _ C)) (bN cX _ (bL lJ eR _ M));rw[cU rW,cU vZ];exact h.EX)
 have e4:tq k a T C M=bs eR (bs dQ (bs dx (bs cH k T) a.base) C) M:=rfl;rw[e4]at Jv;unfold rV at MB MC PP Lt;generalize bs cH k T=k1 at*;generalize bs dx k1 a.base=k2 at*;generalize bs dQ k2 C=k3 at*;clear h hf eG WA DO hW bW a1 l1 l2 l3 e4;unfold eu
 dsimp only
 go_enter func32,ntmps32;go_wp2_with (fail);rw[<-lV.o];refine (MB.o W HO.o.t).mono ?_;rintro e w1 ⟨rfl,t1,g1⟩;have n1: ¬bN dX (.slice A1 a.af.length c1) T w.heap.size:=λhb=>Nat.lt_irrefl _ (NT.o _ (by rw[MF.o];exact .inl hb));have mB:=I (fv.o.aD sW g1 n1);have s1:=aar sW g1.size;have b1:=HO.o.b.aD g1 (λb hb hf=>HO.o.tb b hf hb);have Jk:=HO.o.c.aD g1 (λb hb hf=>HO.o.tc b hf hb);have m1:=HO.o.m.aD g1 (λb hb hf=>HO.o.Bw b hf hb);have lQ:=I t1;have da:=I b1;have FN:=I Jk;have Uz:=I m1;have YJ:=I ((Touch.dV (F:=F) gf.o).trans (g1.mono (λb _ hb=>by rw[MF.o];exact .inl hb)));have y3:=mB.o.cell 3 _ rfl;clear t1 b1 Jk m1 g1 n1;go_wp2_with (fail);refine (MC.o w1 da.o).mono ?_;rintro e w2 ⟨rfl,t2,g2⟩;have n2: ¬bN iw (.slice A2 a.base.length c2) a.base w.heap.size:=λhb=>Nat.lt_irrefl _ (NT.o _ (by rw[MF.o];exact .inr (.inl hb)));have gj:=I (mB.o.aD s1 g2 n2);have s2:=aar s1 g2.size;have oe:=I (lQ.o.aD g2 (λb hb hf=>HO.o.tb b (by rw[cU mM]at hb;exact hb) hf));have dy:=I t2;have KP:=I (FN.o.aD g2 (λb hb hf=>HO.o.bc b hf hb));have UA:=I (Uz.o.aD g2 (λb hb hf=>HO.o.bm b hf hb));have Gy:=I (YJ.o.trans (g2.mono (λb _ hb=>by rw[MF.o];exact .inr (.inl hb))));have y4:=gj.o.cell 4 _ rfl;clear t2 g2 n2 y3;go_wp2_with (fail);refine (PP.o w2 KP.o).mono ?_;rintro e w3 ⟨rfl,t3,g3⟩;have n3: ¬bN cw (.slice A3 a.av.length c3) C w.heap.size:=λhb=>Nat.lt_irrefl _ (NT.o _ (by rw[MF.o];exact .inr (.inr (.inl hb))));have fU:=I (gj.o.aD s2 g3 n3);have s3:=aar s2 g3.size;have oa:=I (oe.o.aD g3 (λb hb hf=>HO.o.tc b (by rw[cU mM]at hb;exact hb) hf));have dI:=I (dy.o.aD g3 (λb hb hf=>HO.o.bc b (by rw[cU pd]at hb;exact hb) hf));have S6:=I t3;have UB:=I (UA.o.aD g3 (λb hb hf=>HO.o.EX b hf hb));have YK:=I (Gy.o.trans (g3.mono (λb _ hb=>by rw[MF.o];exact .inr (.inr (.inl hb)))));have y5:=fU.o.cell 5 _ rfl;clear t3 g3 n3 y4;go_wp2_with (fail);refine (Lt.o w3 UB.o).mono ?_;rintro e w4 ⟨rfl,t4,g4⟩;have I9:=I (oa.o.aD g4 (λb hb hf=>HO.o.Bw b (by rw[cU mM]at hb;exact hb) hf));have kC:=I (dI.o.aD g4 (λb hb hf=>HO.o.bm b (by rw[cU pd]at hb;exact hb) hf));have S7:=I (S6.o.aD g4 (λb hb hf=>HO.o.EX b (by rw[cU rW]at hb;exact hb) hf));have YL:=I (YK.o.trans (g4.mono (λb _ hb=>by rw[MF.o];exact .inr (.inr (.inr hb)))));have eB:=I (Jv.o w4 I9.o kC.o S7.o t4 YL.o);clear t4 g4 y5;go_wp2;go_ret;exact eB.o
theorem yQ: ∀(L:List bE) (k j:Nat),j<L.length->(bL mL dx k L)[j]?=some ⟨((k+2*j:Nat):Int),⟨(109::itoa ((k+2*j+1:Nat):Int)).toArray⟩⟩
 |[],_,_,h=>by simp at h
 |x::L,k,0,_=>rfl
 |x::L,k,j+1,h=>by
  rw[bL,List.getElem?_cons_succ,yQ L (dx k x) j (by simpa using h)];have e:dx k x+2*j=k+2*(j+1):=by unfold dx;omega
  rw[e]
theorem Kk (L:List bE) (k:Nat):bs dx k L=k+2*L.length:=by
 induction L generalizing k with
 |nil=>rfl
 |cons x L ih=>rw[bs,ih,List.length_cons];unfold dx;omega
theorem zX (L:List bE) (k:Nat) (A:Option Addr) (c:Nat) (w:World) (h:iT w w.heap.size (.slice A L.length c) (bL mL dx k L)) (jA:0<k) (hk:k<=1048576) (hn:L.length<=1048576):
 Calls prog 86 #[.slice A L.length c,.int .i64 (k:Int)] w (bT (.int .i64 ((bs dx k L:Nat):Int)) w):=by
 have H:=I (cz.km h (Pl.stays _) (aad _));have NN:=I (λj (hj:j<L.length)=>yQ L k j hj);rw[Kk];generalize L.length=n at*;clear h;refine aL λx0=>?_;go_enter func86,ntmps86;go_wp2;go_loopw [1,5] (λm i wr=> ∃(j:Nat) (x:ar w),j<=n/\i= .int .i64 (j:Int)/\m= .int .i64 ((k+2*j:Nat):Int)/\wr=x.val) (λ_ i _=>n-(intOf i).toNat);case atStart=>exact ⟨0,x0,aaf _,rfl,rfl,rfl⟩
 case round=>
  obtain ⟨j,x,hj,rfl,rfl,rfl⟩:=hrel;by_cases aI:j<n
  ·obtain ⟨b,off,rfl,hb,c0,c1⟩:=rO (H.o x) (NN.o j aI);clear c0 c1
   have C:ag (∀y:ar w,y.val.cell? ⟨b,off+j*2,none⟩=some (.int .i64 ((k+2*j:Nat):Int))/\y.val.cell? ⟨b,off+j*2+1,none⟩=some (.string ⟨(109::itoa ((k+2*j+1:Nat):Int)).toArray⟩)):=I (λy=>by
    obtain ⟨b',xw,hA,dF,d0,d1⟩:=rO (H.o y) (NN.o j aI);injection hA with hA
    injection hA with e1 e2
    subst e1 e2;exact ⟨d0,d1⟩)
   obtain ⟨K,hK⟩: ∃K,K=k+2*j:=⟨_,rfl⟩
   have PT:K<=3145728:=by omega
   have PU:0<K:=by omega
   have jO:ag (((k+2*(j+1):Nat):Int)=(K:Int)+1+1):=I (by omega);rw[<-hK]at C⊢;clear hK;have oe:ag (∀W,Calls prog 83 #[.int .i64 ((K:Int)+1)] W (bT (.string ⟨(109::itoa ((K+1:Nat):Int)).toArray⟩) W)):=I (λW=>s9 _ (K+1) (by omega) W (by omega) (by omega));have z0: ∀y:ar w,y.val.cell? ⟨b,off+j*2,none⟩=some (.int .i64 (K:Int)):=λy=>(C.o y).1;have z1: ∀y:ar w,y.val.cell? ⟨b,off+j*2+1,none⟩=some (.string ⟨(109::itoa ((K+1:Nat):Int)).toArray⟩):=λy=>(C.o y).2;generalize (⟨(109::itoa ((K+1:Nat):Int)).toArray⟩:ByteArray)=t2 at*;go_upto_region 7 with (fail)
   refine ap (by kernel_rfl) (by kernel_rfl) ?_
   repeat (go_big_quiet_step ((first|(go_at_call 83;exact aq (oe.o _)))))
   refine aai ?_;rintro _ ⟨y,rfl⟩;go_wp2;go_roundw;case rel=>exact ⟨j+1,y,by omega,by go_num,by rw[jO.o],rfl⟩
   case measure=>simp[intOf];omega
  have eA: ¬(j:Int)<(n:Int):=by omega
  have sF:j=n:=by omega
  subst sF;go_wp2;go_ret;exact ⟨pJ (by omega),x.ok⟩
def YM (own:Nat->World->Value->Prop) (r:Bool) (w:World) (e:Ending) (w':World):Prop:= ∃v,e= .returned (.tuple #[v,.bool r])/\own w.heap.size w' v/\Below w.heap.size w w'
structure Jw where
 own:Nat->World->Value->Prop
 Rc:Nat->World->Value->Prop
 n:Nat
 slice: ∀{b W v},own b W v-> ∃A m c,v= .slice A m c
 aD: ∀{b W W' v} {F:Nat->Prop},own b W v->Touch F W W'->(∀c,F c->c<b)->own b W' v
 DS: ∀{b W W' v},Rc b W v->Below W.heap.size W W'->Rc b W' v
theorem Jw.below (K:Jw) {b:Nat} {W W':World} {v:Value} (h:K.own b W v) (hb:Below W.heap.size W W'):K.own b W' v:=K.aD (F:=λ_=>False) h (Touch.dV hb) (λ_ h=>h.elim)
def YN (R:List bE):Jw where
 own b W v:=ay ai R b W v
 Rc b W v:=ay ai (bL mL dx 1 R) b W v
 n:=bs dx 1 R
 slice h:=by obtain ⟨A,c,e,_⟩:=h;exact ⟨A,_,c,e⟩
 aD h ht hF:=ay.aD h ht (λc hc hf=>by have q1:=(ay.dw h hc).1;have q2:=hF c hf;omega)
 DS h hb:=ay.on h hb
noncomputable def WB (a:cp):List bE:=if fI a=true then (nU a.base a.av a.day).getD []else []
theorem BF {a:cp} (h:fI a=true):cd a.base=true/\bJ a.av=true/\eJ a.base a.av/\0<=a.day/\a.day<=999:=by
 unfold fI gS at h;simp only[aay,aaU,dS]at h;exact ⟨h.1.1.2,h.1.2,h.2,h.1.1.1.1.1.1.1.1.1,h.1.1.1.1.1.1.1.1.2⟩
end Go.Proofs.YtbcggaldkihcaaaGreat
