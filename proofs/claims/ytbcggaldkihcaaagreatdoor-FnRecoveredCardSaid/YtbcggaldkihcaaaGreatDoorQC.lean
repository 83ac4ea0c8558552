/- Draws: what only turns the source; sentences drawn; texts and edits found. -/
import Derived.Test.YtbcggaldkihcaaaGreatDoorQB
import Derived.Shelf.Abstract
import Derived.Lib.AppendZerosOnto
import Derived.Lib.Overlaps
import Derived.Laws.Externs
import Derived.Laws.NewBlocks
import Derived.Laws.StructEq
import Derived.Test.YtbcggaldkihcaaaGreatDoorProg
import Derived.OwnWalk
set_option maxHeartbeats 8000000
set_option maxRecDepth 100000
namespace Go.Proofs.YtbcggaldkihcaaaGreatDoor
open Tryz
open Go.RowKit Go.Lib
theorem Src.keep {B b k:Nat} {w w':World} (h:Src B w b k) (hb:w'.heap[b]?=w.heap[b]?) (hB: ∀i,i<B->w'.heap[i]?=w.heap[i]?):Src B w' b k:=by
 obtain ⟨A,n,c,p,q,h1,h2,h3,h4,h5,h6⟩:=h;refine ⟨A,n,c,p,q,by rw[hb];exact h1,h2,h3,h4,h5,h6.1,λhn=>?_⟩;obtain ⟨g,off,rfl,aI,hc⟩:=h6.2 hn
 exact ⟨g,off,rfl,aI,λi hi=>by
  obtain ⟨x,hx,Xx⟩:=hc i hi;exact ⟨x,hx,by rw[World.cell?_of_block (hB g aI)];exact Xx⟩⟩
theorem Src.lt {B b k:Nat} {w:World} (h:Src B w b k):b<w.heap.size/\B<=b:=by
 obtain ⟨A,n,c,p,q,h1,h2,_⟩:=h;exact ⟨(Array.getElem?_eq_some_iff.1 h1).1,h2⟩
theorem Src.below {B b k D:Nat} {w w':World} (h:Src B w b k) (hb:Below D w w') (hD:b<D):Src B w' b k:=
 h.keep (hb.block b hD) (λi hi=>hb.block i (by have:=h.lt.2;omega))
theorem Src.alloc {B b k:Nat} {w:World} (h:Src B w b k) (o:Obj):Src B (w.alloc o) b k:=
 h.below ((Below.refl w.heap.size w).alloc (Nat.le_refl _) o) h.lt.1
theorem Src.drewN {B b k:Nat} {w:World} (h:Src B w b k) (n:Nat):Src B (w.drewN n) b k:=h.below (below_drewN (Below.refl w.heap.size w) n) h.lt.1
theorem m5 {b:Nat} {w w':World} (h:Below w.heap.size w w'):iJ b w w':=⟨h.os,h.tape,h.output,h.size,λi hi _=>h.block i hi⟩
theorem dd {b D:Nat} {a w w':World} (h:iJ b a w) (hb:Below D w w') (hD:a.heap.size<=D):iJ b a w':=
 ⟨hb.os.trans h.os,hb.tape.trans h.tape,hb.output.trans h.output,Nat.le_trans h.size hb.size,λi hi hn=>(hb.block i (Nat.lt_of_lt_of_le hi hD)).trans (h.block i hi hn)⟩
theorem bV {b:Nat} {a w:World} (h:iJ b a w) (o:Obj):iJ b a (w.alloc o):=dd h ((Below.refl w.heap.size w).alloc (Nat.le_refl _) o) h.size
theorem fb {b:Nat} {a w w':World} {row:Option Nat} (h:iJ b a w) (hg:w.grownBy w' row) (hr: ∀j,row=some j->a.heap.size<=j):iJ b a w':=
 ⟨hg.os.trans h.os,hg.tape.trans h.tape,hg.output.trans h.output,Nat.le_trans h.size hg.size,λi hi hn=>(hg.block i (Nat.lt_of_lt_of_le hi h.size) (λe=>by have:=hr i e.symm;omega)).trans (h.block i hi hn)⟩
theorem Src.grown {B b k:Nat} {w w':World} {row:Option Nat} (h:Src B w b k) (hg:w.grownBy w' row) (hr: ∀j,row=some j->b<j):Src B w' b k:=
 h.keep (hg.block b h.lt.1 (λe=>by have:=hr b e.symm;omega)) (λi hi=>hg.block i (by have:=h.lt;omega) (λe=>by have:=hr i e.symm;have:=h.lt;omega))
theorem Iq {w w':World} {base b n size:Nat} {e:TypeId} {v:Value} {xs:List Value} (h:w.ownsRow base e size v n xs) (hb:b<base) (ho:iJ b w w'):w'.ownsRow base e size v n xs:=
 h.kept ho (by
  rcases hv:v.ownBlock with _|g
  ·exact .inl rfl
  right
  intro e;injection e with e
  have:=(h.lt g hv).1;omega)
theorem Row.only {w w':World} {g b:Nat} {L:List Value} (h:Row w g L) (hg:g<w.heap.size) (gm:g≠b) (ho:iJ b w w'):Row w' g L where
 cell:=λj u hj=>(qy ho g j hg gm).1.trans (h.cell j u hj)
 free:=λj hj=>(qy ho g j hg gm).2.trans (h.free j hj)
theorem ay.only {α:Type} {f:α->List Value} {xs:List α} {base b:Nat} {w w':World} {v:Value} (h:ay f xs base w v) (hb:b<base) (ho:iJ b w w'):ay f xs base w' v:=by
 obtain ⟨A,c,rfl,h1,h2,h3⟩:=h;refine ⟨A,c,rfl,h1,h2,λh0=>?_⟩;obtain ⟨g,e,hg,aI,hr⟩:=h3 h0;exact ⟨g,e,hg,Nat.lt_of_lt_of_le aI ho.size,hr.only aI (by omega) ho⟩
theorem cz.only {α:Type} {f:α->List Value} {size B b:Nat} {w w':World} {v:Value} {xs:List α} (h:cz (Pl f) size w B v xs) (hb:B<=w.heap.size) (hs:B<=b) (ho:iJ b w w'):cz (Pl f) size w' B v xs:=by
 obtain ⟨A,c,rfl,h1,h2,h3⟩:=h;refine ⟨A,c,rfl,h1,h2,λh0=>?_⟩;obtain ⟨g,off,e,aI,hc⟩:=h3 h0;refine ⟨g,off,e,aI,λk x hx=>?_⟩;obtain ⟨us,hl,hp,aC⟩:=hc k x hx;exact ⟨us,hl,hp,λj u hj=>(qy ho g _ (by omega) (by omega)).1.trans (aC j u hj)⟩
def adg (p:List UInt8->Prop) (B:Nat) (w:World) (b k:Nat) (e:Ending) (w':World):Prop:=
 ∃l,p l/\e= .returned (.string ⟨l.toArray⟩)/\Src B w' b k/\iJ b w w'
theorem aep (p:List UInt8->Prop) (B b k g n c:Nat) (w:World) (h:Src B w b k) (hk:k<=58000) (hn:1<=n) (N5:n<=60000) (hg:g<w.heap.size) (qp:g≠b)
 (hc: ∀j,j<n-> ∃l:List UInt8,p l/\w.cell? ⟨g,j,none⟩=some (.string ⟨l.toArray⟩)):
 Calls prog 91 #[.pointer (some ⟨b,0,none⟩),.slice (some ⟨g,0,none⟩) n c] w (adg p B w b (k+2)):=by
 have H:=I h;have HC:=I hc;clear h hc;go_enter func91,ntmps91;go_wp2_with (fail);refine (tX B b k n w H.o (by omega) (by omega) (by omega)).mono ?_;rintro e w1 ⟨x,hx,rfl,hs,ho⟩;have hH:=I hs;have Ih:x<n:=by omega
 obtain ⟨l,hp,hl⟩:=HC.o x Ih;have x0:w1.cell? ⟨g,x,none⟩=some (.string ⟨l.toArray⟩):=(qy ho g x hg qp).1.trans hl;have HP:=I hp;have HO:=I ho;clear hs hl hp ho;go_wp2;go_ret;exact ⟨l,HP.o,rfl,hH.o,HO.o⟩
theorem fc (B b k:Nat) (w:World) (h:Src B w b k) (hk:k<=58000):
 Calls prog 63 #[.pointer (some ⟨b,0,none⟩)] w (adg (λl=>bP l=true) B w b (k+2)):=by
 have H:=I h;clear h;go_enter func63,ntmps63;go_wp2_with (fail);refine (aep (λl=>bP l=true) B b k w.heap.size 10 10 _ (H.o.alloc _) hk (by omega) (by omega) (by simp) (by have:=H.o.lt.1;omega) ?_).mono ?_
 ·intro j hj
  have aC: ∀(L:List (List UInt8)),(∀l∈L,bP l=true)->j<L.length-> ∃l,bP l=true/\(w.alloc (.cells (L.map (λl=>Value.string ⟨l.toArray⟩)).toArray 9)).cell? ⟨w.heap.size,j,none⟩=some (.string ⟨l.toArray⟩):=λL hL hj=>by
   refine ⟨L[j],hL _ (List.getElem_mem hj),?_⟩;have:=(Row.new w (L.map (λl=>Value.string ⟨l.toArray⟩)).toArray 9).cell j (.string ⟨L[j].toArray⟩) (by simp[List.getElem?_eq_getElem hj]);exact this
  exact aC [[97],[98],[100,111,103,115,32,97,114,101,32,108,101,100],[100,111,103,115,32,97,114,101,32,102,114,101,101],[116,104,101,32,103,97,116,101,32,105,115,32,115,104,117,116],[114,117,108,101,32,55],[112,97,121,32,51,32,97,32,121,101,97,114],[120,32,121,32,122],[97,98,99,100,101,102,103,104,105,106,107,108,109,110,111,112,113,114,115,116,117,118,119,120],[110,111]] (by decide) hj
 rintro e w1 ⟨l,hp,rfl,hs,ho⟩;have hH:=I hs;have HO:ag (iJ b w w1):=I (ll (m5 ((Below.refl w.heap.size w).alloc (Nat.le_refl _) _)) ho);have HP:=I hp;clear hs ho hp;go_wp2;go_ret;exact ⟨l,HP.o,rfl,hH.o,HO.o⟩
theorem FK (es:List bE) (q:Int) (w:World) (v:Value) (h:iT w w.heap.size v es):
 Calls prog 94 #[v,.int .i64 q] w (f' (.string (bC es q)) w):=by
 obtain ⟨A,c,rfl,hc,hm,cn⟩:=h;unfold maxLen at hm;have rn:es.length<=9223372036854775807:=by omega
 have gH:=I cn;clear cn;go_enter func94,ntmps94;go_wp2;go_loop [5] (λi=> ∃k:Nat,k<=es.length/\i= .int .i64 (k:Int)/\bC es q=bC (es.drop k) q) (λi=>es.length-(RowKit.intOf i).toNat);case atStart=>exact ⟨0,Nat.zero_le _,rfl,rfl⟩
 case round=>
  obtain ⟨k,hk,rfl,hf⟩:=hrel;have HF:=I hf;clear hf;by_cases aI:k<es.length
  ·obtain ⟨b,off,rfl,bD,aC⟩:=gH.o (by omega);have aH:es[k]?=some es[k]:=List.getElem?_eq_getElem aI;obtain ⟨x0,x1⟩:=ke aC aH;have HG:=I aH;clear aH aC;generalize es[k]=e at*;by_cases hq:e.id=q
   ·have HR:=I (FE HG.o hq HF.o);have hb:(e.id==q)=true:=by simp[hq]
    clear hq;go_wp2;go_ret;exact ⟨by rw[HR.o];rfl,0,rfl⟩
   have HR:=I (C3 HG.o hq HF.o);have hb:(e.id==q)=false:=by simp[hq]
   clear hq;go_wp2;go_round;case rel=>exact ⟨k+1,by omega,by go_num,HR.o⟩
   case measure=>simp[RowKit.intOf];omega
  have HR:=I (FF (by omega:es.length<=k) HF.o);have eA: ¬(k:Int)<(es.length:Int):=by omega
  go_wp2;go_ret;exact ⟨by rw[HR.o];rfl,0,rfl⟩
theorem AL (es:List aV) (q:Int) (w:World) (v:Value) (h:bg w w.heap.size v es):
 Calls prog 115 #[v,.int .i64 q] w (bT (Hz (bQ es q)) w):=by
 obtain ⟨A,c,rfl,hc,hm,cn⟩:=h;unfold maxLen at hm;have rn:es.length<=9223372036854775807:=by omega
 have gH:=I cn;have HB:ag (Below w.heap.size w (w.alloc (.cells #[.int .i64 0,.int .i64 0,.string ⟨#[]⟩,.string ⟨#[]⟩] 93))):=I ((Below.refl w.heap.size w).alloc (Nat.le_refl _) _);clear cn;go_enter func115,ntmps115;go_wp2;go_loop [5] (λi=> ∃k:Nat,k<=es.length/\i= .int .i64 (k:Int)/\bQ es q=bQ (es.drop k) q) (λi=>es.length-(RowKit.intOf i).toNat);case atStart=>exact ⟨0,Nat.zero_le _,rfl,rfl⟩
 case round=>
  obtain ⟨k,hk,rfl,hf⟩:=hrel;have HF:=I hf;clear hf;by_cases aI:k<es.length
  ·obtain ⟨b,off,rfl,bD,aC⟩:=gH.o (by omega);have aH:es[k]?=some es[k]:=List.getElem?_eq_getElem aI;obtain ⟨c0,c1,c2,c3⟩:=ln aC aH;have x0:=(HB.o.cell (p:=⟨b,off+k*4,none⟩) bD).trans c0;have x1:=(HB.o.cell (p:=⟨b,off+k*4+1,none⟩) bD).trans c1;have x2:=(HB.o.cell (p:=⟨b,off+k*4+2,none⟩) bD).trans c2;have x3:=(HB.o.cell (p:=⟨b,off+k*4+3,none⟩) bD).trans c3;have HG:=I aH;clear aH aC c0 c1 c2 c3;generalize es[k]=e at*;by_cases hq:e.id=q
   ·have HR:=I (C4 HG.o hq HF.o);have hb:(e.id==q)=true:=by simp[hq]
    clear hq;go_wp2;refine bodyPost_ret (v:= .agg #[.int .i64 e.kind,.int .i64 e.id,.string e.dA,.string e.new]) (by simp[results,results115,go_sem]) rfl ⟨by rw[HR.o];rfl,?_⟩;exact (Below.refl _ _).alloc (Nat.le_refl _) _
   have HR:=I (AG HG.o hq HF.o);have hb:(e.id==q)=false:=by simp[hq]
   clear hq;go_wp2;go_round;case rel=>exact ⟨k+1,by omega,by go_num,HR.o⟩
   case measure=>simp[RowKit.intOf];omega
  have HR:=I (C6 (by omega:es.length<=k) HF.o);have eA: ¬(k:Int)<(es.length:Int):=by omega
  go_wp2;refine bodyPost_ret (v:= .agg #[.int .i64 0,.int .i64 0,.string ⟨#[]⟩,.string ⟨#[]⟩]) (by simp[results,results115,go_sem]) rfl ⟨by rw[HR.o];rfl,?_⟩;exact (Below.refl _ _).alloc (Nat.le_refl _) _
theorem aeO {i:Int} {o n:ByteArray} (h:o.toList=n.toList):Wc i o n=sX:=if_pos h
theorem aeP {i:Int} {o n:ByteArray} (h:o.toList≠n.toList) (h2:o.toList=[]):Wc i o n=⟨1,i,o,n⟩:=by unfold Wc;rw[if_neg h,if_pos h2]
theorem aeQ {i:Int} {o n:ByteArray} (h:o.toList≠n.toList) (h2:o.toList≠[]) (h3:n.toList=[]):Wc i o n=⟨2,i,o,n⟩:=by unfold Wc;rw[if_neg h,if_neg h2,if_pos h3]
theorem aeR {i:Int} {o n:ByteArray} (h:o.toList≠n.toList) (h2:o.toList≠[]) (h3:n.toList≠[]):Wc i o n=⟨3,i,o,n⟩:=by unfold Wc;rw[if_neg h,if_neg h2,if_neg h3]
theorem fm (i:Int) (o n:ByteArray) (w:World):
 Calls prog 95 #[.int .i64 i,.string o,.string n] w (bT (Hz (Wc i o n)) w):=by
 by_cases h1:o.toList=n.toList
 ·have e1:(o.toList==n.toList)=true:=by simp[h1]
  have HR:=I (aeO (i:=i) h1);clear h1;go_enter func95,ntmps95;go_wp2;refine bodyPost_ret (v:= .agg #[.int .i64 0,.int .i64 0,.string ⟨#[]⟩,.string ⟨#[]⟩]) (by simp[results,results95,go_sem]) rfl ⟨by rw[HR.o];rfl,?_⟩;exact ((Below.refl _ _).alloc (Nat.le_refl _) _).alloc (by simp) _
 have e1:(o.toList==n.toList)=false:=by simp[h1]
 by_cases h2:o.toList=[]
 ·have e2:(o.toList==[])=true:=by simp[h2]
  have HR:=I (aeP (i:=i) h1 h2);clear h1 h2;go_enter func95,ntmps95;go_wp2;refine bodyPost_ret (v:= .agg #[.int .i64 1,.int .i64 i,.string o,.string n]) (by simp[results,results95,go_sem]) rfl ⟨by rw[HR.o];rfl,?_⟩;exact ((Below.refl _ _).alloc (Nat.le_refl _) _).alloc (by simp) _
 have e2:(o.toList==[])=false:=by simp[h2]
 by_cases h3:n.toList=[]
 ·have e3:(n.toList==[])=true:=by simp[h3]
  have HR:=I (aeQ (i:=i) h1 h2 h3);clear h1 h2 h3;go_enter func95,ntmps95;go_wp2;refine bodyPost_ret (v:= .agg #[.int .i64 2,.int .i64 i,.string o,.string n]) (by simp[results,results95,go_sem]) rfl ⟨by rw[HR.o];rfl,?_⟩;exact ((Below.refl _ _).alloc (Nat.le_refl _) _).alloc (by simp) _
 have e3:(n.toList==[])=false:=by simp[h3]
 have HR:=I (aeR (i:=i) h1 h2 h3);clear h1 h2 h3;go_enter func95,ntmps95;go_wp2;refine bodyPost_ret (v:= .agg #[.int .i64 3,.int .i64 i,.string o,.string n]) (by simp[results,results95,go_sem]) rfl ⟨by rw[HR.o];rfl,?_⟩;exact ((Below.refl _ _).alloc (Nat.le_refl _) _).alloc (by simp) _
def Ir (g:Nat) (lb:Array Value) (p:bE->Bool) (w:World):Prop:=
 ∀(W:World) (x:bE),Below w.heap.size w W->Calls prog g (#[.agg #[.int .i64 x.id,.string x.text]]++lb) W (bT (.bool (p x)) W)
def oR (p:bE->Bool) (L:List bE):Int:=match L.findIdx? p with|some k=>(k:Int)|none=> -1
def Wf (g:Nat) (lb:Array Value) (p:aV->Bool) (w:World):Prop:=
 ∀(W:World) (x:aV),Below w.heap.size w W->Calls prog g (#[.agg #[.int .i64 x.kind,.int .i64 x.id,.string x.dA,.string x.new]]++lb) W (bT (.bool (p x)) W)
def XT (p:aV->Bool) (L:List aV):Int:=match L.findIdx? p with|some k=>(k:Int)|none=> -1
def Qu (L:List aV) (q:Int):Bool:=L.any (λa=>decide (a.id=q))
def EL {α:Type} (f:α->List Value) (e:TypeId) (size base g n cap:Nat) (R:List α) (w:World) (Eb:Ending) (w':World):Prop:=
 Eb= .returned (.slice (some ⟨g,0,none⟩) n cap)/\w'.ownsRow base e size (.slice (some ⟨g,0,none⟩) n cap) n (R.flatMap f)/\w.grownBy w' (some g)
def pP {α:Type} (f:α->List Value) (e:TypeId) (size base g n:Nat) (R:List α) (w:World) (Eb:Ending) (w':World):Prop:=
 ∃v,Eb= .returned v/\w'.ownsRow base e size v n (R.flatMap f)/\v≠ .slice none 0 0/\iJ g w w'
def kB (q:Int) (R:List bE):Nat:=(R.findIdx? (λa=>decide (q<a.id))).getD R.length
def EO (S:List bE) (P:List aV) (w:World) (e:Ending) (w':World):Prop:=
 ∃v,e= .returned (.tuple #[v,.bool (fT S P).isSome])/\(∀R,fT S P=some R->ay ai R w.heap.size w' v)/\(∃A n c,v= .slice A n c)/\Below w.heap.size w w'
structure nT (S:List bE) (P:List aV) (k:Nat) (R:List bE):Prop where
 NK:cP S (P.take k) R
 len:R.length<=S.length+k
 fit: ∀j (h:j<P.length),j<k->(bC S P[j].id).toList=P[j].dA.toList
theorem nT.start {S:List bE} {P:List aV} (h:jD S):nT S P 0 S:=⟨cP.nil h,by omega,λj _ hj=>absurd hj (Nat.not_lt_zero _)⟩
theorem nT.step {S R R':List bE} {P:List aV} {k:Nat} (h:nT S P k R) (hk:k<P.length) (hf:(bC S P[k].id).toList=P[k].dA.toList) (hB:cP S (P.take k++[P[k]]) R') (hl:R'.length<=R.length+1):nT S P (k+1) R':=
 ⟨by rw[List.take_succ_eq_append_getElem hk];exact hB,by have:=h.len;omega,λj hj KI=>by
  by_cases e:j=k
  ·subst e;exact hf
  exact h.fit j hj (by omega)⟩
theorem nT.done {S R:List bE} {P:List aV} (h:nT S P P.length R) (hS:jD S) (hP:bF P=true):fT S P=if R.length<=8 then some R else none:=by
 refine FI hS hP (rD.2 (λe he=>?_)) (by have:=h.NK;rwa [List.take_length]at this);obtain ⟨j,hj,rfl⟩:=List.mem_iff_getElem.1 he;have:=h.fit j hj hj;rw[<-gO (bC S P[j].id),this,gO]
theorem IG {a b:ByteArray} (h:a.toList=b.toList):a=b:=by rw[<-gO a,<-gO b,h]
theorem IH {x y:aV} (h1:x.kind=y.kind) (h2:x.id=y.id) (h3:x.dA.toList=y.dA.toList) (h4:x.new.toList=y.new.toList):x=y:=by
 obtain ⟨k,i,t,u⟩:=x;obtain ⟨l,j,t',u'⟩:=y;simp only at h1 h2 h3 h4;rw[h1,h2,IG h3,IG h4]
theorem lC {p:List aV} (h:bF p=true):bS p:=λe he=>by
 obtain ⟨_,_,h1,h2⟩:=yX (((fO p).1 h).1 e he);have e1:e.dA.toList.length=e.dA.size:=by rw[ByteArray.toList_eq];simp
 have e2:e.new.toList.length=e.new.size:=by rw[ByteArray.toList_eq];simp
 unfold mY maxLen;omega
theorem afy {s:List bE} (h:cd s=true): ∀a∈s,a.text.size<=maxLen:=λa ha=>by
 have:=(oN (Jt h ha)).2.2.2;have e1:a.text.toList.length=a.text.size:=by rw[ByteArray.toList_eq];simp
 unfold maxLen;omega
theorem afz (x y:aV) (r:Bool) (hr:r=true↔x=y) (w:World):(Op.equalIn 10000 93 (.agg #[.int .i64 x.kind,.int .i64 x.id,.string x.dA,.string x.new]) (.agg #[.int .i64 y.kind,.int .i64 y.id,.string y.dA,.string y.new])).run prog w= .ok r w:=by
 have hS:prog.underlying 93=some (.struct (prog.fieldsOf 93)):=by kernel_rfl
 have hp:prog.stoodInHeld 93=false:=by kernel_rfl
 have Ec:=underlying9;have u2:=underlying2;have a9:=isAgg9;have a2:=isAgg2;have z9:=sizeOf9;have z2:=sizeOf2;rw[show (10000:Nat)=9999+1 from rfl,run_equalIn_agg w 9999 93 _ _ hS hp];simp only[Program.fieldsOf,underlying93];go_simp;cases hrv:r with
 |true=>
  have:=hr.1 hrv;subst this;simp
 |false=>
  by_cases h1:x.kind=y.kind<;>by_cases h2:x.id=y.id<;>by_cases h3:x.dA.toList=y.dA.toList<;>by_cases h4:x.new.toList=y.new.toList<;>first|(simp[h1,h2,h3,h4];done)|skip
  exact absurd (hr.2 (IH h1 h2 h3 h4)) (by rw[hrv];simp)
def QC {α:Type} (xs ys:List α) (w:World) (e:Ending) (w':World):Prop:= ∃r:Bool,e= .returned (.bool r)/\(r=true↔xs=ys)/\Below w.heap.size w w'
theorem ad0 {α:Type} {xs ys:List α} {k:Nat} {x y:α} (hx:xs[k]?=some x) (hy:ys[k]?=some y) (h:xs.take k=ys.take k) (Lr:x=y):xs.take (k+1)=ys.take (k+1):=by
 obtain ⟨h1,h1'⟩:=List.getElem?_eq_some_iff.1 hx;obtain ⟨h2,Og⟩:=List.getElem?_eq_some_iff.1 hy;rw[List.take_succ_eq_append_getElem h1,List.take_succ_eq_append_getElem h2,h,h1',Og,Lr]
theorem abQ (xs ys:List aV) (w:World) (v1 v2:Value) (h1:bg w w.heap.size v1 xs) (h2:bg w w.heap.size v2 ys):
 Calls prog 29 #[v1,v2] w (QC xs ys w):=by
 obtain ⟨A1,c1,rfl,pQ,EU,agO⟩:=h1;obtain ⟨A2,c2,rfl,E4,EV,IQ⟩:=h2;unfold maxLen at EU EV;have agP:=I agO;have agQ:=I IQ;clear agO IQ;by_cases hl:xs.length=ys.length
 ·have hle:((xs.length:Int)==(ys.length:Int))=true:=by simp[hl]
  have hli:(xs.length:Int)<=9223372036854775807:=by omega
  have hgu:prog.eqGuardType prog.depth 93=false:=by kernel_rfl
  go_enter func29,ntmps29;go_wp2;go_loopw [5] (λi wr=> ∃k:Nat,k<=xs.length/\i= .int .i64 (k:Int)/\xs.take k=ys.take k/\Below w.heap.size w wr) (λi _=>xs.length-(RowKit.intOf i).toNat);case atStart=>exact ⟨0,Nat.zero_le _,rfl,rfl,Below.refl _ _⟩
  case round=>
   obtain ⟨k,hk,rfl,ht,hb⟩:=hrel;have HT:=I ht;clear ht;by_cases aI:k<xs.length
   ·obtain ⟨bU,o1,rfl,bw,aev⟩:=agP.o (by omega);obtain ⟨b2,o2,rfl,cL,vv⟩:=agQ.o (by omega);have g1:xs[k]?=some xs[k]:=List.getElem?_eq_getElem aI;have g2:ys[k]?=some (ys[k]'(by omega)):=List.getElem?_eq_getElem (by omega);obtain ⟨d0,d1,d2,d3⟩:=ln aev g1;obtain ⟨e0,e1,e2,e3⟩:=ln vv g2;have z0:=λx:ar wr=>x.cell ((hb.cell (p:=⟨bU,o1+k*4,none⟩) bw).trans d0);have z1:=λx:ar wr=>x.cell ((hb.cell (p:=⟨bU,o1+k*4+1,none⟩) bw).trans d1);have z2:=λx:ar wr=>x.cell ((hb.cell (p:=⟨bU,o1+k*4+2,none⟩) bw).trans d2);have z3:=λx:ar wr=>x.cell ((hb.cell (p:=⟨bU,o1+k*4+3,none⟩) bw).trans d3);have u0:=λx:ar wr=>x.cell ((hb.cell (p:=⟨b2,o2+k*4,none⟩) cL).trans e0);have u1:=λx:ar wr=>x.cell ((hb.cell (p:=⟨b2,o2+k*4+1,none⟩) cL).trans e1);have u2:=λx:ar wr=>x.cell ((hb.cell (p:=⟨b2,o2+k*4+2,none⟩) cL).trans e2);have u3:=λx:ar wr=>x.cell ((hb.cell (p:=⟨b2,o2+k*4+3,none⟩) cL).trans e3);have G1:=I g1;have G2:=I g2;clear aev vv d0 d1 d2 d3 e0 e1 e2 e3 g1 g2;have H0:(k:Int)<(ys.length:Int):=by omega
    generalize xs[k]=x at*;generalize (ys[k]'(by omega))=y at*;go_upto_region 6 with (fail)
    by_cases Lr:x=y
    ·have heq:=afz x y true (by simp[Lr]);have HN:=I (ad0 G1.o G2.o HT.o Lr);clear Lr;refine bj (by kernel_rfl) (by kernel_rfl) ?_
     repeat (go_big_quiet_step (fail))
     refine wpQuiet_nil ?_;rintro _ ⟨y,rfl⟩;have bY:=hb.trans (y.ok.mono hb.size);go_wp2;go_roundw;case rel=>exact ⟨k+1,by omega,by go_num,HN.o,bY⟩
     case measure=>simp[RowKit.intOf];omega
    have heq:=afz x y false (by simp[Lr])
    have HN:ag (xs≠ys):=I (λe=>Lr (by
     have a:=G1.o;rw[e,G2.o]at a;exact (Option.some.inj a).symm))
    clear Lr;refine bj (by kernel_rfl) (by kernel_rfl) ?_
    repeat (go_big_quiet_step (fail))
    refine wpQuiet_nil ?_;rintro _ ⟨y,rfl⟩;have bY:=hb.trans (y.ok.mono hb.size);go_wp2;go_ret;exact ⟨false,rfl,by simp[HN.o],bY⟩
   have eA: ¬(k:Int)<(xs.length:Int):=by omega
   have HN:ag (xs=ys):=I (by
    have:=HT.o;rw[List.take_of_length_le (by omega),List.take_of_length_le (by omega)]at this;exact this)
   clear hl hk aI;go_wp2;go_ret;exact ⟨true,rfl,by simp[HN.o],hb⟩
 have hle:((xs.length:Int)==(ys.length:Int))=false:=by simp;omega
 have HN:ag (xs≠ys):=I (λe=>hl (by rw[e]));clear hl pQ E4 EU EV agP agQ;generalize xs.length=n1 at hle⊢;generalize ys.length=n2 at hle⊢;go_enter func29,ntmps29;go_wp2;go_ret;exact ⟨false,rfl,by simp[HN.o],Below.refl _ _⟩
def aeq (B:Nat) (w:World) (b k:Nat) (e:Ending) (w':World):Prop:=
 ∃v L,e= .returned v/\ay ai L w.heap.size w' v/\cd L=true/\Src B w' b k/\iJ b w w'
structure yk (L:List bE) (d:Int):Prop where
 lS:iL L
 all: ∀a∈L,1<=a.id/\a.id<=d/\bP a.text.toList=true
 d0:0<=d
 d1:d<=2*L.length
theorem yk.nil:yk [] 0:=⟨List.Pairwise.nil,λa h=>(by cases h),by omega,by simp⟩
theorem yk.snoc {L:List bE} {d x:Int} {l:List UInt8} (h:yk L d) (hx:0<=x) (ei:x<2) (hl:bP l=true):yk (L++[⟨d+(1+x),⟨l.toArray⟩⟩]) (d+(1+x)) where
 lS:=by
  have hr:=h.lS;unfold iL at*;rw[List.pairwise_append];refine ⟨hr,by simp,λa ha c hc=>?_⟩;rw[List.mem_singleton]at hc;subst hc;have:=h.all a ha;show a.id<d+(1+x)
  omega
 all:=λa ha=>by
  have:=h.d0;rcases List.mem_append.1 ha with ha|ha
  ·have h3:=h.all a ha;exact ⟨h3.1,by omega,h3.2.2⟩
  rw[List.mem_singleton]at ha;subst ha;refine ⟨by show 1<=d+(1+x);omega,Int.le_refl _,?_⟩;show bP (⟨l.toArray⟩:ByteArray).toList=true
  rw[ByteArray.toList_eq];exact hl
 d0:=by have:=h.d0;omega
 d1:=by have:=h.d1;rw[List.length_append];simp;omega
theorem yk.ok {L:List bE} {d:Int} (h:yk L d) (h8:L.length<=8):cd L=true:=by
 rw[lA];refine ⟨λa ha=>?_,h.lS,h8⟩;obtain ⟨h1,h2,h3⟩:=h.all a ha;have:=h.d1;unfold jf;rw[ki h1 (by omega),h3];rfl
theorem yk.last {L:List bE} {a:bE} {d:Int} (h:yk (L++[a]) d) (h8:(L++[a]).length<=8):cd (L++[⟨99,a.text⟩])=true:=by
 rw[lA];have hr:=h.lS;have hd:=h.d1;unfold iL at hr;rw[List.pairwise_append]at hr;refine ⟨λx hx=>?_,?_,by simpa using h8⟩
 ·rcases List.mem_append.1 hx with hx|hx
  ·obtain ⟨h1,h2,h3⟩:=h.all x (List.mem_append_left _ hx);unfold jf;rw[ki h1 (by omega),h3];rfl
  rw[List.mem_singleton]at hx;subst hx;obtain ⟨_,_,h3⟩:=h.all a (by simp);unfold jf;rw[h3];rfl
 unfold iL;rw[List.pairwise_append];refine ⟨hr.1,by simp,λx hx y hy=>?_⟩;rw[List.mem_singleton]at hy;subst hy;obtain ⟨h1,h2,h3⟩:=h.all x (List.mem_append_left _ hx);show x.id<99
 omega
theorem adM (L:List bE) (a:bE) (n:Int):((L++[a]).flatMap ai).set (L.length*2) (.int .i64 n)=(L++[(⟨n,a.text⟩:bE)]).flatMap ai:=by
 have hl:(L.flatMap ai).length=L.length*2:=by
  induction L with
  |nil=>rfl
  |cons x r ih=>rw[List.flatMap_cons,List.length_append,ih];simp[ai];omega
 rw[cq,cq,List.set_append,if_neg (by omega),hl,Nat.sub_self];rfl
theorem Hm (L:List bE) (a:bE):((L++[a]).flatMap ai)[L.length*2]?=some (.int .i64 a.id):=by
 have hl:(L.flatMap ai).length=L.length*2:=by
  induction L with
  |nil=>rfl
  |cons x r ih=>rw[List.flatMap_cons,List.length_append,ih];simp[ai];omega
 rw[cq,List.getElem?_append_right (by omega),hl,Nat.sub_self];rfl
theorem afA (B b k:Nat) (w:World) (h:Src B w b k) (hk:k<=50000):
 Calls prog 40 #[.pointer (some ⟨b,0,none⟩)] w (aeq B w b (k+60)):=by
 have H:=I h;have HB:=I h.lt.1;clear h;obtain ⟨i0,hi,dK,ez,ek⟩:=info_parts oQ;go_enter func40,ntmps40;go_wp2_with (fail);refine (tX B b k 6 _ (H.o.alloc _) (by omega) (by omega) (by omega)).mono ?_;rintro e w1 ⟨n1,kM,rfl,CB,tU⟩;have fe:w1.ownsRow w.heap.size 115 2 (.slice (some ⟨w.heap.size,0,none⟩) 0 0) 0 []:=Iq (by simpa using World.ownsRow_made w #[] 0 (Nat.le_refl _) (Nat.zero_le _) rfl) HB.o tU;have jh:ag (iJ b w w1):=I (ll (m5 ((Below.refl w.heap.size w).alloc (Nat.le_refl _) _)) tU);have tN:=I CB;have gW:=I fe;clear CB tU fe;go_wp2_with (fail);refine (jb B b _ 10 w1 tN.o (by omega) (by omega) (by omega)).mono ?_;rintro e w2 ⟨x,rfl,wY,CD⟩;have l9:=I (Iq gW.o HB.o CD);have ju:=I (ll jh.o CD);have Hs2:=I wY;clear wY CD;cases x with
 |false=>
  go_wp2;go_loopw [3,4,5] (λo i n wr=> ∃(L:List bE) (m:Nat) (d:Int),wr.ownsRow w.heap.size 115 2 o L.length (L.flatMap ai)/\i= .int .i64 d/\n= .int .i64 (m:Int)/\L.length+m<=8/\yk L d/\o≠ .slice none 0 0/\Src B wr b (k+4+4*L.length)/\iJ b w wr) (λ_ _ n _=>(RowKit.intOf n).toNat);case atStart=>exact ⟨[],n1,0,l9.o,rfl,rfl,(by simp<;>omega),yk.nil,by simp,Hs2.o.more (by simp),ju.o⟩
  case round=>
   obtain ⟨L,m,d,cr,rfl,rfl,rn,hD,nm,hs,ho⟩:=hrel;obtain ⟨g,cap,rfl,SD,nj⟩:=bG cr nm;unfold maxLen at nj;have eH:=I cr;have HD:=I hD;have HS:=I hs;have HO:=I ho;have ZO:=hD.d0;have Ho:=hD.d1;clear cr hD hs ho nm;by_cases hm:0<m
   ·have Io:(0:Int)<(m:Int):=by omega
    go_wp2_with (fail);refine (tX B b _ 2 wr HS.o (by omega) (by omega) (by omega)).mono ?_;rintro e w3 ⟨x,hx,rfl,W9,PL⟩;have b0:=I W9;have Ls:=I PL;clear W9 PL;go_wp2_with (fail);refine (fc B b _ w3 b0.o (by omega)).mono ?_;rintro e w4 ⟨l,hl,rfl,cm,EQ⟩;have cr:=Iq (Iq eH.o HB.o Ls.o) HB.o EQ;have QP:ag (iJ b w w4):=I (ll (ll HO.o Ls.o) EQ);have bc:=I cm;have HL:=I hl;have afB:=QP.o.size;clear cm EQ hl;go_wp2_with (at_builtin;refine wpList_append_own _ rfl _ _ 25 rfl w.heap.size 115 i0 (.agg #[.int .i64 0,.string ⟨#[]⟩]) 2 24 underlying25 hi dK ez ek rfl (by decide) _ _ _ rfl (cr.alloc _) ⟨w4.heap.size,0,none⟩ 1 1 (ai ⟨d+(1+(x:Int)),⟨l.toArray⟩⟩) rfl rfl (λj u hj=>fS hj) (λu hu=>eU hu) ?c3 ?c4 (aS afB) ?_);case c3=>unfold maxLen;omega
    case c4=>omega
    intro v' w5 aG aA aU;have mF:v'≠ .slice none 0 0:=by simpa using aU
    have hr: ∀j,(Value.slice (some ⟨g,0,none⟩) L.length cap).ownBlock=some j->w.heap.size<=j:=λj hj=>(cr.lt j hj).1;have b1:=I (fb (bV QP.o _) aA hr);have bx:=I ((bc.o.alloc _).grown aA (λj hj=>Nat.lt_of_lt_of_le HB.o (hr j hj)));clear cr aA aU hr;go_wp2;go_roundw;case rel=>exact ⟨L++[⟨d+(1+(x:Int)),⟨l.toArray⟩⟩],m-1,d+(1+(x:Int)),by rw[cq,List.length_append];exact aG,rfl,by go_num,by rw[List.length_append];simp;omega,HD.o.snoc (by omega) (by omega) HL.o,mF,bx.o.more (by rw[List.length_append];simp;omega),b1.o⟩
    case measure=>simp[RowKit.intOf];omega
   have An:m=0:=by omega
   subst An;have hL8:L.length<=8:=by omega
   by_cases hL:L=[]
   ·subst hL;have zh:ag (ay ai [] w.heap.size wr (.slice (some ⟨g,0,none⟩) 0 cap)):=I (ay.bI ai (size:=2) (λ_=>rfl) eH.o);go_wp2;go_ret;exact ⟨_,[],rfl,zh.o,HD.o.ok (by simp),HS.o.more (by simp),HO.o⟩
   obtain ⟨L',a,rfl⟩: ∃L' a,L=L'++[a]:=⟨L.dropLast,L.getLast hL,(List.dropLast_concat_getLast hL).symm⟩
   have Rt:(L'++[a]).length=L'.length+1:=by simp
   rw[Rt]at hL8 rn SD Ho eH HS;have agD:(0:Int)<((L'.length+1:Nat):Int):=by omega
   have zh:ag (ay ai (L'++[a]) w.heap.size wr (.slice (some ⟨g,0,none⟩) (L'.length+1) cap)):=I (ay.bI ai (size:=2) (λ_=>rfl) (by rw[Rt];exact eH.o));go_wp2_with (fail);refine (jb B b _ 10 wr HS.o (by omega) (by omega) (by omega)).mono ?_;rintro e w3 ⟨x,rfl,W9,PL⟩;have Ls:=I (ll HO.o PL);have b0:=I W9;have aer:=I (zh.o.only HB.o PL);clear W9 PL;cases x with
   |false=>
    go_wp2;go_ret;exact ⟨_,_,rfl,aer.o,HD.o.ok (by rw[Rt];omega),b0.o.more (by omega),Ls.o⟩
   |true=>
    obtain ⟨A',c',hv,pQ,E4,hc3⟩:=aer.o;obtain ⟨g',Tw,P0,fG,bi⟩:=hc3 (by simp);injection hv with Dc Hj TW
    rw[Tw]at Dc;injection Dc with Dc
    injection Dc with Dc
    subst Dc;subst TW;have x0:=bi.cell (L'.length*2) _ (Hm L' a);have f0:=bi.free (L'.length*2) (by have:=(List.getElem?_eq_some_iff.1 (Hm L' a)).1;exact this);have mV:=bi.set (L'.length*2) (.int .i64 99) (by have:=(List.getElem?_eq_some_iff.1 (Hm L' a)).1;exact this);rw[adM]at mV;have gj:=I mV;have HGL:=I fG;clear mV bi hc3 Tw Hj fG;go_wp2;go_ret;refine ⟨_,L'++[⟨99,a.text⟩],rfl,⟨_,cap,by rw[show (L'++[(⟨99,a.text⟩:bE)]).length=L'.length+1 by simp];rfl,by simpa using pQ,E4,λ_=>⟨g,rfl,P0,by simpa [World.setCell]using HGL.o,gj.o⟩⟩,HD.o.last (by rw[Rt];omega),(b0.o.more (by omega)).below (D:=w.heap.size) ((Below.refl _ _).setCell (by simpa using P0) _) HB.o,mX Ls.o (.inr (by simpa using P0)) _⟩
 |true=>
  go_wp2;go_loopw [3,4,5] (λo i n wr=> ∃(L:List bE) (m:Nat) (d:Int),wr.ownsRow w.heap.size 115 2 o L.length (L.flatMap ai)/\i= .int .i64 d/\n= .int .i64 (m:Int)/\L.length+m<=8/\yk L d/\o≠ .slice none 0 0/\Src B wr b (k+4+4*L.length)/\iJ b w wr) (λ_ _ n _=>(RowKit.intOf n).toNat);case atStart=>exact ⟨[],8,0,l9.o,rfl,rfl,(by simp<;>omega),yk.nil,by simp,Hs2.o.more (by simp),ju.o⟩
  case round=>
   obtain ⟨L,m,d,cr,rfl,rfl,rn,hD,nm,hs,ho⟩:=hrel;obtain ⟨g,cap,rfl,SD,nj⟩:=bG cr nm;unfold maxLen at nj;have eH:=I cr;have HD:=I hD;have HS:=I hs;have HO:=I ho;have ZO:=hD.d0;have Ho:=hD.d1;clear cr hD hs ho nm;by_cases hm:0<m
   ·have Io:(0:Int)<(m:Int):=by omega
    go_wp2_with (fail);refine (tX B b _ 2 wr HS.o (by omega) (by omega) (by omega)).mono ?_;rintro e w3 ⟨x,hx,rfl,W9,PL⟩;have b0:=I W9;have Ls:=I PL;clear W9 PL;go_wp2_with (fail);refine (fc B b _ w3 b0.o (by omega)).mono ?_;rintro e w4 ⟨l,hl,rfl,cm,EQ⟩;have cr:=Iq (Iq eH.o HB.o Ls.o) HB.o EQ;have QP:ag (iJ b w w4):=I (ll (ll HO.o Ls.o) EQ);have bc:=I cm;have HL:=I hl;have afB:=QP.o.size;clear cm EQ hl;go_wp2_with (at_builtin;refine wpList_append_own _ rfl _ _ 25 rfl w.heap.size 115 i0 (.agg #[.int .i64 0,.string ⟨#[]⟩]) 2 24 underlying25 hi dK ez ek rfl (by decide) _ _ _ rfl (cr.alloc _) ⟨w4.heap.size,0,none⟩ 1 1 (ai ⟨d+(1+(x:Int)),⟨l.toArray⟩⟩) rfl rfl (λj u hj=>fS hj) (λu hu=>eU hu) ?c3 ?c4 (aS afB) ?_);case c3=>unfold maxLen;omega
    case c4=>omega
    intro v' w5 aG aA aU;have mF:v'≠ .slice none 0 0:=by simpa using aU
    have hr: ∀j,(Value.slice (some ⟨g,0,none⟩) L.length cap).ownBlock=some j->w.heap.size<=j:=λj hj=>(cr.lt j hj).1;have b1:=I (fb (bV QP.o _) aA hr);have bx:=I ((bc.o.alloc _).grown aA (λj hj=>Nat.lt_of_lt_of_le HB.o (hr j hj)));clear cr aA aU hr;go_wp2;go_roundw;case rel=>exact ⟨L++[⟨d+(1+(x:Int)),⟨l.toArray⟩⟩],m-1,d+(1+(x:Int)),by rw[cq,List.length_append];exact aG,rfl,by go_num,by rw[List.length_append];simp;omega,HD.o.snoc (by omega) (by omega) HL.o,mF,bx.o.more (by rw[List.length_append];simp;omega),b1.o⟩
    case measure=>simp[RowKit.intOf];omega
   have An:m=0:=by omega
   subst An;have hL8:L.length<=8:=by omega
   by_cases hL:L=[]
   ·subst hL;have zh:ag (ay ai [] w.heap.size wr (.slice (some ⟨g,0,none⟩) 0 cap)):=I (ay.bI ai (size:=2) (λ_=>rfl) eH.o);go_wp2;go_ret;exact ⟨_,[],rfl,zh.o,HD.o.ok (by simp),HS.o.more (by simp),HO.o⟩
   obtain ⟨L',a,rfl⟩: ∃L' a,L=L'++[a]:=⟨L.dropLast,L.getLast hL,(List.dropLast_concat_getLast hL).symm⟩
   have Rt:(L'++[a]).length=L'.length+1:=by simp
   rw[Rt]at hL8 rn SD Ho eH HS;have agD:(0:Int)<((L'.length+1:Nat):Int):=by omega
   have zh:ag (ay ai (L'++[a]) w.heap.size wr (.slice (some ⟨g,0,none⟩) (L'.length+1) cap)):=I (ay.bI ai (size:=2) (λ_=>rfl) (by rw[Rt];exact eH.o));go_wp2_with (fail);refine (jb B b _ 10 wr HS.o (by omega) (by omega) (by omega)).mono ?_;rintro e w3 ⟨x,rfl,W9,PL⟩;have Ls:=I (ll HO.o PL);have b0:=I W9;have aer:=I (zh.o.only HB.o PL);clear W9 PL;cases x with
   |false=>
    go_wp2;go_ret;exact ⟨_,_,rfl,aer.o,HD.o.ok (by rw[Rt];omega),b0.o.more (by omega),Ls.o⟩
   |true=>
    obtain ⟨A',c',hv,pQ,E4,hc3⟩:=aer.o;obtain ⟨g',Tw,P0,fG,bi⟩:=hc3 (by simp);injection hv with Dc Hj TW
    rw[Tw]at Dc;injection Dc with Dc
    injection Dc with Dc
    subst Dc;subst TW;have x0:=bi.cell (L'.length*2) _ (Hm L' a);have f0:=bi.free (L'.length*2) (by have:=(List.getElem?_eq_some_iff.1 (Hm L' a)).1;exact this);have mV:=bi.set (L'.length*2) (.int .i64 99) (by have:=(List.getElem?_eq_some_iff.1 (Hm L' a)).1;exact this);rw[adM]at mV;have gj:=I mV;have HGL:=I fG;clear mV bi hc3 Tw Hj fG;go_wp2;go_ret;refine ⟨_,L'++[⟨99,a.text⟩],rfl,⟨_,cap,by rw[show (L'++[(⟨99,a.text⟩:bE)]).length=L'.length+1 by simp];rfl,by simpa using pQ,E4,λ_=>⟨g,rfl,P0,by simpa [World.setCell]using HGL.o,gj.o⟩⟩,HD.o.last (by rw[Rt];omega),(b0.o.more (by omega)).below (D:=w.heap.size) ((Below.refl _ _).setCell (by simpa using P0) _) HB.o,mX Ls.o (.inr (by simpa using P0)) _⟩
def ad1 (B:Nat) (w:World) (b k:Nat) (e:Ending) (w':World):Prop:=
 ∃v P,e= .returned v/\ay ah P w.heap.size w' v/\bF P=true/\Src B w' b k/\iJ b w w'
structure qE (P:List aV) (q:Nat):Prop where
 lS:gV P
 all: ∀a∈P,dE a=true/\a.id<q
 len:P.length+1<=q
theorem qE.nil:qE [] 1:=⟨List.Pairwise.nil,λa h=>(by cases h),by simp⟩
theorem qE.skip {P:List aV} {q:Nat} (h:qE P q):qE P (q+1):=⟨h.lS,λa ha=>⟨(h.all a ha).1,by have:=(h.all a ha).2;omega⟩,by have:=h.len;omega⟩
theorem qE.snoc {P:List aV} {q:Nat} {E:aV} (h:qE P q) (hE:dE E=true) (hi:E.id=q):qE (P++[E]) (q+1) where
 lS:=by
  have hr:=h.lS;unfold gV at*;rw[List.pairwise_append];refine ⟨hr,by simp,λa ha c hc=>?_⟩;rw[List.mem_singleton]at hc;subst hc;have:=(h.all a ha).2;omega
 all:=λa ha=>by
  rcases List.mem_append.1 ha with ha|ha
  ·have:=h.all a ha;exact ⟨this.1,by have:=this.2;omega⟩
  rw[List.mem_singleton]at ha;subst ha;exact ⟨hE,by omega⟩
 len:=by have:=h.len;simp;omega
theorem qE.ok {P:List aV} (h:qE P 17):bF P=true:=by
 rw[fO];exact ⟨λa ha=>(h.all a ha).1,h.lS,by have:=h.len;omega⟩
theorem adN {es:List bE} (h:cd es=true) (q:Int):(bC es q).toList=[]\/bP (bC es q).toList=true:=by
 rcases tS es q with ⟨a,ha,_,he⟩|⟨he,_⟩
 ·rw[he];exact .inr (oN (Jt h ha)).2.2.1
 rw[he];exact .inl (by rw[ByteArray.toList_eq])
theorem ft {l:List UInt8} (h:bP l=true):(⟨l.toArray⟩:ByteArray).toList=[]\/bP (⟨l.toArray⟩:ByteArray).toList=true:=by
 right
 rw[ByteArray.toList_eq];exact h
theorem acx:(⟨#[]⟩:ByteArray).toList=[]\/bP (⟨#[]⟩:ByteArray).toList=true:=by
 left
 rw[ByteArray.toList_eq]
theorem kN {w:World} {o:Obj} {cs:List Value} {T:TypeId} {j:Nat} {u:Value} (h:cs[j]?=some u):((w.alloc o).alloc (.cells cs.toArray T)).cell? ((⟨w.heap.size+1,0,none⟩:Addr).add j)=some u:=by
 have h:=fS (w:=w.alloc o) (T:=T) h
 rwa [show (w.alloc o).heap.size=w.heap.size+1 by simp]at h
theorem ae7 (B b k base:Nat) (es:List bE) (v:Value) (w:World) (h:Src B w b k) (hk:k<=50000) (hT:ay ai es base w v) (j7:b<base) (cy:cd es=true):
 Calls prog 69 #[.pointer (some ⟨b,0,none⟩),v] w (ad1 B w b (k+220)):=by
 have H:=I h;have HB:=I h.lt.1;have HT:=I hT;have Rv:=I j7;have ii:=I cy;obtain ⟨T,tc,rfl,_⟩:=hT;clear h j7 cy;obtain ⟨i0,hi,dK,ez,ek⟩:=info_parts oG;go_enter func69,ntmps69;go_wp2_with (fail);refine (tX B b k 3 _ (H.o.alloc _) (by omega) (by omega) (by omega)).mono ?_;rintro e w1 ⟨n1,kM,rfl,CB,tU⟩;have fe:w1.ownsRow w.heap.size 93 4 (.slice (some ⟨w.heap.size,0,none⟩) 0 0) 0 []:=Iq (by simpa using World.ownsRow_made w #[] 0 (Nat.le_refl _) (Nat.zero_le _) rfl) HB.o tU;have jh:ag (iJ b w w1):=I (ll (m5 ((Below.refl w.heap.size w).alloc (Nat.le_refl _) _)) tU);have tN:=I CB;have gW:=I fe;clear CB tU fe;go_wp2;go_loopw [5,7] (λo i wr=> ∃(P:List aV) (q:Nat),wr.ownsRow w.heap.size 93 4 o P.length (P.flatMap ah)/\i= .int .i64 (q:Int)/\1<=q/\q<=17/\qE P q/\o≠ .slice none 0 0/\Src B wr b (k+2+12*(q-1))/\iJ b w wr) (λ_ i _=>17-(RowKit.intOf i).toNat);case atStart=>exact ⟨[],1,gW.o,rfl,by omega,by omega,qE.nil,by simp,tN.o.more (by omega),jh.o⟩
 case round=>
  obtain ⟨P,q,cr,rfl,MY,ahp,hD,nm,hs,ho⟩:=hrel;obtain ⟨g,cap,rfl,SD,nj⟩:=bG cr nm;unfold maxLen at nj;have eH:=I cr;have HD:=I hD;have HS:=I hs;have HO:=I ho;have hlen:=hD.len;clear cr hD hs ho nm;by_cases hq:q<=16
  ·have Im:(q:Int)<=16:=by omega
   go_wp2_with (fail);refine (jb B b _ (2+(n1:Int)) wr HS.o (by omega) (by omega) (by omega)).mono ?_;rintro e w2 ⟨x2,rfl,wY,CD⟩;have l9:=I (Iq eH.o HB.o CD);have ju:=I (ll HO.o CD);have Nr:=I wY;clear wY CD;cases x2 with
   |false=>
    go_wp2;go_roundw;case rel=>exact ⟨P,q+1,l9.o,by go_num,by omega,by omega,HD.o.skip,by simp,Nr.o.more (by omega),ju.o⟩
    case measure=>simp[RowKit.intOf];omega
   |true=>
    have HF:=I (FK es q w2 _ ((HT.o.only Rv.o ju.o).mo (size:=2) (λ_=>rfl)));have HFO:=I (adN ii.o q);generalize bC es q=dA at HF HFO;go_wp2_with (fail);refine (HF.o).mono ?_;rintro e w3 ⟨rfl,m3,rfl⟩;have yj:=I (aT l9.o (below_drewN (Below.refl w2.heap.size w2) m3));have Ls:=I (Jm ju.o m3);have b0:=I (Nr.o.drewN m3);clear HF;go_wp2_with (fail);refine (fc B b _ _ b0.o (by omega)).mono ?_;rintro e w4 ⟨l4,Vs,rfl,cm,EQ⟩;have IF:=I (Iq yj.o HB.o EQ);have QP:=I (ll Ls.o EQ);have bc:=I cm;have HL4:=I Vs;clear cm EQ Vs;by_cases h0:dA.toList=[]
    ·have e0:(dA.toList==[])=true:=by simp[h0]
     have e0':(dA.toList !=[])=false:=by simp[h0]
     clear h0;go_wp2_with (fail);refine (jb B b _ 3 w4 bc.o (by omega) (by omega) (by omega)).mono ?_;rintro e w5 ⟨x5,rfl,c8,cc⟩;have Tg:=I (Iq IF.o HB.o cc);have b1:=I (ll QP.o cc);have bx:=I c8;clear c8 cc;cases x5 with
     |false=>
      go_wp2;go_roundw;case rel=>exact ⟨P,q+1,Tg.o,by go_num,by omega,by omega,HD.o.skip,by simp,bx.o.more (by omega),b1.o⟩
      case measure=>simp[RowKit.intOf];omega
     |true=>
      go_wp2_with (fail);refine (jb B b _ 20 w5 bx.o (by omega) (by omega) (by omega)).mono ?_;rintro e w6 ⟨x6,rfl,Xv,Xb⟩;have q8:=I (Iq Tg.o HB.o Xb);have zl:=I (ll b1.o Xb);have c9:=I Xv;clear Xv Xb;cases x6 with
      |false=>
       have jm:=q8;have Uf:=zl;have T0:=c9
       have HE:ag ((Wc q dA ⟨l4.toArray⟩).kind=0\/(dE (Wc q dA ⟨l4.toArray⟩)=true/\(Wc q dA ⟨l4.toArray⟩).id=q)):=I (by
        rcases jc (i:=q) (by omega) (by omega) HFO.o (ft HL4.o)with h|⟨h1,h2,_⟩
        ·left;rw[h];rfl
        exact .inr ⟨h1,h2⟩)
       have lE:ag (Calls prog 95 #[.int .i64 q,.string dA,.string ⟨l4.toArray⟩] w6 (bT (.agg #[.int .i64 (Wc q dA ⟨l4.toArray⟩).kind,.int .i64 (Wc q dA ⟨l4.toArray⟩).id,.string (Wc q dA ⟨l4.toArray⟩).dA,.string (Wc q dA ⟨l4.toArray⟩).new]) w6)):=I (fm q dA ⟨l4.toArray⟩ w6);generalize Wc q dA ⟨l4.toArray⟩=E at HE lE;go_wp2_with (fail);refine (lE.o).mono ?_;rintro e w8 ⟨rfl,zP⟩;have fl:=aT jm.o zP;have xg:=dd Uf.o zP Uf.o.size;have Wg:=T0.o.below zP T0.o.lt.1;have I2:=I fl;have T9:=I xg;have I1:=I Wg;have yV:=xg.size;clear fl xg Wg zP;by_cases jA:E.kind=0
       ·have e0:(E.kind !=0)=false:=by simp[jA]
        have zG:=I (bV T9.o (.cells #[.int .i64 E.kind,.int .i64 E.id,.string E.dA,.string E.new] 93));have B8:=I (I1.o.alloc (.cells #[.int .i64 E.kind,.int .i64 E.id,.string E.dA,.string E.new] 93));have jt:=I (I2.o.alloc (.cells #[.int .i64 E.kind,.int .i64 E.id,.string E.dA,.string E.new] 93));clear jA;go_wp2;go_roundw;case rel=>exact ⟨P,q+1,jt.o,by go_num,by omega,by omega,HD.o.skip,by simp,B8.o.more (by omega),zG.o⟩
        case measure=>simp[RowKit.intOf];omega
       have e0:(E.kind !=0)=true:=by simp[jA]
       have XL:=I (HE.o.resolve_left jA);clear jA;go_wp2_with (at_builtin;refine wpList_append_own _ rfl _ _ 36 rfl w.heap.size 93 i0 (.agg #[.int .i64 0,.int .i64 0,.string ⟨#[]⟩,.string ⟨#[]⟩]) 4 48 underlying36 hi dK ez ek rfl (by decide) _ _ _ rfl ((I2.o.alloc _).alloc _) ⟨w8.heap.size+1,0,none⟩ 1 1 (ah E) rfl rfl (λj u hj=>kN hj) (λu hu=>cJ hu) ?c3 ?c4 (aS (aS yV)) ?_);case c3=>unfold maxLen;omega
       case c4=>omega
       intro v' w9 aG aA aU;have mF:v'≠ .slice none 0 0:=by simpa using aU
       have hr: ∀j,(Value.slice (some ⟨g,0,none⟩) P.length cap).ownBlock=some j->w.heap.size<=j:=λj hj=>(I2.o.lt j hj).1;have zG:=I (fb (bV (bV T9.o _) _) aA hr);have B8:=I (((I1.o.alloc _).alloc _).grown aA (λj hj=>Nat.lt_of_lt_of_le HB.o (hr j hj)));clear aA aU hr;go_wp2;go_roundw;case rel=>exact ⟨P++[E],q+1,by rw[cq,List.length_append];exact aG,by go_num,by omega,by omega,HD.o.snoc XL.o.1 XL.o.2,mF,B8.o.more (by omega),zG.o⟩
       case measure=>simp[RowKit.intOf];omega
      |true=>
       go_wp2_with (fail);refine (fc B b _ w6 c9.o (by omega)).mono ?_;rintro e w7 ⟨Em,Z7,rfl,XH,XI⟩;have jm:=I (Iq q8.o HB.o XI);have Uf:=I (ll zl.o XI);have T0:=I XH;have HL7:=I Z7;clear XH XI Z7
       have HE:ag ((Wc q ⟨Em.toArray⟩ ⟨l4.toArray⟩).kind=0\/(dE (Wc q ⟨Em.toArray⟩ ⟨l4.toArray⟩)=true/\(Wc q ⟨Em.toArray⟩ ⟨l4.toArray⟩).id=q)):=I (by
        rcases jc (i:=q) (by omega) (by omega) (ft HL7.o) (ft HL4.o)with h|⟨h1,h2,_⟩
        ·left;rw[h];rfl
        exact .inr ⟨h1,h2⟩)
       have lE:ag (Calls prog 95 #[.int .i64 q,.string ⟨Em.toArray⟩,.string ⟨l4.toArray⟩] w7 (bT (.agg #[.int .i64 (Wc q ⟨Em.toArray⟩ ⟨l4.toArray⟩).kind,.int .i64 (Wc q ⟨Em.toArray⟩ ⟨l4.toArray⟩).id,.string (Wc q ⟨Em.toArray⟩ ⟨l4.toArray⟩).dA,.string (Wc q ⟨Em.toArray⟩ ⟨l4.toArray⟩).new]) w7)):=I (fm q ⟨Em.toArray⟩ ⟨l4.toArray⟩ w7);generalize Wc q ⟨Em.toArray⟩ ⟨l4.toArray⟩=E at HE lE;go_wp2_with (fail);refine (lE.o).mono ?_;rintro e w8 ⟨rfl,zP⟩;have fl:=aT jm.o zP;have xg:=dd Uf.o zP Uf.o.size;have Wg:=T0.o.below zP T0.o.lt.1;have I2:=I fl;have T9:=I xg;have I1:=I Wg;have yV:=xg.size;clear fl xg Wg zP;by_cases jA:E.kind=0
       ·have e0:(E.kind !=0)=false:=by simp[jA]
        have zG:=I (bV T9.o (.cells #[.int .i64 E.kind,.int .i64 E.id,.string E.dA,.string E.new] 93));have B8:=I (I1.o.alloc (.cells #[.int .i64 E.kind,.int .i64 E.id,.string E.dA,.string E.new] 93));have jt:=I (I2.o.alloc (.cells #[.int .i64 E.kind,.int .i64 E.id,.string E.dA,.string E.new] 93));clear jA;go_wp2;go_roundw;case rel=>exact ⟨P,q+1,jt.o,by go_num,by omega,by omega,HD.o.skip,by simp,B8.o.more (by omega),zG.o⟩
        case measure=>simp[RowKit.intOf];omega
       have e0:(E.kind !=0)=true:=by simp[jA]
       have XL:=I (HE.o.resolve_left jA);clear jA;go_wp2_with (at_builtin;refine wpList_append_own _ rfl _ _ 36 rfl w.heap.size 93 i0 (.agg #[.int .i64 0,.int .i64 0,.string ⟨#[]⟩,.string ⟨#[]⟩]) 4 48 underlying36 hi dK ez ek rfl (by decide) _ _ _ rfl ((I2.o.alloc _).alloc _) ⟨w8.heap.size+1,0,none⟩ 1 1 (ah E) rfl rfl (λj u hj=>kN hj) (λu hu=>cJ hu) ?c3 ?c4 (aS (aS yV)) ?_);case c3=>unfold maxLen;omega
       case c4=>omega
       intro v' w9 aG aA aU;have mF:v'≠ .slice none 0 0:=by simpa using aU
       have hr: ∀j,(Value.slice (some ⟨g,0,none⟩) P.length cap).ownBlock=some j->w.heap.size<=j:=λj hj=>(I2.o.lt j hj).1;have zG:=I (fb (bV (bV T9.o _) _) aA hr);have B8:=I (((I1.o.alloc _).alloc _).grown aA (λj hj=>Nat.lt_of_lt_of_le HB.o (hr j hj)));clear aA aU hr;go_wp2;go_roundw;case rel=>exact ⟨P++[E],q+1,by rw[cq,List.length_append];exact aG,by go_num,by omega,by omega,HD.o.snoc XL.o.1 XL.o.2,mF,B8.o.more (by omega),zG.o⟩
       case measure=>simp[RowKit.intOf];omega
    have e0:(dA.toList==[])=false:=by simp[h0]
    have e0':(dA.toList !=[])=true:=by simp[h0]
    clear h0;go_wp2_with (fail);refine (jb B b _ 3 w4 bc.o (by omega) (by omega) (by omega)).mono ?_;rintro e w5 ⟨x5,rfl,c8,cc⟩;have Tg:=I (Iq IF.o HB.o cc);have b1:=I (ll QP.o cc);have bx:=I c8;clear c8 cc;cases x5 with
    |false=>
     go_wp2_with (fail);refine (jb B b _ 20 w5 bx.o (by omega) (by omega) (by omega)).mono ?_;rintro e w6 ⟨x6,rfl,Xv,Xb⟩;have q8:=I (Iq Tg.o HB.o Xb);have zl:=I (ll b1.o Xb);have c9:=I Xv;clear Xv Xb;cases x6 with
     |false=>
      have jm:=q8;have Uf:=zl;have T0:=c9
      have HE:ag ((Wc q dA ⟨l4.toArray⟩).kind=0\/(dE (Wc q dA ⟨l4.toArray⟩)=true/\(Wc q dA ⟨l4.toArray⟩).id=q)):=I (by
       rcases jc (i:=q) (by omega) (by omega) HFO.o (ft HL4.o)with h|⟨h1,h2,_⟩
       ·left;rw[h];rfl
       exact .inr ⟨h1,h2⟩)
      have lE:ag (Calls prog 95 #[.int .i64 q,.string dA,.string ⟨l4.toArray⟩] w6 (bT (.agg #[.int .i64 (Wc q dA ⟨l4.toArray⟩).kind,.int .i64 (Wc q dA ⟨l4.toArray⟩).id,.string (Wc q dA ⟨l4.toArray⟩).dA,.string (Wc q dA ⟨l4.toArray⟩).new]) w6)):=I (fm q dA ⟨l4.toArray⟩ w6);generalize Wc q dA ⟨l4.toArray⟩=E at HE lE;go_wp2_with (fail);refine (lE.o).mono ?_;rintro e w8 ⟨rfl,zP⟩;have fl:=aT jm.o zP;have xg:=dd Uf.o zP Uf.o.size;have Wg:=T0.o.below zP T0.o.lt.1;have I2:=I fl;have T9:=I xg;have I1:=I Wg;have yV:=xg.size;clear fl xg Wg zP;by_cases jA:E.kind=0
      ·have e0:(E.kind !=0)=false:=by simp[jA]
       have zG:=I (bV T9.o (.cells #[.int .i64 E.kind,.int .i64 E.id,.string E.dA,.string E.new] 93));have B8:=I (I1.o.alloc (.cells #[.int .i64 E.kind,.int .i64 E.id,.string E.dA,.string E.new] 93));have jt:=I (I2.o.alloc (.cells #[.int .i64 E.kind,.int .i64 E.id,.string E.dA,.string E.new] 93));clear jA;go_wp2;go_roundw;case rel=>exact ⟨P,q+1,jt.o,by go_num,by omega,by omega,HD.o.skip,by simp,B8.o.more (by omega),zG.o⟩
       case measure=>simp[RowKit.intOf];omega
      have e0:(E.kind !=0)=true:=by simp[jA]
      have XL:=I (HE.o.resolve_left jA);clear jA;go_wp2_with (at_builtin;refine wpList_append_own _ rfl _ _ 36 rfl w.heap.size 93 i0 (.agg #[.int .i64 0,.int .i64 0,.string ⟨#[]⟩,.string ⟨#[]⟩]) 4 48 underlying36 hi dK ez ek rfl (by decide) _ _ _ rfl ((I2.o.alloc _).alloc _) ⟨w8.heap.size+1,0,none⟩ 1 1 (ah E) rfl rfl (λj u hj=>kN hj) (λu hu=>cJ hu) ?c3 ?c4 (aS (aS yV)) ?_);case c3=>unfold maxLen;omega
      case c4=>omega
      intro v' w9 aG aA aU;have mF:v'≠ .slice none 0 0:=by simpa using aU
      have hr: ∀j,(Value.slice (some ⟨g,0,none⟩) P.length cap).ownBlock=some j->w.heap.size<=j:=λj hj=>(I2.o.lt j hj).1;have zG:=I (fb (bV (bV T9.o _) _) aA hr);have B8:=I (((I1.o.alloc _).alloc _).grown aA (λj hj=>Nat.lt_of_lt_of_le HB.o (hr j hj)));clear aA aU hr;go_wp2;go_roundw;case rel=>exact ⟨P++[E],q+1,by rw[cq,List.length_append];exact aG,by go_num,by omega,by omega,HD.o.snoc XL.o.1 XL.o.2,mF,B8.o.more (by omega),zG.o⟩
      case measure=>simp[RowKit.intOf];omega
     |true=>
      go_wp2_with (fail);refine (fc B b _ w6 c9.o (by omega)).mono ?_;rintro e w7 ⟨Em,Z7,rfl,XH,XI⟩;have jm:=I (Iq q8.o HB.o XI);have Uf:=I (ll zl.o XI);have T0:=I XH;have HL7:=I Z7;clear XH XI Z7
      have HE:ag ((Wc q ⟨Em.toArray⟩ ⟨l4.toArray⟩).kind=0\/(dE (Wc q ⟨Em.toArray⟩ ⟨l4.toArray⟩)=true/\(Wc q ⟨Em.toArray⟩ ⟨l4.toArray⟩).id=q)):=I (by
       rcases jc (i:=q) (by omega) (by omega) (ft HL7.o) (ft HL4.o)with h|⟨h1,h2,_⟩
       ·left;rw[h];rfl
       exact .inr ⟨h1,h2⟩)
      have lE:ag (Calls prog 95 #[.int .i64 q,.string ⟨Em.toArray⟩,.string ⟨l4.toArray⟩] w7 (bT (.agg #[.int .i64 (Wc q ⟨Em.toArray⟩ ⟨l4.toArray⟩).kind,.int .i64 (Wc q ⟨Em.toArray⟩ ⟨l4.toArray⟩).id,.string (Wc q ⟨Em.toArray⟩ ⟨l4.toArray⟩).dA,.string (Wc q ⟨Em.toArray⟩ ⟨l4.toArray⟩).new]) w7)):=I (fm q ⟨Em.toArray⟩ ⟨l4.toArray⟩ w7);generalize Wc q ⟨Em.toArray⟩ ⟨l4.toArray⟩=E at HE lE;go_wp2_with (fail);refine (lE.o).mono ?_;rintro e w8 ⟨rfl,zP⟩;have fl:=aT jm.o zP;have xg:=dd Uf.o zP Uf.o.size;have Wg:=T0.o.below zP T0.o.lt.1;have I2:=I fl;have T9:=I xg;have I1:=I Wg;have yV:=xg.size;clear fl xg Wg zP;by_cases jA:E.kind=0
      ·have e0:(E.kind !=0)=false:=by simp[jA]
       have zG:=I (bV T9.o (.cells #[.int .i64 E.kind,.int .i64 E.id,.string E.dA,.string E.new] 93));have B8:=I (I1.o.alloc (.cells #[.int .i64 E.kind,.int .i64 E.id,.string E.dA,.string E.new] 93));have jt:=I (I2.o.alloc (.cells #[.int .i64 E.kind,.int .i64 E.id,.string E.dA,.string E.new] 93));clear jA;go_wp2;go_roundw;case rel=>exact ⟨P,q+1,jt.o,by go_num,by omega,by omega,HD.o.skip,by simp,B8.o.more (by omega),zG.o⟩
       case measure=>simp[RowKit.intOf];omega
      have e0:(E.kind !=0)=true:=by simp[jA]
      have XL:=I (HE.o.resolve_left jA);clear jA;go_wp2_with (at_builtin;refine wpList_append_own _ rfl _ _ 36 rfl w.heap.size 93 i0 (.agg #[.int .i64 0,.int .i64 0,.string ⟨#[]⟩,.string ⟨#[]⟩]) 4 48 underlying36 hi dK ez ek rfl (by decide) _ _ _ rfl ((I2.o.alloc _).alloc _) ⟨w8.heap.size+1,0,none⟩ 1 1 (ah E) rfl rfl (λj u hj=>kN hj) (λu hu=>cJ hu) ?c3 ?c4 (aS (aS yV)) ?_);case c3=>unfold maxLen;omega
      case c4=>omega
      intro v' w9 aG aA aU;have mF:v'≠ .slice none 0 0:=by simpa using aU
      have hr: ∀j,(Value.slice (some ⟨g,0,none⟩) P.length cap).ownBlock=some j->w.heap.size<=j:=λj hj=>(I2.o.lt j hj).1;have zG:=I (fb (bV (bV T9.o _) _) aA hr);have B8:=I (((I1.o.alloc _).alloc _).grown aA (λj hj=>Nat.lt_of_lt_of_le HB.o (hr j hj)));clear aA aU hr;go_wp2;go_roundw;case rel=>exact ⟨P++[E],q+1,by rw[cq,List.length_append];exact aG,by go_num,by omega,by omega,HD.o.snoc XL.o.1 XL.o.2,mF,B8.o.more (by omega),zG.o⟩
      case measure=>simp[RowKit.intOf];omega
    |true=>
     go_wp2_with (fail);refine (jb B b _ 20 w5 bx.o (by omega) (by omega) (by omega)).mono ?_;rintro e w6 ⟨x6,rfl,Xv,Xb⟩;have q8:=I (Iq Tg.o HB.o Xb);have zl:=I (ll b1.o Xb);have c9:=I Xv;clear Xv Xb;cases x6 with
     |false=>
      have jm:=q8;have Uf:=zl;have T0:=c9
      have HE:ag ((Wc q dA ⟨#[]⟩).kind=0\/(dE (Wc q dA ⟨#[]⟩)=true/\(Wc q dA ⟨#[]⟩).id=q)):=I (by
       rcases jc (i:=q) (by omega) (by omega) HFO.o acx with h|⟨h1,h2,_⟩
       ·left;rw[h];rfl
       exact .inr ⟨h1,h2⟩)
      have lE:ag (Calls prog 95 #[.int .i64 q,.string dA,.string ⟨#[]⟩] w6 (bT (.agg #[.int .i64 (Wc q dA ⟨#[]⟩).kind,.int .i64 (Wc q dA ⟨#[]⟩).id,.string (Wc q dA ⟨#[]⟩).dA,.string (Wc q dA ⟨#[]⟩).new]) w6)):=I (fm q dA ⟨#[]⟩ w6);generalize Wc q dA ⟨#[]⟩=E at HE lE;go_wp2_with (fail);refine (lE.o).mono ?_;rintro e w8 ⟨rfl,zP⟩;have fl:=aT jm.o zP;have xg:=dd Uf.o zP Uf.o.size;have Wg:=T0.o.below zP T0.o.lt.1;have I2:=I fl;have T9:=I xg;have I1:=I Wg;have yV:=xg.size;clear fl xg Wg zP;by_cases jA:E.kind=0
      ·have e0:(E.kind !=0)=false:=by simp[jA]
       have zG:=I (bV T9.o (.cells #[.int .i64 E.kind,.int .i64 E.id,.string E.dA,.string E.new] 93));have B8:=I (I1.o.alloc (.cells #[.int .i64 E.kind,.int .i64 E.id,.string E.dA,.string E.new] 93));have jt:=I (I2.o.alloc (.cells #[.int .i64 E.kind,.int .i64 E.id,.string E.dA,.string E.new] 93));clear jA;go_wp2;go_roundw;case rel=>exact ⟨P,q+1,jt.o,by go_num,by omega,by omega,HD.o.skip,by simp,B8.o.more (by omega),zG.o⟩
       case measure=>simp[RowKit.intOf];omega
      have e0:(E.kind !=0)=true:=by simp[jA]
      have XL:=I (HE.o.resolve_left jA);clear jA;go_wp2_with (at_builtin;refine wpList_append_own _ rfl _ _ 36 rfl w.heap.size 93 i0 (.agg #[.int .i64 0,.int .i64 0,.string ⟨#[]⟩,.string ⟨#[]⟩]) 4 48 underlying36 hi dK ez ek rfl (by decide) _ _ _ rfl ((I2.o.alloc _).alloc _) ⟨w8.heap.size+1,0,none⟩ 1 1 (ah E) rfl rfl (λj u hj=>kN hj) (λu hu=>cJ hu) ?c3 ?c4 (aS (aS yV)) ?_);case c3=>unfold maxLen;omega
      case c4=>omega
      intro v' w9 aG aA aU;have mF:v'≠ .slice none 0 0:=by simpa using aU
      have hr: ∀j,(Value.slice (some ⟨g,0,none⟩) P.length cap).ownBlock=some j->w.heap.size<=j:=λj hj=>(I2.o.lt j hj).1;have zG:=I (fb (bV (bV T9.o _) _) aA hr);have B8:=I (((I1.o.alloc _).alloc _).grown aA (λj hj=>Nat.lt_of_lt_of_le HB.o (hr j hj)));clear aA aU hr;go_wp2;go_roundw;case rel=>exact ⟨P++[E],q+1,by rw[cq,List.length_append];exact aG,by go_num,by omega,by omega,HD.o.snoc XL.o.1 XL.o.2,mF,B8.o.more (by omega),zG.o⟩
      case measure=>simp[RowKit.intOf];omega
     |true=>
      go_wp2_with (fail);refine (fc B b _ w6 c9.o (by omega)).mono ?_;rintro e w7 ⟨Em,Z7,rfl,XH,XI⟩;have jm:=I (Iq q8.o HB.o XI);have Uf:=I (ll zl.o XI);have T0:=I XH;have HL7:=I Z7;clear XH XI Z7
      have HE:ag ((Wc q ⟨Em.toArray⟩ ⟨#[]⟩).kind=0\/(dE (Wc q ⟨Em.toArray⟩ ⟨#[]⟩)=true/\(Wc q ⟨Em.toArray⟩ ⟨#[]⟩).id=q)):=I (by
       rcases jc (i:=q) (by omega) (by omega) (ft HL7.o) acx with h|⟨h1,h2,_⟩
       ·left;rw[h];rfl
       exact .inr ⟨h1,h2⟩)
      have lE:ag (Calls prog 95 #[.int .i64 q,.string ⟨Em.toArray⟩,.string ⟨#[]⟩] w7 (bT (.agg #[.int .i64 (Wc q ⟨Em.toArray⟩ ⟨#[]⟩).kind,.int .i64 (Wc q ⟨Em.toArray⟩ ⟨#[]⟩).id,.string (Wc q ⟨Em.toArray⟩ ⟨#[]⟩).dA,.string (Wc q ⟨Em.toArray⟩ ⟨#[]⟩).new]) w7)):=I (fm q ⟨Em.toArray⟩ ⟨#[]⟩ w7);generalize Wc q ⟨Em.toArray⟩ ⟨#[]⟩=E at HE lE;go_wp2_with (fail);refine (lE.o).mono ?_;rintro e w8 ⟨rfl,zP⟩;have fl:=aT jm.o zP;have xg:=dd Uf.o zP Uf.o.size;have Wg:=T0.o.below zP T0.o.lt.1;have I2:=I fl;have T9:=I xg;have I1:=I Wg;have yV:=xg.size;clear fl xg Wg zP;by_cases jA:E.kind=0
      ·have e0:(E.kind !=0)=false:=by simp[jA]
       have zG:=I (bV T9.o (.cells #[.int .i64 E.kind,.int .i64 E.id,.string E.dA,.string E.new] 93));have B8:=I (I1.o.alloc (.cells #[.int .i64 E.kind,.int .i64 E.id,.string E.dA,.string E.new] 93));have jt:=I (I2.o.alloc (.cells #[.int .i64 E.kind,.int .i64 E.id,.string E.dA,.string E.new] 93));clear jA;go_wp2;go_roundw;case rel=>exact ⟨P,q+1,jt.o,by go_num,by omega,by omega,HD.o.skip,by simp,B8.o.more (by omega),zG.o⟩
       case measure=>simp[RowKit.intOf];omega
      have e0:(E.kind !=0)=true:=by simp[jA]
      have XL:=I (HE.o.resolve_left jA);clear jA;go_wp2_with (at_builtin;refine wpList_append_own _ rfl _ _ 36 rfl w.heap.size 93 i0 (.agg #[.int .i64 0,.int .i64 0,.string ⟨#[]⟩,.string ⟨#[]⟩]) 4 48 underlying36 hi dK ez ek rfl (by decide) _ _ _ rfl ((I2.o.alloc _).alloc _) ⟨w8.heap.size+1,0,none⟩ 1 1 (ah E) rfl rfl (λj u hj=>kN hj) (λu hu=>cJ hu) ?c3 ?c4 (aS (aS yV)) ?_);case c3=>unfold maxLen;omega
      case c4=>omega
      intro v' w9 aG aA aU;have mF:v'≠ .slice none 0 0:=by simpa using aU
      have hr: ∀j,(Value.slice (some ⟨g,0,none⟩) P.length cap).ownBlock=some j->w.heap.size<=j:=λj hj=>(I2.o.lt j hj).1;have zG:=I (fb (bV (bV T9.o _) _) aA hr);have B8:=I (((I1.o.alloc _).alloc _).grown aA (λj hj=>Nat.lt_of_lt_of_le HB.o (hr j hj)));clear aA aU hr;go_wp2;go_roundw;case rel=>exact ⟨P++[E],q+1,by rw[cq,List.length_append];exact aG,by go_num,by omega,by omega,HD.o.snoc XL.o.1 XL.o.2,mF,B8.o.more (by omega),zG.o⟩
      case measure=>simp[RowKit.intOf];omega
  have Tf: ¬(q:Int)<=16:=by omega
  obtain rfl:q=17:=by omega
  have zh:ag (ay ah P w.heap.size wr (.slice (some ⟨g,0,none⟩) P.length cap)):=I (ay.bI ah (size:=4) (λ_=>rfl) eH.o);go_wp2;go_ret;exact ⟨_,P,rfl,zh.o,HD.o.ok,HS.o.more (by omega),HO.o⟩
def ER (x y:aV):Bool:=x.kind==y.kind&&x.id==y.id&&x.dA.toList==y.dA.toList&&x.new.toList==y.new.toList
theorem s' {x y:aV}:ER x y=true↔x=y:=by
 unfold ER;constructor
 ·intro h;simp only[Bool.and_eq_true,beq_iff_eq]at h;exact IH h.1.1.1 h.1.1.2 h.1.2 h.2
 rintro rfl;simp
def II (Q:List aV) (a:aV):Bool:=Qu Q a.id&&!(ER a (bQ Q a.id))
def yl (P Q:List aV):List Int:=(P.filter (II Q)).map (·.id)
theorem cf (z:Int) {u:Value} (h:u∈ak z):u.oneCell'=true:=by
 unfold ak at h;rw[List.mem_singleton]at h;subst h;rfl
def xA (L:List aV) (x:aV):Bool:=L.any (ER x)
theorem rH {L:List aV} {x:aV}:xA L x=true↔x∈L:=by
 unfold xA;rw[List.any_eq_true];constructor
 ·rintro ⟨y,hy,h⟩;rw[s'.1 h];exact hy
 intro h;exact ⟨x,h,s'.2 rfl⟩
def Wi (g:Nat) (lb:Array Value) (p:aV->Bool) (row:Nat) (w:World):Prop:=
 ∀(W:World) (x:aV),iJ row w W->Calls prog g (#[.agg #[.int .i64 x.kind,.int .i64 x.id,.string x.dA,.string x.new]]++lb) W (bT (.bool (p x)) W)
structure AW (p:aV->Bool) (L:List aV) (jj m:Nat) (M:List aV):Prop where
 len:M.length=L.length
 kept:M.take m=(L.take jj).filter (λx=>!p x)
 rest:M.drop jj=L.drop jj
 lt:m<jj
 le:jj<=L.length
theorem AW.start {p:aV->Bool} {L:List aV} {k:Nat} (hk:k<L.length) (hp:p L[k]=true) (hn: ∀j (hj:j<k),p (L[j]'(by omega))=false):AW p L (k+1) k L where
 len:=rfl
 kept:=by
  rw[List.take_succ_eq_append_getElem hk,List.filter_append]
  have h1:(L.take k).filter (λx=>!p x)=L.take k:=List.filter_eq_self.2 (λa ha=>by
   obtain ⟨j,hj,rfl⟩:=List.mem_iff_getElem.1 ha;rw[List.length_take]at hj;rw[List.getElem_take,hn j (by omega)];rfl)
  rw[h1];simp[hp]
 rest:=rfl
 lt:=by omega
 le:=hk
theorem AW.get {p:aV->Bool} {L M:List aV} {jj m:Nat} (h:AW p L jj m M) (hj:jj<L.length):M[jj]?=some L[jj]:=by
 have:=congrArg (λl=>l[0]?) h.rest;simp only[List.getElem?_drop,Nat.add_zero]at this;rw[this,List.getElem?_eq_getElem hj]
theorem AW.skip {p:aV->Bool} {L M:List aV} {jj m:Nat} (h:AW p L jj m M) (hj:jj<L.length) (hp:p L[jj]=true):AW p L (jj+1) m M where
 len:=h.len
 kept:=by rw[List.take_succ_eq_append_getElem hj,List.filter_append,h.kept];simp[hp]
 rest:=by rw[<-List.drop_drop,<-List.drop_drop,h.rest]
 lt:=by have:=h.lt;omega
 le:=hj
theorem AW.put {p:aV->Bool} {L M:List aV} {jj m:Nat} (h:AW p L jj m M) (hj:jj<L.length) (hp:p L[jj]=false):AW p L (jj+1) (m+1) (M.set m L[jj]) where
 len:=by rw[List.length_set];exact h.len
 kept:=by
  have hl:=h.lt;have hM:=h.len;rw[List.take_succ_eq_append_getElem hj,List.filter_append,<-h.kept,List.take_succ_eq_append_getElem (by rw[List.length_set];omega),List.getElem_set_self,List.take_set_of_le (Nat.le_refl _)];simp[hp]
 rest:=by
  have hl:=h.lt;rw[List.drop_set_of_lt (by omega),<-List.drop_drop,<-List.drop_drop,h.rest]
 lt:=by have:=h.lt;omega
 le:=hj
def QD (p:aV->Bool) (L:List aV) (base g cap:Nat) (w:World) (e:Ending) (w':World):Prop:=
 ∃m,m=(L.filter (λx=>!p x)).length/\e= .returned (.slice (some ⟨g,0,none⟩) m cap)/\w'.ownsRow base 93 4 (.slice (some ⟨g,0,none⟩) m cap) m ((L.filter (λx=>!p x)).flatMap ah)/\iJ g w w'
def oT (P Q:List aV):List aV:=Q.filter (λe=>!xA P e)
def X4 (P Q:List aV):Option (List aV):=if yl P Q=[]then some (oT P Q)else none
structure lD (P Q R:List aV):Prop where
 lS:gV R
 mem: ∀e,e∈R↔e∈P\/e∈Q
 len:R.length=P.length+(oT P Q).length
theorem NQ {P Q:List aV} (hQ:gV Q) (h:yl P Q=[]) {a b:aV} (ha:a∈P) (hb:b∈Q) (hi:a.id=b.id):a=b:=by
 have hf:II Q a=false:=by
  rw[Bool.eq_false_iff];intro hc;have:a.id∈yl P Q:=List.mem_map.2 ⟨a,List.mem_filter.2 ⟨ha,hc⟩,rfl⟩;rw[h]at this;cases this
 unfold II at hf;have hh:Qu Q a.id=true:=List.any_eq_true.2 ⟨b,hb,by simp[hi]⟩;have he:bQ Q a.id=b:=by rw[hi];exact u9 hQ hb
 rw[hh,he,Bool.true_and,Bool.not_eq_false']at hf;exact s'.1 hf
theorem lD.of {P Q R:List aV} (hP:gV P) (hQ:gV Q) (hc:yl P Q=[]) (hp:R.Perm (P++oT P Q)) (hs:R.Pairwise (λa b=>a.id<=b.id)):lD P Q R where
 lS:=by
  have gm:(P++oT P Q).Pairwise (λa b=>a.id≠b.id):=by
   rw[List.pairwise_append];refine ⟨hP.imp (λh=>by omega),(hQ.sublist (List.filter_sublist)).imp (λh=>by omega),λa ha b hb=>?_⟩;obtain ⟨X5,IJ⟩:=List.mem_filter.1 hb;intro hi;have:=NQ hQ hc ha X5 hi;rw[<-this,rH.2 ha]at IJ;cases IJ
  have QE:R.Pairwise (λa b=>a.id≠b.id):=(hp.pairwise_iff (λh=>λe=>h e.symm)).2 gm;exact (hs.and QE).imp (λ⟨h1,h2⟩=>by omega)
 mem:=λe=>by
  rw[hp.mem_iff,List.mem_append];constructor
  ·rintro (h|h)
   ·exact .inl h
   exact .inr (List.mem_filter.1 h).1
  rintro (h|h)
  ·exact .inl h
  by_cases hm:e∈P
  ·exact .inl hm
  refine .inr (List.mem_filter.2 ⟨h,?_⟩);have:xA P e=false:=by rw[Bool.eq_false_iff];exact λk=>hm (rH.1 k)
  rw[this];rfl
 len:=by rw[hp.length_eq,List.length_append]
def PK (P Q:List aV) (w:World) (e:Ending) (w':World):Prop:=
 ∃v,((yl P Q=[]/\P.length+(oT P Q).length<=16/\ ∃R,lD P Q R/\e= .returned (.tuple #[v,.bool true])/\ay ah R w.heap.size w' v)\/
  (¬(yl P Q=[]/\P.length+(oT P Q).length<=16)/\e= .returned (.tuple #[v,.bool false])/\v= .slice none 0 0))/\Below w.heap.size w w'
structure bo where
 a8:Int
 fin:Int
 pat:List aV
def eV (a:bo):Bool:=dO a.a8 0 1000&&dO a.fin 0 1000&&decide (a.a8<a.fin)&&bF a.pat
def ES (L:List bo) (k:Nat):Int:=((L[k]?).map (·.a8)).getD 0
def jg (L:List bo) (k:Nat):Bool:=((L[k]?).map eV).getD true&&(decide (k=0)||decide (ES L (k-1)<=ES L k))
def bJ (L:List bo):Bool:=cE L.length (jg L)&&decide (L.length<=8)
theorem qF {L:List bo} {k:Nat} {a:bo} (hk:k=0) (h:L[k]?=some a) (ho:eV a=true):jg L k=true:=by
 subst hk;unfold jg;rw[h];simp[ho]
theorem np {L:List bo} {m:Nat} {d a:bo} (hd:L[m]?=some d) (h:L[m+1]?=some a) (ho:eV a=true):jg L (m+1)=decide (d.a8<=a.a8):=by
 unfold jg ES;rw[h];simp[ho,hd]
theorem fj {L:List bo} (h:bJ L=true) {k:Nat} {a:bo} (hk:L[k]?=some a):eV a=true:=by
 unfold bJ at h;rw[Bool.and_eq_true,eo]at h;have:=h.1 k (List.getElem?_eq_some_iff.1 hk).1;unfold jg at this;rw[hk,Bool.and_eq_true]at this;exact this.1
theorem l' {L:List bo} (h:bJ L=true) {m:Nat} {d a:bo} (hd:L[m]?=some d) (ha:L[m+1]?=some a):d.a8<=a.a8:=by
 have ho:=fj h ha;unfold bJ at h;rw[Bool.and_eq_true,eo]at h;have:=h.1 (m+1) (List.getElem?_eq_some_iff.1 ha).1;rw[np hd ha ho]at this;exact of_decide_eq_true this
theorem eM {L:List bo} (h:bJ L=true):L.length<=8:=by
 unfold bJ at h;rw[Bool.and_eq_true]at h;exact of_decide_eq_true h.2
structure NR (a:bo):Prop where
 J:0<=a.a8
 bU:a.a8<=1000
 f0:0<=a.fin
 f1:a.fin<=1000
 lt:a.a8<a.fin
 pat:bF a.pat=true
theorem ep {a:bo}:eV a=true↔NR a:=by
 unfold eV;rw[Bool.and_eq_true,Bool.and_eq_true,Bool.and_eq_true,dS,dS];constructor
 ·rintro ⟨⟨⟨⟨a1,a2⟩,a3,a4⟩,a5⟩,a6⟩;exact ⟨a1,a2,a3,a4,of_decide_eq_true a5,a6⟩
 rintro ⟨a1,a2,a3,a4,a5,a6⟩;exact ⟨⟨⟨⟨a1,a2⟩,a3,a4⟩,decide_eq_true a5⟩,a6⟩
def IK (day:Int) (a:bo):Bool:=decide (a.a8<=day)&&decide (day<a.fin)
def de (L:List bo) (day:Int):List Int:=((List.range L.length).filter (λk=>((L[k]?).map (IK day)).getD false)).map (λn:Nat=>(n:Int))
def gb (L:List bo) (day:Int) (k:Nat):List Int:=((List.range k).filter (λk=>((L[k]?).map (IK day)).getD false)).map (λn:Nat=>(n:Int))
theorem vk {L:List bo} {day:Int} {k:Nat} {a:bo} (h:L[k]?=some a) (hf:IK day a=true):gb L day (k+1)=gb L day k++[(k:Int)]:=by
 unfold gb;rw[List.range_succ,List.filter_append,List.map_append];simp[h,hf]
theorem yn {L:List bo} {day:Int} {k:Nat} {a:bo} (h:L[k]?=some a) (hf:IK day a=false):gb L day (k+1)=gb L day k:=by
 unfold gb;rw[List.range_succ,List.filter_append,List.map_append];simp[h,hf]
theorem nr (L:List bo) (day:Int) (k:Nat):(gb L day k).length<=k:=by
 unfold gb;rw[List.length_map];exact Nat.le_trans (List.length_filter_le _ _) (by simp)
theorem yo {L:List bo} {day:Int} {j:Nat} {i:Int} (h:(de L day)[j]?=some i): ∃k:Nat,i=(k:Int)/\k<L.length:=by
 have hm:=List.mem_of_getElem? h;unfold de at hm;obtain ⟨k,hk,rfl⟩:=List.mem_map.1 hm;exact ⟨k,rfl,List.mem_range.1 (List.mem_filter.1 hk).1⟩
def vl (L:List bo) (o:Option (List bE)) (i:Int):Option (List bE):=o.bind (λS=>fT S (((L[i.toNat]?).map (·.pat)).getD []))
def Hi (base:List bE) (L:List bo) (day:Int) (k:Nat):Option (List bE):=((de L day).take k).foldl (vl L) (some base)
def nU (base:List bE) (L:List bo) (day:Int):Option (List bE):=(de L day).foldl (vl L) (some base)
theorem AX {base:List bE} {L:List bo} {day:Int} {k:Nat} {i:Int} (h:(de L day)[k]?=some i):Hi base L day (k+1)=vl L (Hi base L day k) i:=by
 obtain ⟨h1,h2⟩:=List.getElem?_eq_some_iff.1 h;unfold Hi;rw[List.take_succ_eq_append_getElem h1,List.foldl_append,h2];rfl
theorem ET {base:List bE} {L:List bo} {day:Int} {k:Nat} (h:(de L day).length<=k):Hi base L day k=nU base L day:=by
 unfold Hi nU;rw[List.take_of_length_le h]
theorem De (L:List bo) (l:List Int):l.foldl (vl L) none=none:=by
 induction l with
 |nil=>rfl
 |cons a l ih=>exact ih
theorem AY {base:List bE} {L:List bo} {day:Int} {k:Nat} (h:Hi base L day k=none):nU base L day=none:=by
 unfold nU;rw[<-List.take_append_drop k (de L day),List.foldl_append];have:((de L day).take k).foldl (vl L) (some base)=none:=h;rw[this,De]
structure bu where
 a:bo
 v:Value
def cu (x:bu):List Value:=[.int .i64 x.a.a8,.int .i64 x.a.fin,x.v]
def eE (w:World) (B:Nat) (v:Value) (ls:List bo):Prop:=
 ∃L:List bu,L.map (·.a)=ls/\cz (Pl cu) 3 w B v L/\ ∀x∈L,bg w B x.v x.a.pat
theorem eE.on {w w':World} {B B':Nat} {v:Value} {ls:List bo} (h:eE w B v ls) (hb:Below B w w') (hB:B<=B'):eE w' B' v ls:=by
 obtain ⟨L,h1,h2,h3⟩:=h;exact ⟨L,h1,cz.on h2 (Pl.stays _) hb hB,λx hx=>cz.on (h3 x hx) (Pl.stays _) hb hB⟩
theorem dk {w:World} {B:Nat} {v:Value} {ls:List bo} (h:eE w B v ls): ∃(A:Option Addr) (c:Nat),v= .slice A ls.length c/\ls.length<=c/\c<=maxLen/\(0<ls.length-> ∃b off,A=some ⟨b,off,none⟩/\b<B/\
 ∀(k:Nat) (a:bo),ls[k]?=some a-> ∃pv,w.cell? ⟨b,off+k*3,none⟩=some (.int .i64 a.a8)/\w.cell? ⟨b,off+k*3+1,none⟩=some (.int .i64 a.fin)/\w.cell? ⟨b,off+k*3+2,none⟩=some pv/\bg w B pv a.pat):=by
 obtain ⟨L,rfl,⟨A,c,rfl,h1,h2,h3⟩,h4⟩:=h;rw[List.length_map];refine ⟨A,c,rfl,h1,h2,λh0=>?_⟩;obtain ⟨b,off,rfl,hb,hk⟩:=h3 h0;refine ⟨b,off,rfl,hb,λk a ha=>?_⟩;rw[List.getElem?_map]at ha;cases hx:L[k]? with
 |none=>rw[hx]at ha;cases ha
 |some x=>
  rw[hx]at ha;injection ha with ha
  subst ha;obtain ⟨us,hl,hp,hc⟩:=hk k x hx;have hp:us=cu x:=hp;subst hp;exact ⟨x.v,hc 0 _ rfl,hc 1 _ rfl,hc 2 _ rfl,h4 x (List.mem_of_getElem? hx)⟩
theorem AZ (n:Int) (w:World):Calls prog 143 #[.int .i64 n] w (f' (.bool (dO n 0 999)) w):=by
 have H:=I (rl n 0 999 w);generalize dO n 0 999=r at H⊢;go_enter func143,ntmps143;go_wp2_with (fail);refine (H.o).mono ?_;rintro e w1 ⟨rfl,m,rfl⟩;go_wp2;go_ret;exact ⟨rfl,m,rfl⟩
theorem Df (ls:List bo) (day:Int) (w:World) (v:Value) (h:eE w w.heap.size v ls) (hl:ls.length<=1000):
 Calls prog 92 #[v,.int .i64 day] w (sS ak (de ls day) w):=by
 obtain ⟨A,c,rfl,hc,hm,cn⟩:=dk h;have gH:=I cn;clear cn h;obtain ⟨i0,hi,dK,ez,ek⟩:=info_parts iD;have cN:(w.alloc (.cells #[] 2)).ownsRow w.heap.size 2 1 (.slice (some ⟨w.heap.size,0,none⟩) 0 0) 0 []:=by simpa using World.ownsRow_made w #[] 0 (Nat.le_refl _) (Nat.zero_le _) rfl
 have dY:=I cN;have jT:ag (Below w.heap.size w (w.alloc (.cells #[] 2))):=I ((Below.refl _ _).alloc (Nat.le_refl _) _);unfold sS;clear cN;go_enter func92,ntmps92;go_wp2;go_loopw [5,6] (λo i wr=> ∃(k:Nat),i= .int .i64 (k:Int)/\k<=ls.length/\wr.ownsRow w.heap.size 2 1 o (gb ls day k).length ((gb ls day k).flatMap ak)/\o≠ .slice none 0 0/\Below w.heap.size w wr) (λ_ i _=>ls.length-(RowKit.intOf i).toNat);case atStart=>exact ⟨0,rfl,Nat.zero_le _,dY.o,by simp,jT.o⟩
 case round=>
  obtain ⟨k,rfl,hk,cr,nm,hb⟩:=hrel;obtain ⟨g,cap,rfl,SD,nj⟩:=bG cr nm;unfold maxLen at nj;have eH:=I cr;have HB:=I hb;have PI:=nr ls day k;clear cr nm;by_cases aI:k<ls.length
  ·obtain ⟨b,off,rfl,bD,aC⟩:=gH.o (by omega);have aH:ls[k]?=some ls[k]:=List.getElem?_eq_getElem aI;obtain ⟨pv,c0,c1,_,_⟩:=aC k _ aH;have x0:=(hb.cell (p:=⟨b,off+k*3,none⟩) bD).trans c0;have x1:=(hb.cell (p:=⟨b,off+k*3+1,none⟩) bD).trans c1;have HY:=I (λh=>vk (day:=day) aH h);have HN:=I (λh=>yn (day:=day) aH h);have tY:ag (IK day ls[k]=(decide (ls[k].a8<=day)&&decide (day<ls[k].fin))):=I rfl;generalize gb ls day k=Z at*;clear aC c0 c1 aH hb;generalize ls[k]=a at*;by_cases h1:a.a8<=day
   ·by_cases h2:day<a.fin
    ·replace HY:=I (HY.o (by rw[tY.o];simp[h1,h2]))
     clear HN;go_wp2_with (at_builtin;refine wpList_append_own _ rfl _ _ 35 rfl w.heap.size 2 i0 (.int .i64 0) 1 8 underlying35 hi dK ez ek rfl (by decide) _ _ _ rfl (eH.o.alloc _) ⟨wr.heap.size,0,none⟩ 1 1 (ak (k:Int)) rfl rfl (cell_one_new _ _ _) (λu hu=>cf _ hu) ?c3 ?c4 (by have:=HB.o.size;simp;omega) ?_);case c3=>unfold maxLen;omega
     case c4=>omega
     intro v' w9 aG aA aU;have mF:v'≠ .slice none 0 0:=by simpa using aU
     have wZ:=(HB.o.alloc HB.o.size (.cells #[.int .i64 (k:Int)] 2)).grown aA (by have:=HB.o.size;simp;omega) (λj hj=>(eH.o.lt j hj).1);clear aA aU;go_wp2;go_roundw;case rel=>exact ⟨k+1,by go_num,by omega,by rw[HY.o,cq,List.length_append];exact aG,mF,wZ⟩
     case measure=>simp[RowKit.intOf];omega
    replace HN:=I (HN.o (by rw[tY.o];simp[h2]))
    go_wp2;go_roundw;case rel=>exact ⟨k+1,by go_num,by omega,by rw[HN.o];exact eH.o,by simp,HB.o⟩
    case measure=>simp[RowKit.intOf];omega
   replace HN:=I (HN.o (by rw[tY.o];simp[h1]))
   go_wp2;go_roundw;case rel=>exact ⟨k+1,by go_num,by omega,by rw[HN.o];exact eH.o,by simp,HB.o⟩
   case measure=>simp[RowKit.intOf];omega
  have eA: ¬(k:Int)<(ls.length:Int):=by omega
  have di:k=ls.length:=by omega
  have eB:ag (gb ls day k=de ls day):=I (by rw[di];rfl);have zh:ag (ay ak (gb ls day k) w.heap.size wr (.slice (some ⟨g,0,none⟩) (gb ls day k).length cap)):=I (ay.bI ak (size:=1) (λ_=>rfl) eH.o);clear di;go_wp2;go_ret;exact ⟨_,rfl,by rw[<-eB.o];exact zh.o,HB.o⟩
theorem bg.km {w:World} {B:Nat} {v:Value} {es:List aV} (h:bg w B v es) (hB:B<=w.heap.size): ∀y:ar w,bg y.val y.val.heap.size v es:=cz.km h (Pl.stays _) hB
theorem eE.km {w:World} {B:Nat} {v:Value} {ls:List bo} (h:eE w B v ls) (hB:B<=w.heap.size): ∀y:ar w,eE y.val y.val.heap.size v ls:=λy=>h.on (y.ok.mono hB) (Nat.le_trans hB y.ok.size)
def ms (ls:List bo):Prop:= ∀a∈ls,bS a.pat
theorem ms.of {ls:List bo} (h:bJ ls=true):ms ls:=λa ha=>by
 obtain ⟨k,hk⟩:=List.getElem?_of_mem ha;exact lC (ep.1 (fj h hk)).pat
theorem Bg {ls:List bo} {j:Nat} {a:bo} (R:List bE) (h:ls[j]?=some a):vl ls (some R) (j:Int)=fT R a.pat:=by simp[vl,h]
def IL (S:List bE) (ls:List bo) (day:Int) (w:World) (e:Ending) (w':World):Prop:=
 ∃v,e= .returned (.tuple #[v,.bool (nU S ls day).isSome])/\(∀R,nU S ls day=some R->ay ai R w.heap.size w' v/\cd R=true)/\(∃A n c,v= .slice A n c)/\Below w.heap.size w w'
end Go.Proofs.YtbcggaldkihcaaaGreatDoor
