/- Draws: what only turns the source; sentences drawn; texts and edits found. -/
import Derived.Test.YtbcggaldkihcaaaGreatQB
import Derived.Shelf.Abstract
import Derived.Lib.AppendZerosOnto
import Derived.Lib.Overlaps
import Derived.Laws.Externs
import Derived.Laws.NewBlocks
import Derived.Laws.StructEq
import Derived.Test.YtbcggaldkihcaaaGreatProg
import Derived.OwnWalk
set_option maxHeartbeats 8000000
set_option maxRecDepth 100000
namespace Go.Proofs.YtbcggaldkihcaaaGreat
open Tryz
open Go.RowKit Go.Lib
theorem abI:type_of% @List.findIdx?_eq_some_iff_getElem:=@List.findIdx?_eq_some_iff_getElem
theorem ab2:type_of% @List.findIdx?_eq_none_iff:=@List.findIdx?_eq_none_iff
theorem abh:type_of% @List.mem_iff_getElem:=@List.mem_iff_getElem
theorem aa':type_of% @Nat.not_lt_zero:=@Nat.not_lt_zero
theorem abx:type_of% @Go.length_splice:=@Go.length_splice
theorem ab8:type_of% @List.take_append_of_le_length:=@List.take_append_of_le_length
theorem abi:type_of% @Nat.le_of_lt:=@Nat.le_of_lt
theorem aaz:type_of% @Go.World.ownsRow_made:=@Go.World.ownsRow_made
theorem abT:type_of% @List.filter_append:=@List.filter_append
theorem abJ:type_of% @List.mem_map:=@List.mem_map
theorem abt:type_of% @List.mem_filter:=@List.mem_filter
theorem aaK:type_of% @List.map_append:=@List.map_append
theorem ab6:type_of% @List.length_filter_le:=@List.length_filter_le
theorem Src.keep {B b k:Nat} {w w':World} (h:Src B w b k) (hb:w'.heap[b]?=w.heap[b]?) (hB: ∀i,i<B->w'.heap[i]?=w.heap[i]?):Src B w' b k:=by
 obtain ⟨A,n,c,p,q,h1,h2,h3,h4,h5,h6⟩:=h;refine ⟨A,n,c,p,q,by rw[hb];exact h1,h2,h3,h4,h5,h6.1,λhn=>?_⟩;obtain ⟨g,off,rfl,aI,hc⟩:=h6.2 hn
 exact ⟨g,off,rfl,aI,λi hi=>by
  obtain ⟨x,hx,Xx⟩:=hc i hi;exact ⟨x,hx,by rw[abW (hB g aI)];exact Xx⟩⟩
theorem Src.lt {B b k:Nat} {w:World} (h:Src B w b k):b<w.heap.size/\B<=b:=by
 obtain ⟨A,n,c,p,q,h1,h2,_⟩:=h;exact ⟨(Array.getElem?_eq_some_iff.1 h1).1,h2⟩
theorem Src.below {B b k D:Nat} {w w':World} (h:Src B w b k) (hb:Below D w w') (hD:b<D):Src B w' b k:=
 h.keep (hb.block b hD) (λi hi=>hb.block i (by have:=h.lt.2;omega))
theorem Src.alloc {B b k:Nat} {w:World} (h:Src B w b k) (o:Obj):Src B (w.alloc o) b k:=
 h.below ((aae w.heap.size w).alloc (aad _) o) h.lt.1
theorem Src.drewN {B b k:Nat} {w:World} (h:Src B w b k) (n:Nat):Src B (w.drewN n) b k:=h.below (below_drewN (aae w.heap.size w) n) h.lt.1
theorem Src.grown {B b k:Nat} {w w':World} {row:Option Nat} (h:Src B w b k) (hg:w.grownBy w' row) (hr: ∀j,row=some j->b<j):Src B w' b k:=
 h.keep (hg.block b h.lt.1 (λe=>by have:=hr b e.symm;omega)) (λi hi=>hg.block i (by have:=h.lt;omega) (λe=>by have:=hr i e.symm;have:=h.lt;omega))
theorem Iq {w w':World} {base b n size:Nat} {e:TypeId} {v:Value} {xs:List Value} (h:w.ownsRow base e size v n xs) (hb:b<base) (ho:iJ b w w'):w'.ownsRow base e size v n xs:=
 h.kept ho (by
  rcases hv:v.ownBlock with _|g
  ·exact .inl rfl
  right
  intro e;injection e with e
  have:=(h.lt g hv).1;omega)
theorem Row.only {w w':World} {g b:Nat} {L:List Value} (h:Row w g L) (hg:g<w.heap.size) (gm:g≠b) (ho:iJ b w w'):Row w' g L where
 cell:=λj u hj=>(qy ho g j hg gm).1.trans (h.cell j u hj)
 free:=λj hj=>(qy ho g j hg gm).2.trans (h.free j hj)
theorem ay.only {α:Type} {f:α->List Value} {xs:List α} {base b:Nat} {w w':World} {v:Value} (h:ay f xs base w v) (hb:b<base) (ho:iJ b w w'):ay f xs base w' v:=by
 obtain ⟨A,c,rfl,h1,h2,h3⟩:=h;refine ⟨A,c,rfl,h1,h2,λh0=>?_⟩;obtain ⟨g,e,hg,aI,hr⟩:=h3 h0;exact ⟨g,e,hg,aar aI ho.size,hr.only aI (by omega) ho⟩
theorem cz.only {α:Type} {f:α->List Value} {size B b:Nat} {w w':World} {v:Value} {xs:List α} (h:cz (Pl f) size w B v xs) (hb:B<=w.heap.size) (hs:B<=b) (ho:iJ b w w'):cz (Pl f) size w' B v xs:=by
 obtain ⟨A,c,rfl,h1,h2,h3⟩:=h;refine ⟨A,c,rfl,h1,h2,λh0=>?_⟩;obtain ⟨g,off,e,aI,hc⟩:=h3 h0;refine ⟨g,off,e,aI,λk x hx=>?_⟩;obtain ⟨us,hl,hp,aC⟩:=hc k x hx;exact ⟨us,hl,hp,λj u hj=>(qy ho g _ (by omega) (by omega)).1.trans (aC j u hj)⟩
def adg (p:List UInt8->Prop) (B:Nat) (w:World) (b k:Nat) (e:Ending) (w':World):Prop:=
 ∃l,p l/\e= .returned (.string ⟨l.toArray⟩)/\Src B w' b k/\iJ b w w'
theorem FK (es:List bE) (q:Int) (w:World) (v:Value) (h:iT w w.heap.size v es):
 Calls prog 180 #[v,.int .i64 q] w (f' (.string (bC es q)) w):=by
 obtain ⟨A,c,rfl,hc,hm,cn⟩:=h;unfold maxLen at hm;have rn:es.length<=9223372036854775807:=by omega
 have gH:=I cn;clear cn;go_enter func180,ntmps180;go_wp2;go_loop [5] (λi=> ∃k:Nat,k<=es.length/\i= .int .i64 (k:Int)/\bC es q=bC (es.drop k) q) (λi=>es.length-(intOf i).toNat);case atStart=>exact ⟨0,aaf _,rfl,rfl⟩
 case round=>
  obtain ⟨k,hk,rfl,hf⟩:=hrel;have HF:=I hf;clear hf;by_cases aI:k<es.length
  ·obtain ⟨b,off,rfl,bD,aC⟩:=gH.o (by omega);have aH:es[k]?=some es[k]:=aag aI;obtain ⟨x0,x1⟩:=ke aC aH;have HG:=I aH;clear aH aC;generalize es[k]=e at*;by_cases hq:e.id=q
   ·have HR:=I (FE HG.o hq HF.o);have hb:(e.id==q)=true:=by simp[hq]
    clear hq;go_wp2;go_ret;exact ⟨by rw[HR.o];rfl,0,rfl⟩
   have HR:=I (C3 HG.o hq HF.o);have hb:(e.id==q)=false:=by simp[hq]
   clear hq;go_wp2;go_round;case rel=>exact ⟨k+1,by omega,by go_num,HR.o⟩
   case measure=>simp[intOf];omega
  have HR:=I (FF (by omega:es.length<=k) HF.o);have eA: ¬(k:Int)<(es.length:Int):=by omega
  go_wp2;go_ret;exact ⟨by rw[HR.o];rfl,0,rfl⟩
theorem AL (es:List aV) (q:Int) (w:World) (v:Value) (h:bg w w.heap.size v es):
 Calls prog 198 #[v,.int .i64 q] w (bT (Hz (bQ es q)) w):=by
 obtain ⟨A,c,rfl,hc,hm,cn⟩:=h;unfold maxLen at hm;have rn:es.length<=9223372036854775807:=by omega
 have gH:=I cn;have HB:ag (Below w.heap.size w (w.alloc (.cells #[.int .i64 0,.int .i64 0,.string ⟨#[]⟩,.string ⟨#[]⟩] 174))):=I ((aae w.heap.size w).alloc (aad _) _);clear cn;go_enter func198,ntmps198;go_wp2;go_loop [5] (λi=> ∃k:Nat,k<=es.length/\i= .int .i64 (k:Int)/\bQ es q=bQ (es.drop k) q) (λi=>es.length-(intOf i).toNat);case atStart=>exact ⟨0,aaf _,rfl,rfl⟩
 case round=>
  obtain ⟨k,hk,rfl,hf⟩:=hrel;have HF:=I hf;clear hf;by_cases aI:k<es.length
  ·obtain ⟨b,off,rfl,bD,aC⟩:=gH.o (by omega);have aH:es[k]?=some es[k]:=aag aI;obtain ⟨c0,c1,c2,c3⟩:=ln aC aH;have x0:=(HB.o.cell (p:=⟨b,off+k*4,none⟩) bD).trans c0;have x1:=(HB.o.cell (p:=⟨b,off+k*4+1,none⟩) bD).trans c1;have x2:=(HB.o.cell (p:=⟨b,off+k*4+2,none⟩) bD).trans c2;have x3:=(HB.o.cell (p:=⟨b,off+k*4+3,none⟩) bD).trans c3;have HG:=I aH;clear aH aC c0 c1 c2 c3;generalize es[k]=e at*;by_cases hq:e.id=q
   ·have HR:=I (C4 HG.o hq HF.o);have hb:(e.id==q)=true:=by simp[hq]
    clear hq;go_wp2;refine aaT (v:= .agg #[.int .i64 e.kind,.int .i64 e.id,.string e.dA,.string e.new]) (by simp[results,results198,go_sem]) rfl ⟨by rw[HR.o];rfl,?_⟩;exact (aae _ _).alloc (aad _) _
   have HR:=I (AG HG.o hq HF.o);have hb:(e.id==q)=false:=by simp[hq]
   clear hq;go_wp2;go_round;case rel=>exact ⟨k+1,by omega,by go_num,HR.o⟩
   case measure=>simp[intOf];omega
  have HR:=I (C6 (by omega:es.length<=k) HF.o);have eA: ¬(k:Int)<(es.length:Int):=by omega
  go_wp2;refine aaT (v:= .agg #[.int .i64 0,.int .i64 0,.string ⟨#[]⟩,.string ⟨#[]⟩]) (by simp[results,results198,go_sem]) rfl ⟨by rw[HR.o];rfl,?_⟩;exact (aae _ _).alloc (aad _) _
def Ir (g:Nat) (lb:Array Value) (p:bE->Bool) (w:World):Prop:=
 ∀(W:World) (x:bE),Below w.heap.size w W->Calls prog g (#[.agg #[.int .i64 x.id,.string x.text]]++lb) W (bT (.bool (p x)) W)
def oR (p:bE->Bool) (L:List bE):Int:=match L.findIdx? p with|some k=>(k:Int)|none=> -1
theorem Is {p:bE->Bool} {L:List bE} {k:Nat} (hk:k<L.length) (h:p L[k]=true) (hn: ∀j (hj:j<k),p (L[j]'(by omega))=false):oR p L=k:=by
 have:L.findIdx? p=some k:=abI.2 ⟨hk,h,λj hj=>by rw[hn j hj];simp⟩;unfold oR;rw[this]
theorem FL {p:bE->Bool} {L:List bE} (hn: ∀j (hj:j<L.length),p L[j]=false):oR p L= -1:=by
 have:L.findIdx? p=none:=ab2.2 (λx hx=>by
  obtain ⟨j,hj,rfl⟩:=abh.1 hx;exact hn j hj)
 unfold oR;rw[this]
theorem yg (p:bE->Bool) (L:List bE):(∃k,∃h:k<L.length,oR p L=k/\p L[k]=true/\ ∀j (hj:j<k),p (L[j]'(by omega))=false)\/(oR p L= -1/\ ∀a∈L,p a=false):=by
 rcases hf:L.findIdx? p with _|k
 ·refine .inr ⟨by unfold oR;rw[hf],λa ha=>?_⟩;have:=ab2.1 hf a ha;simpa using this
 obtain ⟨h1,h2,h3⟩:=abI.1 hf;exact .inl ⟨k,h1,by unfold oR;rw[hf],h2,λj hj=>by simpa using h3 j hj⟩
theorem vf: ∀{L:List bE} {q:Int} {k:Nat} (h:k<L.length),L[k].id=q->(∀j (hj:j<k),(L[j]'(by omega)).id≠q)->bC L q=L[k].text
 |a::L,q,0,_,hi,_=>by
  show bC (a::L) q=a.text
  rw[bC,aaj (show a.id=q from hi)]
 |a::L,q,k+1,h,hi,hn=>by
  have h0:a.id≠q:=hn 0 (by omega);show bC (a::L) q=_
  rw[bC,aah h0,vf (k:=k) (by simpa using h) hi (λj hj=>hn (j+1) (by omega))];rfl
theorem vg (L:List bE) (w:World) (v:Value) (h:iT w w.heap.size v L) (g:Nat) (lb:Array Value) (p:bE->Bool) (hp:Ir g lb p w) (eg: ∀args w,(callFunc g args).run prog w= .ok (.enter g args) w):
 Calls prog 193 #[v,.func (.func g) #[] lb] w (bT (.int .i64 (oR p L)) w):=by
 obtain ⟨A,c,rfl,hc,hm,cn⟩:=h;unfold maxLen at hm;have rn:L.length<=9223372036854775807:=by omega
 have gH:=I cn;have HP:=I hp;clear cn hp;go_enter func193,ntmps193;go_wp2;go_loopw [5,8] (λ_ i wr=> ∃k:Nat,k<=L.length/\i= .int .i64 (k:Int)/\(∀j (hj:j<L.length),j<k->p L[j]=false)/\Below w.heap.size w wr) (λ_ i _=>L.length-(intOf i).toNat);case atStart=>exact ⟨0,aaf _,rfl,λj _ hj=>absurd hj (aa' _),aae _ _⟩
 case round=>
  obtain ⟨k,hk,rfl,hn,hb⟩:=hrel;have HN:=I hn;have HB:=I hb;clear hn;by_cases aI:k<L.length
  ·obtain ⟨b,off,rfl,bD,aC⟩:=gH.o (by omega);have aH:L[k]?=some L[k]:=aag aI;obtain ⟨c0,c1⟩:=ke aC aH;have x0:=(hb.cell (p:=⟨b,off+k*2,none⟩) bD).trans c0;have x1:=(hb.cell (p:=⟨b,off+k*2+1,none⟩) bD).trans c1;have gn:=HP.o wr L[k] hb;clear aH aC c0 c1 hb;cases hq:p L[k]with
   |true=>
    have HQ:=I (Is aI hq (λj hj=>HN.o j (by omega) hj));rw[hq]at gn;have HC:=I gn;generalize L[k]=e at*;clear gn hq;go_wp2_with (go_at_fn g;refine (HC.o).mono ?_;rintro e' w' ⟨rfl,dF⟩);go_ret;exact ⟨by rw[HQ.o];rfl,HB.o.trans (dF.mono HB.o.size)⟩
   |false=>
    have Da:ag (∀j (hj:j<L.length),j<k+1->p L[j]=false):=I (λj hj KI=>by
     by_cases e:j=k
     ·subst e;exact hq
     exact HN.o j hj (by omega))
    rw[hq]at gn;have HC:=I gn;generalize L[k]=e at gn x0 x1 hq HC;clear gn hq;go_wp2_with (go_at_fn g;refine (HC.o).mono ?_;rintro e' w' ⟨rfl,dF⟩);go_roundw;case rel=>exact ⟨k+1,by omega,by go_num,Da.o,HB.o.trans (dF.mono HB.o.size)⟩
    case measure=>simp[intOf];omega
  have eA: ¬(k:Int)<(L.length:Int):=by omega
  have HQ:=I (FL (p:=p) (L:=L) (λj hj=>HN.o j hj (by omega)));go_wp2;go_ret;exact ⟨by rw[HQ.o];rfl,HB.o⟩
theorem FM (q:Int) (B:Nat) (w:World) (hB:B<w.heap.size) (hc:w.cell? ⟨B,0,none⟩=some (.int .i64 q)):Ir 211 #[.pointer (some ⟨B,0,none⟩)] (λa=>decide (a.id=q)) w:=by
 intro W x hb;have x0:=(hb.cell (p:=⟨B,0,none⟩) hB).trans hc;have aI:=aaL W ⟨B,0,none⟩ x0;have y0:=(((aae W.heap.size W).alloc (aad _) (.cells #[.int .i64 x.id,.string x.text] 139)).cell (p:=⟨B,0,none⟩) aI).trans x0;obtain ⟨r,hr⟩: ∃r,decide (x.id=q)=r:=⟨_,rfl⟩
 have mV:(x.id==q)=r:=by rw[<-hr];by_cases h:x.id=q<;>simp[h]
 show Calls prog 211 #[.agg #[.int .i64 x.id,.string x.text],.pointer (some ⟨B,0,none⟩)] W (bT (.bool (decide (x.id=q))) W)
 rw[hr];clear hr x0 hb;go_enter func211,ntmps211;go_wp2;go_ret;exact ⟨rfl,(aae W.heap.size W).alloc (aad _) _⟩
theorem AM: ∀args w,(callFunc 211 args).run prog w= .ok (.enter 211 args) w:=enters_of func211 (by kernel_rfl) rfl
theorem tV (L:List bE) (q:Int) (w:World) (v:Value) (h:iT w w.heap.size v L):
 Calls prog 191 #[v,.int .i64 q] w (bT (.int .i64 (oR (λa=>decide (a.id=q)) L)) w):=by
 have Sz: ∀(fn:Fn) (first cap:Array Value) (w:World),(Instr.makeFunc fn first cap).run prog w= .ok (.func fn first cap) w:=λ_ _ _ _=>rfl;have bW:=(aae w.heap.size w).alloc (aad _) (.cells #[.int .i64 q] 2);have HI:=I (vg L (w.alloc (.cells #[.int .i64 q] 2)) v (cz.on h (Pl.stays _) bW bW.size) 211 #[.pointer (some ⟨w.heap.size,0,none⟩)] (λa=>decide (a.id=q)) (FM q w.heap.size _ (by simp) (by simp[go_sem])) AM);have HB:=I bW;obtain ⟨A,c,rfl,_⟩:=h;generalize oR (λa=>decide (a.id=q)) L=z at HI⊢;clear bW;go_enter func191,ntmps191;go_wp2_with (fail);refine (HI.o).mono ?_;rintro e w1 ⟨rfl,bw⟩;have da:=I (HB.o.trans (bw.mono HB.o.size));clear bw;go_wp2;go_ret;exact ⟨rfl,da.o⟩
theorem Db (L:List bE) (q:Int) (w:World) (v:Value) (h:iT w w.heap.size v L):
 Calls prog 190 #[v,.int .i64 q] w (bT (.string (bC L q)) w):=by
 have HA:=I (tV L q w v h);obtain ⟨A,c,rfl,hc,hm,cn⟩:=h;unfold maxLen at hm;rcases yg (λa=>decide (a.id=q)) L with ⟨k,hk,hz,hp,hn⟩|⟨hz,hn⟩
 ·obtain ⟨b,off,rfl,bD,aC⟩:=cn (by omega);obtain ⟨c0,c1⟩:=ke aC (aag hk);have HF:=I (vf hk (aa3 hp) (λj hj=>of_decide_eq_false (hn j hj)));have FN:=I c1;have jA: ¬((k:Int)<0):=by omega
  have rc:(0:Int)<=(k:Int):=by omega
  rw[hz]at HA;generalize L[k]=e at*;clear hz hp hn aC c0 c1 cn;go_enter func190,ntmps190;go_wp2_with (fail);refine (HA.o).mono ?_;rintro e' w1 ⟨rfl,bw⟩;have x1:=(bw.cell (p:=⟨b,off+k*2+1,none⟩) bD).trans FN.o;have da:=I bw;clear bw;go_wp2;go_ret;exact ⟨by rw[HF.o];rfl,da.o⟩
 have HF:=I (iU (s:=L) (i:=q) (λa ha=>of_decide_eq_false (hn a ha)));rw[hz]at HA;clear hz hn cn;go_enter func190,ntmps190;go_wp2_with (fail);refine (HA.o).mono ?_;rintro e' w1 ⟨rfl,bw⟩;have da:=I bw;clear bw;go_wp2;go_ret;exact ⟨by rw[HF.o];rfl,da.o⟩
def Wf (g:Nat) (lb:Array Value) (p:aV->Bool) (w:World):Prop:=
 ∀(W:World) (x:aV),Below w.heap.size w W->Calls prog g (#[.agg #[.int .i64 x.kind,.int .i64 x.id,.string x.dA,.string x.new]]++lb) W (bT (.bool (p x)) W)
def XT (p:aV->Bool) (L:List aV):Int:=match L.findIdx? p with|some k=>(k:Int)|none=> -1
def Qu (L:List aV) (q:Int):Bool:=L.any (λa=>decide (a.id=q))
def EL {α:Type} (f:α->List Value) (e:TypeId) (size base g n cap:Nat) (R:List α) (w:World) (en:Ending) (w':World):Prop:=
 en= .returned (.slice (some ⟨g,0,none⟩) n cap)/\w'.ownsRow base e size (.slice (some ⟨g,0,none⟩) n cap) n (R.flatMap f)/\w.grownBy w' (some g)
theorem It (L:List bE) (i base g n cap:Nat) (w:World) (hn:L.length=n) (hi:i<n) (rE:n<=1000000) (cr:w.ownsRow base 139 2 (.slice (some ⟨g,0,none⟩) n cap) n (L.flatMap ai)):
 Calls prog 192 #[.slice (some ⟨g,0,none⟩) n cap,.int .i64 i,.int .i64 ((i:Int)+1)] w (EL ai 139 2 base g (n-1) cap (L.take i++L.drop (i+1)) w):=by
 obtain ⟨T,hB,hC,xy,nj,kd,sY⟩:=dH cr;unfold maxLen at nj;have NC:(L.flatMap ai++T).length=cap*2:=hC;obtain ⟨news,nS⟩: ∃news,news=(L.drop (i+1)).flatMap ai:=⟨_,rfl⟩
 have Ij:news.length=(n-(i+1))*2:=by rw[nS,bp (k:=2) ai (λ_=>rfl),aaS,hn]
 have aH: ∀t u,news[t]?=some u->(L.flatMap ai++T)[(i+1)*2+t]?=some u:=by
  intro t u ht
  have h1:(L.flatMap ai).drop ((i+1)*2)=news:=by
   rw[nS,gA ai L (i+1),List.drop_left'];rw[bp (k:=2) ai (λ_=>rfl),aao,aaP (by omega)]
  have yh:t<news.length:=(aal.1 ht).1;rw[aaW (by rw[sY];omega),<-List.getElem?_drop,h1];exact ht
 have SA: ∀u∈news,u.oneCell'=true:=by rw[nS];exact gJ ai (λx v hv=>eU hv) _
 have hA: ∃A:Addr,(if cap=i+1 then some (⟨g,0,none⟩:Addr)else some ⟨g,(i+1)*2,none⟩)=some A/\ag (∀t u,news[t]?=some u->w.drew.cell? (A.add t)=some u):=by
  by_cases h:cap=i+1
  ·refine ⟨⟨g,0,none⟩,by simp[h],λt u hu=>?_⟩;have h0:news.length=0:=by rw[Ij];omega
   rw[List.length_eq_zero_iff.1 h0]at hu;simp at hu
  refine ⟨⟨g,(i+1)*2,none⟩,by simp[h],λt u hu=>?_⟩;rw[aaQ,hB.drew.cell];exact aH t u hu
 obtain ⟨A,hA,Nx⟩:=hA
 have s3:ag (∀t,t<news.length->(w.drew.cell? ⟨g,0+i*2+t,none⟩).isSome=true/\w.drew.frozen? ⟨g,0+i*2+t,none⟩=false):=by
  intro t ht;rw[Ij]at ht;exact ⟨hB.drew.isSome (by rw[NC];omega),hB.drew.free (by rw[NC];omega)⟩
 obtain ⟨W1,eG⟩: ∃W1,W1=w.drew.setCells g (0+i*2) news:=⟨_,rfl⟩
 have zb:jR W1 g 139 (splice (L.flatMap ai++T) (i*2) news):=by
  rw[eG,aan];exact hB.drew.set prog (i*2) news (by rw[NC,Ij];omega) SA
 have mE:(splice (L.flatMap ai++T) (i*2) news).length=cap*2:=by rw[abx _ _ _ (by rw[NC,Ij];omega),NC]
 have hz: ∀w,(zeroValue 139).run prog w= .ok (.agg #[.int .i64 0,.string ⟨#[]⟩]) w:=zeroValue139
 have XU: ∀ty,(Builtin.clear_ #[25] ty #[.slice (some ⟨g,(i+(n-(i+1)))*2,none⟩) (n-(i+(n-(i+1)))) (cap-(i+(n-(i+1))))]).run prog W1= .ok (.tuple #[]) (W1.setCells g ((i+(n-(i+1)))*2) (ai ⟨0,⟨#[]⟩⟩)):=λty=>by
  have e1:n-(i+(n-(i+1)))=1:=by omega
  rw[e1]
  exact AC W1 _ 139 ty _ (ai ⟨0,⟨#[]⟩⟩) underlying25 hz g _ 1 _ (by omega) (by simp[Builtin.zeroCells,Value.cells,ai];try rfl) (λv hv=>eU hv)
   (λj hj=>zb.isSome (by have:j<2:=hj;rw[mE];omega)) (λj hj=>zb.free (by have:j<2:=hj;rw[mE];omega))
 have jQ:EL ai 139 2 base g (n-1) cap (L.take i++L.drop (i+1)) w (.returned (.slice (some ⟨g,0,none⟩) (n-1) cap)) (W1.setCells g ((i+(n-(i+1)))*2) (ai ⟨0,⟨#[]⟩⟩)):=by
  have ei:(i+(n-(i+1)))*2=(L.length-1)*2:=by omega
  rw[ei];have ND:=zb.set prog ((L.length-1)*2) (ai ⟨0,⟨#[]⟩⟩) (by rw[mE];show (L.length-1)*2+2<=_;omega) (λv hv=>eU hv);refine ⟨rfl,gz ND (by rw[abx _ _ _ (by rw[mE];show (L.length-1)*2+2<=_;omega),mE]) ?_ ?_ (by omega) (by unfold maxLen;omega) kd,?_⟩
  ·rw[nS,<-hn];exact Fz ai (λ_=>rfl) L T _ i (by omega) rfl (by omega)
  ·rw[bp (k:=2) ai (λ_=>rfl),aak,aao,aaS]
   congr 1
   omega
  have g1:w.grownBy W1 (some g):=by
   rw[eG,aan];have:=gP prog hB.drew (i*2) news (by rw[NC,Ij];omega) SA;exact ⟨this.os,this.tape,this.output,this.size,this.block⟩
  have g2:=gP prog zb ((L.length-1)*2) (ai ⟨0,⟨#[]⟩⟩) (by rw[mE];show (L.length-1)*2+2<=_;omega) (λv hv=>eU hv);exact ll g1 g2
 have eB:=I jQ;have hW:ag (W1=w.drew.setCells g (0+i*2) news):=eG;have s1:ag (news.length=(n-(i+1))*2):=Ij;have s2:ag (∀u∈news,u.oneCell'=true):=SA;have hic:i<=cap:=by omega
 have bw:(0:Int)<=(i:Int)+1:=by omega
 have cL:(i:Int)+1<=(n:Int):=by omega
 have hjc:i+1<=cap:=by omega
 obtain ⟨i0,Qv,dK,ez,ek⟩:=aaq oQ;have HN:=I hn;clear eG zb mE jQ hB hC NC aH nS Ij SA cr sY kd hn;go_enter func192,ntmps192;go_wp2_with (fail);go_region_law (refine step_append_room rfl (.tmp 22) (.tmp 25) 25 rfl 139 i0 2 underlying25 Qv ez g 0 i cap (by simp[Act.eval,Act.put]) A (n-(i+1)) (cap-(i+1)) news (by simp[Act.eval,Act.put]) s1.o Nx.o s2.o (by omega) s3.o ?_;rw[<-hW.o]);go_wp2;go_ret;have e1:i+(n-(i+1))=n-1:=by omega
 have h:=eB.o;rw[e1]at h⊢;exact h
theorem qn {α:Type} (f:α->List Value) {k:Nat} (hf: ∀x,(f x).length=k) (L:List α) (a:α) (Z:List Value) (i:Nat) (hi:i<=L.length):
 (splice (splice ((L.take i).flatMap f++Z) (i*k) (f a)) ((i+1)*k) ((L.drop i).flatMap f)).take ((L.length+1)*k)=(L.take i++a::L.drop i).flatMap f:=by
 have h1:((L.take i).flatMap f).length=i*k:=by rw[bp f hf,aao,aaP hi]
 have h2:splice ((L.take i).flatMap f++Z) (i*k) (f a)=((L.take i).flatMap f++f a)++((L.take i).flatMap f++Z).drop (i*k+(f a).length):=by
  unfold splice;rw[abm h1,aaI]
 have h3:((L.take i).flatMap f++f a).length=(i+1)*k:=by rw[aak,h1,hf,aaO]
 have h4:((L.take i).flatMap f++f a++(L.drop i).flatMap f).length=(L.length+1)*k:=by
  rw[aak,h3,bp f hf,aaS,<-Nat.add_mul]
  congr 1
  omega
 rw[h2];unfold splice;rw[abm h3,<-aaI,abm h4];simp
theorem oS {α:Type} (f:α->List Value) {k:Nat} (hf: ∀x,(f x).length=k) (L:List α) (a:α) (T:List Value) (i:Nat) (hi:i<=L.length) (hT:k<=T.length):
 (splice (splice (L.flatMap f++T) ((i+1)*k) ((L.drop i).flatMap f)) (i*k) (f a)).take ((L.length+1)*k)=(L.take i++a::L.drop i).flatMap f:=by
 have h1:((L.take i).flatMap f).length=i*k:=by rw[bp f hf,aao,aaP hi]
 have hd:((L.drop i).flatMap f).length=(L.length-i)*k:=by rw[bp f hf,aaS]
 have PI:(L.flatMap f++T).length=L.length*k+T.length:=by rw[aak,bp f hf]
 have hk:(i+1)*k=i*k+k:=aaO _ _;have hs:i*k+(L.length-i)*k=L.length*k:=by rw[<-Nat.add_mul];congr 1;omega
 obtain ⟨C,hC⟩: ∃C,C=splice (L.flatMap f++T) ((i+1)*k) ((L.drop i).flatMap f):=⟨_,rfl⟩
 have XV:C.take (i*k)=(L.take i).flatMap f:=by
  rw[hC];unfold splice;rw[ab8 (by rw[aao];omega),List.take_take,aaP (by omega),gA f L i,aaI,abm h1]
 have XW:C.drop (i*k+k)=(L.drop i).flatMap f++(L.flatMap f++T).drop ((i+1)*k+((L.drop i).flatMap f).length):=by
  rw[hC];unfold splice;rw[List.drop_left' (by rw[aao];omega)]
 rw[<-hC];unfold splice;rw[XV,hf,XW]
 have h4:((L.take i).flatMap f++f a++(L.drop i).flatMap f).length=(L.length+1)*k:=by
  rw[aak,aak,h1,hf,hd,aaO];omega
 rw[<-aaI,<-aaI,abm h4];simp
def pP {α:Type} (f:α->List Value) (e:TypeId) (size base g n:Nat) (R:List α) (w:World) (en:Ending) (w':World):Prop:=
 ∃v,en= .returned v/\w'.ownsRow base e size v n (R.flatMap f)/\v≠ .slice none 0 0/\iJ g w w'
theorem Iu (L:List bE) (a:bE) (base g n cap vb vc:Nat) (w:World) (_hn:L.length=n) (rE:n<=1000000) (cr:w.ownsRow base 139 2 (.slice (some ⟨g,0,none⟩) n cap) n (L.flatMap ai)) (hv:jR w vb 139 (ai a)) (qf:base<=w.heap.size):
 Calls prog 195 #[.slice (some ⟨g,0,none⟩) n cap,.int .i64 n,.slice (some ⟨vb,0,none⟩) 1 vc] w (pP ai 139 2 base g (n+1) (L++[a]) w):=by
 obtain ⟨T,hB,hC,xy,nj,kd,sY⟩:=dH cr;unfold maxLen at nj;have HV:ag (∀j u,(ai a)[j]?=some u->w.cell? ((⟨vb,0,none⟩:Addr).add j)=some u):=I (λj u hj=>by rw[aaQ,hv.cell,aan];exact hj);have eH:=I cr;obtain ⟨i0,hi,dK,ez,ek⟩:=aaq oQ;clear hB hC kd sY cr hv _hn;by_cases EM:cap=n
 ·subst EM;go_enter func195,ntmps195;go_wp2_with (at_builtin;refine abg _ rfl _ _ 25 rfl base 139 i0 (.agg #[.int .i64 0,.string ⟨#[]⟩]) 2 24 underlying25 hi dK ez ek rfl (by decide) _ _ _ rfl eH.o ⟨vb,0,none⟩ 1 vc (ai a) rfl rfl HV.o (λu hu=>eU hu) ?c3 ?c4 qf ?_);case c3=>unfold maxLen;omega
  case c4=>omega
  intro v' w5 aG aA aU;have HO:=I aG;have Da:ag (v'≠ .slice none 0 0):=I (by simpa using aU);have HG:=I aA;clear aG aA aU;go_wp2;go_ret;exact ⟨v',rfl,by rw[cq];exact HO.o,Da.o,HG.o⟩
 go_enter func195,ntmps195;go_wp2_with (at_builtin;refine abg _ rfl _ _ 25 rfl base 139 i0 (.agg #[.int .i64 0,.string ⟨#[]⟩]) 2 24 underlying25 hi dK ez ek rfl (by decide) _ _ _ rfl eH.o ⟨vb,0,none⟩ 1 vc (ai a) rfl rfl HV.o (λu hu=>eU hu) ?c3 ?c4 qf ?_);case c3=>unfold maxLen;omega
 case c4=>omega
 intro v' w5 aG aA aU;have HO:=I aG;have Da:ag (v'≠ .slice none 0 0):=I (by simpa using aU);have HG:=I aA;clear aG aA aU;go_wp2;go_ret;exact ⟨v',rfl,by rw[cq];exact HO.o,Da.o,HG.o⟩
theorem Iv (L:List bE) (a:bE) (i base g n cap vb vc:Nat) (w:World) (hn:L.length=n) (hi:i<n) (l7:cap<n+1) (rE:n<=1000000) (cr:w.ownsRow base 139 2 (.slice (some ⟨g,0,none⟩) n cap) n (L.flatMap ai)) (hv:jR w vb 139 (ai a)) (qf:base<=w.heap.size):
 Calls prog 195 #[.slice (some ⟨g,0,none⟩) n cap,.int .i64 i,.slice (some ⟨vb,0,none⟩) 1 vc] w (pP ai 139 2 base g (n+1) (L.take i++a::L.drop i) w):=by
 obtain ⟨T,hB,hC,xy,nj,kd,sY⟩:=dH cr;unfold maxLen at nj;have jE: ∀x:bE,(ai x).length=2:=λ_=>rfl;have sZ: ∀x:bE,∀v∈ai x,v.oneCell'=true:=λx v hv=>eU hv;obtain ⟨i0,AN,dK,qd,zc⟩:=aaq oQ;have ja:(prog.info? 139).map (·.size)=some 2:=by rw[AN];simp[qd]
 have hold:(Builtin.firstCells i0.size i (.slice (some ⟨g,0,none⟩) i cap)).run prog w.drew= .ok ((L.take i).flatMap ai).toArray w.drew:=by
  rw[qd]
  exact run_firstCells_some w.drew 2 i ⟨g,0,none⟩ i cap ((L.take i).flatMap ai) (by rw[bp (k:=2) ai jE,aao,aaP (by omega)]) (λj v hj=>by
   rw[aaQ,hB.drew.cell,aan,gA ai L i,aaI,aaW (aal.1 hj).1];exact hj)
 obtain ⟨G,hG⟩: ∃G,G=grownCap w (n+1) cap 139:=⟨_,rfl⟩
 have TI:n+1<=G:=by rw[hG];exact grownCap_ge w _ _ _
 have Iw:G<=maxLen:=by rw[hG];exact grownCap_le_maxLen w (n+1) cap _ (by unfold maxLen;omega)
 obtain ⟨Z,hZ⟩: ∃Z:List Value,Z=(Builtin.zeroCells (Value.agg #[.int .i64 0,.string ⟨#[]⟩]).cells (n+1-i)++Builtin.zeroCells (Value.agg #[.int .i64 0,.string ⟨#[]⟩]).cells (G-(n+1))).toList:=⟨_,rfl⟩
 have Qw:Z.length=(G-i)*2:=by
  rw[hZ];simp[Builtin.zeroCells,Value.cells];omega
 obtain ⟨W1,eG⟩: ∃W1,W1=w.drew.alloc (.cells ((L.take i).flatMap ai++Z).toArray 139):=⟨_,rfl⟩
 have uu:(n:Int)+1-(i:Int)=((n+1-i:Nat):Int):=by omega
 have NE:i+(n+1-i)=n+1:=by omega
 have TJ: ∀ty,(Builtin.append_ #[25,3] ty #[.slice (some ⟨g,0,none⟩) i cap,.int .i64 ((n:Int)+1-(i:Int))]).run prog w= .ok (.slice (some ⟨w.heap.size,0,none⟩) (n+1) G) W1:=λty=>by
  have h:=Lib.run_append_grow_zeros (P:=prog) w 25 3 ty 139 i0 _ .i64 .i64 underlying25 underlying3 AN dK (some ⟨g,0,none⟩) i cap ((L.take i).flatMap ai) hold (n+1-i) (by omega) (by omega) (by omega) (by omega) (by rw[zc];omega) (by rw[zc,NE];exact growslice_fits l7 (by omega));rw[NE,<-hG]at h;rw[uu,h,eG,hZ]
  congr 3
  apply Array.ext';simp
 have kA:jR W1 w.heap.size 139 ((L.take i).flatMap ai++Z):=by
  rw[eG];exact ly w.drew _
 have mE:((L.take i).flatMap ai++Z).length=G*2:=by
  rw[aak,bp (k:=2) ai jE,aao,aaP (by omega),Qw];omega
 have iV:w.grownBy W1 none:=by
  rw[eG];exact ⟨rfl,rfl,rfl,by simp,λk hk _=>heap_alloc_old w.drew _ hk⟩
 have TK:g≠w.heap.size:=by have:=hB.lt;omega
 have XX:vb≠w.heap.size:=by have:=hv.lt;omega
 have Dc:jR W1 vb 139 (ai a):=hv.grown iV (by simp);obtain ⟨W2,im⟩: ∃W2,W2=W1.setCells w.heap.size (i*2) (ai a):=⟨_,rfl⟩
 have NF: ∀ty dc,(Builtin.copy_ #[25,25] ty #[.slice (some ⟨w.heap.size,i*2,none⟩) (n+1-i) dc,.slice (some ⟨vb,0,none⟩) 1 vc]).run prog W1= .ok (goInt 1) W2:=λty dc=>by
  have h:=ic (P:=prog) W1 25 25 ty 139 2 w.heap.size (i*2) (n+1-i) dc ⟨vb,0,none⟩ 1 vc (ai a) underlying25 ja (by rw[jE];simp only[Nat.min_def];split<;>omega)
   (λj v hj=>by rw[aaQ,Dc.cell,aan];exact hj)
   (λj hj=>kA.isSome (by rw[jE]at hj;rw[mE];omega)) (λj hj=>kA.free (by rw[jE]at hj;rw[mE];omega)) (sZ a)
  rw[h,im,show Nat.min 1 (n+1-i)=1 by simp only[Nat.min_def];split<;>omega];rfl
 have nl:=kA.set prog (i*2) (ai a) (by rw[mE,jE];omega) (sZ a);have tO:(splice ((L.take i).flatMap ai++Z) (i*2) (ai a)).length=G*2:=by rw[abx _ _ _ (by rw[mE,jE];omega),mE]
 have j5:=gP prog kA (i*2) (ai a) (by rw[mE,jE];omega) (sZ a);rw[<-im]at nl j5;have ND:jR W2.drew g 139 (L.flatMap ai++T):=((hB.grown iV (by simp)).grown j5 (by simpa using λe=>TK e.symm)).drew;obtain ⟨W3,EN⟩: ∃W3,W3=W2.drew.setCells w.heap.size ((i+1)*2) ((L.drop i).flatMap ai):=⟨_,rfl⟩
 have oy:((L.drop i).flatMap ai).length=(n-i)*2:=by rw[bp (k:=2) ai jE,aaS,hn]
 have NG: ∀ty dc sc,(Builtin.copy_ #[25,25] ty #[.slice (some ⟨w.heap.size,(i+1)*2,none⟩) (n+1-(i+1)) dc,.slice (some ⟨g,i*2,none⟩) (n-i) sc]).run prog W2.drew= .ok (goInt ((n-i:Nat):Int)) W3:=λty dc sc=>by
  have h:=ic (P:=prog) W2.drew 25 25 ty 139 2 w.heap.size ((i+1)*2) (n+1-(i+1)) dc ⟨g,i*2,none⟩ (n-i) sc ((L.drop i).flatMap ai) underlying25 ja (by rw[oy];simp only[Nat.min_def];split<;>omega)
   (λj v hj=>by
    rw[aaQ,ND.cell,gA ai L i,aaI,aaN (by rw[bp (k:=2) ai jE,aao,aaP (by omega)];omega),bp (k:=2) ai jE,aao,aaP (by omega),Nat.add_sub_cancel_left,aaW (aal.1 hj).1];exact hj)
   (λj hj=>nl.drew.isSome (by rw[oy]at hj;rw[tO];omega)) (λj hj=>nl.drew.free (by rw[oy]at hj;rw[tO];omega)) (gJ ai (λx v hv=>sZ x v hv) _)
  rw[h,EN,show Nat.min (n-i) (n+1-(i+1))=n-i by simp only[Nat.min_def];split<;>omega]
 have jQ:pP ai 139 2 base g (n+1) (L.take i++a::L.drop i) w (.returned (.slice (some ⟨w.heap.size,0,none⟩) (n+1) G)) W3:=by
  have Ix:=nl.drew.set prog ((i+1)*2) ((L.drop i).flatMap ai) (by rw[tO,oy];omega) (gJ ai (λx v hv=>sZ x v hv) _);have uI:=gP prog nl.drew ((i+1)*2) ((L.drop i).flatMap ai) (by rw[tO,oy];omega) (gJ ai (λx v hv=>sZ x v hv) _);rw[<-EN]at Ix uI;refine ⟨_,rfl,gz Ix (by rw[abx _ _ _ (by rw[tO,oy];omega),tO]) ?_ ?_ TI Iw qf,by simp,?_⟩
  ·rw[<-hn];exact qn ai jE L a Z i (by omega)
  ·rw[bp (k:=2) ai jE,aak,List.length_cons,aao,aaS]
   congr 1
   omega
  refine ⟨uI.os.trans (j5.os.trans iV.os),uI.tape.trans (j5.tape.trans iV.tape),uI.output.trans (j5.output.trans iV.output),aaB iV.size (aaB j5.size uI.size),λk hk gm=>?_⟩;have Qx:some k≠some w.heap.size:=λe=>by injection e;omega
  have rF:=iV.size;have Iy:=j5.size;have a1:=iV.block k hk (by simp);have a2:=j5.block k (by omega) Qx;have a3:=uI.block k (by show k<W2.heap.size;omega) Qx;exact a3.trans (a2.trans a1)
 have eB:=I jQ;unfold maxLen at Iw;have CQ:IntKind.i64.wrap ((i:Int)+1)=(i:Int)+1:=by rw[IntKind.wrap_i64];omega
 have Iy: ¬((i:Int)=(n:Int)):=by omega
 have TL:(cap:Int)<(n:Int)+1:=by omega
 have XY: ¬(G=i):=by omega
 have TM: ¬(G=i+1):=by omega
 have XZ: ¬(cap=i):=by omega
 have bw:(0:Int)<=(i:Int)+1:=by omega
 have iq:i<=n:=by omega
 have Ak:((i:Int)+1).toNat=i+1:=by omega
 have dB:(i:Int)<=(n:Int):=by omega
 have l8:(i:Int)+1<=(n:Int)+1:=by omega
 clear uu NE hold hG hZ Qw eG kA mE iV Dc im nl tO j5 ND EN oy jQ hB hC cr hv kd sY hn jE sZ ja AN dK qd zc;go_enter func195,ntmps195
 go_wp2_with (first
  |(at_builtin;refine Lib.wpList_append_run _ rfl _ _ _ _ rfl _ _ rfl rfl _ _ (TJ _) ?_)
  |(at_builtin;refine iu _ rfl _ _ 25 25 rfl _ _ rfl rfl (NF _ _) ?_))
 go_region_law (refine jC rfl _ _ 25 25 rfl (.slice (some ⟨w.heap.size,(i+1)*2,none⟩) (n+1-(i+1)) (G-(i+1))) (.slice (some ⟨g,i*2,none⟩) (n-i) (cap-i)) (by simp[Act.eval,Act.put]) (by simp[Act.eval,Act.put]) (NG _ _ _) ?_);go_wp2;go_ret;exact eB.o
theorem FO (L:List bE) (a:bE) (i base g n cap vb vc:Nat) (w:World) (hn:L.length=n) (hi:i<n) (l7:n+1<=cap) (rE:n<=1000000) (cr:w.ownsRow base 139 2 (.slice (some ⟨g,0,none⟩) n cap) n (L.flatMap ai)) (hv:jR w vb 139 (ai a)) (Lg:vb≠g):
 Calls prog 195 #[.slice (some ⟨g,0,none⟩) n cap,.int .i64 i,.slice (some ⟨vb,0,none⟩) 1 vc] w (pP ai 139 2 base g (n+1) (L.take i++a::L.drop i) w):=by
 obtain ⟨T,hB,hC,xy,nj,kd,sY⟩:=dH cr;have lB:=nj;unfold maxLen at nj;have jE: ∀x:bE,(ai x).length=2:=λ_=>rfl;have sZ: ∀x:bE,∀v∈ai x,v.oneCell'=true:=λx v hv=>eU hv;obtain ⟨i0,AN,dK,qd,zc⟩:=aaq oQ;have ja:(prog.info? 139).map (·.size)=some 2:=by rw[AN];simp[qd]
 have Dd:T.length=(cap-n)*2:=by rw[aak,sY]at hC;omega
 have TN: ∀lb cb,(callFunc 212 #[.slice (some ⟨vb,0,none⟩) 1 vc,.slice (some ⟨g,(i+1)*2,none⟩) lb cb]).run prog w= .ok (.value (.bool false)) w:=λlb cb=>by
  rw[run_callFunc_extern func212 (by kernel_rfl) (by kernel_rfl) (by kernel_rfl) (e:=Extern.SlicesOverlaps.overlaps #[25,25] #[4]) (by kernel_rfl),
   Lib.run_overlaps_apart w 25 4 139 underlying25 2 sizeOf139 ⟨vb,0,none⟩ ⟨g,(i+1)*2,none⟩ 1 vc lb cb Lg 139 139 2 (cap*2) (by unfold jR at hv;simp[World.shape?,hv,ai]) (by unfold jR at hB;simp[World.shape?,hB];simpa using hC) (by omega) (hv.free (by rw[jE];omega)) (by unfold jR at hv;simp[World.frozen?,hv])]
  rfl
 have oy:((L.drop i).flatMap ai).length=(n-i)*2:=by rw[bp (k:=2) ai jE,aaS,hn]
 obtain ⟨W1,eG⟩: ∃W1,W1=w.drew.setCells g ((i+1)*2) ((L.drop i).flatMap ai):=⟨_,rfl⟩
 have Lh:=gJ ai (P:=λv=>v.oneCell'=true) (λx v hv=>sZ x v hv) (L.drop i)
 have NH: ∀ty dc sc,(Builtin.copy_ #[25,25] ty #[.slice (some ⟨g,(i+1)*2,none⟩) (n+1-(i+1)) dc,.slice (some ⟨g,i*2,none⟩) (n+1-i) sc]).run prog w.drew= .ok (goInt ((n-i:Nat):Int)) W1:=λty dc sc=>by
  have h:=ic (P:=prog) w.drew 25 25 ty 139 2 g ((i+1)*2) (n+1-(i+1)) dc ⟨g,i*2,none⟩ (n+1-i) sc ((L.drop i).flatMap ai) underlying25 ja (by rw[oy];simp only[Nat.min_def];split<;>omega)
   (λj v hj=>by
    rw[aaQ,hB.drew.cell,gA ai L i,aaI,aaN (by rw[bp (k:=2) ai jE,aao,aaP (by omega)];omega),bp (k:=2) ai jE,aao,aaP (by omega),Nat.add_sub_cancel_left,aaW (aal.1 hj).1];exact hj)
   (λj hj=>hB.drew.isSome (by rw[oy]at hj;rw[hC];omega)) (λj hj=>hB.drew.free (by rw[oy]at hj;rw[hC];omega)) Lh
  rw[h,eG,show Nat.min (n+1-i) (n+1-(i+1))=n-i by simp only[Nat.min_def];split<;>omega]
 have kA:=hB.drew.set prog ((i+1)*2) ((L.drop i).flatMap ai) (by rw[hC,oy];omega) Lh;have mE:(splice (L.flatMap ai++T) ((i+1)*2) ((L.drop i).flatMap ai)).length=cap*2:=by rw[abx _ _ _ (by rw[hC,oy];omega),hC]
 have iV:=gP prog hB.drew ((i+1)*2) ((L.drop i).flatMap ai) (by rw[hC,oy];omega) Lh;rw[<-eG]at kA iV;have Dc:jR W1 vb 139 (ai a):=jR.grown hv.drew iV (by simpa using λe=>Lg e.symm);obtain ⟨W2,im⟩: ∃W2,W2=W1.setCells g (i*2) (ai a):=⟨_,rfl⟩
 have NI: ∀ty dc,(Builtin.copy_ #[25,25] ty #[.slice (some ⟨g,i*2,none⟩) (n+1-i) dc,.slice (some ⟨vb,0,none⟩) 1 vc]).run prog W1= .ok (goInt 1) W2:=λty dc=>by
  have h:=ic (P:=prog) W1 25 25 ty 139 2 g (i*2) (n+1-i) dc ⟨vb,0,none⟩ 1 vc (ai a) underlying25 ja (by rw[jE];simp only[Nat.min_def];split<;>omega)
   (λj v hj=>by rw[aaQ,Dc.cell,aan];exact hj)
   (λj hj=>kA.isSome (by rw[jE]at hj;rw[mE];omega)) (λj hj=>kA.free (by rw[jE]at hj;rw[mE];omega)) (sZ a)
  rw[h,im,show Nat.min 1 (n+1-i)=1 by simp only[Nat.min_def];split<;>omega];rfl
 have jQ:pP ai 139 2 base g (n+1) (L.take i++a::L.drop i) w (.returned (.slice (some ⟨g,0,none⟩) (n+1) cap)) W2:=by
  have nl:=kA.set prog (i*2) (ai a) (by rw[mE,jE];omega) (sZ a);have j5:=gP prog kA (i*2) (ai a) (by rw[mE,jE];omega) (sZ a);rw[<-im]at nl j5;refine ⟨_,rfl,gz nl (by rw[abx _ _ _ (by rw[mE,jE];omega),mE]) ?_ ?_ l7 lB kd,by simp,?_⟩
  ·rw[<-hn];exact oS ai jE L a T i (by omega) (by omega)
  ·rw[bp (k:=2) ai jE,aak,List.length_cons,aao,aaS]
   congr 1
   omega
  exact ll ⟨iV.os,iV.tape,iV.output,iV.size,iV.block⟩ j5
 have eB:=I jQ;have CQ:IntKind.i64.wrap ((i:Int)+1)=(i:Int)+1:=by rw[IntKind.wrap_i64];omega
 have Iy: ¬((i:Int)=(n:Int)):=by omega
 have TL: ¬((cap:Int)<(n:Int)+1):=by omega
 have bw:(0:Int)<=(i:Int)+1:=by omega
 have iq:i<=n:=by omega
 have TP:i<=n+1:=by omega
 have Ak:((i:Int)+1).toNat=i+1:=by omega
 have cL: ¬(cap=i+1):=by omega
 have dB:(i:Int)+1<=(n:Int)+1:=by omega
 have l8: ¬(cap=i):=by omega
 have zd:(i:Int)<=(n:Int)+1:=by omega
 clear oy eG Lh kA mE iV Dc im jQ hB hC cr hv kd sY hn jE sZ ja AN dK qd zc Dd lB;go_enter func195,ntmps195;go_wp2_with (simp only[TN]);go_region_law (refine jC rfl _ _ 25 25 rfl (.slice (some ⟨g,(i+1)*2,none⟩) (n+1-(i+1)) (cap-(i+1))) (.slice (some ⟨g,i*2,none⟩) (n+1-i) (cap-i)) (by simp[Act.eval,Act.put]) (by simp[Act.eval,Act.put]) (NH _ _ _) ?_);go_wp2_with (at_builtin;refine iu _ rfl _ _ 25 25 rfl _ _ rfl rfl (NI _ _) ?_);go_ret;exact eB.o
theorem Iz (L:List bE) (a:bE) (i base g n cap vb vc:Nat) (w:World) (hn:L.length=n) (hi:i<=n) (rE:n<=1000000) (cr:w.ownsRow base 139 2 (.slice (some ⟨g,0,none⟩) n cap) n (L.flatMap ai)) (hv:jR w vb 139 (ai a)) (Lg:vb≠g) (qf:base<=w.heap.size):
 Calls prog 195 #[.slice (some ⟨g,0,none⟩) n cap,.int .i64 i,.slice (some ⟨vb,0,none⟩) 1 vc] w (pP ai 139 2 base g (n+1) (L.take i++a::L.drop i) w):=by
 rcases abo i n with aI|eA
 ·by_cases l7:n+1<=cap
  ·exact FO L a i base g n cap vb vc w hn aI l7 rE cr hv Lg
  exact Iv L a i base g n cap vb vc w hn aI (by omega) rE cr hv qf
 obtain rfl:i=n:=by omega
 have e:L.take i++a::L.drop i=L++[a]:=by rw[aaJ (by omega),abB (by omega)]
 rw[e];exact Iu L a base g i cap vb vc w hn rE cr hv qf
theorem yi {P:List aV} {k:Nat} {e:aV} (hP:gV P) (hk:P[k]?=some e):P.take (k+1)=P.take k++[e]/\gV (P.take k++[e]):=by
 obtain ⟨h1,h2⟩:=aal.1 hk;have e1:P.take (k+1)=P.take k++[e]:=by rw[aaG h1,h2]
 refine ⟨e1,?_⟩;rw[<-e1];exact hP.sublist (List.take_sublist _ _)
theorem AO {S R:List bE} {P:List aV} {k:Nat} {e:aV} (hP:gV P) (hk:P[k]?=some e) (hB:cP S (P.take k) R):bC R e.id=bC S e.id:=by
 rw[hB.find,C7];intro a ha;have h:=(yi hP hk).2;unfold gV at h;rw[aaY]at h;have:=h.2.2 a ha e (by simp);omega
theorem NJ {S R:List bE} {P:List aV} {k:Nat} {e:aV} (hP:gV P) (hk:P[k]?=some e) (hB:cP S (P.take k) R) (hf:(bC S e.id).toList=e.dA.toList) (ho:e.dA.toList≠[]): ∃j,∃h:j<R.length,oR (λa=>decide (a.id=e.id)) R=j/\R[j].id=e.id:=by
 rcases yg (λa=>decide (a.id=e.id)) R with ⟨j,hj,h1,h2,_⟩|⟨_,hn⟩
 ·exact ⟨j,hj,h1,aa3 h2⟩
 exfalso
 have h1:=AO hP hk hB;rw[iU (λa ha=>of_decide_eq_false (hn a ha))]at h1;apply ho;rw[<-hf,<-h1,abk]
theorem Qy {S R:List bE} {P:List aV} {k:Nat} {e:aV} (hP:gV P) (hk:P[k]?=some e) (hB:cP S (P.take k) R) (hf:(bC S e.id).toList=e.dA.toList) (ho:e.dA.toList=[]): ∀a∈R,a.id≠e.id:=by
 intro a ha hi;have h1:=AO hP hk hB;rw[<-hi,FD hB.mC.lS ha,hi]at h1;have:=(oN (hB.mC.all a ha)).2.2.1;rw[h1,hf,ho]at this;revert this;decide
def kB (q:Int) (R:List bE):Nat:=(R.findIdx? (λa=>decide (q<a.id))).getD R.length
theorem IA (q:Int) (R:List bE):kB q R<=R.length:=by
 unfold kB;rcases hf:R.findIdx? (λa=>decide (q<a.id))with _|k
 ·rw[hf];exact aad _
 obtain ⟨h1,_⟩:=abI.1 hf;rw[hf];exact abi h1
theorem FP (q:Int) (R:List bE):(oR (λa=>decide (q<a.id)) R<0/\kB q R=R.length)\/(oR (λa=>decide (q<a.id)) R=(kB q R:Int)):=by
 unfold kB oR;rcases hf:R.findIdx? (λa=>decide (q<a.id))with _|k
 ·left;rw[hf];exact ⟨by simp,rfl⟩
 right;rw[hf];rfl
theorem AP {q:Int} {R:List bE} (hn: ∀a∈R,a.id≠q): ∀c∈R.take (kB q R),c.id<q:=by
 intro c hc;obtain ⟨j,hj,rfl⟩:=abh.1 hc;rw[aao]at hj;rw[List.getElem_take];have yb:j<R.length:=by omega
 have h1:=hn R[j] (aax yb)
 have h2: ¬q<R[j].id:=by
  unfold kB at hj;rcases hf:R.findIdx? (λa=>decide (q<a.id))with _|k
  ·have:=ab2.1 hf R[j] (aax yb);simpa using this
  obtain ⟨_,_,h3⟩:=abI.1 hf;rw[hf]at hj;have:=h3 j (by simp at hj;omega);simpa using this
 omega
theorem AQ {q:Int} {R:List bE} (hr:iL R): ∀c∈R.drop (kB q R),q<c.id:=by
 intro c hc;unfold kB at hc;rcases hf:R.findIdx? (λa=>decide (q<a.id))with _|k
 ·rw[hf,Option.getD_none,List.drop_length]at hc;cases hc
 obtain ⟨h1,h2,_⟩:=abI.1 hf;rw[hf,Option.getD_some]at hc;obtain ⟨j,hj,rfl⟩:=abh.1 hc;rw[aaS]at hj;rw[List.getElem_drop];have h2:q<R[k].id:=aa3 h2;by_cases KJ:j=0
 ·subst KJ;exact h2
 have:=(abn.1 hr) k (k+j) h1 (by omega) (by omega);omega
theorem ze (q:Int) (B:Nat) (w:World) (hB:B<w.heap.size) (hc:w.cell? ⟨B,1,none⟩=some (.int .i64 q)):Ir 194 #[.pointer (some ⟨B,0,none⟩)] (λa=>decide (q<a.id)) w:=by
 intro W x hb;have x0:=(hb.cell (p:=⟨B,1,none⟩) hB).trans hc;have aI:=aaL W ⟨B,1,none⟩ x0;have y0:=(((aae W.heap.size W).alloc (aad _) (.cells #[.int .i64 x.id,.string x.text] 139)).cell (p:=⟨B,1,none⟩) aI).trans x0;obtain ⟨r,hr⟩: ∃r,decide (q<x.id)=r:=⟨_,rfl⟩
 show Calls prog 194 #[.agg #[.int .i64 x.id,.string x.text],.pointer (some ⟨B,0,none⟩)] W (bT (.bool (decide (q<x.id))) W)
 have HR:=I hr;cases r with
 |true=>
  have h1:q<x.id:=aa3 hr;rw[hr];clear hr x0 hb;go_enter func194,ntmps194;go_wp2;go_ret;exact ⟨rfl,(aae W.heap.size W).alloc (aad _) _⟩
 |false=>
  have h1: ¬q<x.id:=of_decide_eq_false hr;rw[hr];clear hr x0 hb;go_enter func194,ntmps194;go_wp2;go_ret;exact ⟨rfl,(aae W.heap.size W).alloc (aad _) _⟩
theorem vh: ∀args w,(callFunc 194 args).run prog w= .ok (.enter 194 args) w:=enters_of func194 (by kernel_rfl) rfl
def EO (S:List bE) (P:List aV) (w:World) (e:Ending) (w':World):Prop:=
 ∃v,e= .returned (.tuple #[v,.bool (fT S P).isSome])/\(∀R,fT S P=some R->ay ai R w.heap.size w' v)/\(∃A n c,v= .slice A n c)/\Below w.heap.size w w'
structure nT (S:List bE) (P:List aV) (k:Nat) (R:List bE):Prop where
 NK:cP S (P.take k) R
 len:R.length<=S.length+k
 fit: ∀j (h:j<P.length),j<k->(bC S P[j].id).toList=P[j].dA.toList
theorem nT.start {S:List bE} {P:List aV} (h:jD S):nT S P 0 S:=⟨cP.nil h,by omega,λj _ hj=>absurd hj (aa' _)⟩
theorem nT.step {S R R':List bE} {P:List aV} {k:Nat} (h:nT S P k R) (hk:k<P.length) (hf:(bC S P[k].id).toList=P[k].dA.toList) (hB:cP S (P.take k++[P[k]]) R') (hl:R'.length<=R.length+1):nT S P (k+1) R':=
 ⟨by rw[aaG hk];exact hB,by have:=h.len;omega,λj hj KI=>by
  by_cases e:j=k
  ·subst e;exact hf
  exact h.fit j hj (by omega)⟩
theorem nT.done {S R:List bE} {P:List aV} (h:nT S P P.length R) (hS:jD S) (hP:bF P=true):fT S P=if R.length<=8 then some R else none:=by
 refine FI hS hP (rD.2 (λe he=>?_)) (by have:=h.NK;rwa [aa1]at this);obtain ⟨j,hj,rfl⟩:=abh.1 he;have:=h.fit j hj hj;rw[<-gO (bC S P[j].id),this,gO]
theorem IB {S:List bE} {P:List aV} {k:Nat} (hk:k<P.length) (h:(bC S P[k].id).toList≠P[k].dA.toList):fits S P=false:=by
 rw[abF];intro hf;exact h (by rw[rD.1 hf _ (aax hk)])
theorem zf {α:Type} {L:List α} {j:Nat} (h:j<L.length):L=L.take j++L[j]::L.drop (j+1):=by
 rw[List.getElem_cons_drop,abG]
theorem IC {w:World} {base g cap:Nat} {A B:List bE} {a:bE} (x:ByteArray) (h:w.ownsRow base 139 2 (.slice (some ⟨g,0,none⟩) (A++a::B).length cap) (A++a::B).length ((A++a::B).flatMap ai)):
 (w.setCell ⟨g,A.length*2+1,none⟩ (.string x)).ownsRow base 139 2 (.slice (some ⟨g,0,none⟩) (A++a::B).length cap) (A++a::B).length ((A++(⟨a.id,x⟩:bE)::B).flatMap ai):=by
 obtain ⟨T,hB,hC,xy,nj,kd,sY⟩:=dH h;have Li:(A.flatMap ai).length=A.length*2:=bp (k:=2) ai (λ_=>rfl) A;have eC:(A++a::B).flatMap ai++T=(A.flatMap ai++[.int .i64 a.id])++(.string a.text::(B.flatMap ai++T)):=by simp[ai]
 have hs:=hB.set prog (A.length*2+1) [.string x] (by rw[eC,aak,aak,Li];simp) (λv hv=>by rw[aas]at hv;subst hv;rfl)
 have e1:splice ((A++a::B).flatMap ai++T) (A.length*2+1) [.string x]=(A++(⟨a.id,x⟩:bE)::B).flatMap ai++T:=by
  have eD:(A.flatMap ai++[.int .i64 a.id])++(.string a.text::(B.flatMap ai++T))=(A.flatMap ai++[.int .i64 a.id,.string a.text])++(B.flatMap ai++T):=by simp
  rw[eC];unfold splice;rw[abm (by rw[aak,Li];rfl),eD,List.drop_left' (by rw[aak,Li];rfl)];simp[ai]
 have tO:((A++(⟨a.id,x⟩:bE)::B).flatMap ai).length=(A++a::B).length*2:=by rw[bp (k:=2) ai (λ_=>rfl)];simp
 rw[e1]at hs;exact gz hs (by rw[aak,tO,<-sY,<-aak];exact hC) (by rw[abm tO]) tO xy nj kd
theorem FQ {w:World} {base g n cap j:Nat} {R:List bE} (x:ByteArray) (hn:R.length=n) (hj:j<R.length) (h:w.ownsRow base 139 2 (.slice (some ⟨g,0,none⟩) n cap) n (R.flatMap ai)):
 (w.setCell ⟨g,j*2+1,none⟩ (.string x)).ownsRow base 139 2 (.slice (some ⟨g,0,none⟩) n cap) n ((R.take j++(⟨R[j].id,x⟩:bE)::R.drop (j+1)).flatMap ai):=by
 have e:=zf hj;have hl:(R.take j).length=j:=by rw[aao];omega
 have rq:(R.take j++R[j]::R.drop (j+1)).length=n:=by rw[<-e];exact hn
 have:=IC (w:=w) (base:=base) (g:=g) (cap:=cap) (A:=R.take j) (B:=R.drop (j+1)) (a:=R[j]) x (by rw[rq,<-e];exact h);rw[hl,rq]at this;exact this
theorem NL {w:World} {base g n cap j:Nat} {R:List bE} (hn:R.length=n) (hj:j<R.length) (h:w.ownsRow base 139 2 (.slice (some ⟨g,0,none⟩) n cap) n (R.flatMap ai)):w.cell? ⟨g,j*2+1,none⟩=some (.string R[j].text)/\w.frozen? ⟨g,j*2+1,none⟩=false:=by
 obtain ⟨T,hB,hC,xy,nj,kd,sY⟩:=dH h;refine ⟨?_,hB.free (by rw[aak];omega)⟩;rw[hB.cell,aaW (by omega)];exact l5 ai (size:=2) (λ_=>rfl) R j R[j] 1 _ (aag hj) rfl (by omega)
theorem AR (S:List bE) (P:List aV) (w:World) (vs vp:Value) (hS:iT w w.heap.size vs S) (hP:bg w w.heap.size vp P) (cy:cd S=true) (hp:bF P=true):
 Calls prog 165 #[vs,vp] w (EO S P w):=by
 have Sz: ∀(fn:Fn) (first cap:Array Value) (w:World),(Instr.makeFunc fn first cap).run prog w= .ok (.func fn first cap) w:=λ_ _ _ _=>rfl;have X0:=I hS;have HG:=I (jD.of cy);have SC:=I ((fO P).1 hp);have TQ:=I hp;have Wg:=lz cy;have X1:=eZ hp;have bW:=(aae w.heap.size w).alloc (aad _) (.cells #[] 139);have FR:=I (cz.on hS (Pl.stays _) bW bW.size);have jT:=I bW;have cN:(w.alloc (.cells #[] 139)).ownsRow w.heap.size 139 2 (.slice (some ⟨w.heap.size,0,none⟩) 0 0) 0 []:=by simpa using aaz w #[] 0 (aad _) (aaf _) rfl
 have dY:=I cN;obtain ⟨A,c,rfl,hc,hm,cn⟩:=hP;unfold maxLen at hm;have rn:P.length<=9223372036854775807:=by omega
 have gH:=I cn;obtain ⟨T,tc,rfl,_⟩:=hS;obtain ⟨i0,hi,dK,ez,ek⟩:=aaq oQ;clear cn cy hp bW cN;go_enter func165,ntmps165;go_wp2_with (at_builtin;refine eI ai rfl _ _ 25 rfl w.heap.size 139 i0 (.agg #[.int .i64 0,.string ⟨#[]⟩]) 2 24 underlying25 hi dK ez ek rfl (by decide) _ _ _ rfl dY.o _ S _ rfl FR.o (λ_=>rfl) (λy u hu=>eU hu) ?c3 ?c4 jT.o.size ?_);case c3=>unfold maxLen;omega
 case c4=>omega
 intro o1 w1 fe gC uv;have gW:ag (w1.ownsRow w.heap.size 139 2 o1 S.length (S.flatMap ai)):=I (by simpa using fe);have da:ag (Below w.heap.size w w1):=I (jT.o.grown gC jT.o.size (λj hj=>(dY.o.lt j hj).1));have TR:ag (o1≠ .slice none 0 0):=I (by simpa using uv);clear fe gC uv;go_wp2;go_loopw [6,16] (λo i wr=> ∃(k:Nat) (R:List bE),i= .int .i64 (k:Int)/\k<=P.length/\wr.ownsRow w.heap.size 139 2 o R.length (R.flatMap ai)/\o≠ .slice none 0 0/\nT S P k R/\Below w.heap.size w wr) (λ_ i _=>P.length-(intOf i).toNat);case atStart=>exact ⟨0,S,rfl,aaf _,gW.o,TR.o,nT.start HG.o,da.o⟩
 case round=>
  obtain ⟨k,R,rfl,hk,cr,nm,NM,hb⟩:=hrel;obtain ⟨g,cap,rfl,SD,nj⟩:=bG cr nm;unfold maxLen at nj;have eH:=I cr;have AU:=I NM;have HB:=I hb;have hRl:=NM.len;have SE:=I (cr.lt g rfl);clear cr nm NM;by_cases aI:k<P.length
  ·obtain ⟨b,off,rfl,bD,aC⟩:=gH.o (by omega);have aH:P[k]?=some P[k]:=aag aI;obtain ⟨c0,c1,c2,c3⟩:=ln aC aH;have x0:=(hb.cell (p:=⟨b,off+k*4,none⟩) bD).trans c0;have x1:=(hb.cell (p:=⟨b,off+k*4+1,none⟩) bD).trans c1;have x2:=(hb.cell (p:=⟨b,off+k*4+2,none⟩) bD).trans c2;have x3:=(hb.cell (p:=⟨b,off+k*4+3,none⟩) bD).trans c3;have NN:=I aH;have SF:=I (SC.o.1 _ (aax aI));have cB:=I (IB (S:=S) aI);have ID:=I (λ(R':List bE)=>AU.o.step (R':=R') aI);have FT:=I (yi SC.o.2.1 aH);have Qz:=I (NJ SC.o.2.1 aH AU.o.NK);have hY:=I (Qy SC.o.2.1 aH AU.o.NK);clear aH aC c0 c1 c2 c3 hb;generalize P[k]=e at*;go_upto_region 5 with (fail)
   obtain ⟨W,hW⟩: ∃W:World,W=wr.alloc (.cells #[.int .i64 e.kind,.int .i64 e.id,.string e.dA,.string e.new] 174):=⟨_,rfl⟩
   have QA:Below wr.heap.size wr W:=by rw[hW];exact (aae _ _).alloc (aad _) _
   have bW:=HB.o.trans (QA.mono HB.o.size);have y0:W.cell? ⟨wr.heap.size,0,none⟩=some (.int .i64 e.kind):=by rw[hW];simp[go_sem]
   have y1:W.cell? ⟨wr.heap.size,1,none⟩=some (.int .i64 e.id):=by rw[hW];simp[go_sem]
   have y2:W.cell? ⟨wr.heap.size,2,none⟩=some (.string e.dA):=by rw[hW];simp[go_sem]
   have y3:W.cell? ⟨wr.heap.size,3,none⟩=some (.string e.new):=by rw[hW];simp[go_sem]
   rw[<-hW];have z1:=λx:ar W=>x.cell y1;have z2:=λx:ar W=>x.cell y2;have HT:ag (∀x:ar W,Calls prog 190 #[.slice T S.length tc,.int .i64 e.id] x.val (bT (.string (bC S e.id)) x.val)):=I (λx=>Db S e.id x.val _ (cz.on X0.o (Pl.stays _) (bW.trans (x.ok.mono bW.size)) (bW.trans (x.ok.mono bW.size)).size));clear hW x0 x1 x2 x3;by_cases iS:(bC S e.id).toList=e.dA.toList
   ·have e1:((bC S e.id).toList==e.dA.toList)=true:=by simp[iS]
    have js:=I iS;generalize bC S e.id=F at HT e1;clear iS;refine bj (by kernel_rfl) (by kernel_rfl) ?_
    repeat (go_big_quiet_step ((go_at_call 190;exact aq (HT.o _))))
    refine aai ?_;rintro _ ⟨y,rfl⟩;have eT:=I (bW.trans (y.ok.mono bW.size));have EP:=I (aT eH.o (QA.trans (y.ok.mono QA.size)));have u0:=y.cell y0;have u1:=y.cell y1;have u2:=y.cell y2;have u3:=y.cell y3;have FU:=I (tV R e.id y.val _ (cz.bI ai (λ_=>rfl) EP.o));have X2:w.heap.size<=wr.heap.size:=HB.o.size;clear y0 y1 y2 y3 z1 z2 HT e1 bW QA;have zg:=gy SF.o;rcases zg.2.2 with ⟨rc,tU,kM⟩|⟨rc,tU,kM⟩|⟨rc,tU,kM⟩
    ·
     have q2:(e.kind==2)=false:=by simp[rc]
     have q3:(e.kind==3)=false:=by simp[rc]
     have HA:=I (AP (hY.o js.o (by rw[tU,abk])));have Wh:=I (AQ (q:=e.id) AU.o.NK.mC.lS);have oz:=I (IA e.id R);have QB:=I (FP e.id R);have vi:ag (nT S P (k+1) (R.take (kB e.id R)++⟨e.id,e.new⟩::R.drop (kB e.id R))):=I (ID.o _ js.o (cP.add (by rw[abG];exact AU.o.NK) FT.o.2 SF.o rc HA.o Wh.o) (by simp;omega));generalize oR (λa=>decide (a.id=e.id)) R=z0 at FU;have sG:=oz.o;have SG:=QB.o;clear zg rc tU kM;go_wp2_with (fail);refine (FU.o).mono ?_;rintro e' w2 ⟨rfl,cL⟩;have dy:=I (eT.o.trans (cL.mono eT.o.size));have l9:=I (aT EP.o cL);have IE:wr.heap.size<y.val.heap.size:=aaL y.val ⟨wr.heap.size,0,none⟩ u0;have v0:=(cL.cell (p:=⟨wr.heap.size,0,none⟩) IE).trans u0;have v1:=(cL.cell (p:=⟨wr.heap.size,1,none⟩) IE).trans u1;have v3:=(cL.cell (p:=⟨wr.heap.size,3,none⟩) IE).trans u3;have Lj:wr.heap.size<w2.heap.size:=aaL w2 ⟨wr.heap.size,0,none⟩ v0;have SH:=I (vg R w2 _ (cz.bI ai (λ_=>rfl) l9.o) 194 #[.pointer (some ⟨wr.heap.size,0,none⟩)] (λa=>decide (e.id<a.id)) (ze e.id wr.heap.size w2 Lj v1) vh);generalize oR (λa=>decide (e.id<a.id)) R=z1 at SH SG;generalize X3:kB e.id R=pl at sG SG vi;clear cL u0 u1 u2 u3 IE QB oz HA Wh X3;go_wp2_with (fail);refine (SH.o).mono ?_;rintro e' w3 ⟨rfl,dB⟩;have dI:=I (dy.o.trans (dB.mono dy.o.size));have yj:=I (aT l9.o dB);have x1:=(dB.cell (p:=⟨wr.heap.size,1,none⟩) Lj).trans v1;have x3:=(dB.cell (p:=⟨wr.heap.size,3,none⟩) Lj).trans v3
     have uI:g<w3.heap.size:=by
      obtain ⟨T',TS,_⟩:=dH yj.o;exact TS.lt
     have uw:=dI.o.size;have rG:=I (Iz R ⟨e.id,e.new⟩ pl w.heap.size g R.length cap w3.heap.size 1 (w3.alloc (.cells #[.int .i64 e.id,.string e.new] 139)) rfl sG (by omega) (yj.o.alloc _) (ly w3 _) (by omega) (aS uw));clear dB v0 v1 v3 Lj;rcases SG with ⟨vj,TT⟩|hz
     ·have Hh:z1<0:=vj;subst TT;clear vj sG;go_wp2_with (fail);refine (rG.o).mono ?_;rintro e' w4 ⟨v4,rfl,AV,NP,EQ⟩;have IF:=I AV;have kC:=I ((dI.o.alloc uw (.cells #[.int .i64 e.id,.string e.new] 139)).trans (gx EQ SE.o.1 (aS uw)));clear AV EQ;go_wp2;go_roundw;case rel=>exact ⟨k+1,R.take R.length++⟨e.id,e.new⟩::R.drop R.length,by go_num,by omega,(by rw[show (R.take R.length++(⟨e.id,e.new⟩:bE)::R.drop R.length).length=R.length+1 by simp];exact IF.o),NP,vi.o,kC.o⟩
      case measure=>simp[intOf];omega
     subst hz;have Hh: ¬((pl:Int)<0):=by omega
     go_wp2_with (fail);refine (rG.o).mono ?_;rintro e' w4 ⟨v4,rfl,AV,NP,EQ⟩;have IF:=I AV;have kC:=I ((dI.o.alloc uw (.cells #[.int .i64 e.id,.string e.new] 139)).trans (gx EQ SE.o.1 (aS uw)));clear AV EQ;go_wp2;go_roundw;case rel=>exact ⟨k+1,R.take pl++⟨e.id,e.new⟩::R.drop pl,by go_num,by omega,(by rw[show (R.take pl++(⟨e.id,e.new⟩:bE)::R.drop pl).length=R.length+1 by simp;omega];exact IF.o),NP,vi.o,kC.o⟩
     case measure=>simp[intOf];omega
    ·
     have q2:(e.kind==2)=true:=by simp[rc]
     obtain ⟨j,hj,hz,hid⟩:=Qz.o js.o (uH tU);have vi:ag (nT S P (k+1) (R.take j++R.drop (j+1))):=I (ID.o _ js.o (cP.drop (a:=R[j]) (by rw[<-zf hj];exact AU.o.NK) FT.o.2 SF.o rc hid) (by simp;omega));rw[hz]at FU;have PJ:(j:Int)<=1000:=by omega
     clear zg rc tU kM hz hid;go_wp2_with (fail);refine (FU.o).mono ?_;rintro e' w2 ⟨rfl,cL⟩;have dy:=I (eT.o.trans (cL.mono eT.o.size));have IE:wr.heap.size<y.val.heap.size:=aaL y.val ⟨wr.heap.size,0,none⟩ u0;have v0:=(cL.cell (p:=⟨wr.heap.size,0,none⟩) IE).trans u0;have TU:=I (It R j w.heap.size g R.length cap w2 rfl hj (by omega) (aT EP.o cL));clear cL u0 u1 u2 u3 IE;go_wp2_with (fail);refine (TU.o).mono ?_;rintro e' w3 ⟨rfl,Ms,uI⟩;have yj:=I Ms;have dI:=I (dy.o.grown uI dy.o.size (λr hr=>by injection hr with hr;subst hr;exact SE.o.1));clear Ms uI;go_wp2;go_roundw;case rel=>exact ⟨k+1,R.take j++R.drop (j+1),by go_num,by omega,(by rw[show (R.take j++R.drop (j+1)).length=R.length-1 by simp;omega];exact yj.o),(by simp),vi.o,dI.o⟩
     case measure=>simp[intOf];omega
    
    have q2:(e.kind==2)=false:=by simp[rc]
    have q3:(e.kind==3)=true:=by simp[rc]
    obtain ⟨j,hj,hz,hid⟩:=Qz.o js.o (uH tU);have vi:ag (nT S P (k+1) (R.take j++⟨R[j].id,e.new⟩::R.drop (j+1))):=I (ID.o _ js.o (cP.turn (a:=R[j]) (by rw[<-zf hj];exact AU.o.NK) FT.o.2 SF.o rc hid) (by simp;omega));rw[hz]at FU;have PJ:(j:Int)<=1000:=by omega
    have hjr:(j:Int)<(R.length:Int):=by omega
    clear zg rc tU kM hz hid;go_wp2_with (fail);refine (FU.o).mono ?_;rintro e' w2 ⟨rfl,cL⟩;have dy:=I (eT.o.trans (cL.mono eT.o.size));have IE:wr.heap.size<y.val.heap.size:=aaL y.val ⟨wr.heap.size,0,none⟩ u0;have v0:=(cL.cell (p:=⟨wr.heap.size,0,none⟩) IE).trans u0;have v3:=(cL.cell (p:=⟨wr.heap.size,3,none⟩) IE).trans u3;have aY:=aT EP.o cL;obtain ⟨p0,f0⟩:=NL rfl hj aY;have yj:=I (FQ e.new rfl hj aY);have TV:=SE.o.1;have dI:=I (dy.o.setCell (p:=⟨g,j*2+1,none⟩) TV (.string e.new));clear cL u0 u1 u2 u3 IE aY;go_wp2;go_roundw;case rel=>exact ⟨k+1,R.take j++⟨R[j].id,e.new⟩::R.drop (j+1),by go_num,by omega,(by rw[show (R.take j++(⟨R[j].id,e.new⟩:bE)::R.drop (j+1)).length=R.length by simp;omega];exact yj.o),(by simp),vi.o,dI.o⟩
    case measure=>simp[intOf];omega
   have e1:((bC S e.id).toList==e.dA.toList)=false:=by simp[iS]
   have HN:=I (yf (cB.o iS));generalize bC S e.id=F at HT e1;clear iS;refine bj (by kernel_rfl) (by kernel_rfl) ?_
   repeat (go_big_quiet_step ((go_at_call 190;exact aq (HT.o _))))
   refine aai ?_;rintro _ ⟨y,rfl⟩;have eT:=I (bW.trans (y.ok.mono bW.size));clear y0 y1 y2 y3 z1 z2 HT e1 bW QA;go_wp2;go_ret2;exact ⟨_,by rw[HN.o];rfl,λR' tW=>(by rw[HN.o]at tW;cases tW),⟨_,_,_,rfl⟩,eT.o⟩
  have eA: ¬(k:Int)<(P.length:Int):=by omega
  obtain rfl:k=P.length:=by omega
  have HD:=I (AU.o.done HG.o TQ.o);have zh:ag (ay ai R w.heap.size wr (.slice (some ⟨g,0,none⟩) R.length cap)):=I (ay.bI ai (size:=2) (λ_=>rfl) eH.o);clear aI hk;by_cases h8:R.length<=8
  ·have e8:decide ((R.length:Int)<=8)=true:=by simp;omega
   rw[aaj h8]at HD;clear h8;go_wp2;go_ret2;exact ⟨_,by rw[HD.o];rfl,λR' tW=>(by rw[HD.o]at tW;injection tW with tW;subst tW;exact zh.o),⟨_,_,_,rfl⟩,HB.o⟩
  have e8:decide ((R.length:Int)<=8)=false:=by simp;omega
  rw[aah h8]at HD;clear h8;go_wp2;go_ret2;exact ⟨_,by rw[HD.o];rfl,λR' tW=>(by rw[HD.o]at tW;cases tW),⟨_,_,_,rfl⟩,HB.o⟩
theorem IG {a b:ByteArray} (h:a.toList=b.toList):a=b:=by rw[<-gO a,<-gO b,h]
theorem IH {x y:aV} (h1:x.kind=y.kind) (h2:x.id=y.id) (h3:x.dA.toList=y.dA.toList) (h4:x.new.toList=y.new.toList):x=y:=by
 obtain ⟨k,i,t,u⟩:=x;obtain ⟨l,j,t',u'⟩:=y;simp only at h1 h2 h3 h4;rw[h1,h2,IG h3,IG h4]
theorem lC {p:List aV} (h:bF p=true):bS p:=λe he=>by
 obtain ⟨_,_,h1,h2⟩:=yX (((fO p).1 h).1 e he);have e1:e.dA.toList.length=e.dA.size:=by rw[abk];simp
 have e2:e.new.toList.length=e.new.size:=by rw[abk];simp
 unfold mY maxLen;omega
def QC {α:Type} (xs ys:List α) (w:World) (e:Ending) (w':World):Prop:= ∃r:Bool,e= .returned (.bool r)/\(r=true↔xs=ys)/\Below w.heap.size w w'
def aeq (B:Nat) (w:World) (b k:Nat) (e:Ending) (w':World):Prop:=
 ∃v L,e= .returned v/\ay ai L w.heap.size w' v/\cd L=true/\Src B w' b k/\iJ b w w'
structure yk (L:List bE) (d:Int):Prop where
 lS:iL L
 all: ∀a∈L,1<=a.id/\a.id<=d/\bP a.text.toList=true
 d0:0<=d
 d1:d<=2*L.length
theorem yk.nil:yk [] 0:=⟨List.Pairwise.nil,λa h=>(by cases h),by omega,by simp⟩
theorem yk.ok {L:List bE} {d:Int} (h:yk L d) (h8:L.length<=8):cd L=true:=by
 rw[lA];refine ⟨λa ha=>?_,h.lS,h8⟩;obtain ⟨h1,h2,h3⟩:=h.all a ha;have:=h.d1;unfold jf;rw[ki h1 (by omega),h3];rfl
theorem yk.last {L:List bE} {a:bE} {d:Int} (h:yk (L++[a]) d) (h8:(L++[a]).length<=8):cd (L++[⟨99,a.text⟩])=true:=by
 rw[lA];have hr:=h.lS;have hd:=h.d1;unfold iL at hr;rw[aaY]at hr;refine ⟨λx hx=>?_,?_,by simpa using h8⟩
 ·rcases aau.1 hx with hx|hx
  ·obtain ⟨h1,h2,h3⟩:=h.all x (abr _ hx);unfold jf;rw[ki h1 (by omega),h3];rfl
  rw[aas]at hx;subst hx;obtain ⟨_,_,h3⟩:=h.all a (by simp);unfold jf;rw[h3];rfl
 unfold iL;rw[aaY];refine ⟨hr.1,by simp,λx hx y hy=>?_⟩;rw[aas]at hy;subst hy;obtain ⟨h1,h2,h3⟩:=h.all x (abr _ hx);show x.id<99
 omega
def ad1 (B:Nat) (w:World) (b k:Nat) (e:Ending) (w':World):Prop:=
 ∃v P,e= .returned v/\ay ah P w.heap.size w' v/\bF P=true/\Src B w' b k/\iJ b w w'
structure qE (P:List aV) (q:Nat):Prop where
 lS:gV P
 all: ∀a∈P,dE a=true/\a.id<q
 len:P.length+1<=q
theorem qE.nil:qE [] 1:=⟨List.Pairwise.nil,λa h=>(by cases h),by simp⟩
theorem qE.skip {P:List aV} {q:Nat} (h:qE P q):qE P (q+1):=⟨h.lS,λa ha=>⟨(h.all a ha).1,by have:=(h.all a ha).2;omega⟩,by have:=h.len;omega⟩
theorem qE.ok {P:List aV} (h:qE P 17):bF P=true:=by
 rw[fO];exact ⟨λa ha=>(h.all a ha).1,h.lS,by have:=h.len;omega⟩
theorem kN {w:World} {o:Obj} {cs:List Value} {T:TypeId} {j:Nat} {u:Value} (h:cs[j]?=some u):((w.alloc o).alloc (.cells cs.toArray T)).cell? ((⟨w.heap.size+1,0,none⟩:Addr).add j)=some u:=by
 have h:=fS (w:=w.alloc o) (T:=T) h
 rwa [show (w.alloc o).heap.size=w.heap.size+1 by simp]at h
def ER (x y:aV):Bool:=x.kind==y.kind&&x.id==y.id&&x.dA.toList==y.dA.toList&&x.new.toList==y.new.toList
theorem s' {x y:aV}:ER x y=true↔x=y:=by
 unfold ER;constructor
 ·intro h;simp only[aay,ajZ]at h;exact IH h.1.1.1 h.1.1.2 h.1.2 h.2
 rintro rfl;simp
def II (Q:List aV) (a:aV):Bool:=Qu Q a.id&&!(ER a (bQ Q a.id))
def yl (P Q:List aV):List Int:=(P.filter (II Q)).map (·.id)
theorem cf (z:Int) {u:Value} (h:u∈ak z):u.oneCell'=true:=by
 unfold ak at h;rw[aas]at h;subst h;rfl
def xA (L:List aV) (x:aV):Bool:=L.any (ER x)
theorem rH {L:List aV} {x:aV}:xA L x=true↔x∈L:=by
 unfold xA;rw[List.any_eq_true];constructor
 ·rintro ⟨y,hy,h⟩;rw[s'.1 h];exact hy
 intro h;exact ⟨x,h,s'.2 rfl⟩
def Wi (g:Nat) (lb:Array Value) (p:aV->Bool) (row:Nat) (w:World):Prop:=
 ∀(W:World) (x:aV),iJ row w W->Calls prog g (#[.agg #[.int .i64 x.kind,.int .i64 x.id,.string x.dA,.string x.new]]++lb) W (bT (.bool (p x)) W)
structure AW (p:aV->Bool) (L:List aV) (jj m:Nat) (M:List aV):Prop where
 len:M.length=L.length
 kept:M.take m=(L.take jj).filter (λx=>!p x)
 rest:M.drop jj=L.drop jj
 lt:m<jj
 le:jj<=L.length
theorem AW.start {p:aV->Bool} {L:List aV} {k:Nat} (hk:k<L.length) (hp:p L[k]=true) (hn: ∀j (hj:j<k),p (L[j]'(by omega))=false):AW p L (k+1) k L where
 len:=rfl
 kept:=by
  rw[aaG hk,abT]
  have h1:(L.take k).filter (λx=>!p x)=L.take k:=List.filter_eq_self.2 (λa ha=>by
   obtain ⟨j,hj,rfl⟩:=abh.1 ha;rw[aao]at hj;rw[List.getElem_take,hn j (by omega)];rfl)
  rw[h1];simp[hp]
 rest:=rfl
 lt:=by omega
 le:=hk
theorem AW.get {p:aV->Bool} {L M:List aV} {jj m:Nat} (h:AW p L jj m M) (hj:jj<L.length):M[jj]?=some L[jj]:=by
 have:=congrArg (λl=>l[0]?) h.rest;simp only[List.getElem?_drop,Nat.add_zero]at this;rw[this,aag hj]
theorem AW.skip {p:aV->Bool} {L M:List aV} {jj m:Nat} (h:AW p L jj m M) (hj:jj<L.length) (hp:p L[jj]=true):AW p L (jj+1) m M where
 len:=h.len
 kept:=by rw[aaG hj,abT,h.kept];simp[hp]
 rest:=by rw[<-List.drop_drop,<-List.drop_drop,h.rest]
 lt:=by have:=h.lt;omega
 le:=hj
theorem AW.put {p:aV->Bool} {L M:List aV} {jj m:Nat} (h:AW p L jj m M) (hj:jj<L.length) (hp:p L[jj]=false):AW p L (jj+1) (m+1) (M.set m L[jj]) where
 len:=by rw[aaE];exact h.len
 kept:=by
  have hl:=h.lt;have hM:=h.len;rw[aaG hj,abT,<-h.kept,aaG (by rw[aaE];omega),List.getElem_set_self,List.take_set_of_le (aad _)];simp[hp]
 rest:=by
  have hl:=h.lt;rw[List.drop_set_of_lt (by omega),<-List.drop_drop,<-List.drop_drop,h.rest]
 lt:=by have:=h.lt;omega
 le:=hj
def QD (p:aV->Bool) (L:List aV) (base g cap:Nat) (w:World) (e:Ending) (w':World):Prop:=
 ∃m,m=(L.filter (λx=>!p x)).length/\e= .returned (.slice (some ⟨g,0,none⟩) m cap)/\w'.ownsRow base 174 4 (.slice (some ⟨g,0,none⟩) m cap) m ((L.filter (λx=>!p x)).flatMap ah)/\iJ g w w'
def oT (P Q:List aV):List aV:=Q.filter (λe=>!xA P e)
def X4 (P Q:List aV):Option (List aV):=if yl P Q=[]then some (oT P Q)else none
structure lD (P Q R:List aV):Prop where
 lS:gV R
 mem: ∀e,e∈R↔e∈P\/e∈Q
 len:R.length=P.length+(oT P Q).length
theorem NQ {P Q:List aV} (hQ:gV Q) (h:yl P Q=[]) {a b:aV} (ha:a∈P) (hb:b∈Q) (hi:a.id=b.id):a=b:=by
 have hf:II Q a=false:=by
  rw[abF];intro hc;have:a.id∈yl P Q:=abJ.2 ⟨a,abt.2 ⟨ha,hc⟩,rfl⟩;rw[h]at this;cases this
 unfold II at hf;have hh:Qu Q a.id=true:=List.any_eq_true.2 ⟨b,hb,by simp[hi]⟩;have he:bQ Q a.id=b:=by rw[hi];exact u9 hQ hb
 rw[hh,he,aaD,Bool.not_eq_false']at hf;exact s'.1 hf
theorem lD.of {P Q R:List aV} (hP:gV P) (hQ:gV Q) (hc:yl P Q=[]) (hp:R.Perm (P++oT P Q)) (hs:R.Pairwise (λa b=>a.id<=b.id)):lD P Q R where
 lS:=by
  have gm:(P++oT P Q).Pairwise (λa b=>a.id≠b.id):=by
   rw[aaY];refine ⟨hP.imp (λh=>by omega),(hQ.sublist (List.filter_sublist)).imp (λh=>by omega),λa ha b hb=>?_⟩;obtain ⟨X5,IJ⟩:=abt.1 hb;intro hi;have:=NQ hQ hc ha X5 hi;rw[<-this,rH.2 ha]at IJ;cases IJ
  have QE:R.Pairwise (λa b=>a.id≠b.id):=(hp.pairwise_iff (λh=>λe=>h e.symm)).2 gm;exact (hs.and QE).imp (λ⟨h1,h2⟩=>by omega)
 mem:=λe=>by
  rw[hp.mem_iff,aau];constructor
  ·rintro (h|h)
   ·exact .inl h
   exact .inr (abt.1 h).1
  rintro (h|h)
  ·exact .inl h
  by_cases hm:e∈P
  ·exact .inl hm
  refine .inr (abt.2 ⟨h,?_⟩);have:xA P e=false:=by rw[abF];exact λk=>hm (rH.1 k)
  rw[this];rfl
 len:=by rw[hp.length_eq,aak]
def PK (P Q:List aV) (w:World) (e:Ending) (w':World):Prop:=
 ∃v,((yl P Q=[]/\P.length+(oT P Q).length<=16/\ ∃R,lD P Q R/\e= .returned (.tuple #[v,.bool true])/\ay ah R w.heap.size w' v)\/
  (¬(yl P Q=[]/\P.length+(oT P Q).length<=16)/\e= .returned (.tuple #[v,.bool false])/\v= .slice none 0 0))/\Below w.heap.size w w'
structure bo where
 a8:Int
 fin:Int
 pat:List aV
def eV (a:bo):Bool:=dO a.a8 0 1000&&dO a.fin 0 1000&&decide (a.a8<a.fin)&&bF a.pat
def ES (L:List bo) (k:Nat):Int:=((L[k]?).map (·.a8)).getD 0
def jg (L:List bo) (k:Nat):Bool:=((L[k]?).map eV).getD true&&(decide (k=0)||decide (ES L (k-1)<=ES L k))
def bJ (L:List bo):Bool:=cE L.length (jg L)&&decide (L.length<=8)
theorem iv {L:List bo} {k:Nat} {a:bo} (h:L[k]?=some a) (ho:eV a=false):jg L k=false:=by
 unfold jg;rw[h];simp[ho]
theorem qF {L:List bo} {k:Nat} {a:bo} (hk:k=0) (h:L[k]?=some a) (ho:eV a=true):jg L k=true:=by
 subst hk;unfold jg;rw[h];simp[ho]
theorem np {L:List bo} {m:Nat} {d a:bo} (hd:L[m]?=some d) (h:L[m+1]?=some a) (ho:eV a=true):jg L (m+1)=decide (d.a8<=a.a8):=by
 unfold jg ES;rw[h];simp[ho,hd]
theorem fu {L:List bo} {k:Nat} (hk:k<L.length) (h:jg L k=false):bJ L=false:=by
 unfold bJ;rw[fN hk h];rfl
theorem fj {L:List bo} (h:bJ L=true) {k:Nat} {a:bo} (hk:L[k]?=some a):eV a=true:=by
 unfold bJ at h;rw[aay,eo]at h;have:=h.1 k (aal.1 hk).1;unfold jg at this;rw[hk,aay]at this;exact this.1
theorem l' {L:List bo} (h:bJ L=true) {m:Nat} {d a:bo} (hd:L[m]?=some d) (ha:L[m+1]?=some a):d.a8<=a.a8:=by
 have ho:=fj h ha;unfold bJ at h;rw[aay,eo]at h;have:=h.1 (m+1) (aal.1 ha).1;rw[np hd ha ho]at this;exact aa3 this
theorem eM {L:List bo} (h:bJ L=true):L.length<=8:=by
 unfold bJ at h;rw[aay]at h;exact aa3 h.2
structure NR (a:bo):Prop where
 b0:0<=a.a8
 b1:a.a8<=1000
 f0:0<=a.fin
 f1:a.fin<=1000
 lt:a.a8<a.fin
 pat:bF a.pat=true
theorem ep {a:bo}:eV a=true↔NR a:=by
 unfold eV;rw[aay,aay,aay,dS,dS];constructor
 ·rintro ⟨⟨⟨⟨a1,a2⟩,a3,a4⟩,a5⟩,a6⟩;exact ⟨a1,a2,a3,a4,aa3 a5,a6⟩
 rintro ⟨a1,a2,a3,a4,a5,a6⟩;exact ⟨⟨⟨⟨a1,a2⟩,a3,a4⟩,abd a5⟩,a6⟩
def IK (day:Int) (a:bo):Bool:=decide (a.a8<=day)&&decide (day<a.fin)
def de (L:List bo) (day:Int):List Int:=((List.range L.length).filter (λk=>((L[k]?).map (IK day)).getD false)).map (λn:Nat=>(n:Int))
def gb (L:List bo) (day:Int) (k:Nat):List Int:=((List.range k).filter (λk=>((L[k]?).map (IK day)).getD false)).map (λn:Nat=>(n:Int))
theorem vk {L:List bo} {day:Int} {k:Nat} {a:bo} (h:L[k]?=some a) (hf:IK day a=true):gb L day (k+1)=gb L day k++[(k:Int)]:=by
 unfold gb;rw[List.range_succ,abT,aaK];simp[h,hf]
theorem yn {L:List bo} {day:Int} {k:Nat} {a:bo} (h:L[k]?=some a) (hf:IK day a=false):gb L day (k+1)=gb L day k:=by
 unfold gb;rw[List.range_succ,abT,aaK];simp[h,hf]
theorem nr (L:List bo) (day:Int) (k:Nat):(gb L day k).length<=k:=by
 unfold gb;rw[aap];exact aaB (ab6 _ _) (by simp)
theorem yo {L:List bo} {day:Int} {j:Nat} {i:Int} (h:(de L day)[j]?=some i): ∃k:Nat,i=(k:Int)/\k<L.length:=by
 have hm:=aaC h;unfold de at hm;obtain ⟨k,hk,rfl⟩:=abJ.1 hm;exact ⟨k,rfl,abS.1 (abt.1 hk).1⟩
def vl (L:List bo) (o:Option (List bE)) (i:Int):Option (List bE):=o.bind (λS=>fT S (((L[i.toNat]?).map (·.pat)).getD []))
def Hi (base:List bE) (L:List bo) (day:Int) (k:Nat):Option (List bE):=((de L day).take k).foldl (vl L) (some base)
def nU (base:List bE) (L:List bo) (day:Int):Option (List bE):=(de L day).foldl (vl L) (some base)
theorem AX {base:List bE} {L:List bo} {day:Int} {k:Nat} {i:Int} (h:(de L day)[k]?=some i):Hi base L day (k+1)=vl L (Hi base L day k) i:=by
 obtain ⟨h1,h2⟩:=aal.1 h;unfold Hi;rw[aaG h1,List.foldl_append,h2];rfl
theorem ET {base:List bE} {L:List bo} {day:Int} {k:Nat} (h:(de L day).length<=k):Hi base L day k=nU base L day:=by
 unfold Hi nU;rw[aaJ h]
theorem De (L:List bo) (l:List Int):l.foldl (vl L) none=none:=by
 induction l with
 |nil=>rfl
 |cons a l ih=>exact ih
theorem AY {base:List bE} {L:List bo} {day:Int} {k:Nat} (h:Hi base L day k=none):nU base L day=none:=by
 unfold nU;rw[<-abG k (de L day),List.foldl_append];have:((de L day).take k).foldl (vl L) (some base)=none:=h;rw[this,De]
structure bu where
 a:bo
 v:Value
def cu (x:bu):List Value:=[.int .i64 x.a.a8,.int .i64 x.a.fin,x.v]
def eE (w:World) (B:Nat) (v:Value) (ls:List bo):Prop:=
 ∃L:List bu,L.map (·.a)=ls/\cz (Pl cu) 3 w B v L/\ ∀x∈L,bg w B x.v x.a.pat
theorem eE.on {w w':World} {B B':Nat} {v:Value} {ls:List bo} (h:eE w B v ls) (hb:Below B w w') (hB:B<=B'):eE w' B' v ls:=by
 obtain ⟨L,h1,h2,h3⟩:=h;exact ⟨L,h1,cz.on h2 (Pl.stays _) hb hB,λx hx=>cz.on (h3 x hx) (Pl.stays _) hb hB⟩
theorem dk {w:World} {B:Nat} {v:Value} {ls:List bo} (h:eE w B v ls): ∃(A:Option Addr) (c:Nat),v= .slice A ls.length c/\ls.length<=c/\c<=maxLen/\(0<ls.length-> ∃b off,A=some ⟨b,off,none⟩/\b<B/\
 ∀(k:Nat) (a:bo),ls[k]?=some a-> ∃pv,w.cell? ⟨b,off+k*3,none⟩=some (.int .i64 a.a8)/\w.cell? ⟨b,off+k*3+1,none⟩=some (.int .i64 a.fin)/\w.cell? ⟨b,off+k*3+2,none⟩=some pv/\bg w B pv a.pat):=by
 obtain ⟨L,rfl,⟨A,c,rfl,h1,h2,h3⟩,h4⟩:=h;rw[aap];refine ⟨A,c,rfl,h1,h2,λh0=>?_⟩;obtain ⟨b,off,rfl,hb,hk⟩:=h3 h0;refine ⟨b,off,rfl,hb,λk a ha=>?_⟩;rw[aaX]at ha;cases hx:L[k]? with
 |none=>rw[hx]at ha;cases ha
 |some x=>
  rw[hx]at ha;injection ha with ha
  subst ha;obtain ⟨us,hl,hp,hc⟩:=hk k x hx;have hp:us=cu x:=hp;subst hp;exact ⟨x.v,hc 0 _ rfl,hc 1 _ rfl,hc 2 _ rfl,h4 x (aaC hx)⟩
theorem AZ (n:Int) (w:World):Calls prog 96 #[.int .i64 n] w (f' (.bool (dO n 0 999)) w):=by
 have H:=I (rl n 0 999 w);generalize dO n 0 999=r at H⊢;go_enter func96,ntmps96;go_wp2_with (fail);refine (H.o).mono ?_;rintro e w1 ⟨rfl,m,rfl⟩;go_wp2;go_ret;exact ⟨rfl,m,rfl⟩
theorem Ba (n:Int) (w:World):Calls prog 38 #[.int .i64 n] w (f' (.bool (dO n 0 999)) w):=by
 have H:=I (lZ n 0 999 w);generalize dO n 0 999=r at H⊢;go_enter func38,ntmps38;go_wp2_with (fail);refine (H.o).mono ?_;rintro e w1 ⟨rfl,m,rfl⟩;go_wp2;go_ret;exact ⟨rfl,m,rfl⟩
theorem Df (ls:List bo) (day:Int) (w:World) (v:Value) (h:eE w w.heap.size v ls) (hl:ls.length<=1000):
 Calls prog 177 #[v,.int .i64 day] w (sS ak (de ls day) w):=by
 obtain ⟨A,c,rfl,hc,hm,cn⟩:=dk h;have gH:=I cn;clear cn h;obtain ⟨i0,hi,dK,ez,ek⟩:=aaq iD;have cN:(w.alloc (.cells #[] 2)).ownsRow w.heap.size 2 1 (.slice (some ⟨w.heap.size,0,none⟩) 0 0) 0 []:=by simpa using aaz w #[] 0 (aad _) (aaf _) rfl
 have dY:=I cN;have jT:ag (Below w.heap.size w (w.alloc (.cells #[] 2))):=I ((aae _ _).alloc (aad _) _);unfold sS;clear cN;go_enter func177,ntmps177;go_wp2;go_loopw [5,6] (λo i wr=> ∃(k:Nat),i= .int .i64 (k:Int)/\k<=ls.length/\wr.ownsRow w.heap.size 2 1 o (gb ls day k).length ((gb ls day k).flatMap ak)/\o≠ .slice none 0 0/\Below w.heap.size w wr) (λ_ i _=>ls.length-(intOf i).toNat);case atStart=>exact ⟨0,rfl,aaf _,dY.o,by simp,jT.o⟩
 case round=>
  obtain ⟨k,rfl,hk,cr,nm,hb⟩:=hrel;obtain ⟨g,cap,rfl,SD,nj⟩:=bG cr nm;unfold maxLen at nj;have eH:=I cr;have HB:=I hb;have PI:=nr ls day k;clear cr nm;by_cases aI:k<ls.length
  ·obtain ⟨b,off,rfl,bD,aC⟩:=gH.o (by omega);have aH:ls[k]?=some ls[k]:=aag aI;obtain ⟨pv,c0,c1,_,_⟩:=aC k _ aH;have x0:=(hb.cell (p:=⟨b,off+k*3,none⟩) bD).trans c0;have x1:=(hb.cell (p:=⟨b,off+k*3+1,none⟩) bD).trans c1;have HY:=I (λh=>vk (day:=day) aH h);have HN:=I (λh=>yn (day:=day) aH h);have tY:ag (IK day ls[k]=(decide (ls[k].a8<=day)&&decide (day<ls[k].fin))):=I rfl;generalize gb ls day k=Z at*;clear aC c0 c1 aH hb;generalize ls[k]=a at*;by_cases h1:a.a8<=day
   ·by_cases h2:day<a.fin
    ·replace HY:=I (HY.o (by rw[tY.o];simp[h1,h2]))
     clear HN;go_wp2_with (at_builtin;refine abg _ rfl _ _ 33 rfl w.heap.size 2 i0 (.int .i64 0) 1 8 underlying33 hi dK ez ek rfl (by decide) _ _ _ rfl (eH.o.alloc _) ⟨wr.heap.size,0,none⟩ 1 1 (ak (k:Int)) rfl rfl (cell_one_new _ _ _) (λu hu=>cf _ hu) ?c3 ?c4 (by have:=HB.o.size;simp;omega) ?_);case c3=>unfold maxLen;omega
     case c4=>omega
     intro v' w9 aG aA aU;have mF:v'≠ .slice none 0 0:=by simpa using aU
     have wZ:=(HB.o.alloc HB.o.size (.cells #[.int .i64 (k:Int)] 2)).grown aA (by have:=HB.o.size;simp;omega) (λj hj=>(eH.o.lt j hj).1);clear aA aU;go_wp2;go_roundw;case rel=>exact ⟨k+1,by go_num,by omega,by rw[HY.o,cq,aak];exact aG,mF,wZ⟩
     case measure=>simp[intOf];omega
    replace HN:=I (HN.o (by rw[tY.o];simp[h2]))
    go_wp2;go_roundw;case rel=>exact ⟨k+1,by go_num,by omega,by rw[HN.o];exact eH.o,by simp,HB.o⟩
    case measure=>simp[intOf];omega
   replace HN:=I (HN.o (by rw[tY.o];simp[h1]))
   go_wp2;go_roundw;case rel=>exact ⟨k+1,by go_num,by omega,by rw[HN.o];exact eH.o,by simp,HB.o⟩
   case measure=>simp[intOf];omega
  have eA: ¬(k:Int)<(ls.length:Int):=by omega
  have di:k=ls.length:=by omega
  have eB:ag (gb ls day k=de ls day):=I (by rw[di];rfl);have zh:ag (ay ak (gb ls day k) w.heap.size wr (.slice (some ⟨g,0,none⟩) (gb ls day k).length cap)):=I (ay.bI ak (size:=1) (λ_=>rfl) eH.o);clear di;go_wp2;go_ret;exact ⟨_,rfl,by rw[<-eB.o];exact zh.o,HB.o⟩
theorem Dg (ls:List bo) (day:Int) (w:World) (v:Value) (h:eE w w.heap.size v ls) (hl:ls.length<=1000):
 Calls prog 164 #[v,.int .i64 day] w (sS ak (de ls day) w):=by
 obtain ⟨A,c,rfl,hc,hm,cn⟩:=dk h;have gH:=I cn;clear cn h;obtain ⟨i0,hi,dK,ez,ek⟩:=aaq iD;have cN:(w.alloc (.cells #[] 2)).ownsRow w.heap.size 2 1 (.slice (some ⟨w.heap.size,0,none⟩) 0 0) 0 []:=by simpa using aaz w #[] 0 (aad _) (aaf _) rfl
 have dY:=I cN;have jT:ag (Below w.heap.size w (w.alloc (.cells #[] 2))):=I ((aae _ _).alloc (aad _) _);unfold sS;clear cN;go_enter func164,ntmps164;go_wp2;go_loopw [5,11] (λo i wr=> ∃(k:Nat),i= .int .i64 (k:Int)/\k<=ls.length/\wr.ownsRow w.heap.size 2 1 o (gb ls day k).length ((gb ls day k).flatMap ak)/\o≠ .slice none 0 0/\Below w.heap.size w wr) (λ_ i _=>ls.length-(intOf i).toNat);case atStart=>exact ⟨0,rfl,aaf _,dY.o,by simp,jT.o⟩
 case round=>
  obtain ⟨k,rfl,hk,cr,nm,hb⟩:=hrel;obtain ⟨g,cap,rfl,SD,nj⟩:=bG cr nm;unfold maxLen at nj;have eH:=I cr;have HB:=I hb;have PI:=nr ls day k;clear cr nm;by_cases aI:k<ls.length
  ·obtain ⟨b,off,rfl,bD,aC⟩:=gH.o (by omega);have aH:ls[k]?=some ls[k]:=aag aI;obtain ⟨pv,c0,c1,c2,hE⟩:=aC k _ aH;obtain ⟨pA,pc,rfl,_⟩:=hE;have x0:=(hb.cell (p:=⟨b,off+k*3,none⟩) bD).trans c0;have x1:=(hb.cell (p:=⟨b,off+k*3+1,none⟩) bD).trans c1;have x2:=(hb.cell (p:=⟨b,off+k*3+2,none⟩) bD).trans c2;have HY:=I (λh=>vk (day:=day) aH h);have HN:=I (λh=>yn (day:=day) aH h);have tY:ag (IK day ls[k]=(decide (ls[k].a8<=day)&&decide (day<ls[k].fin))):=I rfl;generalize gb ls day k=Z at*;clear aC c0 c1 c2 aH hb;generalize ls[k]=a at*;by_cases h1:a.a8<=day
   ·by_cases h2:day<a.fin
    ·replace HY:=I (HY.o (by rw[tY.o];simp[h1,h2]))
     clear HN;go_wp2_with (at_builtin;refine abg _ rfl _ _ 33 rfl w.heap.size 2 i0 (.int .i64 0) 1 8 underlying33 hi dK ez ek rfl (by decide) _ _ _ rfl ((eH.o.alloc _).alloc _) ⟨wr.heap.size+1,0,none⟩ 1 1 (ak (k:Int)) rfl rfl (λj u hj=>kN hj) (λu hu=>cf _ hu) ?c3 ?c4 (aS (aS HB.o.size)) ?_);case c3=>unfold maxLen;omega
     case c4=>omega
     intro v' w9 aG aA aU;have mF:v'≠ .slice none 0 0:=by simpa using aU
     have wZ:=((HB.o.alloc HB.o.size (.cells #[.int .i64 a.a8,.int .i64 a.fin,.slice pA a.pat.length pc] 141)).alloc (aS HB.o.size) (.cells #[.int .i64 (k:Int)] 2)).grown aA (aS (aS HB.o.size)) (λj hj=>(eH.o.lt j hj).1);clear aA aU;go_wp2;go_roundw;case rel=>exact ⟨k+1,by go_num,by omega,by rw[HY.o,cq,aak];exact aG,mF,wZ⟩
     case measure=>simp[intOf];omega
    replace HN:=I (HN.o (by rw[tY.o];simp[h2]))
    go_wp2;go_roundw;case rel=>exact ⟨k+1,by go_num,by omega,by rw[HN.o];exact eH.o.alloc _,by simp,HB.o.alloc HB.o.size _⟩
    case measure=>simp[intOf];omega
   replace HN:=I (HN.o (by rw[tY.o];simp[h1]))
   go_wp2;go_roundw;case rel=>exact ⟨k+1,by go_num,by omega,by rw[HN.o];exact eH.o.alloc _,by simp,HB.o.alloc HB.o.size _⟩
   case measure=>simp[intOf];omega
  have eA: ¬(k:Int)<(ls.length:Int):=by omega
  have di:k=ls.length:=by omega
  have eB:ag (gb ls day k=de ls day):=I (by rw[di];rfl);have zh:ag (ay ak (gb ls day k) w.heap.size wr (.slice (some ⟨g,0,none⟩) (gb ls day k).length cap)):=I (ay.bI ak (size:=1) (λ_=>rfl) eH.o);clear di;go_wp2;go_ret;exact ⟨_,rfl,by rw[<-eB.o];exact zh.o,HB.o⟩
theorem bg.km {w:World} {B:Nat} {v:Value} {es:List aV} (h:bg w B v es) (hB:B<=w.heap.size): ∀y:ar w,bg y.val y.val.heap.size v es:=cz.km h (Pl.stays _) hB
theorem eE.km {w:World} {B:Nat} {v:Value} {ls:List bo} (h:eE w B v ls) (hB:B<=w.heap.size): ∀y:ar w,eE y.val y.val.heap.size v ls:=λy=>h.on (y.ok.mono hB) (aaB hB y.ok.size)
theorem Bd {a:bo} (h:dO a.a8 0 1000=false):eV a=false:=by unfold eV;rw[h];rfl
theorem Be {a:bo} (h:dO a.fin 0 1000=false):eV a=false:=by unfold eV;rw[h];simp
theorem Bf {a:bo} (h: ¬a.a8<a.fin):eV a=false:=by unfold eV;simp[h]
theorem vn {a:bo} (h:bF a.pat=false):eV a=false:=by unfold eV;simp[h]
theorem vr {a:bo} (h1:dO a.a8 0 1000=true) (h2:dO a.fin 0 1000=true) (h3:a.a8<a.fin) (h4:bF a.pat=true):eV a=true:=by unfold eV;simp[h1,h2,h3,h4]
def ms (ls:List bo):Prop:= ∀a∈ls,bS a.pat
theorem ms.of {ls:List bo} (h:bJ ls=true):ms ls:=λa ha=>by
 obtain ⟨k,hk⟩:=aa2 ha;exact lC (ep.1 (fj h hk)).pat
theorem FV (ls:List bo) (w:World) (v:Value) (h:eE w w.heap.size v ls) (hs:ms ls):
 Calls prog 156 #[v] w (bT (.bool (bJ ls)) w):=by
 obtain ⟨A,c,rfl,hc,hm,cn⟩:=dk h;unfold maxLen at hm;have rn:ls.length<=9223372036854775807:=by omega
 have gH:=I cn;have HS:=I hs;clear cn hs h;go_enter func156,ntmps156;go_wp2;go_loopw [3,4] (λi _ wr=> ∃k:Nat,k<=ls.length/\i= .int .i64 (k:Int)/\cE k (jg ls)=true/\Below w.heap.size w wr) (λi _ _=>ls.length-(intOf i).toNat);case atStart=>exact ⟨0,aaf _,rfl,rfl,aae _ _⟩
 case round=>
  obtain ⟨k,hk,rfl,dn,hb⟩:=hrel;have HA:=I dn;have HB:=I hb;clear dn;by_cases aI:k<ls.length
  ·obtain ⟨b,off,rfl,bD,aC⟩:=gH.o (by omega);have aH:ls[k]?=some ls[k]:=aag aI;obtain ⟨pv,c0,c1,c2,hE⟩:=aC k _ aH;have HE:=I hE;obtain ⟨pA,pc,rfl,_⟩:=hE;have x0:=(hb.cell (p:=⟨b,off+k*3,none⟩) bD).trans c0;have x1:=(hb.cell (p:=⟨b,off+k*3+1,none⟩) bD).trans c1;have x2:=(hb.cell (p:=⟨b,off+k*3+2,none⟩) bD).trans c2;have HG:=I aH;have HC:=I aC;have gU:=HS.o ls[k] (aax aI);clear aH aC c0 c1 c2 hb;generalize ls[k]=a at*;cases tU:dO a.a8 0 1000 with
   |false=>
    have cB:=I (fu aI (iv HG.o (Bd tU)));go_upto_region 5 with (fail)
    obtain ⟨W,hW⟩: ∃W:World,W=wr.alloc (.cells #[.int .i64 a.a8,.int .i64 a.fin,.slice pA a.pat.length pc] 141):=⟨_,rfl⟩
    change Code.wp _ _ _ _ (wr.alloc (.cells #[.int .i64 a.a8,.int .i64 a.fin,.slice pA a.pat.length pc] 141));have bW:Below w.heap.size w W:=by rw[hW];exact HB.o.alloc HB.o.size _
    have y0:W.cell? ⟨wr.heap.size,0,none⟩=some (.int .i64 a.a8):=by rw[hW];simp[go_sem]
    have y1:W.cell? ⟨wr.heap.size,1,none⟩=some (.int .i64 a.fin):=by rw[hW];simp[go_sem]
    have y2:W.cell? ⟨wr.heap.size,2,none⟩=some (.slice pA a.pat.length pc):=by rw[hW];simp[go_sem]
    have ma: ∀y:ar W,bg y.val y.val.heap.size (.slice pA a.pat.length pc) a.pat:=bg.km (cz.on HE.o (Pl.stays _) bW bW.size) (aad _);have rI:=I ma;rw[<-hW];clear hW x0 x1 x2 ma;have z0:=λx:ar W=>x.cell y0;have z1:=λx:ar W=>x.cell y1;have z2:=λx:ar W=>x.cell y2;clear y0 y1 y2;refine bj (by kernel_rfl) (by kernel_rfl) ?_
    repeat (go_big_quiet_step ((first|(go_at_call 98;exact az (aP _ _ _ _ _ ‹_›))|(go_at_call 151;exact aq (aO _ _ _ _ (rI.o _) gU ‹_›)))))
    refine aai ?_;rintro _ ⟨y,rfl⟩;have bY:=bW.trans (y.ok.mono bW.size);go_wp2;go_ret;exact ⟨by rw[cB.o];rfl,bY⟩
   |true=>
    cases CD:dO a.fin 0 1000 with
    |false=>
     have cB:=I (fu aI (iv HG.o (Be CD)));go_upto_region 5 with (fail)
     obtain ⟨W,hW⟩: ∃W:World,W=wr.alloc (.cells #[.int .i64 a.a8,.int .i64 a.fin,.slice pA a.pat.length pc] 141):=⟨_,rfl⟩
     change Code.wp _ _ _ _ (wr.alloc (.cells #[.int .i64 a.a8,.int .i64 a.fin,.slice pA a.pat.length pc] 141));have bW:Below w.heap.size w W:=by rw[hW];exact HB.o.alloc HB.o.size _
     have y0:W.cell? ⟨wr.heap.size,0,none⟩=some (.int .i64 a.a8):=by rw[hW];simp[go_sem]
     have y1:W.cell? ⟨wr.heap.size,1,none⟩=some (.int .i64 a.fin):=by rw[hW];simp[go_sem]
     have y2:W.cell? ⟨wr.heap.size,2,none⟩=some (.slice pA a.pat.length pc):=by rw[hW];simp[go_sem]
     have ma: ∀y:ar W,bg y.val y.val.heap.size (.slice pA a.pat.length pc) a.pat:=bg.km (cz.on HE.o (Pl.stays _) bW bW.size) (aad _);have rI:=I ma;rw[<-hW];clear hW x0 x1 x2 ma;have z0:=λx:ar W=>x.cell y0;have z1:=λx:ar W=>x.cell y1;have z2:=λx:ar W=>x.cell y2;clear y0 y1 y2;refine bj (by kernel_rfl) (by kernel_rfl) ?_
     repeat (go_big_quiet_step ((first|(go_at_call 98;exact az (aP _ _ _ _ _ ‹_›))|(go_at_call 151;exact aq (aO _ _ _ _ (rI.o _) gU ‹_›)))))
     refine aai ?_;rintro _ ⟨y,rfl⟩;have bY:=bW.trans (y.ok.mono bW.size);go_wp2;go_ret;exact ⟨by rw[cB.o];rfl,bY⟩
    |true=>
     by_cases PL:a.a8<a.fin
     ·have NS: ¬a.fin<=a.a8:=by omega
      cases EQ:bF a.pat with
      |false=>
       have cB:=I (fu aI (iv HG.o (vn EQ)));go_upto_region 5 with (fail)
       obtain ⟨W,hW⟩: ∃W:World,W=wr.alloc (.cells #[.int .i64 a.a8,.int .i64 a.fin,.slice pA a.pat.length pc] 141):=⟨_,rfl⟩
       change Code.wp _ _ _ _ (wr.alloc (.cells #[.int .i64 a.a8,.int .i64 a.fin,.slice pA a.pat.length pc] 141));have bW:Below w.heap.size w W:=by rw[hW];exact HB.o.alloc HB.o.size _
       have y0:W.cell? ⟨wr.heap.size,0,none⟩=some (.int .i64 a.a8):=by rw[hW];simp[go_sem]
       have y1:W.cell? ⟨wr.heap.size,1,none⟩=some (.int .i64 a.fin):=by rw[hW];simp[go_sem]
       have y2:W.cell? ⟨wr.heap.size,2,none⟩=some (.slice pA a.pat.length pc):=by rw[hW];simp[go_sem]
       have ma: ∀y:ar W,bg y.val y.val.heap.size (.slice pA a.pat.length pc) a.pat:=bg.km (cz.on HE.o (Pl.stays _) bW bW.size) (aad _);have rI:=I ma;rw[<-hW];clear hW x0 x1 x2 ma;have z0:=λx:ar W=>x.cell y0;have z1:=λx:ar W=>x.cell y1;have z2:=λx:ar W=>x.cell y2;clear y0 y1 y2;refine bj (by kernel_rfl) (by kernel_rfl) ?_
       repeat (go_big_quiet_step ((first|(go_at_call 98;exact az (aP _ _ _ _ _ ‹_›))|(go_at_call 151;exact aq (aO _ _ _ _ (rI.o _) gU ‹_›)))))
       refine aai ?_;rintro _ ⟨y,rfl⟩;have bY:=bW.trans (y.ok.mono bW.size);go_wp2;go_ret;exact ⟨by rw[cB.o];rfl,bY⟩
      |true=>
       have HO:=I (vr tU CD PL EQ);have gN:=cR k (jg ls);rw[HA.o,aaD]at gN;have gN:=I gN;by_cases jA:k=0
       ·have HN:ag (cE (k+1) (jg ls)=true):=gN.o.trans (qF jA HG.o HO.o);have rc:decide ((0:Int)<(k:Int))=false:=by simp;omega
        have H0:decide (0<k)=false:=by simp;omega
        clear jA;go_upto_region 5 with (fail)
        obtain ⟨W,hW⟩: ∃W:World,W=wr.alloc (.cells #[.int .i64 a.a8,.int .i64 a.fin,.slice pA a.pat.length pc] 141):=⟨_,rfl⟩
        change Code.wp _ _ _ _ (wr.alloc (.cells #[.int .i64 a.a8,.int .i64 a.fin,.slice pA a.pat.length pc] 141));have bW:Below w.heap.size w W:=by rw[hW];exact HB.o.alloc HB.o.size _
        have y0:W.cell? ⟨wr.heap.size,0,none⟩=some (.int .i64 a.a8):=by rw[hW];simp[go_sem]
        have y1:W.cell? ⟨wr.heap.size,1,none⟩=some (.int .i64 a.fin):=by rw[hW];simp[go_sem]
        have y2:W.cell? ⟨wr.heap.size,2,none⟩=some (.slice pA a.pat.length pc):=by rw[hW];simp[go_sem]
        have ma: ∀y:ar W,bg y.val y.val.heap.size (.slice pA a.pat.length pc) a.pat:=bg.km (cz.on HE.o (Pl.stays _) bW bW.size) (aad _);have rI:=I ma;rw[<-hW];clear hW x0 x1 x2 ma;have z0:=λx:ar W=>x.cell y0;have z1:=λx:ar W=>x.cell y1;have z2:=λx:ar W=>x.cell y2;clear y0 y1 y2;refine bj (by kernel_rfl) (by kernel_rfl) ?_
        repeat (go_big_quiet_step ((first|(go_at_call 98;exact az (aP _ _ _ _ _ ‹_›))|(go_at_call 151;exact aq (aO _ _ _ _ (rI.o _) gU ‹_›)))))
        refine aai ?_;rintro _ ⟨y,rfl⟩;have bY:=bW.trans (y.ok.mono bW.size);go_wp2;go_roundw;case rel=>exact ⟨k+1,by omega,by go_num,HN.o,bY⟩
        case measure=>simp[intOf];omega
       obtain ⟨m,rfl⟩: ∃m,k=m+1:=⟨k-1,by omega⟩
       have hd:ls[m]?=some (ls[m]'(by omega)):=aag (by omega);obtain ⟨_,d0,_⟩:=HC.o _ _ hd;generalize (ls[m]'(by omega))=d at*;have HP:=I (np hd HG.o HO.o);clear hd jA;by_cases hid:d.a8<=a.a8
       ·have HN:ag (cE (m+1+1) (jg ls)=true):=gN.o.trans (HP.o.trans (abd hid));have uT: ¬(a.a8<d.a8):=by omega
        go_upto_region 5 with (fail)
        obtain ⟨W,hW⟩: ∃W:World,W=wr.alloc (.cells #[.int .i64 a.a8,.int .i64 a.fin,.slice pA a.pat.length pc] 141):=⟨_,rfl⟩
        change Code.wp _ _ _ _ (wr.alloc (.cells #[.int .i64 a.a8,.int .i64 a.fin,.slice pA a.pat.length pc] 141));have bW:Below w.heap.size w W:=by rw[hW];exact HB.o.alloc HB.o.size _
        have y0:W.cell? ⟨wr.heap.size,0,none⟩=some (.int .i64 a.a8):=by rw[hW];simp[go_sem]
        have y1:W.cell? ⟨wr.heap.size,1,none⟩=some (.int .i64 a.fin):=by rw[hW];simp[go_sem]
        have y2:W.cell? ⟨wr.heap.size,2,none⟩=some (.slice pA a.pat.length pc):=by rw[hW];simp[go_sem]
        have ma: ∀y:ar W,bg y.val y.val.heap.size (.slice pA a.pat.length pc) a.pat:=bg.km (cz.on HE.o (Pl.stays _) bW bW.size) (aad _);have rI:=I ma;rw[<-hW];clear hW x0 x1 x2 ma;have z0:=λx:ar W=>x.cell y0;have z1:=λx:ar W=>x.cell y1;have z2:=λx:ar W=>x.cell y2;clear y0 y1 y2;have y4:W.cell? ⟨b,off+m*3,none⟩=some (.int .i64 d.a8):=(bW.cell (p:=⟨b,off+m*3,none⟩) bD).trans d0;have z4:=λx:ar W=>x.cell y4;clear d0 y4;refine bj (by kernel_rfl) (by kernel_rfl) ?_
        repeat (go_big_quiet_step ((first|(go_at_call 98;exact az (aP _ _ _ _ _ ‹_›))|(go_at_call 151;exact aq (aO _ _ _ _ (rI.o _) gU ‹_›)))))
        refine aai ?_;rintro _ ⟨y,rfl⟩;have bY:=bW.trans (y.ok.mono bW.size);go_wp2;go_roundw;case rel=>exact ⟨(m+1)+1,by omega,by go_num,HN.o,bY⟩
        case measure=>simp[intOf];omega
       have cB:=I (fu aI (HP.o.trans (aba hid)));have uT:a.a8<d.a8:=by omega
       go_upto_region 5 with (fail)
       obtain ⟨W,hW⟩: ∃W:World,W=wr.alloc (.cells #[.int .i64 a.a8,.int .i64 a.fin,.slice pA a.pat.length pc] 141):=⟨_,rfl⟩
       change Code.wp _ _ _ _ (wr.alloc (.cells #[.int .i64 a.a8,.int .i64 a.fin,.slice pA a.pat.length pc] 141));have bW:Below w.heap.size w W:=by rw[hW];exact HB.o.alloc HB.o.size _
       have y0:W.cell? ⟨wr.heap.size,0,none⟩=some (.int .i64 a.a8):=by rw[hW];simp[go_sem]
       have y1:W.cell? ⟨wr.heap.size,1,none⟩=some (.int .i64 a.fin):=by rw[hW];simp[go_sem]
       have y2:W.cell? ⟨wr.heap.size,2,none⟩=some (.slice pA a.pat.length pc):=by rw[hW];simp[go_sem]
       have ma: ∀y:ar W,bg y.val y.val.heap.size (.slice pA a.pat.length pc) a.pat:=bg.km (cz.on HE.o (Pl.stays _) bW bW.size) (aad _);have rI:=I ma;rw[<-hW];clear hW x0 x1 x2 ma;have z0:=λx:ar W=>x.cell y0;have z1:=λx:ar W=>x.cell y1;have z2:=λx:ar W=>x.cell y2;clear y0 y1 y2;have y4:W.cell? ⟨b,off+m*3,none⟩=some (.int .i64 d.a8):=(bW.cell (p:=⟨b,off+m*3,none⟩) bD).trans d0;have z4:=λx:ar W=>x.cell y4;clear d0 y4;refine bj (by kernel_rfl) (by kernel_rfl) ?_
       repeat (go_big_quiet_step ((first|(go_at_call 98;exact az (aP _ _ _ _ _ ‹_›))|(go_at_call 151;exact aq (aO _ _ _ _ (rI.o _) gU ‹_›)))))
       refine aai ?_;rintro _ ⟨y,rfl⟩;have bY:=bW.trans (y.ok.mono bW.size);go_wp2;go_ret;exact ⟨by rw[cB.o];rfl,bY⟩
     have NS:a.fin<=a.a8:=by omega
     have cB:=I (fu aI (iv HG.o (Bf PL)));go_upto_region 5 with (fail)
     obtain ⟨W,hW⟩: ∃W:World,W=wr.alloc (.cells #[.int .i64 a.a8,.int .i64 a.fin,.slice pA a.pat.length pc] 141):=⟨_,rfl⟩
     change Code.wp _ _ _ _ (wr.alloc (.cells #[.int .i64 a.a8,.int .i64 a.fin,.slice pA a.pat.length pc] 141));have bW:Below w.heap.size w W:=by rw[hW];exact HB.o.alloc HB.o.size _
     have y0:W.cell? ⟨wr.heap.size,0,none⟩=some (.int .i64 a.a8):=by rw[hW];simp[go_sem]
     have y1:W.cell? ⟨wr.heap.size,1,none⟩=some (.int .i64 a.fin):=by rw[hW];simp[go_sem]
     have y2:W.cell? ⟨wr.heap.size,2,none⟩=some (.slice pA a.pat.length pc):=by rw[hW];simp[go_sem]
     have ma: ∀y:ar W,bg y.val y.val.heap.size (.slice pA a.pat.length pc) a.pat:=bg.km (cz.on HE.o (Pl.stays _) bW bW.size) (aad _);have rI:=I ma;rw[<-hW];clear hW x0 x1 x2 ma;have z0:=λx:ar W=>x.cell y0;have z1:=λx:ar W=>x.cell y1;have z2:=λx:ar W=>x.cell y2;clear y0 y1 y2;refine bj (by kernel_rfl) (by kernel_rfl) ?_
     repeat (go_big_quiet_step ((first|(go_at_call 98;exact az (aP _ _ _ _ _ ‹_›))|(go_at_call 151;exact aq (aO _ _ _ _ (rI.o _) gU ‹_›)))))
     refine aai ?_;rintro _ ⟨y,rfl⟩;have bY:=bW.trans (y.ok.mono bW.size);go_wp2;go_ret;exact ⟨by rw[cB.o];rfl,bY⟩
  have di:k=ls.length:=by omega
  have hP:bJ ls=decide (ls.length<=8):=by
   unfold bJ;rw[<-di,HA.o,aaD]
  have HP:=I hP;have eA: ¬(k:Int)<(ls.length:Int):=by omega
  clear hP di aI;by_cases rp:ls.length<=8
  ·have Hg:decide ((ls.length:Int)<=8)=true:=by simp;omega
   have uU:=I rp;clear rp;go_wp2;go_ret;exact ⟨by rw[HP.o];simp[uU.o],hb⟩
  have Hg:decide ((ls.length:Int)<=8)=false:=by simp;omega
  have uU:=I rp;clear rp;go_wp2;go_ret;exact ⟨by rw[HP.o];simp[uU.o],hb⟩
theorem ig (es:List aV) (w:World) (v:Value) (r:Bool) (h:bg w w.heap.size v es) (hs:bS es) (hr:bF es=r):
 Calls prog 110 #[v] w (bT (.bool r) w):=hr▸uS es w v h hs
theorem Bg {ls:List bo} {j:Nat} {a:bo} (R:List bE) (h:ls[j]?=some a):vl ls (some R) (j:Int)=fT R a.pat:=by simp[vl,h]
def IL (S:List bE) (ls:List bo) (day:Int) (w:World) (e:Ending) (w':World):Prop:=
 ∃v,e= .returned (.tuple #[v,.bool (nU S ls day).isSome])/\(∀R,nU S ls day=some R->ay ai R w.heap.size w' v/\cd R=true)/\(∃A n c,v= .slice A n c)/\Below w.heap.size w w'
end Go.Proofs.YtbcggaldkihcaaaGreat
