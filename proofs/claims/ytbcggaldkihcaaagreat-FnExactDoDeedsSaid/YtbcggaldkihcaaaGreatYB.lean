/- A queue of numbers: a slice of the call's own that begins anywhere in its block; append .. -/
import Derived.Test.YtbcggaldkihcaaaGreatQE
import Derived.Test.YtbcggaldkihcaaaGreatYA
set_option maxHeartbeats 8000000
set_option maxRecDepth 100000
namespace Go.Proofs.YtbcggaldkihcaaaGreat
open Tryz
open Go.RowKit Go.Lib
def qL (w:World) (base:Nat) (e:TypeId) (g:Nat) (v:Value) (xs:List Value):Prop:=
 ∃off cap kT,v= .slice (some ⟨g,off,none⟩) xs.length cap/\base<=g/\w.heap[g]?=some (.cells kT e (0,0))/\xs.length<=cap/\cap<=maxLen/\off+cap<=kT.size/\ ∀j u,xs[j]?=some u->kT[off+j]?=some u
theorem qL.lt {w:World} {base:Nat} {e:TypeId} {g:Nat} {v:Value} {xs:List Value} (h:qL w base e g v xs):base<=g/\g<w.heap.size:=by
 obtain ⟨off,cap,kT,_,h1,h2,_⟩:=h;exact ⟨h1,(Array.getElem?_eq_some_iff.1 h2).1⟩
theorem qL.kept {w w':World} {base:Nat} {e:TypeId} {g:Nat} {v:Value} {xs:List Value} (h:qL w base e g v xs) (hb:w'.heap[g]?=w.heap[g]?):qL w' base e g v xs:=by
 obtain ⟨off,cap,kT,h0,h1,h2,h3⟩:=h;exact ⟨off,cap,kT,h0,h1,hb.trans h2,h3⟩
theorem qL.below {w w':World} {base:Nat} {e:TypeId} {g:Nat} {v:Value} {xs:List Value} (h:qL w base e g v xs) (hb:Below w.heap.size w w'):qL w' base e g v xs:=h.kept (hb.block g h.lt.2)
theorem qL.grown {w w':World} {base:Nat} {e:TypeId} {g:Nat} {v:Value} {xs:List Value} {r:Option Nat} (h:qL w base e g v xs) (hb:w.grownBy w' r) (hr:some g≠r):qL w' base e g v xs:=h.kept (hb.block g h.lt.2 hr)
theorem qL.less {w:World} {b base:Nat} {e:TypeId} {g:Nat} {v:Value} {xs:List Value} (h:qL w base e g v xs) (hb:b<=base):qL w b e g v xs:=by
 obtain ⟨off,cap,kT,h0,h1,h2,h3⟩:=h;exact ⟨off,cap,kT,h0,aaB hb h1,h2,h3⟩
theorem qL.tail {w:World} {base:Nat} {e:TypeId} {g off n cap:Nat} {x:Value} {xs:List Value} (h:qL w base e g (.slice (some ⟨g,off,none⟩) n cap) (x::xs)):
 n=xs.length+1/\xs.length+1<=cap/\cap<=maxLen/\w.cell? ⟨g,off,none⟩=some x/\qL w base e g (.slice (some (if cap=1 then ⟨g,off,none⟩else ⟨g,off+1,none⟩)) xs.length (cap-1)) xs:=by
 obtain ⟨xw,fq,kT,h0,h1,h2,h3,h4,h5,h6⟩:=h;injection h0 with e1 e2 e3
 injection e1 with e1
 injection e1 with _ e1
 subst e1 e3;have h7:=h6 0 x rfl;rw[List.length_cons]at h3 e2;refine ⟨e2,h3,h4,?_,?_⟩
 ·rw[cell_of_row w g off kT e (0,0) h2];exact h7
 by_cases hc:cap=1
 ·rw[aaj hc];have:xs=[]:=abO (by omega);subst this;exact ⟨off,cap-1,kT,rfl,h1,h2,by simp,by omega,by omega,λj u hj=>by simp at hj⟩
 rw[aah hc];exact ⟨off+1,cap-1,kT,rfl,h1,h2,by omega,by omega,by omega,λj u hj=>by rw[abH,Nat.add_comm 1 j];exact h6 (j+1) u hj⟩
theorem qL.nil {w:World} {base:Nat} {e:TypeId} {g off n cap:Nat} (h:qL w base e g (.slice (some ⟨g,off,none⟩) n cap) []):n=0/\cap<=maxLen:=by
 obtain ⟨xw,fq,kT,h0,h1,h2,h3,h4,h5,h6⟩:=h;injection h0 with e1 e2 e3
 subst e3;exact ⟨e2,h4⟩
theorem qL.one (w:World) (e:TypeId) (x:Value):qL (w.alloc (.cells #[x] e)) w.heap.size e w.heap.size (.slice (some ⟨w.heap.size,0,none⟩) 1 1) [x]:=
 ⟨0,1,#[x],rfl,aad _,heap_alloc_new w _,aad _,by decide,aad _,λj u hj=>by rw[aan];simpa using hj⟩
section
variable {P:Program} {w:World}
theorem wo (base:Nat) (t ty e:TypeId) (i:TypeInfo) (z:Value) (bytes:Nat) (ht:P.underlying t=some (.slice e)) (hi:P.info? e=some i) (hz:i.zero=some z)
 (ga:i.size=1) (y9:i.bytes=bytes) (qd:z.cells.size=1) (v:Value) (g:Nat) (xs:List Value) (hq:qL w base e g v xs)
 (a:Addr) (m c:Nat) (news:List Value) (hl:news.length=m) (nS: ∀j u,news[j]?=some u->w.cell? (a.add j)=some u) (h1: ∀u∈news,u.oneCell'=true)
 (ya:xs.length+m<=maxLen) (gB:(xs.length+m)*bytes<=140737488355328) (dC:base<=w.heap.size):
 ∃v' g' w',(Builtin.append_ #[t,t] ty #[v,.slice (some a) m c]).run P w= .ok v' w'/\qL w' base e g' v' (xs++news)/\w.grownBy w' (some g)/\(g'=g\/g'=w.heap.size):=by
 subst y9;subst hl;obtain ⟨off,cap,kT,rfl,hb,hg,hn,hm,hc,aC⟩:=hq;by_cases l7:xs.length+news.length<=cap
 ·have hf:=run_firstCells_some (P:=P) w i.size news.length a news.length c news (by rw[ga,abj]) nS;have CV:=run_storeCells_at P g (off+xs.length) e news 0 kT w hg (by omega) h1;simp only[Nat.add_zero]at CV
  have yh:(kT.toList.take (off+xs.length)).length=off+xs.length:=by
   rw[aao];have:kT.toList.length=kT.size:=Array.length_toList;omega
  refine ⟨.slice (some ⟨g,off,none⟩) (xs.length+news.length) cap,g,_,by simp[Builtin.append_,abw ht,sizeOf,typeInfo,hi,Builtin.lenOf,l7,ga,aaQ,CV,ga▸hf];rfl,⟨off,cap,_,by rw[aak],hb,setRow_heap w g kT _ e _ hg,by rw[aak];exact l7,hm,?_,λj u hj=>?_⟩,⟨rfl,rfl,rfl,by simp,λk _ hk=>setRow_other w g k _ (λe=>hk (by rw[e]))⟩,Or.inl rfl⟩
  ·simp only[List.size_toArray,aak,aao,aaS,Array.length_toList];omega
  rw[List.getElem?_toArray];by_cases vB:j<xs.length
  ·rw[aaW vB]at hj;rw[aaW (by rw[yh];omega),abP,aaj (by omega)];simpa using aC j u hj
  rw[aaN (by omega)]at hj;have yb:=(aal.1 hj).1;rw[aaN (by rw[yh];omega),yh,show off+j-(off+xs.length)=j-xs.length by omega,aaW yb];exact hj
 have holds: ∀j u,xs[j]?=some u->w.cell? ((⟨g,off,none⟩:Addr).add j)=some u:=λj u hj=>by
  rw[aaQ,cell_of_row w g (off+j) kT e (0,0) hg];exact aC j u hj
 have YV:xs.length+news.length<=9223372036854775807:=by simpa only[maxLen]using ya
 have hr:=run_append_grow (P:=P) w t ty e i z ht hi hz ⟨g,off,none⟩ xs.length cap xs (by rw[ga,abj]) holds a news.length c news (by rw[ga,abj]) nS (by omega) (by omega) (growslice_fits (by omega) gB);have eA:=grownCap_ge w (xs.length+news.length) cap e;refine ⟨_,_,_,hr,⟨0,_,_,by rw[aak],dC,heap_alloc_new w.drew _,by rw[aak];exact eA,grownCap_le_maxLen w _ cap e ya,?_,λj u hj=>?_⟩,⟨rfl,rfl,rfl,by simp,λk hk _=>heap_alloc_old w.drew _ hk⟩,Or.inr rfl⟩
 ·simp only[Array.size_append,List.size_toArray,size_zeroCells,qd];omega
 rw[aan,<-Array.getElem?_toList,Array.toList_append,Array.toList_append,aaW (by simpa using (aal.1 hj).1)];exact hj
theorem xM {o:Oper} {a:Act} {K:Act->World->Prop} {Q:Exit->Act->World->Prop} (s x:Operand) (t:TypeId)
 (ho:o.op= .call {callee:= .builtin .append,args:= #[s,x],argTypes:= #[t,t]})
 (base:Nat) (e:TypeId) (i:TypeInfo) (z:Value) (bytes:Nat) (ht:P.underlying t=some (.slice e)) (hi:P.info? e=some i) (hz:i.zero=some z)
 (ga:i.size=1) (y9:i.bytes=bytes) (qd:z.cells.size=1) (v:Value) (g:Nat) (ys:List Value) (hs:a.eval s=v) (hq:qL w base e g v ys)
 (vs:Value) (zs:List Int) (B:Nat) (hx:a.eval x=vs) (FA:Ints w B vs zs)
 (ya:ys.length+zs.length<=maxLen) (gB:(ys.length+zs.length)*bytes<=140737488355328) (dC:base<=w.heap.size)
 (h: ∀v' g' w',qL w' base e g' v' (ys++zs.map (Value.int .i64))->w.grownBy w' (some g)->(g'=g\/g'=w.heap.size)->K (a.put o.dst v') w'):o.wp P a w K Q:=by
 obtain ⟨A,c,rfl,hc,hm,cn⟩:=FA
 have oH: ∀ad:Addr,A=some ad->(∀j u,(zs.map (Value.int .i64))[j]?=some u->w.cell? (ad.add j)=some u)->o.wp P a w K Q:=λad hA qB=>by
  subst hA
  obtain ⟨v',g',w',hr,g1,g2,g3⟩:=wo (P:=P) (w:=w) base t o.type e i z bytes ht hi hz ga y9 qd v g ys hq ad zs.length c (zs.map (Value.int .i64)) (by simp) qB (by
   intro u hu;obtain ⟨y,_,rfl⟩:=abJ.1 hu;rfl) ya gB dC
  unfold Oper.wp execOp;simp only[ho,resolve,invoke,builtin,Sem.run_bind,Sem.run_pure,Result.andThen_ok,ab0,aa4,abl,hs,hx,hr];exact h v' g' w' g1 g2 g3
 by_cases h0:zs=[]
 ·subst h0;cases A with
  |some ad=>exact oH ad rfl (λj u hj=>by simp at hj)
  |none=>
   have Im:=hq;obtain ⟨off,cap,kT,rfl,_,_,xy,_⟩:=Im
   have CW:(Builtin.append_ #[t,t] o.type #[.slice (some ⟨g,off,none⟩) ys.length cap,.slice none 0 c]).run P w= .ok (.slice (some ⟨g,off,none⟩) ys.length cap) w:=by
    simp[Builtin.append_,abw ht,sizeOf,typeInfo,hi,Builtin.lenOf,Builtin.firstCells,xy,storeCells]
   unfold Oper.wp;have Ih:a.eval x= .slice none 0 c:=hx;simp[execOp,ho,resolve,invoke,builtin,hs,Ih,CW,Result.andThen];exact h _ g w (by simpa using hq) ⟨rfl,rfl,rfl,aad _,λ_ _ _=>rfl⟩ (Or.inl rfl)
 obtain ⟨b,off,hA,hb,aC⟩:=cn (abp.2 h0);refine oH ⟨b,off,none⟩ hA (λj u hj=>?_);rw[aaX]at hj;cases SY:zs[j]? with
 |none=>rw[SY]at hj;cases hj
 |some y=>
  rw[SY]at hj;injection hj with hj
  subst hj;obtain ⟨us,hl,hp,CX⟩:=aC j y SY;have hp:us=ak y:=hp;subst hp;have:=CX 0 _ rfl;rw[abj,Nat.add_zero]at this;rw[aaQ];exact this
theorem me {ops:Array Oper} {rest:List Oper} {o:Oper} {a:Act} {Q:Exit->Act->World->Prop} (xZ:o.guard=none) (s x:Operand) (t:TypeId)
 (ho:o.op= .call {callee:= .builtin .append,args:= #[s,x],argTypes:= #[t,t]})
 (base:Nat) (e:TypeId) (i:TypeInfo) (z:Value) (bytes:Nat) (ht:P.underlying t=some (.slice e)) (hi:P.info? e=some i) (hz:i.zero=some z)
 (ga:i.size=1) (y9:i.bytes=bytes) (qd:z.cells.size=1) (v:Value) (g:Nat) (ys:List Value) (hs:a.eval s=v) (hq:qL w base e g v ys)
 (vs:Value) (zs:List Int) (B:Nat) (hx:a.eval x=vs) (FA:Ints w B vs zs)
 (ya:ys.length+zs.length<=maxLen) (gB:(ys.length+zs.length)*bytes<=140737488355328) (dC:base<=w.heap.size)
 (h: ∀v' g' w',qL w' base e g' v' (ys++zs.map (Value.int .i64))->w.grownBy w' (some g)->(g'=g\/g'=w.heap.size)->wpList P ops Q rest (a.put o.dst v') w'):wpList P ops Q (o::rest) a w:=by
 refine wpList_plain xZ λK hK=>?_;exact xM s x t ho base e i z bytes ht hi hz ga y9 qd v g ys hs hq vs zs B hx FA ya gB dC (λv' g' w' h1 h2 h3=>hK _ _ (h v' g' w' h1 h2 h3))
end
def YW (R:List Int):Jw where
 own b W v:=ay ak R b W v
 Rc b W v:=ay ak (jr 1 R.length) b W v
 n:=1+R.length
 slice h:=by obtain ⟨A,c,e,_⟩:=h;exact ⟨A,_,c,e⟩
 aD h ht hF:=ay.aD h ht (λc hc hf=>by have q1:=(ay.dw h hc).1;have q2:=hF c hf;omega)
 DS h hb:=ay.on h hb
noncomputable def jl (V:List lW) (rule:Int):List Int:=by
 classical
 exact if h: ∃L,Ends (bA V) rule L then h.choose else []
theorem BO {V:List lW} {rule:Int} {L:List Int} (h:Ends (bA V) rule L):jl V rule=L:=by
 have he: ∃L,Ends (bA V) rule L:=⟨L,h⟩
 unfold jl;rw[dif_pos he];exact Ends.one he.choose_spec h
theorem uj {V:List lW} {rule:Int} {i:Nat} {e:Int} (h:lL (bA V) rule i e):e= -1\/ ∃k:Nat,e=(k:Int)/\k<V.length:=by
 rcases h with ⟨_,p,a,_,hs,rfl⟩|⟨_,rfl⟩
 ·refine Or.inr ⟨a,rfl,?_⟩;unfold bA at hs;simp only at hs;rcases abo a V.length with h|h
  ·exact h
  rw[abL h]at hs;cases hs
 exact Or.inl rfl
theorem JJ (c:List Int) (k:Nat):(uA c k).length=c.length:=by unfold uA;rw[aaE]
theorem JK {c:List Int} {k j:Nat} (hk:k<c.length):(uA c k).getD j 0=if j=k then c.getD k 0+1 else c.getD j 0:=by
 unfold uA;rw[abA,List.getElem?_set];by_cases e:k=j
 ·subst e;rw[aaj rfl,aaj hk,aaj rfl];rfl
 rw[aah e,aah (λh=>e h.symm),abA]
theorem yE (vs:List Int) (e:Int):fK vs e<4:=by
 unfold fK
 split
 ·omega
 split
 ·omega
 split<;>omega
theorem eY (vs ends:List Int) (j:Nat):0<=(cC vs ends).getD j 0/\(cC vs ends).getD j 0<=ends.length:=by
 have key: ∀(l:List Int) (c:List Int) (m:Int),c.length=4->(∀j,0<=c.getD j 0/\c.getD j 0<=m)-> ∀j,0<=(l.foldl (λc e=>uA c (fK vs e)) c).getD j 0/\(l.foldl (λc e=>uA c (fK vs e)) c).getD j 0<=m+l.length:=by
  intro l;induction l with
  |nil=>intro c m _ h j;have:=h j;simpa using this
  |cons e l ih=>
   intro c m hc h j
   have:=ih (uA c (fK vs e)) (m+1) (by rw[JJ];exact hc) (λj=>by
    rw[JK (by rw[hc];exact yE vs e)];have h1:=h (fK vs e);have h2:=h j
    split<;>omega) j
   rw[List.foldl_cons,List.length_cons];omega
 have:=key ends [0,0,0,0] 0 rfl (λj=>by
  rcases j with _|_|_|_|j<;>simp[List.getD]) j
 unfold cC;omega
noncomputable def cO (a:cp) (vs:List Int):List Int:=cC vs (jl (eF vs a.af) a.rule)
theorem qM (a:cp) (vs:List Int):(cO a vs).length=4:=fW _ _
noncomputable def S8 (a:cp) (t:ByteArray):List Int:=if Jz a t=true then cO a (jU a t).ax else []
def cW (B:List Nat):List Int:=B.map Int.ofNat
theorem cg (B:List Nat):(cW B).length=B.length:=by unfold cW;simp
theorem cQ (B:List Nat) (t:Nat):cW (B++[t])=cW B++[(t:Int)]:=by unfold cW;simp
theorem JL {B:List Nat} {i:Nat}:(i:Int)∈cW B↔i∈B:=by
 unfold cW;rw[abJ];constructor
 ·rintro ⟨b,hb,e⟩;have:b=i:=Int.ofNat.inj e;rw[<-this];exact hb
 exact λh=>⟨i,h,rfl⟩
theorem mf {B:List Nat} {i:Nat}:(cW B).contains (i:Int)=B.contains i:=by
 rw[Bool.eq_iff_iff,abe,abe,JL]
section
variable {g:Gr} {rule:Int} {m a:Nat} {p:List Nat}
theorem UK (hg:g.Ok) (hn:g.n<=12) {c:Nat->Int} (hc:gh c) {k t:Nat} (hk:k<4) (ha:a<g.n) (_ht:t<g.n) (hf:bK g [] c g.n a<1000):(0<=fE g [] c g.n t/\c (k+1)+fE g [] c g.n t=fE g [] c g.n a)↔bK g [] c g.n t+c (k+1)=bK g [] c g.n a:=by
 have h1:=BN (B:=[]) hg hn hc a ((tw hg hn hc ha).2 ((zA hg hn hc ha).1 hf));by_cases h:0<=fE g [] c g.n t
 ·have h2:=BN (B:=[]) hg hn hc t h;rw[h1,h2];omega
 have h6:=(hc k hk).1;rcases Rel.run hg hn hc (B:=[]) g.n hn t with h3|h3<;>omega
def mg (g:Gr) (rule:Int) (m:Nat) (p:List Nat):Prop:=(p=[]/\ ¬Reach g [] m)\/(Reach g [] m/\ ∃(q:List Nat) (a:Nat),p=q++[a]/\Made g rule m p a/\g.sp a=true)
theorem eK.GG (h:eK g rule m p a) (hr:Reach g [] m) (hs:g.sp a=true):mg g rule m p:=by
 obtain ⟨q,hq⟩:=h.last;exact Or.inr ⟨hr,q,a,hq,h.made,hs⟩
theorem mg.none (h:mg g rule m []):lL g rule m (-1):=by
 rcases h with ⟨_,h⟩|⟨_,q,a,e,_⟩
 ·exact Or.inr ⟨h,rfl⟩
 cases q<;>cases e
theorem mg.some (h:mg g rule m p) (h0:p≠[]): ∃(q:List Nat) (b:Nat),p=q++[b]/\lL g rule m (b:Int):=by
 rcases h with ⟨e,_⟩|⟨hr,q,b,e,hm,hs⟩
 ·exact absurd e h0
 exact ⟨q,b,e,Or.inl ⟨hr,p,b,hm,hs,rfl⟩⟩
end
def mP (fy:Bool):Nat->Int:=λk=>if fy then (k:Int)else 1
theorem BP (fy:Bool):gh (mP fy):=λk hk=>by unfold mP;cases fy<;>simp<;>omega
def pY (V:List lW) (B:List Nat) (fy:Bool) (w:World) (e:Ending) (w':World):Prop:=
 ∃g,w.heap.size<=g/\g<w'.heap.size/\e= .returned (.slice (some ⟨g,0,none⟩) V.length V.length)/\Row w' g (cj (fE (bA V) B (mP fy) V.length) V.length)/\Below w.heap.size w w'
theorem DW {g:Gr} {B:List Nat} {i:Nat} (h:g.sp i=true\/B.contains i=true):g.on B i=false:=by
 unfold Gr.on;rcases h with h|h<;>rw[h]<;>simp
theorem MK {g:Gr} {B:List Nat} {i:Nat} (h:g.sp i=false) (h2:B.contains i=false):g.on B i=true:=by
 unfold Gr.on;rw[h,h2];rfl
theorem yF {g:Gr} {B:List Nat} {c C:Nat->Int} {i:Nat} (h:g.on B i=false):iF g B c C (i+1)=iF g B c C i:=by rw[iF,JI h]
theorem JM {g:Gr} {B:List Nat} {c C:Nat->Int} {i:Nat} (h:g.on B i=true):iF g B c C (i+1)=wj g c i (iF g B c C i) (g.tr i).length:=by rw[iF,LL h]
theorem qN (V:List lW) (B:List Nat) (fy:Bool) (v vb:Value) (w:World) (hV:mN w w.heap.size v V) (cy:gF V) (hB:Ints w w.heap.size vb (cW B)):
 Calls prog 230 #[v,.bool fy,vb] w (pY V B fy w):=by
 obtain ⟨A,c0,rfl,xE,An,cn⟩:=jL hV;have kM:=cy.n1;have fD:=cy.n12;obtain ⟨b,off,rfl,bD,aC⟩:=cn (by omega);have gH:=I aC;have ii:=I cy;have S9:=I (λW (h:Below w.heap.size w W)=>(cz.on hB (Pl.stays _) h h.size:Ints W W.heap.size vb (cW B)));have HC:ag (∀m,mP fy (m+1)=if fy=true then (m:Int)+1 else 1):=I (λm=>by unfold mP;cases fy<;>simp);have xf:=I (BP fy);unfold pY;generalize mP fy=c at*;obtain ⟨i0,hi,dK,ez,ek⟩:=aaq iD;obtain ⟨W,Z,qe,bi,hZ,ow,ox⟩:=lx (P:=prog) w 33 2 i0 _ 1 underlying33 hi dK ez V.length (by rw[ek];omega) (by omega);have Mr:(cj (jV (bA V) B) V.length).length=Z.length:=by rw[fk,hZ];omega
 have Il:=I Mr;have HZ:=I hZ;have HR:=I bi;clear hV cy hB cn aC hi dK ez ek bi Mr hZ;go_enter func230,ntmps230;go_wp2;go_loopw [8] (λi wr=> ∃k:Nat,k<=V.length/\i= .int .i64 (k:Int)/\Row wr w.heap.size (pN (cj (jV (bA V) B) V.length) Z k)/\Below w.heap.size w wr/\w.heap.size<wr.heap.size) (λi _=>V.length-(intOf i).toNat);case atStart=>exact ⟨0,aaf _,rfl,HR.o,ox,ow⟩
 case round=>
  obtain ⟨k,hk,rfl,bi,hb,iK⟩:=hrel;by_cases aI:k<V.length
  ·have aH:V[k]?=some V[k]:=aag aI;obtain ⟨A1,c1,d0,_⟩:=gH.o k _ aH;have iN:ag ((bA V).sp k=V[k].sp):=I (eX aH).1;have nQ:k<(pN (cj (jV (bA V) B) V.length) Z k).length:=by rw[iR Il.o,HZ.o];omega
   have f0:=bi.free k nQ;have g0:=bi.cell k _ (aag nQ);have gN:=I (lu Il.o (k:=k) (u:= .int .i64 (jV (bA V) B k)) (cD aI));have pO:=I nQ;have HW:=I bi;have bw:=hb.setCell (p:=⟨w.heap.size,k,none⟩) (aad _) (.int .i64 (-1));have da:=I bw;have y0:=(bw.cell (p:=⟨b,off+k*2,none⟩) bD).trans d0;have ng:w.heap.size<(wr.setCell ⟨w.heap.size,k,none⟩ (.int .i64 (-1))).heap.size:=by simpa using iK
   have mB:=I (bi.set k (.int .i64 (-1)) nQ);clear aH d0;generalize V[k]=a at*;generalize (pN (cj (jV (bA V) B) V.length) Z k)[k]=dA at*;clear bi nQ;go_upto_region 6 with (fail)
   generalize wr.setCell ⟨w.heap.size,k,none⟩ (.int .i64 (-1))=W1 at*;cases hs:a.sp with
   |false=>
    rw[hs]at y0 iN
    have HN:ag (Row W1 w.heap.size (pN (cj (jV (bA V) B) V.length) Z (k+1))):=I (by
     have:jV (bA V) B k= -1:=by unfold jV;rw[iN.o];rfl
     rw[gN.o,this];exact mB.o)
    go_wp2;go_roundw;case rel=>exact ⟨k+1,by omega,by go_num,HN.o,bw,ng⟩
    case measure=>simp[intOf];omega
   |true=>
    rw[hs]at y0 iN;cases GH:B.contains k with
    |true=>
     have HH:=I (mA _ (k:Int) W1 vb true (S9.o W1 bw) (mf.trans GH))
     have HN:ag (Row W1 w.heap.size (pN (cj (jV (bA V) B) V.length) Z (k+1))):=I (by
      have:jV (bA V) B k= -1:=by unfold jV;rw[iN.o,GH];rfl
      rw[gN.o,this];exact mB.o)
     clear GH;go_wp2_with (fail);refine HH.o.mono ?_;rintro e w2 ⟨rfl,cL⟩;have dB:=da.o.trans (cL.mono da.o.size);have JN:=aar ng cL.size;have wq:=I (HN.o.below cL ng);go_wp2;go_roundw;case rel=>exact ⟨k+1,by omega,by go_num,wq.o,dB,JN⟩
     case measure=>simp[intOf];omega
    |false=>
     have HH:=I (mA _ (k:Int) W1 vb false (S9.o W1 bw) (mf.trans GH));have YX:ag (jV (bA V) B k=0):=I (by unfold jV;rw[iN.o,GH];rfl);clear GH;go_wp2_with (fail);refine HH.o.mono ?_;rintro e w2 ⟨rfl,cL⟩;have dB:=da.o.trans (cL.mono da.o.size);have JN:=aar ng cL.size;have mV:=mB.o.below cL ng;have LN:k<((pN (cj (jV (bA V) B) V.length) Z k).set k (.int .i64 (-1))).length:=by rw[aaE];exact pO.o
     have f2:=mV.free k LN;have g2:=mV.cell k _ (aag LN);generalize ((pN (cj (jV (bA V) B) V.length) Z k).set k (.int .i64 (-1)))[k]=YY at*
     have HN:ag (Row (w2.setCell ⟨w.heap.size,k,none⟩ (.int .i64 0)) w.heap.size (pN (cj (jV (bA V) B) V.length) Z (k+1))):=I (by
      rw[gN.o,YX.o];have:=mV.set k (.int .i64 0) LN
      rwa [List.set_set]at this)
     have l8:=dB.setCell (p:=⟨w.heap.size,k,none⟩) (aad _) (.int .i64 0);have UL:w.heap.size<(w2.setCell ⟨w.heap.size,k,none⟩ (.int .i64 0)).heap.size:=by simpa using JN
     clear mV LN;go_wp2;go_roundw;case rel=>exact ⟨k+1,by omega,by go_num,HN.o,l8,UL⟩
     case measure=>simp[intOf];omega
  have eA: ¬(k:Int)<(V.length:Int):=by omega
  rw[ru Il.o k (by rw[fk];omega)]at bi;have DX:ag (Row wr w.heap.size (cj (fE (bA V) B c 0) V.length)):=I bi;clear bi HR;go_wp2;go_loopw [9,10,11,12,13] (λr _ _ _ _ wr=> ∃q:Nat,q<=V.length/\r= .int .i64 (q:Int)/\Row wr w.heap.size (cj (fE (bA V) B c q) V.length)/\Below w.heap.size w wr/\w.heap.size<wr.heap.size) (λr _ _ _ _ _=>V.length-(intOf r).toNat);case atStart=>exact ⟨0,aaf _,rfl,DX.o,hb,iK⟩
  case round=>
   obtain ⟨q,hq,rfl,bi,hb,iK⟩:=hrel;have LO:=I bi;clear DX bi;by_cases mw:q<V.length
   ·go_wp2;go_loopw [10,11,12,13] (λi _ _ _ wr=> ∃k:Nat,k<=V.length/\i= .int .i64 (k:Int)/\Row wr w.heap.size (cj (iF (bA V) B c (fE (bA V) B c q) k) V.length)/\Below w.heap.size w wr/\w.heap.size<wr.heap.size) (λi _ _ _ _=>V.length-(intOf i).toNat);case atStart=>exact ⟨0,aaf _,rfl,LO.o,hb,iK⟩
    case round=>
     obtain ⟨k,hk,rfl,bi,hb,iK⟩:=hrel;have mx:=I bi;clear LO bi;by_cases aI:k<V.length
     ·have aH:V[k]?=some V[k]:=aag aI;obtain ⟨A1,c1,d0,d1,pQ,hI⟩:=gH.o k _ aH;have x0:=(hb.cell (p:=⟨b,off+k*2,none⟩) bD).trans d0;have iN:ag ((bA V).sp k=V[k].sp):=I (eX aH).1;have qO:ag (((bA V).tr k).length=V[k].tr.length):=I (by rw[(eX aH).2,aap]);have sI:=I (λ(m:Nat) (z:Int) (hz:V[k].tr[m]?=some z)=>ii.o.ui aH hz);have h4:V[k].tr.length<=4:=fx (ii.o.tr k _ aH);have HI:=I hI;have ML:=I d1;have Rj:=I hb;clear aH hI d0 d1;generalize V[k]=a at*;cases hs:a.sp with
      |true=>
       rw[hs]at x0 iN;have HN:ag (Row wr w.heap.size (cj (iF (bA V) B c (fE (bA V) B c q) (k+1)) V.length)):=I (by rw[yF (DW (Or.inl iN.o))];exact mx.o);go_wp2;go_roundw;case rel=>exact ⟨k+1,by omega,by go_num,HN.o,hb,iK⟩
       case measure=>simp[intOf];omega
      |false=>
       rw[hs]at x0 iN;cases GH:B.contains k with
       |true=>
        have HH:=I (mA _ (k:Int) wr vb true (S9.o wr hb) (mf.trans GH));have HN:ag (∀w',Below wr.heap.size wr w'->Row w' w.heap.size (cj (iF (bA V) B c (fE (bA V) B c q) (k+1)) V.length)):=I (λw' h=>by rw[yF (DW (Or.inr GH))];exact mx.o.below h iK);clear GH;go_wp2_with (fail);refine HH.o.mono ?_;rintro e w1 ⟨rfl,bw⟩;have cL:=Rj.o.trans (bw.mono Rj.o.size);have ng:=aar iK bw.size;have TR:=I (HN.o w1 bw);go_wp2;go_roundw;case rel=>exact ⟨k+1,by omega,by go_num,TR.o,cL,ng⟩
        case measure=>simp[intOf];omega
       |false=>
        have HH:=I (mA _ (k:Int) wr vb false (S9.o wr hb) (mf.trans GH));have HN:ag (iF (bA V) B c (fE (bA V) B c q) (k+1)=wj (bA V) c k (iF (bA V) B c (fE (bA V) B c q) k) a.tr.length):=I (by rw[JM (MK iN.o GH),qO.o]);have MM:=I (λ(m j:Nat)=>(pj (B:=B) ii.o.gr ii.o.n12 xf.o (r:=q) (i:=k) (by omega) hk m j).1);clear GH;go_wp2_with (fail);refine HH.o.mono ?_;rintro e w1 ⟨rfl,bw⟩;have dy:=I (Rj.o.trans (bw.mono Rj.o.size));have ng:=aar iK bw.size;have gj:=I (mx.o.below bw iK);clear bw HH Rj x0 hb;generalize iF (bA V) B c (fE (bA V) B c q) k=C at*;go_wp2;go_loopw [11,12,13] (λi _ _ wr=> ∃m:Nat,m<=a.tr.length/\i= .int .i64 (m:Int)/\Row wr w.heap.size (cj (wj (bA V) c k C m) V.length)/\Below w.heap.size w wr/\w.heap.size<wr.heap.size) (λi _ _ _=>a.tr.length-(intOf i).toNat);case atStart=>exact ⟨0,aaf _,rfl,gj.o,dy.o,ng⟩
        case round=>
         obtain ⟨m,hm,rfl,bi,hb,iK⟩:=hrel;have x1:=(hb.cell (p:=⟨b,off+k*2+1,none⟩) bD).trans ML.o;have qk:=I bi;clear gj dy bi;by_cases nQ:m<a.tr.length
         ·have hz:a.tr[m]?=some a.tr[m]:=aag nQ;obtain ⟨b3,o3,rfl,dB,e0⟩:=cZ HI.o hz;have x2:=(hb.cell (p:=⟨b3,o3+m,none⟩) dB).trans e0;obtain ⟨t1,t2,t3,t4⟩:=sI.o m _ hz;obtain ⟨t,ht⟩: ∃t:Nat,t=a.tr[m].toNat:=⟨_,rfl⟩
          rw[<-ht]at t1 t2 t3 t4;rw[<-t2]at x2;have lE:=I (JH (c:=c) (C:=C) t1);have xh:=I (HC.o m);have q1:=MM.o m t;have q2:=MM.o m k;have x3:=qk.o.cell t _ (cD t3);have x4:=qk.o.cell k _ (cD aI);have f4:=qk.o.free k (by rw[fk];exact aI);have Ox:=I (λ(s:Int)=>qk.o.set k (.int .i64 s) (by rw[fk];exact aI));have HY:=I (λ(s:Int) h1 h2=>GF (D:=wj (bA V) c k C m) (i:=k) (t:=t) (s:=s) h1 h2);have hY:=I (λ(s:Int) h1=>JG (D:=wj (bA V) c k C m) (i:=k) (t:=t) (s:=s) h1);simp only[tu]at Ox;have Hl:(k:Int)<(V.length:Int):=by omega
          have kJ:(t:Int)<(V.length:Int):=by omega
          clear ht t1 t2 hz e0;generalize wj (bA V) c k C m=D at*;obtain ⟨x,hx⟩: ∃x,x=D t:=⟨_,rfl⟩
          obtain ⟨y,hy⟩: ∃y,y=D k:=⟨_,rfl⟩
          rw[<-hx]at x3 q1;rw[<-hy]at x4 q2;have HX:=I hx;have S':=I hy;clear hx hy;cases hr:fy with
          |false=>
           rw[hr]at xh;have GI:ag (c (m+1)=1):=I (by rw[xh.o];rfl);go_upto_region 22 with (fail)
           by_cases dp:0<=x
           ·by_cases hc:y<0\/1+x<y
            ·have HN:ag (Row (wr.setCell ⟨w.heap.size,k,none⟩ (.int .i64 (1+x))) w.heap.size (cj (wj (bA V) c k C (m+1)) V.length)):=I (by
              rw[lE.o,GI.o,HY.o _ (by rw[<-HX.o];exact dp) (by rw[<-HX.o,<-S'.o];exact hc),<-HX.o];exact Ox.o _)
             have wZ:=hb.setCell (p:=⟨w.heap.size,k,none⟩) (aad _) (.int .i64 (1+x));have zB:w.heap.size<(wr.setCell ⟨w.heap.size,k,none⟩ (.int .i64 (1+x))).heap.size:=by simpa using iK
             by_cases Rf:y<0
             ·go_wp2;go_roundw;case rel=>exact ⟨m+1,by omega,by go_num,HN.o,wZ,zB⟩
              case measure=>simp[intOf];omega
             have UM:1+x<y:=by omega
             go_wp2;go_roundw;case rel=>exact ⟨m+1,by omega,by go_num,HN.o,wZ,zB⟩
             case measure=>simp[intOf];omega
            have HN:ag (Row wr w.heap.size (cj (wj (bA V) c k C (m+1)) V.length)):=I (by
             rw[lE.o,GI.o,hY.o _ (by rw[<-HX.o,<-S'.o];exact λh=>hc h.2)];exact qk.o)
            have Rf: ¬y<0:=λh=>hc (Or.inl h);have UM: ¬1+x<y:=λh=>hc (Or.inr h);clear hc;go_wp2;go_roundw;case rel=>exact ⟨m+1,by omega,by go_num,HN.o,hb,iK⟩
            case measure=>simp[intOf];omega
           have HN:ag (Row wr w.heap.size (cj (wj (bA V) c k C (m+1)) V.length)):=I (by
            rw[lE.o,GI.o,hY.o _ (by rw[<-HX.o];exact λh=>dp h.1)];exact qk.o)
           go_wp2;go_roundw;case rel=>exact ⟨m+1,by omega,by go_num,HN.o,hb,iK⟩
           case measure=>simp[intOf];omega
          |true=>
           rw[hr]at xh;have GI:ag (c (m+1)=(m:Int)+1):=I (by rw[xh.o];rfl);go_upto_region 22 with (fail)
           by_cases dp:0<=x
           ·by_cases hc:y<0\/((m:Int)+1)+x<y
            ·have HN:ag (Row (wr.setCell ⟨w.heap.size,k,none⟩ (.int .i64 (((m:Int)+1)+x))) w.heap.size (cj (wj (bA V) c k C (m+1)) V.length)):=I (by
              rw[lE.o,GI.o,HY.o _ (by rw[<-HX.o];exact dp) (by rw[<-HX.o,<-S'.o];exact hc),<-HX.o];exact Ox.o _)
             have wZ:=hb.setCell (p:=⟨w.heap.size,k,none⟩) (aad _) (.int .i64 (((m:Int)+1)+x));have zB:w.heap.size<(wr.setCell ⟨w.heap.size,k,none⟩ (.int .i64 (((m:Int)+1)+x))).heap.size:=by simpa using iK
             by_cases Rf:y<0
             ·go_wp2;go_roundw;case rel=>exact ⟨m+1,by omega,by go_num,HN.o,wZ,zB⟩
              case measure=>simp[intOf];omega
             have UM:((m:Int)+1)+x<y:=by omega
             go_wp2;go_roundw;case rel=>exact ⟨m+1,by omega,by go_num,HN.o,wZ,zB⟩
             case measure=>simp[intOf];omega
            have HN:ag (Row wr w.heap.size (cj (wj (bA V) c k C (m+1)) V.length)):=I (by
             rw[lE.o,GI.o,hY.o _ (by rw[<-HX.o,<-S'.o];exact λh=>hc h.2)];exact qk.o)
            have Rf: ¬y<0:=λh=>hc (Or.inl h);have UM: ¬((m:Int)+1)+x<y:=λh=>hc (Or.inr h);clear hc;go_wp2;go_roundw;case rel=>exact ⟨m+1,by omega,by go_num,HN.o,hb,iK⟩
            case measure=>simp[intOf];omega
           have HN:ag (Row wr w.heap.size (cj (wj (bA V) c k C (m+1)) V.length)):=I (by
            rw[lE.o,GI.o,hY.o _ (by rw[<-HX.o];exact λh=>dp h.1)];exact qk.o)
           go_wp2;go_roundw;case rel=>exact ⟨m+1,by omega,by go_num,HN.o,hb,iK⟩
           case measure=>simp[intOf];omega
         have eA: ¬(m:Int)<(a.tr.length:Int):=by omega
         have wq:ag (Row wr w.heap.size (cj (iF (bA V) B c (fE (bA V) B c q) (k+1)) V.length)):=I (by
          rw[HN.o];have:m=a.tr.length:=by omega
          rw[<-this];exact qk.o)
         go_wp2;go_roundw;case rel=>exact ⟨k+1,by omega,by go_num,wq.o,hb,iK⟩
         case measure=>simp[intOf];omega
     have eA: ¬(k:Int)<(V.length:Int):=by omega
     have HN:ag (Row wr w.heap.size (cj (fE (bA V) B c (q+1)) V.length)):=I (by
      have:k=V.length:=by omega
      rw[fE];show Row wr w.heap.size (cj (iF (bA V) B c (fE (bA V) B c q) V.length) V.length)
      rw[<-this]at mx⊢;exact mx.o)
     go_wp2;go_roundw;case rel=>exact ⟨q+1,by omega,by go_num,HN.o,hb,iK⟩
     case measure=>simp[intOf];omega
   have eA: ¬(q:Int)<(V.length:Int):=by omega
   have HN:ag (Row wr w.heap.size (cj (fE (bA V) B c V.length) V.length)):=I (by
    have:q=V.length:=by omega
    rw[<-this]at LO⊢;exact LO.o)
   go_wp2;go_ret;exact ⟨w.heap.size,aad _,iK,rfl,HN.o,hb⟩
theorem yG (rule:Int):aF rule=mP (rule==1):=by
 funext k
 unfold aF mP;by_cases h:rule=1<;>simp[h]
def kr (V:List lW) (rule:Int) (m:Nat) (w:World) (e:Ending) (w':World):Prop:=
 ∃p v,e= .returned v/\mg (bA V) rule m p/\p.length<=577/\ay ak (cW p) w.heap.size w' v/\Below w.heap.size w w'
def dN (w:World) (base g cap:Nat) (p:List Nat):Prop:=w.ownsRow base 2 1 (.slice (some ⟨g,0,none⟩) p.length cap) p.length ((cW p).flatMap ak)
theorem dN.lt {w:World} {base g cap:Nat} {p:List Nat} (h:dN w base g cap p):base<=g/\g<w.heap.size:=World.ownsRow.lt h g rfl
theorem dN.row {w:World} {base g cap:Nat} {p:List Nat} (h:dN w base g cap p):w.ownsRow base 2 1 (.slice (some ⟨g,0,none⟩) p.length cap) p.length ((cW p).flatMap ak):=h
theorem dN.below {w w':World} {base g cap:Nat} {p:List Nat} (h:dN w base g cap p) (hb:Below w.heap.size w w'):dN w' base g cap p:=aT h hb
theorem dN.own {w:World} {base g cap:Nat} {p:List Nat} (h:dN w base g cap p):ay ak (cW p) base w (.slice (some ⟨g,0,none⟩) p.length cap):=ay.bI ak (size:=1) (λ_=>rfl) (by rw[cg];exact h)
theorem dN.ints {w:World} {base g cap:Nat} {p:List Nat} (h:dN w base g cap p):Ints w w.heap.size (.slice (some ⟨g,0,none⟩) p.length cap) (cW p):=h.own.mo (size:=1) (λ_=>rfl)
theorem dN.one (w:World) (m:Nat):dN (w.alloc (.cells #[.int .i64 (m:Int)] 2)) w.heap.size w.heap.size 1 [m]:=
 ⟨rfl,.inr ⟨w.heap.size,1,#[.int .i64 (m:Int)],rfl,aad _,heap_alloc_new w _,aad _,by decide,rfl,rfl⟩⟩
theorem dN.less {w:World} {b base g cap:Nat} {p:List Nat} (h:dN w base g cap p) (hb:b<=base):dN w b g cap p:=by
 obtain ⟨h1,h2|⟨g',c,kT,e,h3,h4⟩⟩:=h
 ·exact ⟨h1,.inl h2⟩
 exact ⟨h1,.inr ⟨g',c,kT,e,aaB hb h3,h4⟩⟩
theorem nK {g:Gr} {rule:Int} {p:List Nat} {a t k:Nat} (h2:rule≠2) (h1:(g.tr a)[k]?=some t) (hf:bK g [] (aF rule) g.n t+aF rule (k+1)=bK g [] (aF rule) g.n a)
 (hn: ∀k',k'<k-> ∀t',(g.tr a)[k']?=some t'-> ¬(bK g [] (aF rule) g.n t'+aF rule (k'+1)=bK g [] (aF rule) g.n a)):nW g rule p a t:=
 ⟨k,h1,by simp only[aah h2];exact hf,λk' di t' kv=>by simp only[aah h2];exact hn k' di t' kv⟩
theorem xN (V:List lW) (rule:Int) (fy:Bool) (m:Nat) (v:Value) (w:World) (hV:mN w w.heap.size v V) (cy:gF V) (mV:rule≠2) (UN:fy=(rule==1)) (hm:m<V.length):
 Calls prog 229 #[v,.bool fy,.int .i64 (m:Int)] w (kr V rule m w):=by
 have BQ:=(aae w.heap.size w).alloc (aad _) (.cells #[] 2);have KR:=I (qN V [] fy v (.slice (some ⟨w.heap.size,0,none⟩) 0 0) (w.alloc (.cells #[] 2)) (hV.on BQ BQ.size) cy (cz.nil _ _ _ _ _ _ (aaf _)));obtain ⟨A,c0,rfl,xE,An,cn⟩:=jL hV;have kM:=cy.n1;have fD:=cy.n12;obtain ⟨b,off,rfl,bD,aC⟩:=cn (by omega);have gH:=I aC;have ii:=I cy;have gj:=I mV;have WG:ag (mP fy=aF rule):=I (by rw[yG,UN]);have HC:ag (∀k,aF rule (k+1)=if fy=true then (k:Int)+1 else 1):=I (λk=>by rw[yG,<-UN];unfold mP;cases fy<;>simp);have xf:=I (ca rule);have zC:=I BQ;unfold pY at KR;unfold kr;obtain ⟨i0,hi,dK,ez,ek⟩:=aaq iD;have xO:ag (∀hr,eK (bA V) rule m [m] m):=I (λhr=>eK.init cy.gr (show (bA V).n<=12 from fD) hm hr);have KS:=I (λp a (h:eK (bA V) rule m p a)=>h.len cy.gr (show (bA V).n<=12 from fD) hm);have DY:=I (tw (g:=bA V) (B:=[]) cy.gr fD (ca rule) (i:=m) hm);have SI:=I (λ(k t a:Nat) (hk:k<4) (ha:a<V.length) (ht:t<V.length) hf=>UK (g:=bA V) cy.gr fD (ca rule) (k:=k) (t:=t) (a:=a) hk ha ht hf);have MM:=I (λj=>(pj (g:=bA V) (B:=[]) (c:=aF rule) cy.gr fD (ca rule) (r:=V.length-1) (i:=V.length) (by omega) (aad _) 0 j).1);rw[WG.o]at KR;clear hV cy cn aC mV UN BQ WG;cases fy with
 |false=>
  go_enter func229,ntmps229;go_wp2_with (fail);refine KR.o.mono ?_;rintro e w1 ⟨g,KT,fG,rfl,bi,bw⟩;have da:=I (zC.o.trans (bw.mono zC.o.size));have JO:=I bi;have x0:=bi.cell m _ (cD hm);have WH:(m:Int)<(V.length:Int):=by omega
  have Ot:w.heap.size<=g:=aaB zC.o.size KT;clear bw bi KR
  have sJ:ag (∀j,-1<=fE (bA V) [] (aF rule) V.length j/\fE (bA V) [] (aF rule) V.length j<=999):=I (by
   intro j;have:=MM.o j;have e:V.length=V.length-1+1:=by omega
   have e2:fE (bA V) [] (aF rule) V.length=iF (bA V) [] (aF rule) (fE (bA V) [] (aF rule) (V.length-1)) V.length:=by
    rw[e,fE];simp only[Nat.add_sub_cancel];rw[<-e];rfl
   rw[e2];exact this)
  have zD:ag (∀j,fE (bA V) [] (aF rule) V.length j=fE (bA V) [] (aF rule) (bA V).n j):=I (λ_=>rfl);generalize fE (bA V) [] (aF rule) V.length=D at*;obtain ⟨d,hd⟩: ∃d,d=D m:=⟨_,rfl⟩
  rw[<-hd]at x0;have HD:=I hd;clear hd;by_cases vj:d<0
  ·have JP:ag (mg (bA V) rule m []):=I (Or.inl ⟨rfl,λh=>by
    have:=DY.o.2 h;rw[<-zD.o,<-HD.o]at this;omega⟩)
   go_wp2;go_ret;exact ⟨[],_,rfl,JP.o,by simp,ay.nil _ _ _,da.o⟩
  have qk:ag (Reach (bA V) [] m):=I (DY.o.1 (by rw[<-zD.o,<-HD.o];omega));have JQ:=I (xO.o qk.o);have JR:=I ((dN.one w1 m).less da.o.size);have dy:=I (da.o.alloc da.o.size (.cells #[.int .i64 (m:Int)] 2));have sd:=I (JO.o.below ((aae w1.heap.size w1).alloc (aad _) (.cells #[.int .i64 (m:Int)] 2)) fG);have iV:g≠w1.heap.size:=by omega
  have j5:g<(w1.alloc (.cells #[.int .i64 (m:Int)] 2)).heap.size:=by simp;omega
  go_wp2;go_loopw [8,9,10,11,12] (λvp xe _ _ _ wr=> ∃(p:List Nat) (a g2 cap:Nat),xe= .int .i64 (a:Int)/\vp= .slice (some ⟨g2,0,none⟩) p.length cap/\dN wr w.heap.size g2 cap p/\eK (bA V) rule m p a/\Row wr g (cj D V.length)/\g≠g2/\g<wr.heap.size/\Below w.heap.size w wr) (λvp _ _ _ _ _=>600-mG vp);case atStart=>exact ⟨[m],m,w1.heap.size,1,rfl,rfl,JR.o,JQ.o,sd.o,iV,j5,dy.o⟩
  case round=>
   obtain ⟨p,a,g2,cap,rfl,rfl,se,qt,bi,jP,fG,hb⟩:=hrel;have dz:=I se;have uB:=I qt;have fv:=I bi;have HB:=I hb;have halt:a<V.length:=qt.MJ;have sG:=KS.o p a qt;have aH:V[a]?=some V[a]:=aag halt;obtain ⟨A1,c1,d0,d1,pQ,hI⟩:=gH.o a _ aH;have x0:=λy:ar wr=>y.cell ((hb.cell (p:=⟨b,off+a*2,none⟩) bD).trans d0);have x1:=λy:ar wr=>y.cell ((hb.cell (p:=⟨b,off+a*2+1,none⟩) bD).trans d1);have iN:ag ((bA V).sp a=V[a].sp):=I (eX aH).1;have qO:ag (((bA V).tr a).length=V[a].tr.length):=I (by rw[(eX aH).2,aap]);have sI:=I (λ(m:Nat) (z:Int) (hz:V[a].tr[m]?=some z)=>ii.o.ui aH hz);have h4:V[a].tr.length<=4:=fx (ii.o.tr a _ aH);have HI:=I hI;have Rk:(a:Int)<(V.length:Int):=by omega
   obtain ⟨u0,qo⟩: ∃y:ar wr,y.val=wr:=⟨⟨wr,aae _ _⟩,rfl⟩
   rw[<-qo];have E9:=I qo;clear qo aH hI d0 d1 se qt bi hb;generalize V[a]=va at*;cases hs:va.sp with
   |true=>
    rw[hs]at x0 iN;have JS:=I (uB.o.GG qk.o iN.o);have kX:=I (dz.o.own);go_wp2;go_ret;exact ⟨p,_,rfl,JS.o,sG,by rw[E9.o];exact kX.o,by rw[E9.o];exact HB.o⟩
   |false=>
    rw[hs]at x0 iN;have iG:=I (uB.o.next ii.o.gr iN.o);have Mu:=I (uB.o.cost gj.o).1;go_wp2;go_loopw [9,10,11,12] (λxe i _ _ JT=> ∃(k:Nat) (u:ar wr),k<=va.tr.length/\i= .int .i64 (k:Int)/\xe= .int .i64 (a:Int)/\JT=u.val/\ ∀k',k'<k-> ∀t',((bA V).tr a)[k']?=some t'-> ¬(bK (bA V) [] (aF rule) (bA V).n t'+aF rule (k'+1)=bK (bA V) [] (aF rule) (bA V).n a)) (λ_ i _ _ _=>va.tr.length-(intOf i).toNat);case atStart=>exact ⟨0,u0,aaf _,rfl,rfl,rfl,λk' di=>absurd di (aa' _)⟩
    case round=>
     obtain ⟨k,u1,hk,rfl,rfl,rfl,rf⟩:=hrel;have hY:=I rf;clear rf;by_cases qg:k<va.tr.length
     ·have hz:va.tr[k]?=some va.tr[k]:=aag qg;obtain ⟨b3,o3,rfl,dB,e0⟩:=cZ HI.o hz;have x2:=λy:ar wr=>y.cell ((HB.o.cell (p:=⟨b3,o3+k,none⟩) dB).trans e0);obtain ⟨t1,t2,t3,t4⟩:=sI.o k _ hz;obtain ⟨t,ht⟩: ∃t:Nat,t=va.tr[k].toNat:=⟨_,rfl⟩
      rw[<-ht]at t1 t2 t3 t4;rw[<-t2]at x2;have lQ:=I t1;have iS:=SI.o k t a (by omega) halt t3 Mu.o;rw[<-zD.o,<-zD.o]at iS;have xh:=I (HC.o k);have q1:=sJ.o t;have q2:=sJ.o a;have x3:=λy:ar wr=>y.cell (fv.o.cell t _ (cD t3));have x4:=λy:ar wr=>y.cell (fv.o.cell a _ (cD halt));have kJ:(t:Int)<(V.length:Int):=by omega
      obtain ⟨x,hx⟩: ∃x,x=D t:=⟨_,rfl⟩
      obtain ⟨y,hy⟩: ∃y,y=D a:=⟨_,rfl⟩
      rw[<-hx]at x3 q1 iS;rw[<-hy]at x4 q2 iS;have js:=I iS;clear hx hy iS ht t1 t2 hz e0;have GI:ag (aF rule (k+1)=1):=I (by rw[xh.o];simp);go_upto_region 14 with (fail)
      by_cases hf:0<=x/\1+x=y
      ·obtain ⟨dp,Lr⟩:=hf;have iG:ag (nW (bA V) rule p a t):=I (nK gj.o lQ.o (js.o.1 ⟨dp,by rw[GI.o];exact Lr⟩) hY.o);have JU:=I (uB.o.more ii.o.gr iN.o iG.o);have Ho:decide (0<=x)=true:=by simp[dp]
       have Hp:(1+x==y)=true:=by simp[Lr]
       clear Lr iG hY;refine ap (by kernel_rfl) (by kernel_rfl) ?_
       repeat (go_big_quiet_step (fail))
       refine aai ?_;rintro _ ⟨u,rfl⟩;have kX:=I (dz.o.below u.ok);have mz:=I (HB.o.trans (u.ok.mono HB.o.size));have sf:=I (fv.o.below u.ok fG);have sg:=aar fG u.ok.size;go_wp2_with (at_builtin;refine aaH _ rfl _ _ 33 rfl w.heap.size 2 i0 (.int .i64 0) 1 8 underlying33 hi dK ez ek rfl (by decide) _ _ _ rfl (kX.o.row.alloc _) ⟨u.val.heap.size,0,none⟩ 1 1 (ak (t:Int)) rfl rfl (λj u hj=>fS hj) (λu hu=>cf _ hu) ?c3 ?c4 (aS mz.o.size) ?_);case c3=>unfold maxLen;omega
       case c4=>omega
       intro v' w9 aG aA aU iH;obtain ⟨g9,gM,rfl,zE,zF⟩:=bG aG (by simpa using aU);have iM:=I ((mz.o.alloc mz.o.size (.cells #[.int .i64 (t:Int)] 2)).grown aA (aS mz.o.size) (λj hj=>(kX.o.row.lt j hj).1))
       have zG:ag (dN w9 w.heap.size g9 gM (p++[t])):=I (by
        unfold dN;rw[cQ,cq,aak];exact aG)
       have zH:=I ((sf.o.below ((aae u.val.heap.size u.val).alloc (aad _) (.cells #[.int .i64 (t:Int)] 2)) sg).aD (F:=λc=>c=g2) (by simpa using ab3 sg) (Touch.aW aA (λc hc=>by injection hc with hc;exact hc.symm)) jP)
       have zI:g≠g9:=by
        rcases iH with h|h<;>injection h with h
        ·exact λe=>jP (e.trans h)
        simp at h;omega
       have zJ:g<w9.heap.size:=by have:=aA.size;simp at this;omega
       clear aG aA aU iH;go_wp2;go_roundw
       case rel=>
        exact ⟨p++[t],t,g9,gM,rfl,by rw[aak];rfl,zG.o,JU.o,zH.o,zI,zJ,iM.o⟩
       case measure=>simp[mG];omega
      have wq:ag (∀k',k'<k+1-> ∀t',((bA V).tr a)[k']?=some t'-> ¬(bK (bA V) [] (aF rule) (bA V).n t'+aF rule (k'+1)=bK (bA V) [] (aF rule) (bA V).n a)):=I (λk' di t' kv=>by
       by_cases e:k'=k
       ·subst e;rw[lQ.o]at kv;injection kv with kv
        subst kv;exact λh=>hf (by rw[<-GI.o];exact js.o.2 h)
       exact hY.o k' (by omega) t' kv)
      by_cases dp:0<=x
      ·have Ho:decide (0<=x)=true:=by simp[dp]
       have Hp:(1+x==y)=false:=by
        have: ¬1+x=y:=λh=>hf ⟨dp,h⟩;simpa using this
       clear hf hY;refine ap (by kernel_rfl) (by kernel_rfl) ?_
       repeat (go_big_quiet_step (fail))
       refine aai ?_;rintro _ ⟨u,rfl⟩;go_wp2;go_roundw;case rel=>exact ⟨k+1,u,by omega,by go_num,rfl,rfl,wq.o⟩
       case measure=>simp[intOf];omega
      have Ho:decide (0<=x)=false:=by simp;omega
      clear hf hY;refine ap (by kernel_rfl) (by kernel_rfl) ?_
      repeat (go_big_quiet_step (fail))
      refine aai ?_;rintro _ ⟨u,rfl⟩;go_wp2;go_roundw;case rel=>exact ⟨k+1,u,by omega,by go_num,rfl,rfl,wq.o⟩
      case measure=>simp[intOf];omega
     exfalso
     obtain ⟨t,kk,h1,h2,_⟩:=iG.o;rw[aah gj.o]at h2;have:=(aal.1 h1).1;rw[qO.o]at this;exact hY.o kk (by omega) t h1 h2
 |true=>
  go_enter func229,ntmps229;go_wp2_with (fail);refine KR.o.mono ?_;rintro e w1 ⟨g,KT,fG,rfl,bi,bw⟩;have da:=I (zC.o.trans (bw.mono zC.o.size));have JO:=I bi;have x0:=bi.cell m _ (cD hm);have WH:(m:Int)<(V.length:Int):=by omega
  have Ot:w.heap.size<=g:=aaB zC.o.size KT;clear bw bi KR
  have sJ:ag (∀j,-1<=fE (bA V) [] (aF rule) V.length j/\fE (bA V) [] (aF rule) V.length j<=999):=I (by
   intro j;have:=MM.o j;have e:V.length=V.length-1+1:=by omega
   have e2:fE (bA V) [] (aF rule) V.length=iF (bA V) [] (aF rule) (fE (bA V) [] (aF rule) (V.length-1)) V.length:=by
    rw[e,fE];simp only[Nat.add_sub_cancel];rw[<-e];rfl
   rw[e2];exact this)
  have zD:ag (∀j,fE (bA V) [] (aF rule) V.length j=fE (bA V) [] (aF rule) (bA V).n j):=I (λ_=>rfl);generalize fE (bA V) [] (aF rule) V.length=D at*;obtain ⟨d,hd⟩: ∃d,d=D m:=⟨_,rfl⟩
  rw[<-hd]at x0;have HD:=I hd;clear hd;by_cases vj:d<0
  ·have JP:ag (mg (bA V) rule m []):=I (Or.inl ⟨rfl,λh=>by
    have:=DY.o.2 h;rw[<-zD.o,<-HD.o]at this;omega⟩)
   go_wp2;go_ret;exact ⟨[],_,rfl,JP.o,by simp,ay.nil _ _ _,da.o⟩
  have qk:ag (Reach (bA V) [] m):=I (DY.o.1 (by rw[<-zD.o,<-HD.o];omega));have JQ:=I (xO.o qk.o);have JR:=I ((dN.one w1 m).less da.o.size);have dy:=I (da.o.alloc da.o.size (.cells #[.int .i64 (m:Int)] 2));have sd:=I (JO.o.below ((aae w1.heap.size w1).alloc (aad _) (.cells #[.int .i64 (m:Int)] 2)) fG);have iV:g≠w1.heap.size:=by omega
  have j5:g<(w1.alloc (.cells #[.int .i64 (m:Int)] 2)).heap.size:=by simp;omega
  go_wp2;go_loopw [8,9,10,11,12] (λvp xe _ _ _ wr=> ∃(p:List Nat) (a g2 cap:Nat),xe= .int .i64 (a:Int)/\vp= .slice (some ⟨g2,0,none⟩) p.length cap/\dN wr w.heap.size g2 cap p/\eK (bA V) rule m p a/\Row wr g (cj D V.length)/\g≠g2/\g<wr.heap.size/\Below w.heap.size w wr) (λvp _ _ _ _ _=>600-mG vp);case atStart=>exact ⟨[m],m,w1.heap.size,1,rfl,rfl,JR.o,JQ.o,sd.o,iV,j5,dy.o⟩
  case round=>
   obtain ⟨p,a,g2,cap,rfl,rfl,se,qt,bi,jP,fG,hb⟩:=hrel;have dz:=I se;have uB:=I qt;have fv:=I bi;have HB:=I hb;have halt:a<V.length:=qt.MJ;have sG:=KS.o p a qt;have aH:V[a]?=some V[a]:=aag halt;obtain ⟨A1,c1,d0,d1,pQ,hI⟩:=gH.o a _ aH;have x0:=λy:ar wr=>y.cell ((hb.cell (p:=⟨b,off+a*2,none⟩) bD).trans d0);have x1:=λy:ar wr=>y.cell ((hb.cell (p:=⟨b,off+a*2+1,none⟩) bD).trans d1);have iN:ag ((bA V).sp a=V[a].sp):=I (eX aH).1;have qO:ag (((bA V).tr a).length=V[a].tr.length):=I (by rw[(eX aH).2,aap]);have sI:=I (λ(m:Nat) (z:Int) (hz:V[a].tr[m]?=some z)=>ii.o.ui aH hz);have h4:V[a].tr.length<=4:=fx (ii.o.tr a _ aH);have HI:=I hI;have Rk:(a:Int)<(V.length:Int):=by omega
   obtain ⟨u0,qo⟩: ∃y:ar wr,y.val=wr:=⟨⟨wr,aae _ _⟩,rfl⟩
   rw[<-qo];have E9:=I qo;clear qo aH hI d0 d1 se qt bi hb;generalize V[a]=va at*;cases hs:va.sp with
   |true=>
    rw[hs]at x0 iN;have JS:=I (uB.o.GG qk.o iN.o);have kX:=I (dz.o.own);go_wp2;go_ret;exact ⟨p,_,rfl,JS.o,sG,by rw[E9.o];exact kX.o,by rw[E9.o];exact HB.o⟩
   |false=>
    rw[hs]at x0 iN;have iG:=I (uB.o.next ii.o.gr iN.o);have Mu:=I (uB.o.cost gj.o).1;go_wp2;go_loopw [9,10,11,12] (λxe i _ _ JT=> ∃(k:Nat) (u:ar wr),k<=va.tr.length/\i= .int .i64 (k:Int)/\xe= .int .i64 (a:Int)/\JT=u.val/\ ∀k',k'<k-> ∀t',((bA V).tr a)[k']?=some t'-> ¬(bK (bA V) [] (aF rule) (bA V).n t'+aF rule (k'+1)=bK (bA V) [] (aF rule) (bA V).n a)) (λ_ i _ _ _=>va.tr.length-(intOf i).toNat);case atStart=>exact ⟨0,u0,aaf _,rfl,rfl,rfl,λk' di=>absurd di (aa' _)⟩
    case round=>
     obtain ⟨k,u1,hk,rfl,rfl,rfl,rf⟩:=hrel;have hY:=I rf;clear rf;by_cases qg:k<va.tr.length
     ·have hz:va.tr[k]?=some va.tr[k]:=aag qg;obtain ⟨b3,o3,rfl,dB,e0⟩:=cZ HI.o hz;have x2:=λy:ar wr=>y.cell ((HB.o.cell (p:=⟨b3,o3+k,none⟩) dB).trans e0);obtain ⟨t1,t2,t3,t4⟩:=sI.o k _ hz;obtain ⟨t,ht⟩: ∃t:Nat,t=va.tr[k].toNat:=⟨_,rfl⟩
      rw[<-ht]at t1 t2 t3 t4;rw[<-t2]at x2;have lQ:=I t1;have iS:=SI.o k t a (by omega) halt t3 Mu.o;rw[<-zD.o,<-zD.o]at iS;have xh:=I (HC.o k);have q1:=sJ.o t;have q2:=sJ.o a;have x3:=λy:ar wr=>y.cell (fv.o.cell t _ (cD t3));have x4:=λy:ar wr=>y.cell (fv.o.cell a _ (cD halt));have kJ:(t:Int)<(V.length:Int):=by omega
      obtain ⟨x,hx⟩: ∃x,x=D t:=⟨_,rfl⟩
      obtain ⟨y,hy⟩: ∃y,y=D a:=⟨_,rfl⟩
      rw[<-hx]at x3 q1 iS;rw[<-hy]at x4 q2 iS;have js:=I iS;clear hx hy iS ht t1 t2 hz e0;have GI:ag (aF rule (k+1)=((k:Int)+1)):=I (by rw[xh.o];simp);go_upto_region 14 with (fail)
      by_cases hf:0<=x/\((k:Int)+1)+x=y
      ·obtain ⟨dp,Lr⟩:=hf;have iG:ag (nW (bA V) rule p a t):=I (nK gj.o lQ.o (js.o.1 ⟨dp,by rw[GI.o];exact Lr⟩) hY.o);have JU:=I (uB.o.more ii.o.gr iN.o iG.o);have Ho:decide (0<=x)=true:=by simp[dp]
       have Hp:(((k:Int)+1)+x==y)=true:=by simp[Lr]
       clear Lr iG hY;refine ap (by kernel_rfl) (by kernel_rfl) ?_
       repeat (go_big_quiet_step (fail))
       refine aai ?_;rintro _ ⟨u,rfl⟩;have kX:=I (dz.o.below u.ok);have mz:=I (HB.o.trans (u.ok.mono HB.o.size));have sf:=I (fv.o.below u.ok fG);have sg:=aar fG u.ok.size;go_wp2_with (at_builtin;refine aaH _ rfl _ _ 33 rfl w.heap.size 2 i0 (.int .i64 0) 1 8 underlying33 hi dK ez ek rfl (by decide) _ _ _ rfl (kX.o.row.alloc _) ⟨u.val.heap.size,0,none⟩ 1 1 (ak (t:Int)) rfl rfl (λj u hj=>fS hj) (λu hu=>cf _ hu) ?c3 ?c4 (aS mz.o.size) ?_);case c3=>unfold maxLen;omega
       case c4=>omega
       intro v' w9 aG aA aU iH;obtain ⟨g9,gM,rfl,zE,zF⟩:=bG aG (by simpa using aU);have iM:=I ((mz.o.alloc mz.o.size (.cells #[.int .i64 (t:Int)] 2)).grown aA (aS mz.o.size) (λj hj=>(kX.o.row.lt j hj).1))
       have zG:ag (dN w9 w.heap.size g9 gM (p++[t])):=I (by
        unfold dN;rw[cQ,cq,aak];exact aG)
       have zH:=I ((sf.o.below ((aae u.val.heap.size u.val).alloc (aad _) (.cells #[.int .i64 (t:Int)] 2)) sg).aD (F:=λc=>c=g2) (by simpa using ab3 sg) (Touch.aW aA (λc hc=>by injection hc with hc;exact hc.symm)) jP)
       have zI:g≠g9:=by
        rcases iH with h|h<;>injection h with h
        ·exact λe=>jP (e.trans h)
        simp at h;omega
       have zJ:g<w9.heap.size:=by have:=aA.size;simp at this;omega
       clear aG aA aU iH;go_wp2;go_roundw
       case rel=>
        exact ⟨p++[t],t,g9,gM,rfl,by rw[aak];rfl,zG.o,JU.o,zH.o,zI,zJ,iM.o⟩
       case measure=>simp[mG];omega
      have wq:ag (∀k',k'<k+1-> ∀t',((bA V).tr a)[k']?=some t'-> ¬(bK (bA V) [] (aF rule) (bA V).n t'+aF rule (k'+1)=bK (bA V) [] (aF rule) (bA V).n a)):=I (λk' di t' kv=>by
       by_cases e:k'=k
       ·subst e;rw[lQ.o]at kv;injection kv with kv
        subst kv;exact λh=>hf (by rw[<-GI.o];exact js.o.2 h)
       exact hY.o k' (by omega) t' kv)
      by_cases dp:0<=x
      ·have Ho:decide (0<=x)=true:=by simp[dp]
       have Hp:(((k:Int)+1)+x==y)=false:=by
        have: ¬((k:Int)+1)+x=y:=λh=>hf ⟨dp,h⟩;simpa using this
       clear hf hY;refine ap (by kernel_rfl) (by kernel_rfl) ?_
       repeat (go_big_quiet_step (fail))
       refine aai ?_;rintro _ ⟨u,rfl⟩;go_wp2;go_roundw;case rel=>exact ⟨k+1,u,by omega,by go_num,rfl,rfl,wq.o⟩
       case measure=>simp[intOf];omega
      have Ho:decide (0<=x)=false:=by simp;omega
      clear hf hY;refine ap (by kernel_rfl) (by kernel_rfl) ?_
      repeat (go_big_quiet_step (fail))
      refine aai ?_;rintro _ ⟨u,rfl⟩;go_wp2;go_roundw;case rel=>exact ⟨k+1,u,by omega,by go_num,rfl,rfl,wq.o⟩
      case measure=>simp[intOf];omega
     exfalso
     obtain ⟨t,kk,h1,h2,_⟩:=iG.o;rw[aah gj.o]at h2;have:=(aal.1 h1).1;rw[qO.o]at this;exact hY.o kk (by omega) t h1 h2
theorem JV {l:List Int} {m n:Int} {k:Nat} {z:Int} (h:cF l m n=true) (hk:l[k]?=some z):dO z 0 (n-1)=true/\z≠m/\(l.take k).contains z=false:=by
 rw[fo,aay]at h;have h1:=eo.1 h.1 k (aal.1 hk).1;rw[nb hk,aay,aay,aaU]at h1;exact ⟨h1.1.1,h1.1.2,by have:=h1.2;simpa using this⟩
theorem BR (V:List lW) (v:Value) (w:World) (hV:mN w w.heap.size v V) (cy:gF V):Calls prog 114 #[v] w (bT (.bool true) w):=by
 obtain ⟨A,c0,rfl,xE,An,cn⟩:=jL hV;have kM:=cy.n1;have fD:=cy.n12;obtain ⟨b,off,rfl,bD,aC⟩:=cn (by omega);have gH:=I aC;have ii:=I cy;clear hV cn aC cy;refine aL λx0=>?_;go_enter func114,ntmps114;go_wp2;go_loopw [3,4,5,6,9,17] (λ_ _ _ _ i _ wr=> ∃(k:Nat) (x:ar w),k<=V.length/\i= .int .i64 (k:Int)/\wr=x.val) (λ_ _ _ _ i _ _=>V.length-(intOf i).toNat);case atStart=>exact ⟨0,x0,aaf _,rfl,rfl⟩
 case round=>
  obtain ⟨k,x,hk,rfl,rfl⟩:=hrel;by_cases aI:k<V.length
  ·have aH:V[k]?=some V[k]:=aag aI;obtain ⟨A1,c1,d0,d1,pQ,hI⟩:=gH.o k _ aH;have Q3:=x.cell d0;have Uu:=x.cell d1;have HT:=I (λm z=>JV (ii.o.tr k _ aH) (k:=m) (z:=z));have h4:V[k].tr.length<=4:=fx (ii.o.tr k _ aH);have HI:=I hI;clear aH d0 d1 hI;generalize V[k]=a at*;go_upto_region 4 with (fail)
   obtain ⟨U,hU⟩: ∃U:World,U=x.val.alloc (.cells #[.bool a.sp,.slice A1 a.tr.length c1] 150):=⟨_,rfl⟩
   change Code.wp _ _ _ _ (x.val.alloc (.cells #[.bool a.sp,.slice A1 a.tr.length c1] 150));have bU:Below x.val.heap.size x.val U:=by rw[hU];exact (aae _ _).alloc (aad _) _
   have CH:Below w.heap.size w U:=x.ok.trans (bU.mono x.ok.size);have a2:Row U x.val.heap.size [.bool a.sp,.slice A1 a.tr.length c1]:=by rw[hU];exact Row.new x.val _ _
   have t1:=λy:ar U=>y.cell (a2.cell 1 _ rfl);have YZ:=I (λy:ar U=>cz.on HI.o (Pl.stays _) (aJ CH y) (aJ CH y).size);have Uv:=I (λy:ar U=>(⟨⟨y.val,aJ CH y⟩,rfl⟩: ∃t:ar w,t.val=y.val));have Y0:=I (λ(p o:Nat) (v:Value) (h:w.cell? ⟨p,o,none⟩=some v) (y:ar U)=>(ar.cell ⟨y.val,aJ CH y⟩ h:y.val.cell? ⟨p,o,none⟩=some v));rw[<-hU];obtain ⟨u0,qo⟩: ∃y:ar U,y.val=U:=⟨⟨U,aae _ _⟩,rfl⟩
   rw[<-qo];clear hU Q3 Uu a2 bU qo;go_wp2;go_loopw [5,6,17] (λ_ _ i wr=> ∃(m:Nat) (y:ar U),m<=a.tr.length/\i= .int .i64 (m:Int)/\wr=y.val) (λ_ _ i _=>a.tr.length-(intOf i).toNat);case atStart=>exact ⟨0,u0,aaf _,rfl,rfl⟩
   case round=>
    obtain ⟨m,y,hm,rfl,rfl⟩:=hrel;by_cases nQ:m<a.tr.length
    ·have hz:a.tr[m]?=some a.tr[m]:=aag nQ;obtain ⟨b3,o3,rfl,dB,e0⟩:=cZ HI.o hz;have x2:=Y0.o _ _ _ e0;obtain ⟨h1,h2,h3⟩:=HT.o m _ hz;have HSub:=I (λy:ar U=>(cz.take (YZ.o y) m hm:Ints y.val y.val.heap.size (.slice (some ⟨b3,o3,none⟩) m c1) (a.tr.take m)));generalize a.tr.take m=zs at*;clear hz e0;generalize a.tr[m]=z at*;have ez:(z==(k:Int))=false:=by simpa using h2
     have ur:=(fB HI.o).2.1;have rc:(m:Int)<=(c1:Int):=by omega
     have jA:(0:Int)<=(m:Int):=by omega
     have H2:=I (lZ z 0 ((V.length:Int)-1));rw[h1]at H2;clear h1 h2;go_wp2_with (fail);refine (az (H2.o _)).mono ?_;rintro e _ ⟨rfl,y1,rfl⟩;go_wp2_with (fail);have H3:=kL zs z _ _ (HSub.o y1);rw[h3]at H3;refine (az H3).mono ?_;rintro e _ ⟨rfl,y2,rfl⟩;go_wp2;go_roundw;case rel=>exact ⟨m+1,y2,by omega,by go_num,rfl⟩
     case measure=>simp[intOf];omega
    have eA: ¬(m:Int)<(a.tr.length:Int):=by omega
    have rf: ¬(4:Int)<(a.tr.length:Int):=by omega
    obtain ⟨t,ht⟩:=Uv.o y;go_wp2;go_roundw;case rel=>exact ⟨k+1,t,by omega,by go_num,ht.symm⟩
    case measure=>simp[intOf];omega
  have eA: ¬(k:Int)<(V.length:Int):=by omega
  have h1:(1:Int)<=(V.length:Int):=by omega
  have h2:(V.length:Int)<=12:=by omega
  go_wp2;go_ret;exact ⟨rfl,x.ok⟩
def lf (zs:List Int) (w:World) (e:Ending) (w':World):Prop:=
 ∃v',e= .returned v'/\w'.ownsRow w.heap.size 2 1 v' zs.length (zs.flatMap ak)/\Below w.heap.size w w'
theorem GJ (w:World):Calls prog 120 #[.slice none 0 0] w (lf [] w):=by
 unfold lf;have Ij: ∀W,(binOp .eql 33 (.slice none 0 0) (.slice none 0 0)).run prog W= .ok (.bool true) W:=λW=>Go.Lib.run_eql_slice_nil (P:=prog) W 33 2 none 0 0 0 0 underlying33;go_enter func120,ntmps120;go_wp2;go_ret;exact ⟨_,rfl,World.ownsRow_nil _ _ _ _,aae _ _⟩
theorem DZ (zs:List Int) (ad:Addr) (c:Nat) (w:World) (h:Ints w w.heap.size (.slice (some ad) zs.length c) zs) (hl:zs.length<=1048576):Calls prog 120 #[.slice (some ad) zs.length c] w (lf zs w):=by
 have bW:=(aae w.heap.size w).alloc (aad _) (.cells #[] 2);have FR:=I (cz.on h (Pl.stays _) bW bW.size);have jT:=I bW;have cN:(w.alloc (.cells #[] 2)).ownsRow w.heap.size 2 1 (.slice (some ⟨w.heap.size,0,none⟩) 0 0) 0 []:=by simpa using aaz w #[] 0 (aad _) (aaf _) rfl
 have dY:=I cN;obtain ⟨i0,hi,dK,ez,ek⟩:=aaq iD;clear bW cN h;unfold lf;have Ij: ∀W,(binOp .eql 33 (.slice (some ad) zs.length c) (.slice none 0 0)).run prog W= .ok (.bool false) W:=λW=>Go.Lib.run_eql_slice_nil (P:=prog) W 33 2 (some ad) zs.length c 0 0 underlying33;go_enter func120,ntmps120;go_wp2_with (at_builtin;refine eI ak rfl _ _ 33 rfl w.heap.size 2 i0 (.int .i64 0) 1 8 underlying33 hi dK ez ek rfl (by decide) _ _ _ rfl dY.o _ zs _ rfl FR.o (λ_=>rfl) (λy u hu=>cf _ hu) ?c3 ?c4 jT.o.size ?_);case c3=>unfold maxLen;omega
 case c4=>omega
 intro o1 w1 fe gC uv;have jh:ag (w1.ownsRow w.heap.size 2 1 o1 zs.length (zs.flatMap ak)):=I (by simpa using fe);have da:ag (Below w.heap.size w w1):=I (jT.o.grown gC jT.o.size (λj hj=>(dY.o.lt j hj).1));clear fe gC uv;go_wp2;go_ret;exact ⟨_,rfl,jh.o,da.o⟩
structure lM (base:Nat) (w:World) (vs vo vq:Value) (gq:Nat) (S E O:List Int):Prop where
 s:w.ownsRow base 2 1 vs S.length (S.flatMap ak)
 o:w.ownsRow base 2 1 vo E.length (E.flatMap ak)
 q:qL w base 2 gq vq (O.map (Value.int .i64))
 so: ∀j,vs.ownBlock=some j->vo.ownBlock≠some j
 sq:vs.ownBlock≠some gq
 oq:vo.ownBlock≠some gq
section
variable {base gq:Nat} {w w':World} {vs vo vq:Value} {S E O:List Int}
theorem lM.below (h:lM base w vs vo vq gq S E O) (hb:Below w.heap.size w w'):lM base w' vs vo vq gq S E O:=
 ⟨aT h.s hb,aT h.o hb,h.q.below hb,h.so,h.sq,h.oq⟩
theorem lM.ints (h:lM base w vs vo vq gq S E O):Ints w w.heap.size vs S:=(ay.bI ak (size:=1) (λ_=>rfl) h.s).mo (size:=1) (λ_=>rfl)
theorem lM.tail {Rl:Value} {O':List Int} (h:lM base w vs vo vq gq S E O) (hq:qL w base 2 gq Rl (O'.map (Value.int .i64))):lM base w vs vo Rl gq S E O':=
 ⟨h.s,h.o,hq,h.so,h.sq,h.oq⟩
theorem wu {v1 v2:Value} (h: ∀j,v1.ownBlock=some j->v2.ownBlock≠some j):v2.ownBlock=none\/v2.ownBlock≠v1.ownBlock:=by
 cases hv:v2.ownBlock with
 |none=>exact .inl rfl
 |some j=>exact .inr (λe=>h j e.symm hv)
theorem lM.MN {Ta:Value} {z:Int} (h:lM base w vs vo vq gq S E O) (cr:w'.ownsRow base 2 1 Ta (S.length+1) (S.flatMap ak++ak z)) (hg:w.grownBy w' vs.ownBlock) (gd:Ta.ownBlock=vs.ownBlock\/Ta.ownBlock=some w.heap.size):lM base w' Ta vo vq gq (S++[z]) E O where
 s:=by rw[aak,cq];exact cr
 o:=h.o.kept hg (wu h.so)
 q:=h.q.grown hg (λe=>h.sq e.symm)
 so:=λj hj vB=>by
  rcases gd with e|e
  ·exact h.so j (e▸hj) vB
  rw[e]at hj;injection hj with hj
  have:=(h.o.lt j vB).2;omega
 sq:=by
  rcases gd with e|e
  ·rw[e];exact h.sq
  rw[e];intro hj;injection hj with hj
  have:=h.q.lt.2;omega
 oq:=h.oq
theorem lM.MO {Tb:Value} {z:Int} (h:lM base w vs vo vq gq S E O) (cr:w'.ownsRow base 2 1 Tb (E.length+1) (E.flatMap ak++ak z)) (hg:w.grownBy w' vo.ownBlock) (gd:Tb.ownBlock=vo.ownBlock\/Tb.ownBlock=some w.heap.size):lM base w' vs Tb vq gq S (E++[z]) O where
 s:=h.s.kept hg (wu (λj hj vB=>h.so j vB hj))
 o:=by rw[aak,cq];exact cr
 q:=h.q.grown hg (λe=>h.oq e.symm)
 so:=λj hj vB=>by
  rcases gd with e|e
  ·exact h.so j hj (e▸vB)
  rw[e]at vB;injection vB with vB
  have:=(h.s.lt j hj).2;omega
 sq:=h.sq
 oq:=by
  rcases gd with e|e
  ·rw[e];exact h.oq
  rw[e];intro hj;injection hj with hj
  have:=h.q.lt.2;omega
theorem lM.MP {Rl:Value} {g':Nat} {O':List Int} (h:lM base w vs vo vq gq S E O) (hq:qL w' base 2 g' Rl (O'.map (Value.int .i64))) (hg:w.grownBy w' (some gq)) (gd:g'=gq\/g'=w.heap.size):lM base w' vs vo Rl g' S E O' where
 s:=h.s.kept hg (.inr h.sq)
 o:=h.o.kept hg (.inr h.oq)
 q:=hq
 so:=h.so
 sq:=by
  rcases gd with e|e
  ·rw[e];exact h.sq
  rw[e];intro hj;have:=(h.s.lt _ hj).2;omega
 oq:=by
  rcases gd with e|e
  ·rw[e];exact h.oq
  rw[e];intro hj;have:=(h.o.lt _ hj).2;omega
end
def mQ (V:List lW) (B:List Nat) (m:Nat) (w:World) (e:Ending) (w':World):Prop:=
 ∃A n c,e= .returned (.slice A n c)/\n<=1000/\(0<n↔Reach (bA V) B m)/\Below w.heap.size w w'
theorem BL.D0 {g:Gr} {B S O E:List Nat} {m:Nat} (h:BL g B m S O E):S.length<=g.n:=wm g.n S h.nd (λx hx=>(h.LK x hx).1)
theorem BS (B S:List Nat):cW (B++S)=cW B++cW S:=by unfold cW;simp
theorem Oy {V:List lW} (cy:gF V) {x:Nat} {a:lW} (h:V[x]?=some a):cW ((bA V).tr x)=a.tr:=by
 rw[(eX h).2];unfold cW;rw[List.map_map]
 have: ∀l:List Int,(∀z∈l,0<=z)->l.map (Int.ofNat∘Int.toNat)=l:=by
  intro l;induction l with
  |nil=>intro _;rfl
  |cons z l ih=>
   intro h;rw[aa4,ih (λy hy=>h y (aaR _ hy))];have:=h z (aaA ..)
   congr 1
   show ((z.toNat:Nat):Int)=z
   omega
 exact this _ (λz hz=>(pX (cy.tr x _ h) hz).1)
theorem lg (V:List lW) (B:List Nat) (m:Nat) (v vb:Value) (w:World) (hV:mN w w.heap.size v V) (cy:gF V) (hm:m<V.length) (TS:B.length<=600)
 (hB:(vb= .slice none 0 0/\B=[])\/ ∃ad c,vb= .slice (some ad) (cW B).length c/\Ints w w.heap.size vb (cW B)):
 Calls prog 167 #[v,.int .i64 (m:Int),vb] w (mQ V B m w):=by
 have tx:ag (Calls prog 120 #[vb] w (lf (cW B) w)):=I (by
  rcases hB with ⟨rfl,rfl⟩|⟨ad,c,rfl,h⟩
  ·exact GJ w
  exact DZ (cW B) ad c w h (by rw[cg];omega))
 obtain ⟨A,c0,rfl,xE,An,cn⟩:=jL hV;have kM:=cy.n1;have fD:=cy.n12;obtain ⟨b,off,rfl,bD,aC⟩:=cn (by omega);have gH:=I aC;have ii:=I cy;clear hV cn aC cy hB;obtain ⟨i0,hi,dK,ez,ek⟩:=aaq iD;unfold lf at tx;unfold mQ;go_enter func167,ntmps167;go_wp2_with (fail);refine tx.o.mono ?_;rintro e w1 ⟨v1,rfl,CB,bw⟩;obtain ⟨A1,c1,rfl,_,_⟩:=rr CB;have cL:=(bw.alloc bw.size (.cells #[] 2)).alloc (aS bw.size) (.cells #[.int .i64 (m:Int)] 2);have jT:=I cL;have ja:=bw.size
 have Gx:ag (lM w.heap.size ((w1.alloc (.cells #[] 2)).alloc (.cells #[.int .i64 (m:Int)] 2)) (.slice A1 (cW B).length c1) (.slice (some ⟨w1.heap.size,0,none⟩) 0 0) (.slice (some ⟨w1.heap.size+1,0,none⟩) 1 1) (w1.heap.size+1) (cW (B++[])) (cW []) (cW [m])):=I {
  s:=by rw[abv];exact (CB.alloc _).alloc _
  o:=(aaz w1 #[] 0 ja (aaf _) rfl).alloc _
  q:=by
   have:=qL.one (w1.alloc (.cells #[] 2)) 2 (.int .i64 (m:Int));rw[show (w1.alloc (.cells #[] 2)).heap.size=w1.heap.size+1 by simp]at this;exact this.less (by omega)
  so:=λj hj vB=>by
   have vB:w1.heap.size=j:=by simpa [Value.ownBlock]using vB
   have:=(CB.lt j hj).2;omega
  sq:=λhj=>by
   have:=(CB.lt _ hj).2;omega
  oq:=λhj=>by simp[Value.ownBlock]at hj}
 clear bw CB cL ja tx;go_wp2;go_loopw [7,8,9,10] (λvs vo vq _ wr=> ∃(S O E:List Nat) (gq g0 D1:Nat),vo= .slice (some ⟨g0,0,none⟩) (cW E).length D1/\E.length<=S.length/\O.length<=1+4*S.length/\lM w.heap.size wr vs vo vq gq (cW (B++S)) (cW E) (cW O)/\BL (bA V) B m S O E/\Below w.heap.size w wr) (λvs _ vq _ _=>(B.length+V.length-mG vs)*5+mG vq);case atStart=>exact ⟨[],[m],[],_,_,_,rfl,by simp,by simp,Gx.o,BL.init hm,jT.o⟩
 case round=>
  obtain ⟨S,O,E,gq,g0,D1,rfl,WI,MQ,ht,PW,hb⟩:=hrel;have HT:=I ht;have xi:=I PW;have HB:=I hb;have yH:=PW.D0;have yH:S.length<=V.length:=yH;have GK:ag ((cW (B++S)).length=B.length+S.length):=I (by rw[cg,aak]);obtain ⟨As,cs,rfl,Y1,Y2⟩:=rr ht.s;obtain ⟨_,_,_,_,hce⟩:=rr ht.o;obtain ⟨Y3,cap,kT,rfl,Y4⟩:=ht.q;clear Y4;cases O with
  |nil=>
   have hn:=HT.o.q.nil;have HH:=I (yq HT.o.o);have KT:=HT.o.o.lt g0 rfl;have WJ:=PW.done;have Y5:ag (0<(cW E).length↔Reach (bA V) B m):=I (by rw[<-WJ,cg];exact abp);have cn:(cW E).length<=1000:=by rw[cg];omega
   clear ht PW hb WJ;generalize cW E=Z at*;simp only[cW,abl,List.length_nil]at*;go_wp2_with (fail);refine (vz Z g0 D1 wr HH.o KT.2 (by omega)).mono ?_;rintro e w2 ⟨rfl,q,os,rfl⟩;have dy:=I (HB.o.trans (gx (yr (oZ (w:=wr) (g:=g0) (Z.mergeSort (λx y=>decide (x<=y))) q) os) KT.1 HB.o.size));go_wp2;go_ret;exact ⟨_,_,_,rfl,cn,Y5.o,dy.o⟩
  |cons x O=>
   have F0:x<V.length:=PW.JF x (by simp);have S0:=HT.o.q;have LP:(cW (x::O)).map (Value.int .i64)= .int .i64 (x:Int)::(cW O).map (Value.int .i64):=rfl;rw[LP]at S0;obtain ⟨e2,e3,e4,x0,Y6⟩:=S0.tail;have I4:=I (HT.o.tail (O':=cW O) Y6);rw[aap]at I4;have xf:=I (kL (cW (B++S)) (x:Int) wr _ HT.o.ints);have aH:V[x]?=some V[x]:=aag F0;obtain ⟨A1,c1,d0,d1,pQ,hI⟩:=gH.o x _ aH;have iN:ag ((bA V).sp x=V[x].sp):=I (eX aH).1;have Tc:=I (Oy ii.o aH);have h4:V[x].tr.length<=4:=fx (ii.o.tr x _ aH);have HI:=I (λW (h:Below w.heap.size w W)=>(cz.on hI (Pl.stays _) h h.size:Ints W W.heap.size _ _));have KQ:=I d0;have ML:=I d1;have iK:=ii.o.gr;have hxi:(x:Int)<(V.length:Int):=by omega
   have PH:0<(cW (x::O)).length:=by rw[cg];simp
   have YC:(cW (x::O)).length=(cW O).length+1:=by rw[cg,cg];rfl
   clear aH hI d0 d1 ht PW hb S0 LP;generalize V[x]=a at*;by_cases iq:(B++S).contains x=true
   ·have JW:=mf.trans iq;rw[JW]at xf;have HN:=I (xi.o.skip (by rw[abe,aau]at iq;exact iq));clear iq JW;by_cases Oz:cap=1
    ·rw[aaj Oz]at I4;subst Oz;go_wp2_with (fail);refine xf.o.mono ?_;rintro e w2 ⟨rfl,q,rfl⟩;have oe:=I (I4.o.below (below_drewN (aae _ _) q));have dy:=I (below_drewN HB.o q);go_wp2;go_roundw;case rel=>exact ⟨S,O,E,gq,g0,D1,rfl,WI,by simp at MQ;omega,oe.o,HN.o,dy.o⟩
     case measure=>simp[mG];omega
    rw[aah Oz]at I4;go_wp2_with (fail);refine xf.o.mono ?_;rintro e w2 ⟨rfl,q,rfl⟩;have oe:=I (I4.o.below (below_drewN (aae _ _) q));have dy:=I (below_drewN HB.o q);go_wp2;go_roundw;case rel=>exact ⟨S,O,E,gq,g0,D1,rfl,WI,by simp at MQ;omega,oe.o,HN.o,dy.o⟩
    case measure=>simp[mG];omega
   have Rm:(B++S).contains x=false:=by simpa using iq
   have JW:=mf.trans Rm;rw[JW]at xf
   have MR:ag (¬x∈B/\ ¬x∈S):=I (by
    have h1: ¬x∈B++S:=λh=>iq (abe.2 h);rw[aau]at h1;exact ⟨λh=>h1 (.inl h),λh=>h1 (.inr h)⟩)
   clear iq Rm JW;by_cases Oz:cap=1
   ·rw[aaj Oz]at I4;subst Oz;go_wp2_with (fail);refine xf.o.mono ?_;rintro e w2 ⟨rfl,q,rfl⟩;have oe:=I (I4.o.below (below_drewN (aae _ _) q));have dy:=I (below_drewN HB.o q);generalize wr.drewN q=w2 at*;have Y7:(cW (B++S)).length<=700:=by rw[GK.o];omega
    go_wp2_with (at_builtin;refine aaH _ rfl _ _ 33 rfl w.heap.size 2 i0 (.int .i64 0) 1 8 underlying33 hi dK ez ek rfl (by decide) _ _ _ rfl (oe.o.s.alloc _) ⟨w2.heap.size,0,none⟩ 1 1 (ak (x:Int)) rfl rfl (λj u hj=>fS hj) (λu hu=>cf _ hu) ?c3 ?c4 (aS dy.o.size) ?_);case c3=>unfold maxLen;omega
    case c4=>omega
    intro v3 w3 aG aA aU iH
    have oa:=I ((oe.o.below ((aae w2.heap.size w2).alloc (aad _) (.cells #[.int .i64 (x:Int)] 2))).MN aG aA (by
     rcases iH with h|h
     ·exact .inl h
     exact .inr (h.trans (by simp))))
    have dI:=I ((dy.o.alloc dy.o.size (.cells #[.int .i64 (x:Int)] 2)).grown aA (aS dy.o.size) (λj hj=>(oe.o.s.lt j hj).1));obtain ⟨A3,c3,rfl,_,_⟩:=rr aG;clear aG aA iH aU;have x1:=(dI.o.cell (p:=⟨b,off+x*2,none⟩) bD).trans KQ.o;cases hs:a.sp with
    |true=>
     rw[hs]at x1 iN;have HN:=I (xi.o.Ri MR.o.1 MR.o.2 iN.o);have Y8:(cW E).length<=700:=by rw[cg];omega
     go_wp2_with (at_builtin;refine aaH _ rfl _ _ 33 rfl w.heap.size 2 i0 (.int .i64 0) 1 8 underlying33 hi dK ez ek rfl (by decide) _ _ _ rfl (oa.o.o.alloc _) ⟨w3.heap.size,0,none⟩ 1 1 (ak (x:Int)) rfl rfl (λj u hj=>fS hj) (λu hu=>cf _ hu) ?c3 ?c4 (aS dI.o.size) ?_);case c3=>unfold maxLen;omega
     case c4=>omega
     intro v4 w4 aG aA aU iH
     have I9:=I ((oa.o.below ((aae w3.heap.size w3).alloc (aad _) (.cells #[.int .i64 (x:Int)] 2))).MO aG aA (by
      rcases iH with h|h
      ·exact .inl h
      exact .inr (h.trans (by simp))))
     have kC:=I ((dI.o.alloc dI.o.size (.cells #[.int .i64 (x:Int)] 2)).grown aA (aS dI.o.size) (λj hj=>(oa.o.o.lt j hj).1));obtain ⟨g4,D2,rfl,_,_⟩:=bG aG (by simpa using aU)
     have OA:ag (lM w.heap.size w4 _ (.slice (some ⟨g4,0,none⟩) ((cW E).length+1) D2) _ gq (cW (B++(S++[x]))) (cW (E++[x])) (cW O)):=I (by
      rw[<-aaI,cQ,cQ];exact I9.o)
     have OB:=xi.o.D0
     have UO:S.length+1<=V.length:=by
      have:=HN.o.D0;rw[aak,List.length_singleton]at this;exact this
     clear aG aA iH aU I9 OB;go_wp2;go_roundw;case rel=>exact ⟨S++[x],O,E++[x],gq,g4,D2,by rw[cQ,aak];rfl,by simp;omega,by simp at MQ⊢;omega,OA.o,HN.o,kC.o⟩
     case measure=>simp[mG,GK.o];omega
    |false=>
     rw[hs]at x1 iN;have HN:=I (xi.o.more iK MR.o.1 MR.o.2 iN.o);have x2:=(dI.o.cell (p:=⟨b,off+x*2+1,none⟩) bD).trans ML.o;have Y9:(cW O).length<=700:=by rw[cg];simp at MQ;omega
     have UO:S.length+1<=V.length:=by
      have:=HN.o.D0;rw[aak,List.length_singleton]at this;exact this
     have UQ:=I (HI.o w3 dI.o);have Y':(700:Nat)+4<=maxLen:=by decide
     go_wp2_with (at_builtin;refine me rfl _ _ 33 rfl w.heap.size 2 i0 (.int .i64 0) 8 underlying33 hi dK ez ek rfl _ gq _ rfl oa.o.q _ a.tr _ rfl UQ.o ?c5 ?c6 dI.o.size ?_);case c5=>rw[aap];omega
     case c6=>rw[aap];omega
     intro v4 g4 w4 Rn qP JX
     have OA:ag (lM w.heap.size w4 _ _ v4 g4 (cW (B++(S++[x]))) (cW E) (cW (O++(bA V).tr x))):=I (by
      rw[<-aaI,cQ,BS O,Tc.o];exact oa.o.MP (by rw[aaK];exact Rn) qP JX)
     have kC:=I (dI.o.grown qP dI.o.size (λj hj=>by injection hj with hj;rw[<-hj];exact oa.o.q.lt.1));have yh:((bA V).tr x).length=a.tr.length:=by rw[<-Tc.o,cg]
     obtain ⟨UR,D2,US,rfl,OC⟩:=Rn;clear qP JX OC;go_wp2;go_roundw;case rel=>exact ⟨S++[x],O++(bA V).tr x,E,g4,g0,D1,rfl,by simp;omega,by simp at MQ⊢;omega,OA.o,HN.o,kC.o⟩
     case measure=>simp[mG,GK.o,cg];omega
   rw[aah Oz]at I4;go_wp2_with (fail);refine xf.o.mono ?_;rintro e w2 ⟨rfl,q,rfl⟩;have oe:=I (I4.o.below (below_drewN (aae _ _) q));have dy:=I (below_drewN HB.o q);generalize wr.drewN q=w2 at*;have Y7:(cW (B++S)).length<=700:=by rw[GK.o];omega
   go_wp2_with (at_builtin;refine aaH _ rfl _ _ 33 rfl w.heap.size 2 i0 (.int .i64 0) 1 8 underlying33 hi dK ez ek rfl (by decide) _ _ _ rfl (oe.o.s.alloc _) ⟨w2.heap.size,0,none⟩ 1 1 (ak (x:Int)) rfl rfl (λj u hj=>fS hj) (λu hu=>cf _ hu) ?c3 ?c4 (aS dy.o.size) ?_);case c3=>unfold maxLen;omega
   case c4=>omega
   intro v3 w3 aG aA aU iH
   have oa:=I ((oe.o.below ((aae w2.heap.size w2).alloc (aad _) (.cells #[.int .i64 (x:Int)] 2))).MN aG aA (by
    rcases iH with h|h
    ·exact .inl h
    exact .inr (h.trans (by simp))))
   have dI:=I ((dy.o.alloc dy.o.size (.cells #[.int .i64 (x:Int)] 2)).grown aA (aS dy.o.size) (λj hj=>(oe.o.s.lt j hj).1));obtain ⟨A3,c3,rfl,_,_⟩:=rr aG;clear aG aA iH aU;have x1:=(dI.o.cell (p:=⟨b,off+x*2,none⟩) bD).trans KQ.o;cases hs:a.sp with
   |true=>
    rw[hs]at x1 iN;have HN:=I (xi.o.Ri MR.o.1 MR.o.2 iN.o);have Y8:(cW E).length<=700:=by rw[cg];omega
    go_wp2_with (at_builtin;refine aaH _ rfl _ _ 33 rfl w.heap.size 2 i0 (.int .i64 0) 1 8 underlying33 hi dK ez ek rfl (by decide) _ _ _ rfl (oa.o.o.alloc _) ⟨w3.heap.size,0,none⟩ 1 1 (ak (x:Int)) rfl rfl (λj u hj=>fS hj) (λu hu=>cf _ hu) ?c3 ?c4 (aS dI.o.size) ?_);case c3=>unfold maxLen;omega
    case c4=>omega
    intro v4 w4 aG aA aU iH
    have I9:=I ((oa.o.below ((aae w3.heap.size w3).alloc (aad _) (.cells #[.int .i64 (x:Int)] 2))).MO aG aA (by
     rcases iH with h|h
     ·exact .inl h
     exact .inr (h.trans (by simp))))
    have kC:=I ((dI.o.alloc dI.o.size (.cells #[.int .i64 (x:Int)] 2)).grown aA (aS dI.o.size) (λj hj=>(oa.o.o.lt j hj).1));obtain ⟨g4,D2,rfl,_,_⟩:=bG aG (by simpa using aU)
    have OA:ag (lM w.heap.size w4 _ (.slice (some ⟨g4,0,none⟩) ((cW E).length+1) D2) _ gq (cW (B++(S++[x]))) (cW (E++[x])) (cW O)):=I (by
     rw[<-aaI,cQ,cQ];exact I9.o)
    have OB:=xi.o.D0
    have UO:S.length+1<=V.length:=by
     have:=HN.o.D0;rw[aak,List.length_singleton]at this;exact this
    clear aG aA iH aU I9 OB;go_wp2;go_roundw;case rel=>exact ⟨S++[x],O,E++[x],gq,g4,D2,by rw[cQ,aak];rfl,by simp;omega,by simp at MQ⊢;omega,OA.o,HN.o,kC.o⟩
    case measure=>simp[mG,GK.o];omega
   |false=>
    rw[hs]at x1 iN;have HN:=I (xi.o.more iK MR.o.1 MR.o.2 iN.o);have x2:=(dI.o.cell (p:=⟨b,off+x*2+1,none⟩) bD).trans ML.o;have Y9:(cW O).length<=700:=by rw[cg];simp at MQ;omega
    have UO:S.length+1<=V.length:=by
     have:=HN.o.D0;rw[aak,List.length_singleton]at this;exact this
    have UQ:=I (HI.o w3 dI.o);have Y':(700:Nat)+4<=maxLen:=by decide
    go_wp2_with (at_builtin;refine me rfl _ _ 33 rfl w.heap.size 2 i0 (.int .i64 0) 8 underlying33 hi dK ez ek rfl _ gq _ rfl oa.o.q _ a.tr _ rfl UQ.o ?c5 ?c6 dI.o.size ?_);case c5=>rw[aap];omega
    case c6=>rw[aap];omega
    intro v4 g4 w4 Rn qP JX
    have OA:ag (lM w.heap.size w4 _ _ v4 g4 (cW (B++(S++[x]))) (cW E) (cW (O++(bA V).tr x))):=I (by
     rw[<-aaI,cQ,BS O,Tc.o];exact oa.o.MP (by rw[aaK];exact Rn) qP JX)
    have kC:=I (dI.o.grown qP dI.o.size (λj hj=>by injection hj with hj;rw[<-hj];exact oa.o.q.lt.1));have yh:((bA V).tr x).length=a.tr.length:=by rw[<-Tc.o,cg]
    obtain ⟨UR,D2,US,rfl,OC⟩:=Rn;clear qP JX OC;go_wp2;go_roundw;case rel=>exact ⟨S++[x],O++(bA V).tr x,E,g4,g0,D1,rfl,by simp;omega,by simp at MQ⊢;omega,OA.o,HN.o,kC.o⟩
    case measure=>simp[mG,GK.o,cg];omega
theorem wv {g:Gr} {p:List Nat} {a t k:Nat} (h1:(g.tr a)[k]?=some t) (hf:Reach g p t)
 (hn: ∀k',k'<k-> ∀t',(g.tr a)[k']?=some t'-> ¬Reach g p t'):nW g 2 p a t:=
 ⟨k,h1,by simp only[if_true];exact hf,λk' di t' kv=>by simp only[if_true];exact hn k' di t' kv⟩
theorem zK (V:List lW) (m:Nat) (v:Value) (w:World) (hV:mN w w.heap.size v V) (cy:gF V) (hm:m<V.length):
 Calls prog 228 #[v,.int .i64 (m:Int)] w (kr V 2 m w):=by
 have BQ:=(aae w.heap.size w).alloc (aad _) (.cells #[] 2);have KR:=I (qN V [] false v (.slice (some ⟨w.heap.size,0,none⟩) 0 0) (w.alloc (.cells #[] 2)) (hV.on BQ BQ.size) cy (cz.nil _ _ _ _ _ _ (aaf _)));have WK:=I (λ(p:List Nat) (vp:Value) (W:World) (hb:Below w.heap.size w W) (hp:Ints W W.heap.size vp (cW p))=>qN V p false v vp W (hV.on hb hb.size) cy hp);obtain ⟨A,c0,rfl,xE,An,cn⟩:=jL hV;have kM:=cy.n1;have fD:=cy.n12;obtain ⟨b,off,rfl,bD,aC⟩:=cn (by omega);have gH:=I aC;have ii:=I cy;have zC:=I BQ;unfold pY at KR WK;unfold kr;obtain ⟨i0,hi,dK,ez,ek⟩:=aaq iD;have xO:ag (∀hr,eK (bA V) 2 m [m] m):=I (λhr=>eK.init cy.gr (show (bA V).n<=12 from fD) hm hr);have KS:=I (λp a (h:eK (bA V) 2 m p a)=>h.len cy.gr (show (bA V).n<=12 from fD) hm);have DY:ag (∀(B:List Nat) (i:Nat),i<V.length->(0<=fE (bA V) B (mP false) V.length i↔Reach (bA V) B i)):=I (λB i hi=>tw (g:=bA V) (B:=B) cy.gr fD (BP false) (i:=i) hi);clear hV cy cn aC BQ;go_enter func228,ntmps228;go_wp2_with (fail);refine KR.o.mono ?_;rintro e w1 ⟨g,KT,fG,rfl,bi,bw⟩;have da:=I (zC.o.trans (bw.mono zC.o.size));have x0:=bi.cell m _ (cD hm);have WH:(m:Int)<(V.length:Int):=by omega
 have HM:=I (DY.o [] m hm);clear bw bi KR;generalize fE (bA V) [] (mP false) V.length m=d at*;by_cases vj:d<0
 ·have JP:ag (mg (bA V) 2 m []):=I (Or.inl ⟨rfl,λh=>by
   have:=HM.o.2 h;omega⟩)
  go_wp2;go_ret;exact ⟨[],_,rfl,JP.o,by simp,ay.nil _ _ _,da.o⟩
 have qk:ag (Reach (bA V) [] m):=I (HM.o.1 (by omega));have JQ:=I (xO.o qk.o);have JR:=I ((dN.one w1 m).less da.o.size);have dy:=I (da.o.alloc da.o.size (.cells #[.int .i64 (m:Int)] 2));go_wp2;go_loopw [5,6,7,8] (λvp xe _ _ wr=> ∃(p:List Nat) (a g2 cap:Nat),xe= .int .i64 (a:Int)/\vp= .slice (some ⟨g2,0,none⟩) p.length cap/\dN wr w.heap.size g2 cap p/\eK (bA V) 2 m p a/\Below w.heap.size w wr) (λvp _ _ _ _=>600-mG vp);case atStart=>exact ⟨[m],m,w1.heap.size,1,rfl,rfl,JR.o,JQ.o,dy.o⟩
 case round=>
  obtain ⟨p,a,g2,cap,rfl,rfl,se,qt,hb⟩:=hrel;have dz:=I se;have uB:=I qt;have HB:=I hb;have halt:a<V.length:=qt.MJ;have sG:=KS.o p a qt;have aH:V[a]?=some V[a]:=aag halt;obtain ⟨A1,c1,d0,d1,pQ,hI⟩:=gH.o a _ aH;have y0:=(hb.cell (p:=⟨b,off+a*2,none⟩) bD).trans d0;have iN:ag ((bA V).sp a=V[a].sp):=I (eX aH).1;have qO:ag (((bA V).tr a).length=V[a].tr.length):=I (by rw[(eX aH).2,aap]);have sI:=I (λ(m:Nat) (z:Int) (hz:V[a].tr[m]?=some z)=>ii.o.ui aH hz);have h4:V[a].tr.length<=4:=fx (ii.o.tr a _ aH);have HI:=I hI;have ML:=I d1;have Rk:(a:Int)<(V.length:Int):=by omega
  clear aH hI d0 d1 se qt hb;generalize V[a]=va at*;cases hs:va.sp with
  |true=>
   rw[hs]at y0 iN;have JS:=I (uB.o.GG qk.o iN.o);have kX:=I (dz.o.own);go_wp2;go_ret;exact ⟨p,_,rfl,JS.o,sG,kX.o,HB.o⟩
  |false=>
   rw[hs]at y0 iN;have iG:=I (uB.o.next ii.o.gr iN.o);have WL:=I (WK.o p _ wr HB.o dz.o.ints);have Za:=I (DY.o p);go_wp2_with (fail);refine WL.o.mono ?_;rintro e w2 ⟨g3,uI,Zb,rfl,MS,dB⟩;have fv:=I MS;have dI:=I (HB.o.trans (dB.mono HB.o.size));have EW:=I (dz.o.below dB);have x1:=(dI.o.cell (p:=⟨b,off+a*2+1,none⟩) bD).trans ML.o;clear MS dB WL y0;generalize fE (bA V) p (mP false) V.length=D at*;go_wp2;go_loopw [6,8] (λxe i JT=> ∃(k:Nat),k<=va.tr.length/\i= .int .i64 (k:Int)/\xe= .int .i64 (a:Int)/\JT=w2/\ ∀k',k'<k-> ∀t',((bA V).tr a)[k']?=some t'-> ¬Reach (bA V) p t') (λ_ i _=>va.tr.length-(intOf i).toNat);case atStart=>exact ⟨0,aaf _,rfl,rfl,rfl,λk' di=>absurd di (aa' _)⟩
   case round=>
    obtain ⟨k,hk,rfl,rfl,rfl,rf⟩:=hrel;have hY:=I rf;clear rf;by_cases qg:k<va.tr.length
    ·have hz:va.tr[k]?=some va.tr[k]:=aag qg;obtain ⟨b3,o3,rfl,dB,e0⟩:=cZ HI.o hz;have x2:=(dI.o.cell (p:=⟨b3,o3+k,none⟩) dB).trans e0;obtain ⟨t1,t2,t3,t4⟩:=sI.o k _ hz;obtain ⟨t,ht⟩: ∃t:Nat,t=va.tr[k].toNat:=⟨_,rfl⟩
     rw[<-ht]at t1 t2 t3 t4;rw[<-t2]at x2;have lQ:=I t1;have iS:=Za.o t t3;have x3:=fv.o.cell t _ (cD t3);have kJ:(t:Int)<(V.length:Int):=by omega
     obtain ⟨x,hx⟩: ∃x,x=D t:=⟨_,rfl⟩
     rw[<-hx]at x3 iS;have js:=I iS;clear hx iS ht t1 t2 hz e0;by_cases dp:0<=x
     ·have MT:ag (nW (bA V) 2 p a t):=I (wv lQ.o (js.o.1 dp) hY.o);have JU:=I (uB.o.more ii.o.gr iN.o MT.o);clear MT hY;go_wp2_with (at_builtin;refine aaH _ rfl _ _ 33 rfl w.heap.size 2 i0 (.int .i64 0) 1 8 underlying33 hi dK ez ek rfl (by decide) _ _ _ rfl (EW.o.row.alloc _) ⟨wr.heap.size,0,none⟩ 1 1 (ak (t:Int)) rfl rfl (λj u hj=>fS hj) (λu hu=>cf _ hu) ?c3 ?c4 (aS dI.o.size) ?_);case c3=>unfold maxLen;omega
      case c4=>omega
      intro v' w9 aG aA aU iH;obtain ⟨g9,gM,rfl,zE,zF⟩:=bG aG (by simpa using aU);have iM:=I ((dI.o.alloc dI.o.size (.cells #[.int .i64 (t:Int)] 2)).grown aA (aS dI.o.size) (λj hj=>(EW.o.row.lt j hj).1))
      have zG:ag (dN w9 w.heap.size g9 gM (p++[t])):=I (by
       unfold dN;rw[cQ,cq,aak];exact aG)
      clear aG aA aU iH;go_wp2;go_roundw;case rel=>exact ⟨p++[t],t,g9,gM,rfl,by rw[aak];rfl,zG.o,JU.o,iM.o⟩
      case measure=>simp[mG];omega
     have wq:ag (∀k',k'<k+1-> ∀t',((bA V).tr a)[k']?=some t'-> ¬Reach (bA V) p t'):=I (λk' di t' kv=>by
      by_cases e:k'=k
      ·subst e;rw[lQ.o]at kv;injection kv with kv
       subst kv;exact λh=>dp (js.o.2 h)
      exact hY.o k' (by omega) t' kv)
     clear hY;go_wp2;go_roundw;case rel=>exact ⟨k+1,by omega,by go_num,rfl,by first|rfl|trivial,wq.o⟩
     case measure=>simp[intOf];omega
    exfalso
    obtain ⟨t,kk,h1,h2,_⟩:=iG.o;simp only[if_true]at h2;have:=(aal.1 h1).1;rw[qO.o]at this;exact hY.o kk (by omega) t h1 h2
theorem GL (V:List lW) (rule:Int) (m:Nat) (v:Value) (w:World) (hV:mN w w.heap.size v V) (cy:gF V) (hm:m<V.length):
 Calls prog 225 #[v,.int .i64 rule,.int .i64 (m:Int)] w (kr V rule m w):=by
 by_cases hr:rule=2
 ·subst hr;have H:=I (zK V m v w hV cy hm);unfold kr at H⊢;clear hV;go_enter func225,ntmps225;go_wp2_with (fail);refine H.o.mono ?_;rintro e w1 ⟨p,v1,rfl,h1,h2,h3,h4⟩;have HO:=I h3;obtain ⟨A1,c1,rfl,_⟩:=h3;have H1:=I h1;clear h1;go_wp2;go_ret;exact ⟨p,_,rfl,H1.o,h2,HO.o,h4⟩
 have H:=I (xN V rule (rule==1) m v w hV cy hr rfl hm);have gm:(rule==2)=false:=by simpa using hr
 unfold kr at H⊢;clear hV hr;go_enter func225,ntmps225;go_wp2_with (fail);refine H.o.mono ?_;rintro e w1 ⟨p,v1,rfl,h1,h2,h3,h4⟩;have HO:=I h3;obtain ⟨A1,c1,rfl,_⟩:=h3;have H1:=I h1;clear h1;go_wp2;go_ret;exact ⟨p,_,rfl,H1.o,h2,HO.o,h4⟩
end Go.Proofs.YtbcggaldkihcaaaGreat
