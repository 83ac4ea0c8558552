/- A queue of numbers: a slice of the call's own that begins anywhere in its block; append .. -/
import Derived.Test.YtbcggaldkihcaaaGreatDoorQE
import Derived.Test.YtbcggaldkihcaaaGreatDoorYA
set_option maxHeartbeats 8000000
set_option maxRecDepth 100000
namespace Go.Proofs.YtbcggaldkihcaaaGreatDoor
open Tryz
open Go.RowKit Go.Lib
def qL (w:World) (base:Nat) (e:TypeId) (g:Nat) (v:Value) (xs:List Value):Prop:=
 ∃off cap kT,v= .slice (some ⟨g,off,none⟩) xs.length cap/\base<=g/\w.heap[g]?=some (.cells kT e (0,0))/\xs.length<=cap/\cap<=maxLen/\off+cap<=kT.size/\ ∀j u,xs[j]?=some u->kT[off+j]?=some u
theorem qL.lt {w:World} {base:Nat} {e:TypeId} {g:Nat} {v:Value} {xs:List Value} (h:qL w base e g v xs):base<=g/\g<w.heap.size:=by
 obtain ⟨off,cap,kT,_,h1,h2,_⟩:=h;exact ⟨h1,(Array.getElem?_eq_some_iff.1 h2).1⟩
theorem qL.kept {w w':World} {base:Nat} {e:TypeId} {g:Nat} {v:Value} {xs:List Value} (h:qL w base e g v xs) (hb:w'.heap[g]?=w.heap[g]?):qL w' base e g v xs:=by
 obtain ⟨off,cap,kT,h0,h1,h2,h3⟩:=h;exact ⟨off,cap,kT,h0,h1,hb.trans h2,h3⟩
theorem qL.below {w w':World} {base:Nat} {e:TypeId} {g:Nat} {v:Value} {xs:List Value} (h:qL w base e g v xs) (hb:Below w.heap.size w w'):qL w' base e g v xs:=h.kept (hb.block g h.lt.2)
theorem qL.grown {w w':World} {base:Nat} {e:TypeId} {g:Nat} {v:Value} {xs:List Value} {r:Option Nat} (h:qL w base e g v xs) (hb:w.grownBy w' r) (hr:some g≠r):qL w' base e g v xs:=h.kept (hb.block g h.lt.2 hr)
theorem qL.less {w:World} {b base:Nat} {e:TypeId} {g:Nat} {v:Value} {xs:List Value} (h:qL w base e g v xs) (hb:b<=base):qL w b e g v xs:=by
 obtain ⟨off,cap,kT,h0,h1,h2,h3⟩:=h;exact ⟨off,cap,kT,h0,Nat.le_trans hb h1,h2,h3⟩
theorem qL.nil {w:World} {base:Nat} {e:TypeId} {g off n cap:Nat} (h:qL w base e g (.slice (some ⟨g,off,none⟩) n cap) []):n=0/\cap<=maxLen:=by
 obtain ⟨xw,fq,kT,h0,h1,h2,h3,h4,h5,h6⟩:=h;injection h0 with e1 e2 e3
 subst e3;exact ⟨e2,h4⟩
theorem qL.one (w:World) (e:TypeId) (x:Value):qL (w.alloc (.cells #[x] e)) w.heap.size e w.heap.size (.slice (some ⟨w.heap.size,0,none⟩) 1 1) [x]:=
 ⟨0,1,#[x],rfl,Nat.le_refl _,heap_alloc_new w _,Nat.le_refl _,by decide,Nat.le_refl _,λj u hj=>by rw[Nat.zero_add];simpa using hj⟩
section
variable {P:Program} {w:World}
end
def YW (R:List Int):Jw where
 own b W v:=ay ak R b W v
 Rc b W v:=ay ak (jr 1 R.length) b W v
 n:=1+R.length
 slice h:=by obtain ⟨A,c,e,_⟩:=h;exact ⟨A,_,c,e⟩
 aD h ht hF:=ay.aD h ht (λc hc hf=>by have q1:=(ay.dw h hc).1;have q2:=hF c hf;omega)
 DS h hb:=ay.on h hb
noncomputable def jl (V:List lW) (rule:Int):List Int:=by
 classical
 exact if h: ∃L,Ends (bA V) rule L then h.choose else []
theorem BO {V:List lW} {rule:Int} {L:List Int} (h:Ends (bA V) rule L):jl V rule=L:=by
 have he: ∃L,Ends (bA V) rule L:=⟨L,h⟩
 unfold jl;rw[dif_pos he];exact Ends.one he.choose_spec h
theorem uj {V:List lW} {rule:Int} {i:Nat} {e:Int} (h:lL (bA V) rule i e):e= -1\/ ∃k:Nat,e=(k:Int)/\k<V.length:=by
 rcases h with ⟨_,p,a,_,hs,rfl⟩|⟨_,rfl⟩
 ·refine Or.inr ⟨a,rfl,?_⟩;unfold bA at hs;simp only at hs;rcases Nat.lt_or_ge a V.length with h|h
  ·exact h
  rw[List.getElem?_eq_none h]at hs;cases hs
 exact Or.inl rfl
theorem JJ (c:List Int) (k:Nat):(bump c k).length=c.length:=by unfold bump;rw[List.length_set]
theorem JK {c:List Int} {k j:Nat} (hk:k<c.length):(bump c k).getD j 0=if j=k then c.getD k 0+1 else c.getD j 0:=by
 unfold bump;rw[List.getD_eq_getElem?_getD,List.getElem?_set];by_cases e:k=j
 ·subst e;rw[if_pos rfl,if_pos hk,if_pos rfl];rfl
 rw[if_neg e,if_neg (λh=>e h.symm),List.getD_eq_getElem?_getD]
theorem yE (vs:List Int) (e:Int):fK vs e<4:=by
 unfold fK
 split
 ·omega
 split
 ·omega
 split<;>omega
theorem eY (vs ends:List Int) (j:Nat):0<=(cC vs ends).getD j 0/\(cC vs ends).getD j 0<=ends.length:=by
 have key: ∀(l:List Int) (c:List Int) (m:Int),c.length=4->(∀j,0<=c.getD j 0/\c.getD j 0<=m)-> ∀j,0<=(l.foldl (λc e=>bump c (fK vs e)) c).getD j 0/\(l.foldl (λc e=>bump c (fK vs e)) c).getD j 0<=m+l.length:=by
  intro l;induction l with
  |nil=>intro c m _ h j;have:=h j;simpa using this
  |cons e l ih=>
   intro c m hc h j
   have:=ih (bump c (fK vs e)) (m+1) (by rw[JJ];exact hc) (λj=>by
    rw[JK (by rw[hc];exact yE vs e)];have h1:=h (fK vs e);have h2:=h j
    split<;>omega) j
   rw[List.foldl_cons,List.length_cons];omega
 have:=key ends [0,0,0,0] 0 rfl (λj=>by
  rcases j with _|_|_|_|j<;>simp[List.getD]) j
 unfold cC;omega
noncomputable def cO (a:cp) (vs:List Int):List Int:=cC vs (jl (eF vs a.af) a.rule)
theorem qM (a:cp) (vs:List Int):(cO a vs).length=4:=fW _ _
noncomputable def S8 (a:cp) (t:ByteArray):List Int:=if Jz a t=true then cO a (jU a t).ax else []
def cW (B:List Nat):List Int:=B.map Int.ofNat
theorem cg (B:List Nat):(cW B).length=B.length:=by unfold cW;simp
theorem cQ (B:List Nat) (t:Nat):cW (B++[t])=cW B++[(t:Int)]:=by unfold cW;simp
theorem JL {B:List Nat} {i:Nat}:(i:Int)∈cW B↔i∈B:=by
 unfold cW;rw[List.mem_map];constructor
 ·rintro ⟨b,hb,e⟩;have:b=i:=Int.ofNat.inj e;rw[<-this];exact hb
 exact λh=>⟨i,h,rfl⟩
theorem mf {B:List Nat} {i:Nat}:(cW B).contains (i:Int)=B.contains i:=by
 rw[Bool.eq_iff_iff,List.contains_iff_mem,List.contains_iff_mem,JL]
section
variable {g:Gr} {rule:Int} {m a:Nat} {p:List Nat}
theorem UK (hg:g.Ok) (hn:g.n<=12) {c:Nat->Int} (hc:gh c) {k t:Nat} (hk:k<4) (ha:a<g.n) (_ht:t<g.n) (hf:bK g [] c g.n a<1000):(0<=fE g [] c g.n t/\c (k+1)+fE g [] c g.n t=fE g [] c g.n a)↔bK g [] c g.n t+c (k+1)=bK g [] c g.n a:=by
 have h1:=BN (B:=[]) hg hn hc a ((tw hg hn hc ha).2 ((zA hg hn hc ha).1 hf));by_cases h:0<=fE g [] c g.n t
 ·have h2:=BN (B:=[]) hg hn hc t h;rw[h1,h2];omega
 have h6:=(hc k hk).1;rcases Rel.run hg hn hc (B:=[]) g.n hn t with h3|h3<;>omega
def mg (g:Gr) (rule:Int) (m:Nat) (p:List Nat):Prop:=(p=[]/\ ¬Reach g [] m)\/(Reach g [] m/\ ∃(q:List Nat) (a:Nat),p=q++[a]/\Made g rule m p a/\g.sp a=true)
theorem eK.GG (h:eK g rule m p a) (hr:Reach g [] m) (hs:g.sp a=true):mg g rule m p:=by
 obtain ⟨q,hq⟩:=h.last;exact Or.inr ⟨hr,q,a,hq,h.made,hs⟩
theorem mg.none (h:mg g rule m []):lL g rule m (-1):=by
 rcases h with ⟨_,h⟩|⟨_,q,a,e,_⟩
 ·exact Or.inr ⟨h,rfl⟩
 cases q<;>cases e
theorem mg.some (h:mg g rule m p) (h0:p≠[]): ∃(q:List Nat) (b:Nat),p=q++[b]/\lL g rule m (b:Int):=by
 rcases h with ⟨e,_⟩|⟨hr,q,b,e,hm,hs⟩
 ·exact absurd e h0
 exact ⟨q,b,e,Or.inl ⟨hr,p,b,hm,hs,rfl⟩⟩
end
def mP (fy:Bool):Nat->Int:=λk=>if fy then (k:Int)else 1
theorem BP (fy:Bool):gh (mP fy):=λk hk=>by unfold mP;cases fy<;>simp<;>omega
def pY (V:List lW) (B:List Nat) (fy:Bool) (w:World) (e:Ending) (w':World):Prop:=
 ∃g,w.heap.size<=g/\g<w'.heap.size/\e= .returned (.slice (some ⟨g,0,none⟩) V.length V.length)/\Row w' g (cj (fE (bA V) B (mP fy) V.length) V.length)/\Below w.heap.size w w'
theorem DW {g:Gr} {B:List Nat} {i:Nat} (h:g.sp i=true\/B.contains i=true):g.on B i=false:=by
 unfold Gr.on;rcases h with h|h<;>rw[h]<;>simp
theorem MK {g:Gr} {B:List Nat} {i:Nat} (h:g.sp i=false) (h2:B.contains i=false):g.on B i=true:=by
 unfold Gr.on;rw[h,h2];rfl
theorem yF {g:Gr} {B:List Nat} {c C:Nat->Int} {i:Nat} (h:g.on B i=false):iF g B c C (i+1)=iF g B c C i:=by rw[iF,JI h]
theorem JM {g:Gr} {B:List Nat} {c C:Nat->Int} {i:Nat} (h:g.on B i=true):iF g B c C (i+1)=wj g c i (iF g B c C i) (g.tr i).length:=by rw[iF,LL h]
theorem qN (V:List lW) (B:List Nat) (fy:Bool) (v vb:Value) (w:World) (hV:mN w w.heap.size v V) (cy:gF V) (hB:aae w w.heap.size vb (cW B)):
 Calls prog 147 #[v,.bool fy,vb] w (pY V B fy w):=by
 obtain ⟨A,c0,rfl,xE,An,cn⟩:=jL hV;have kM:=cy.n1;have fD:=cy.n12;obtain ⟨b,off,rfl,bD,aC⟩:=cn (by omega);have gH:=I aC;have ii:=I cy;have S9:=I (λW (h:Below w.heap.size w W)=>(cz.on hB (Pl.stays _) h h.size:aae W W.heap.size vb (cW B)));have HC:ag (∀m,mP fy (m+1)=if fy=true then (m:Int)+1 else 1):=I (λm=>by unfold mP;cases fy<;>simp);have xf:=I (BP fy);unfold pY;generalize mP fy=c at*;obtain ⟨i0,hi,dK,ez,ek⟩:=info_parts iD;obtain ⟨W,Z,qe,bi,hZ,ow,ox⟩:=lx (P:=prog) w 35 2 i0 _ 1 underlying35 hi dK ez V.length (by rw[ek];omega) (by omega);have Mr:(cj (jV (bA V) B) V.length).length=Z.length:=by rw[fk,hZ];omega
 have Il:=I Mr;have HZ:=I hZ;have HR:=I bi;clear hV cy hB cn aC hi dK ez ek bi Mr hZ;go_enter func147,ntmps147;go_wp2;go_loopw [8] (λi wr=> ∃k:Nat,k<=V.length/\i= .int .i64 (k:Int)/\Row wr w.heap.size (pN (cj (jV (bA V) B) V.length) Z k)/\Below w.heap.size w wr/\w.heap.size<wr.heap.size) (λi _=>V.length-(RowKit.intOf i).toNat);case atStart=>exact ⟨0,Nat.zero_le _,rfl,HR.o,ox,ow⟩
 case round=>
  obtain ⟨k,hk,rfl,bi,hb,iK⟩:=hrel;by_cases aI:k<V.length
  ·have aH:V[k]?=some V[k]:=List.getElem?_eq_getElem aI;obtain ⟨A1,c1,d0,_⟩:=gH.o k _ aH;have iN:ag ((bA V).sp k=V[k].sp):=I (eX aH).1;have nQ:k<(pN (cj (jV (bA V) B) V.length) Z k).length:=by rw[iR Il.o,HZ.o];omega
   have f0:=bi.free k nQ;have g0:=bi.cell k _ (List.getElem?_eq_getElem nQ);have gN:=I (lu Il.o (k:=k) (u:= .int .i64 (jV (bA V) B k)) (cD aI));have pO:=I nQ;have HW:=I bi;have bw:=hb.setCell (p:=⟨w.heap.size,k,none⟩) (Nat.le_refl _) (.int .i64 (-1));have da:=I bw;have y0:=(bw.cell (p:=⟨b,off+k*2,none⟩) bD).trans d0;have ng:w.heap.size<(wr.setCell ⟨w.heap.size,k,none⟩ (.int .i64 (-1))).heap.size:=by simpa using iK
   have mB:=I (bi.set k (.int .i64 (-1)) nQ);clear aH d0;generalize V[k]=a at*;generalize (pN (cj (jV (bA V) B) V.length) Z k)[k]=dA at*;clear bi nQ;go_upto_region 6 with (fail)
   generalize wr.setCell ⟨w.heap.size,k,none⟩ (.int .i64 (-1))=W1 at*;cases hs:a.sp with
   |false=>
    rw[hs]at y0 iN
    have HN:ag (Row W1 w.heap.size (pN (cj (jV (bA V) B) V.length) Z (k+1))):=I (by
     have:jV (bA V) B k= -1:=by unfold jV;rw[iN.o];rfl
     rw[gN.o,this];exact mB.o)
    go_wp2;go_roundw;case rel=>exact ⟨k+1,by omega,by go_num,HN.o,bw,ng⟩
    case measure=>simp[RowKit.intOf];omega
   |true=>
    rw[hs]at y0 iN;cases GH:B.contains k with
    |true=>
     have HH:=I (mA _ (k:Int) W1 vb true (S9.o W1 bw) (mf.trans GH))
     have HN:ag (Row W1 w.heap.size (pN (cj (jV (bA V) B) V.length) Z (k+1))):=I (by
      have:jV (bA V) B k= -1:=by unfold jV;rw[iN.o,GH];rfl
      rw[gN.o,this];exact mB.o)
     clear GH;go_wp2_with (fail);refine HH.o.mono ?_;rintro e w2 ⟨rfl,cL⟩;have dB:=da.o.trans (cL.mono da.o.size);have JN:=Nat.lt_of_lt_of_le ng cL.size;have wq:=I (HN.o.below cL ng);go_wp2;go_roundw;case rel=>exact ⟨k+1,by omega,by go_num,wq.o,dB,JN⟩
     case measure=>simp[RowKit.intOf];omega
    |false=>
     have HH:=I (mA _ (k:Int) W1 vb false (S9.o W1 bw) (mf.trans GH));have YX:ag (jV (bA V) B k=0):=I (by unfold jV;rw[iN.o,GH];rfl);clear GH;go_wp2_with (fail);refine HH.o.mono ?_;rintro e w2 ⟨rfl,cL⟩;have dB:=da.o.trans (cL.mono da.o.size);have JN:=Nat.lt_of_lt_of_le ng cL.size;have mV:=mB.o.below cL ng;have LN:k<((pN (cj (jV (bA V) B) V.length) Z k).set k (.int .i64 (-1))).length:=by rw[List.length_set];exact pO.o
     have f2:=mV.free k LN;have g2:=mV.cell k _ (List.getElem?_eq_getElem LN);generalize ((pN (cj (jV (bA V) B) V.length) Z k).set k (.int .i64 (-1)))[k]=YY at*
     have HN:ag (Row (w2.setCell ⟨w.heap.size,k,none⟩ (.int .i64 0)) w.heap.size (pN (cj (jV (bA V) B) V.length) Z (k+1))):=I (by
      rw[gN.o,YX.o];have:=mV.set k (.int .i64 0) LN
      rwa [List.set_set]at this)
     have l8:=dB.setCell (p:=⟨w.heap.size,k,none⟩) (Nat.le_refl _) (.int .i64 0);have UL:w.heap.size<(w2.setCell ⟨w.heap.size,k,none⟩ (.int .i64 0)).heap.size:=by simpa using JN
     clear mV LN;go_wp2;go_roundw;case rel=>exact ⟨k+1,by omega,by go_num,HN.o,l8,UL⟩
     case measure=>simp[RowKit.intOf];omega
  have eA: ¬(k:Int)<(V.length:Int):=by omega
  rw[ru Il.o k (by rw[fk];omega)]at bi;have DX:ag (Row wr w.heap.size (cj (fE (bA V) B c 0) V.length)):=I bi;clear bi HR;go_wp2;go_loopw [9,10,11,12,13] (λr _ _ _ _ wr=> ∃q:Nat,q<=V.length/\r= .int .i64 (q:Int)/\Row wr w.heap.size (cj (fE (bA V) B c q) V.length)/\Below w.heap.size w wr/\w.heap.size<wr.heap.size) (λr _ _ _ _ _=>V.length-(RowKit.intOf r).toNat);case atStart=>exact ⟨0,Nat.zero_le _,rfl,DX.o,hb,iK⟩
  case round=>
   obtain ⟨q,hq,rfl,bi,hb,iK⟩:=hrel;have LO:=I bi;clear DX bi;by_cases mw:q<V.length
   ·go_wp2;go_loopw [10,11,12,13] (λi _ _ _ wr=> ∃k:Nat,k<=V.length/\i= .int .i64 (k:Int)/\Row wr w.heap.size (cj (iF (bA V) B c (fE (bA V) B c q) k) V.length)/\Below w.heap.size w wr/\w.heap.size<wr.heap.size) (λi _ _ _ _=>V.length-(RowKit.intOf i).toNat);case atStart=>exact ⟨0,Nat.zero_le _,rfl,LO.o,hb,iK⟩
    case round=>
     obtain ⟨k,hk,rfl,bi,hb,iK⟩:=hrel;have mx:=I bi;clear LO bi;by_cases aI:k<V.length
     ·have aH:V[k]?=some V[k]:=List.getElem?_eq_getElem aI;obtain ⟨A1,c1,d0,d1,pQ,hI⟩:=gH.o k _ aH;have x0:=(hb.cell (p:=⟨b,off+k*2,none⟩) bD).trans d0;have iN:ag ((bA V).sp k=V[k].sp):=I (eX aH).1;have qO:ag (((bA V).tr k).length=V[k].tr.length):=I (by rw[(eX aH).2,List.length_map]);have sI:=I (λ(m:Nat) (z:Int) (hz:V[k].tr[m]?=some z)=>ii.o.ui aH hz);have h4:V[k].tr.length<=4:=fx (ii.o.tr k _ aH);have HI:=I hI;have ML:=I d1;have Rj:=I hb;clear aH hI d0 d1;generalize V[k]=a at*;cases hs:a.sp with
      |true=>
       rw[hs]at x0 iN;have HN:ag (Row wr w.heap.size (cj (iF (bA V) B c (fE (bA V) B c q) (k+1)) V.length)):=I (by rw[yF (DW (Or.inl iN.o))];exact mx.o);go_wp2;go_roundw;case rel=>exact ⟨k+1,by omega,by go_num,HN.o,hb,iK⟩
       case measure=>simp[RowKit.intOf];omega
      |false=>
       rw[hs]at x0 iN;cases GH:B.contains k with
       |true=>
        have HH:=I (mA _ (k:Int) wr vb true (S9.o wr hb) (mf.trans GH));have HN:ag (∀w',Below wr.heap.size wr w'->Row w' w.heap.size (cj (iF (bA V) B c (fE (bA V) B c q) (k+1)) V.length)):=I (λw' h=>by rw[yF (DW (Or.inr GH))];exact mx.o.below h iK);clear GH;go_wp2_with (fail);refine HH.o.mono ?_;rintro e w1 ⟨rfl,bw⟩;have cL:=Rj.o.trans (bw.mono Rj.o.size);have ng:=Nat.lt_of_lt_of_le iK bw.size;have TR:=I (HN.o w1 bw);go_wp2;go_roundw;case rel=>exact ⟨k+1,by omega,by go_num,TR.o,cL,ng⟩
        case measure=>simp[RowKit.intOf];omega
       |false=>
        have HH:=I (mA _ (k:Int) wr vb false (S9.o wr hb) (mf.trans GH));have HN:ag (iF (bA V) B c (fE (bA V) B c q) (k+1)=wj (bA V) c k (iF (bA V) B c (fE (bA V) B c q) k) a.tr.length):=I (by rw[JM (MK iN.o GH),qO.o]);have MM:=I (λ(m j:Nat)=>(pj (B:=B) ii.o.gr ii.o.n12 xf.o (r:=q) (i:=k) (by omega) hk m j).1);clear GH;go_wp2_with (fail);refine HH.o.mono ?_;rintro e w1 ⟨rfl,bw⟩;have dy:=I (Rj.o.trans (bw.mono Rj.o.size));have ng:=Nat.lt_of_lt_of_le iK bw.size;have gj:=I (mx.o.below bw iK);clear bw HH Rj x0 hb;generalize iF (bA V) B c (fE (bA V) B c q) k=C at*;go_wp2;go_loopw [11,12,13] (λi _ _ wr=> ∃m:Nat,m<=a.tr.length/\i= .int .i64 (m:Int)/\Row wr w.heap.size (cj (wj (bA V) c k C m) V.length)/\Below w.heap.size w wr/\w.heap.size<wr.heap.size) (λi _ _ _=>a.tr.length-(RowKit.intOf i).toNat);case atStart=>exact ⟨0,Nat.zero_le _,rfl,gj.o,dy.o,ng⟩
        case round=>
         obtain ⟨m,hm,rfl,bi,hb,iK⟩:=hrel;have x1:=(hb.cell (p:=⟨b,off+k*2+1,none⟩) bD).trans ML.o;have qk:=I bi;clear gj dy bi;by_cases nQ:m<a.tr.length
         ·have hz:a.tr[m]?=some a.tr[m]:=List.getElem?_eq_getElem nQ;obtain ⟨b3,o3,rfl,dB,e0⟩:=cZ HI.o hz;have x2:=(hb.cell (p:=⟨b3,o3+m,none⟩) dB).trans e0;obtain ⟨t1,t2,t3,t4⟩:=sI.o m _ hz;obtain ⟨t,ht⟩: ∃t:Nat,t=a.tr[m].toNat:=⟨_,rfl⟩
          rw[<-ht]at t1 t2 t3 t4;rw[<-t2]at x2;have lE:=I (JH (c:=c) (C:=C) t1);have xh:=I (HC.o m);have q1:=MM.o m t;have q2:=MM.o m k;have x3:=qk.o.cell t _ (cD t3);have x4:=qk.o.cell k _ (cD aI);have f4:=qk.o.free k (by rw[fk];exact aI);have Ox:=I (λ(s:Int)=>qk.o.set k (.int .i64 s) (by rw[fk];exact aI));have HY:=I (λ(s:Int) h1 h2=>GF (D:=wj (bA V) c k C m) (i:=k) (t:=t) (s:=s) h1 h2);have hY:=I (λ(s:Int) h1=>JG (D:=wj (bA V) c k C m) (i:=k) (t:=t) (s:=s) h1);simp only[tu]at Ox;have Hl:(k:Int)<(V.length:Int):=by omega
          have kJ:(t:Int)<(V.length:Int):=by omega
          clear ht t1 t2 hz e0;generalize wj (bA V) c k C m=D at*;obtain ⟨x,hx⟩: ∃x,x=D t:=⟨_,rfl⟩
          obtain ⟨y,hy⟩: ∃y,y=D k:=⟨_,rfl⟩
          rw[<-hx]at x3 q1;rw[<-hy]at x4 q2;have HX:=I hx;have S':=I hy;clear hx hy;cases hr:fy with
          |false=>
           rw[hr]at xh;have GI:ag (c (m+1)=1):=I (by rw[xh.o];rfl);go_upto_region 22 with (fail)
           by_cases dp:0<=x
           ·by_cases hc:y<0\/1+x<y
            ·have HN:ag (Row (wr.setCell ⟨w.heap.size,k,none⟩ (.int .i64 (1+x))) w.heap.size (cj (wj (bA V) c k C (m+1)) V.length)):=I (by
              rw[lE.o,GI.o,HY.o _ (by rw[<-HX.o];exact dp) (by rw[<-HX.o,<-S'.o];exact hc),<-HX.o];exact Ox.o _)
             have wZ:=hb.setCell (p:=⟨w.heap.size,k,none⟩) (Nat.le_refl _) (.int .i64 (1+x));have zB:w.heap.size<(wr.setCell ⟨w.heap.size,k,none⟩ (.int .i64 (1+x))).heap.size:=by simpa using iK
             by_cases Rf:y<0
             ·go_wp2;go_roundw;case rel=>exact ⟨m+1,by omega,by go_num,HN.o,wZ,zB⟩
              case measure=>simp[RowKit.intOf];omega
             have UM:1+x<y:=by omega
             go_wp2;go_roundw;case rel=>exact ⟨m+1,by omega,by go_num,HN.o,wZ,zB⟩
             case measure=>simp[RowKit.intOf];omega
            have HN:ag (Row wr w.heap.size (cj (wj (bA V) c k C (m+1)) V.length)):=I (by
             rw[lE.o,GI.o,hY.o _ (by rw[<-HX.o,<-S'.o];exact λh=>hc h.2)];exact qk.o)
            have Rf: ¬y<0:=λh=>hc (Or.inl h);have UM: ¬1+x<y:=λh=>hc (Or.inr h);clear hc;go_wp2;go_roundw;case rel=>exact ⟨m+1,by omega,by go_num,HN.o,hb,iK⟩
            case measure=>simp[RowKit.intOf];omega
           have HN:ag (Row wr w.heap.size (cj (wj (bA V) c k C (m+1)) V.length)):=I (by
            rw[lE.o,GI.o,hY.o _ (by rw[<-HX.o];exact λh=>dp h.1)];exact qk.o)
           go_wp2;go_roundw;case rel=>exact ⟨m+1,by omega,by go_num,HN.o,hb,iK⟩
           case measure=>simp[RowKit.intOf];omega
          |true=>
           rw[hr]at xh;have GI:ag (c (m+1)=(m:Int)+1):=I (by rw[xh.o];rfl);go_upto_region 22 with (fail)
           by_cases dp:0<=x
           ·by_cases hc:y<0\/((m:Int)+1)+x<y
            ·have HN:ag (Row (wr.setCell ⟨w.heap.size,k,none⟩ (.int .i64 (((m:Int)+1)+x))) w.heap.size (cj (wj (bA V) c k C (m+1)) V.length)):=I (by
              rw[lE.o,GI.o,HY.o _ (by rw[<-HX.o];exact dp) (by rw[<-HX.o,<-S'.o];exact hc),<-HX.o];exact Ox.o _)
             have wZ:=hb.setCell (p:=⟨w.heap.size,k,none⟩) (Nat.le_refl _) (.int .i64 (((m:Int)+1)+x));have zB:w.heap.size<(wr.setCell ⟨w.heap.size,k,none⟩ (.int .i64 (((m:Int)+1)+x))).heap.size:=by simpa using iK
             by_cases Rf:y<0
             ·go_wp2;go_roundw;case rel=>exact ⟨m+1,by omega,by go_num,HN.o,wZ,zB⟩
              case measure=>simp[RowKit.intOf];omega
             have UM:((m:Int)+1)+x<y:=by omega
             go_wp2;go_roundw;case rel=>exact ⟨m+1,by omega,by go_num,HN.o,wZ,zB⟩
             case measure=>simp[RowKit.intOf];omega
            have HN:ag (Row wr w.heap.size (cj (wj (bA V) c k C (m+1)) V.length)):=I (by
             rw[lE.o,GI.o,hY.o _ (by rw[<-HX.o,<-S'.o];exact λh=>hc h.2)];exact qk.o)
            have Rf: ¬y<0:=λh=>hc (Or.inl h);have UM: ¬((m:Int)+1)+x<y:=λh=>hc (Or.inr h);clear hc;go_wp2;go_roundw;case rel=>exact ⟨m+1,by omega,by go_num,HN.o,hb,iK⟩
            case measure=>simp[RowKit.intOf];omega
           have HN:ag (Row wr w.heap.size (cj (wj (bA V) c k C (m+1)) V.length)):=I (by
            rw[lE.o,GI.o,hY.o _ (by rw[<-HX.o];exact λh=>dp h.1)];exact qk.o)
           go_wp2;go_roundw;case rel=>exact ⟨m+1,by omega,by go_num,HN.o,hb,iK⟩
           case measure=>simp[RowKit.intOf];omega
         have eA: ¬(m:Int)<(a.tr.length:Int):=by omega
         have wq:ag (Row wr w.heap.size (cj (iF (bA V) B c (fE (bA V) B c q) (k+1)) V.length)):=I (by
          rw[HN.o];have:m=a.tr.length:=by omega
          rw[<-this];exact qk.o)
         go_wp2;go_roundw;case rel=>exact ⟨k+1,by omega,by go_num,wq.o,hb,iK⟩
         case measure=>simp[RowKit.intOf];omega
     have eA: ¬(k:Int)<(V.length:Int):=by omega
     have HN:ag (Row wr w.heap.size (cj (fE (bA V) B c (q+1)) V.length)):=I (by
      have:k=V.length:=by omega
      rw[fE];show Row wr w.heap.size (cj (iF (bA V) B c (fE (bA V) B c q) V.length) V.length)
      rw[<-this]at mx⊢;exact mx.o)
     go_wp2;go_roundw;case rel=>exact ⟨q+1,by omega,by go_num,HN.o,hb,iK⟩
     case measure=>simp[RowKit.intOf];omega
   have eA: ¬(q:Int)<(V.length:Int):=by omega
   have HN:ag (Row wr w.heap.size (cj (fE (bA V) B c V.length) V.length)):=I (by
    have:q=V.length:=by omega
    rw[<-this]at LO⊢;exact LO.o)
   go_wp2;go_ret;exact ⟨w.heap.size,Nat.le_refl _,iK,rfl,HN.o,hb⟩
theorem yG (rule:Int):aF rule=mP (rule==1):=by
 funext k
 unfold aF mP;by_cases h:rule=1<;>simp[h]
def kr (V:List lW) (rule:Int) (m:Nat) (w:World) (e:Ending) (w':World):Prop:=
 ∃p v,e= .returned v/\mg (bA V) rule m p/\p.length<=577/\ay ak (cW p) w.heap.size w' v/\Below w.heap.size w w'
def dN (w:World) (base g cap:Nat) (p:List Nat):Prop:=w.ownsRow base 2 1 (.slice (some ⟨g,0,none⟩) p.length cap) p.length ((cW p).flatMap ak)
theorem dN.lt {w:World} {base g cap:Nat} {p:List Nat} (h:dN w base g cap p):base<=g/\g<w.heap.size:=World.ownsRow.lt h g rfl
theorem dN.row {w:World} {base g cap:Nat} {p:List Nat} (h:dN w base g cap p):w.ownsRow base 2 1 (.slice (some ⟨g,0,none⟩) p.length cap) p.length ((cW p).flatMap ak):=h
theorem dN.below {w w':World} {base g cap:Nat} {p:List Nat} (h:dN w base g cap p) (hb:Below w.heap.size w w'):dN w' base g cap p:=aT h hb
theorem dN.own {w:World} {base g cap:Nat} {p:List Nat} (h:dN w base g cap p):ay ak (cW p) base w (.slice (some ⟨g,0,none⟩) p.length cap):=ay.bI ak (size:=1) (λ_=>rfl) (by rw[cg];exact h)
theorem dN.ints {w:World} {base g cap:Nat} {p:List Nat} (h:dN w base g cap p):aae w w.heap.size (.slice (some ⟨g,0,none⟩) p.length cap) (cW p):=h.own.mo (size:=1) (λ_=>rfl)
theorem dN.one (w:World) (m:Nat):dN (w.alloc (.cells #[.int .i64 (m:Int)] 2)) w.heap.size w.heap.size 1 [m]:=
 ⟨rfl,.inr ⟨w.heap.size,1,#[.int .i64 (m:Int)],rfl,Nat.le_refl _,heap_alloc_new w _,Nat.le_refl _,by decide,rfl,rfl⟩⟩
theorem dN.less {w:World} {b base g cap:Nat} {p:List Nat} (h:dN w base g cap p) (hb:b<=base):dN w b g cap p:=by
 obtain ⟨h1,h2|⟨g',c,kT,e,h3,h4⟩⟩:=h
 ·exact ⟨h1,.inl h2⟩
 exact ⟨h1,.inr ⟨g',c,kT,e,Nat.le_trans hb h3,h4⟩⟩
theorem nK {g:Gr} {rule:Int} {p:List Nat} {a t k:Nat} (h2:rule≠2) (h1:(g.tr a)[k]?=some t) (hf:bK g [] (aF rule) g.n t+aF rule (k+1)=bK g [] (aF rule) g.n a)
 (hn: ∀k',k'<k-> ∀t',(g.tr a)[k']?=some t'-> ¬(bK g [] (aF rule) g.n t'+aF rule (k'+1)=bK g [] (aF rule) g.n a)):nW g rule p a t:=
 ⟨k,h1,by simp only[if_neg h2];exact hf,λk' di t' kv=>by simp only[if_neg h2];exact hn k' di t' kv⟩
theorem xN (V:List lW) (rule:Int) (fy:Bool) (m:Nat) (v:Value) (w:World) (hV:mN w w.heap.size v V) (cy:gF V) (mV:rule≠2) (UN:fy=(rule==1)) (hm:m<V.length):
 Calls prog 146 #[v,.bool fy,.int .i64 (m:Int)] w (kr V rule m w):=by
 have BQ:=(Below.refl w.heap.size w).alloc (Nat.le_refl _) (.cells #[] 2);have KR:=I (qN V [] fy v (.slice (some ⟨w.heap.size,0,none⟩) 0 0) (w.alloc (.cells #[] 2)) (hV.on BQ BQ.size) cy (cz.nil _ _ _ _ _ _ (Nat.zero_le _)));obtain ⟨A,c0,rfl,xE,An,cn⟩:=jL hV;have kM:=cy.n1;have fD:=cy.n12;obtain ⟨b,off,rfl,bD,aC⟩:=cn (by omega);have gH:=I aC;have ii:=I cy;have gj:=I mV;have WG:ag (mP fy=aF rule):=I (by rw[yG,UN]);have HC:ag (∀k,aF rule (k+1)=if fy=true then (k:Int)+1 else 1):=I (λk=>by rw[yG,<-UN];unfold mP;cases fy<;>simp);have xf:=I (ca rule);have zC:=I BQ;unfold pY at KR;unfold kr;obtain ⟨i0,hi,dK,ez,ek⟩:=info_parts iD;have xO:ag (∀hr,eK (bA V) rule m [m] m):=I (λhr=>eK.init cy.gr (show (bA V).n<=12 from fD) hm hr);have KS:=I (λp a (h:eK (bA V) rule m p a)=>h.len cy.gr (show (bA V).n<=12 from fD) hm);have DY:=I (tw (g:=bA V) (B:=[]) cy.gr fD (ca rule) (i:=m) hm);have SI:=I (λ(k t a:Nat) (hk:k<4) (ha:a<V.length) (ht:t<V.length) hf=>UK (g:=bA V) cy.gr fD (ca rule) (k:=k) (t:=t) (a:=a) hk ha ht hf);have MM:=I (λj=>(pj (g:=bA V) (B:=[]) (c:=aF rule) cy.gr fD (ca rule) (r:=V.length-1) (i:=V.length) (by omega) (Nat.le_refl _) 0 j).1);rw[WG.o]at KR;clear hV cy cn aC mV UN BQ WG;cases fy with
 |false=>
  go_enter func146,ntmps146;go_wp2_with (fail);refine KR.o.mono ?_;rintro e w1 ⟨g,KT,fG,rfl,bi,bw⟩;have da:=I (zC.o.trans (bw.mono zC.o.size));have JO:=I bi;have x0:=bi.cell m _ (cD hm);have WH:(m:Int)<(V.length:Int):=by omega
  have Ot:w.heap.size<=g:=Nat.le_trans zC.o.size KT;clear bw bi KR
  have sJ:ag (∀j,-1<=fE (bA V) [] (aF rule) V.length j/\fE (bA V) [] (aF rule) V.length j<=999):=I (by
   intro j;have:=MM.o j;have e:V.length=V.length-1+1:=by omega
   have e2:fE (bA V) [] (aF rule) V.length=iF (bA V) [] (aF rule) (fE (bA V) [] (aF rule) (V.length-1)) V.length:=by
    rw[e,fE];simp only[Nat.add_sub_cancel];rw[<-e];rfl
   rw[e2];exact this)
  have zD:ag (∀j,fE (bA V) [] (aF rule) V.length j=fE (bA V) [] (aF rule) (bA V).n j):=I (λ_=>rfl);generalize fE (bA V) [] (aF rule) V.length=D at*;obtain ⟨d,hd⟩: ∃d,d=D m:=⟨_,rfl⟩
  rw[<-hd]at x0;have HD:=I hd;clear hd;by_cases vj:d<0
  ·have JP:ag (mg (bA V) rule m []):=I (Or.inl ⟨rfl,λh=>by
    have:=DY.o.2 h;rw[<-zD.o,<-HD.o]at this;omega⟩)
   go_wp2;go_ret;exact ⟨[],_,rfl,JP.o,by simp,ay.nil _ _ _,da.o⟩
  have qk:ag (Reach (bA V) [] m):=I (DY.o.1 (by rw[<-zD.o,<-HD.o];omega));have JQ:=I (xO.o qk.o);have JR:=I ((dN.one w1 m).less da.o.size);have dy:=I (da.o.alloc da.o.size (.cells #[.int .i64 (m:Int)] 2));have sd:=I (JO.o.below ((Below.refl w1.heap.size w1).alloc (Nat.le_refl _) (.cells #[.int .i64 (m:Int)] 2)) fG);have iV:g≠w1.heap.size:=by omega
  have j5:g<(w1.alloc (.cells #[.int .i64 (m:Int)] 2)).heap.size:=by simp;omega
  go_wp2;go_loopw [8,9,10,11,12] (λvp xe _ _ _ wr=> ∃(p:List Nat) (a g2 cap:Nat),xe= .int .i64 (a:Int)/\vp= .slice (some ⟨g2,0,none⟩) p.length cap/\dN wr w.heap.size g2 cap p/\eK (bA V) rule m p a/\Row wr g (cj D V.length)/\g≠g2/\g<wr.heap.size/\Below w.heap.size w wr) (λvp _ _ _ _ _=>600-mG vp);case atStart=>exact ⟨[m],m,w1.heap.size,1,rfl,rfl,JR.o,JQ.o,sd.o,iV,j5,dy.o⟩
  case round=>
   obtain ⟨p,a,g2,cap,rfl,rfl,se,qt,bi,jP,fG,hb⟩:=hrel;have dz:=I se;have uB:=I qt;have fv:=I bi;have HB:=I hb;have halt:a<V.length:=qt.MJ;have sG:=KS.o p a qt;have aH:V[a]?=some V[a]:=List.getElem?_eq_getElem halt;obtain ⟨A1,c1,d0,d1,pQ,hI⟩:=gH.o a _ aH;have x0:=λy:ar wr=>y.cell ((hb.cell (p:=⟨b,off+a*2,none⟩) bD).trans d0);have x1:=λy:ar wr=>y.cell ((hb.cell (p:=⟨b,off+a*2+1,none⟩) bD).trans d1);have iN:ag ((bA V).sp a=V[a].sp):=I (eX aH).1;have qO:ag (((bA V).tr a).length=V[a].tr.length):=I (by rw[(eX aH).2,List.length_map]);have sI:=I (λ(m:Nat) (z:Int) (hz:V[a].tr[m]?=some z)=>ii.o.ui aH hz);have h4:V[a].tr.length<=4:=fx (ii.o.tr a _ aH);have HI:=I hI;have Rk:(a:Int)<(V.length:Int):=by omega
   obtain ⟨u0,qo⟩: ∃y:ar wr,y.val=wr:=⟨⟨wr,Below.refl _ _⟩,rfl⟩
   rw[<-qo];have E9:=I qo;clear qo aH hI d0 d1 se qt bi hb;generalize V[a]=va at*;cases hs:va.sp with
   |true=>
    rw[hs]at x0 iN;have JS:=I (uB.o.GG qk.o iN.o);have kX:=I (dz.o.own);go_wp2;go_ret;exact ⟨p,_,rfl,JS.o,sG,by rw[E9.o];exact kX.o,by rw[E9.o];exact HB.o⟩
   |false=>
    rw[hs]at x0 iN;have iG:=I (uB.o.next ii.o.gr iN.o);have Mu:=I (uB.o.cost gj.o).1;go_wp2;go_loopw [9,10,11,12] (λxe i _ _ JT=> ∃(k:Nat) (u:ar wr),k<=va.tr.length/\i= .int .i64 (k:Int)/\xe= .int .i64 (a:Int)/\JT=u.val/\ ∀k',k'<k-> ∀t',((bA V).tr a)[k']?=some t'-> ¬(bK (bA V) [] (aF rule) (bA V).n t'+aF rule (k'+1)=bK (bA V) [] (aF rule) (bA V).n a)) (λ_ i _ _ _=>va.tr.length-(RowKit.intOf i).toNat);case atStart=>exact ⟨0,u0,Nat.zero_le _,rfl,rfl,rfl,λk' di=>absurd di (Nat.not_lt_zero _)⟩
    case round=>
     obtain ⟨k,u1,hk,rfl,rfl,rfl,rf⟩:=hrel;have hY:=I rf;clear rf;by_cases qg:k<va.tr.length
     ·have hz:va.tr[k]?=some va.tr[k]:=List.getElem?_eq_getElem qg;obtain ⟨b3,o3,rfl,dB,e0⟩:=cZ HI.o hz;have x2:=λy:ar wr=>y.cell ((HB.o.cell (p:=⟨b3,o3+k,none⟩) dB).trans e0);obtain ⟨t1,t2,t3,t4⟩:=sI.o k _ hz;obtain ⟨t,ht⟩: ∃t:Nat,t=va.tr[k].toNat:=⟨_,rfl⟩
      rw[<-ht]at t1 t2 t3 t4;rw[<-t2]at x2;have lQ:=I t1;have iS:=SI.o k t a (by omega) halt t3 Mu.o;rw[<-zD.o,<-zD.o]at iS;have xh:=I (HC.o k);have q1:=sJ.o t;have q2:=sJ.o a;have x3:=λy:ar wr=>y.cell (fv.o.cell t _ (cD t3));have x4:=λy:ar wr=>y.cell (fv.o.cell a _ (cD halt));have kJ:(t:Int)<(V.length:Int):=by omega
      obtain ⟨x,hx⟩: ∃x,x=D t:=⟨_,rfl⟩
      obtain ⟨y,hy⟩: ∃y,y=D a:=⟨_,rfl⟩
      rw[<-hx]at x3 q1 iS;rw[<-hy]at x4 q2 iS;have js:=I iS;clear hx hy iS ht t1 t2 hz e0;have GI:ag (aF rule (k+1)=1):=I (by rw[xh.o];simp);go_upto_region 14 with (fail)
      by_cases hf:0<=x/\1+x=y
      ·obtain ⟨dp,Lr⟩:=hf;have iG:ag (nW (bA V) rule p a t):=I (nK gj.o lQ.o (js.o.1 ⟨dp,by rw[GI.o];exact Lr⟩) hY.o);have JU:=I (uB.o.more ii.o.gr iN.o iG.o);have Ho:decide (0<=x)=true:=by simp[dp]
       have Hp:(1+x==y)=true:=by simp[Lr]
       clear Lr iG hY;refine ap (by kernel_rfl) (by kernel_rfl) ?_
       repeat (go_big_quiet_step (fail))
       refine wpQuiet_nil ?_;rintro _ ⟨u,rfl⟩;have kX:=I (dz.o.below u.ok);have mz:=I (HB.o.trans (u.ok.mono HB.o.size));have sf:=I (fv.o.below u.ok fG);have sg:=Nat.lt_of_lt_of_le fG u.ok.size;go_wp2_with (at_builtin;refine wpList_append_own_at _ rfl _ _ 35 rfl w.heap.size 2 i0 (.int .i64 0) 1 8 underlying35 hi dK ez ek rfl (by decide) _ _ _ rfl (kX.o.row.alloc _) ⟨u.val.heap.size,0,none⟩ 1 1 (ak (t:Int)) rfl rfl (λj u hj=>fS hj) (λu hu=>cf _ hu) ?c3 ?c4 (aS mz.o.size) ?_);case c3=>unfold maxLen;omega
       case c4=>omega
       intro v' w9 aG aA aU iH;obtain ⟨g9,gM,rfl,zE,zF⟩:=bG aG (by simpa using aU);have iM:=I ((mz.o.alloc mz.o.size (.cells #[.int .i64 (t:Int)] 2)).grown aA (aS mz.o.size) (λj hj=>(kX.o.row.lt j hj).1))
       have zG:ag (dN w9 w.heap.size g9 gM (p++[t])):=I (by
        unfold dN;rw[cQ,cq,List.length_append];exact aG)
       have zH:=I ((sf.o.below ((Below.refl u.val.heap.size u.val).alloc (Nat.le_refl _) (.cells #[.int .i64 (t:Int)] 2)) sg).aD (F:=λc=>c=g2) (by simpa using Nat.lt_succ_of_lt sg) (Touch.aW aA (λc hc=>by injection hc with hc;exact hc.symm)) jP)
       have zI:g≠g9:=by
        rcases iH with h|h<;>injection h with h
        ·exact λe=>jP (e.trans h)
        simp at h;omega
       have zJ:g<w9.heap.size:=by have:=aA.size;simp at this;omega
       clear aG aA aU iH;go_wp2;go_roundw
       case rel=>
        exact ⟨p++[t],t,g9,gM,rfl,by rw[List.length_append];rfl,zG.o,JU.o,zH.o,zI,zJ,iM.o⟩
       case measure=>simp[mG];omega
      have wq:ag (∀k',k'<k+1-> ∀t',((bA V).tr a)[k']?=some t'-> ¬(bK (bA V) [] (aF rule) (bA V).n t'+aF rule (k'+1)=bK (bA V) [] (aF rule) (bA V).n a)):=I (λk' di t' kv=>by
       by_cases e:k'=k
       ·subst e;rw[lQ.o]at kv;injection kv with kv
        subst kv;exact λh=>hf (by rw[<-GI.o];exact js.o.2 h)
       exact hY.o k' (by omega) t' kv)
      by_cases dp:0<=x
      ·have Ho:decide (0<=x)=true:=by simp[dp]
       have Hp:(1+x==y)=false:=by
        have: ¬1+x=y:=λh=>hf ⟨dp,h⟩;simpa using this
       clear hf hY;refine ap (by kernel_rfl) (by kernel_rfl) ?_
       repeat (go_big_quiet_step (fail))
       refine wpQuiet_nil ?_;rintro _ ⟨u,rfl⟩;go_wp2;go_roundw;case rel=>exact ⟨k+1,u,by omega,by go_num,rfl,rfl,wq.o⟩
       case measure=>simp[RowKit.intOf];omega
      have Ho:decide (0<=x)=false:=by simp;omega
      clear hf hY;refine ap (by kernel_rfl) (by kernel_rfl) ?_
      repeat (go_big_quiet_step (fail))
      refine wpQuiet_nil ?_;rintro _ ⟨u,rfl⟩;go_wp2;go_roundw;case rel=>exact ⟨k+1,u,by omega,by go_num,rfl,rfl,wq.o⟩
      case measure=>simp[RowKit.intOf];omega
     exfalso
     obtain ⟨t,kk,h1,h2,_⟩:=iG.o;rw[if_neg gj.o]at h2;have:=(List.getElem?_eq_some_iff.1 h1).1;rw[qO.o]at this;exact hY.o kk (by omega) t h1 h2
 |true=>
  go_enter func146,ntmps146;go_wp2_with (fail);refine KR.o.mono ?_;rintro e w1 ⟨g,KT,fG,rfl,bi,bw⟩;have da:=I (zC.o.trans (bw.mono zC.o.size));have JO:=I bi;have x0:=bi.cell m _ (cD hm);have WH:(m:Int)<(V.length:Int):=by omega
  have Ot:w.heap.size<=g:=Nat.le_trans zC.o.size KT;clear bw bi KR
  have sJ:ag (∀j,-1<=fE (bA V) [] (aF rule) V.length j/\fE (bA V) [] (aF rule) V.length j<=999):=I (by
   intro j;have:=MM.o j;have e:V.length=V.length-1+1:=by omega
   have e2:fE (bA V) [] (aF rule) V.length=iF (bA V) [] (aF rule) (fE (bA V) [] (aF rule) (V.length-1)) V.length:=by
    rw[e,fE];simp only[Nat.add_sub_cancel];rw[<-e];rfl
   rw[e2];exact this)
  have zD:ag (∀j,fE (bA V) [] (aF rule) V.length j=fE (bA V) [] (aF rule) (bA V).n j):=I (λ_=>rfl);generalize fE (bA V) [] (aF rule) V.length=D at*;obtain ⟨d,hd⟩: ∃d,d=D m:=⟨_,rfl⟩
  rw[<-hd]at x0;have HD:=I hd;clear hd;by_cases vj:d<0
  ·have JP:ag (mg (bA V) rule m []):=I (Or.inl ⟨rfl,λh=>by
    have:=DY.o.2 h;rw[<-zD.o,<-HD.o]at this;omega⟩)
   go_wp2;go_ret;exact ⟨[],_,rfl,JP.o,by simp,ay.nil _ _ _,da.o⟩
  have qk:ag (Reach (bA V) [] m):=I (DY.o.1 (by rw[<-zD.o,<-HD.o];omega));have JQ:=I (xO.o qk.o);have JR:=I ((dN.one w1 m).less da.o.size);have dy:=I (da.o.alloc da.o.size (.cells #[.int .i64 (m:Int)] 2));have sd:=I (JO.o.below ((Below.refl w1.heap.size w1).alloc (Nat.le_refl _) (.cells #[.int .i64 (m:Int)] 2)) fG);have iV:g≠w1.heap.size:=by omega
  have j5:g<(w1.alloc (.cells #[.int .i64 (m:Int)] 2)).heap.size:=by simp;omega
  go_wp2;go_loopw [8,9,10,11,12] (λvp xe _ _ _ wr=> ∃(p:List Nat) (a g2 cap:Nat),xe= .int .i64 (a:Int)/\vp= .slice (some ⟨g2,0,none⟩) p.length cap/\dN wr w.heap.size g2 cap p/\eK (bA V) rule m p a/\Row wr g (cj D V.length)/\g≠g2/\g<wr.heap.size/\Below w.heap.size w wr) (λvp _ _ _ _ _=>600-mG vp);case atStart=>exact ⟨[m],m,w1.heap.size,1,rfl,rfl,JR.o,JQ.o,sd.o,iV,j5,dy.o⟩
  case round=>
   obtain ⟨p,a,g2,cap,rfl,rfl,se,qt,bi,jP,fG,hb⟩:=hrel;have dz:=I se;have uB:=I qt;have fv:=I bi;have HB:=I hb;have halt:a<V.length:=qt.MJ;have sG:=KS.o p a qt;have aH:V[a]?=some V[a]:=List.getElem?_eq_getElem halt;obtain ⟨A1,c1,d0,d1,pQ,hI⟩:=gH.o a _ aH;have x0:=λy:ar wr=>y.cell ((hb.cell (p:=⟨b,off+a*2,none⟩) bD).trans d0);have x1:=λy:ar wr=>y.cell ((hb.cell (p:=⟨b,off+a*2+1,none⟩) bD).trans d1);have iN:ag ((bA V).sp a=V[a].sp):=I (eX aH).1;have qO:ag (((bA V).tr a).length=V[a].tr.length):=I (by rw[(eX aH).2,List.length_map]);have sI:=I (λ(m:Nat) (z:Int) (hz:V[a].tr[m]?=some z)=>ii.o.ui aH hz);have h4:V[a].tr.length<=4:=fx (ii.o.tr a _ aH);have HI:=I hI;have Rk:(a:Int)<(V.length:Int):=by omega
   obtain ⟨u0,qo⟩: ∃y:ar wr,y.val=wr:=⟨⟨wr,Below.refl _ _⟩,rfl⟩
   rw[<-qo];have E9:=I qo;clear qo aH hI d0 d1 se qt bi hb;generalize V[a]=va at*;cases hs:va.sp with
   |true=>
    rw[hs]at x0 iN;have JS:=I (uB.o.GG qk.o iN.o);have kX:=I (dz.o.own);go_wp2;go_ret;exact ⟨p,_,rfl,JS.o,sG,by rw[E9.o];exact kX.o,by rw[E9.o];exact HB.o⟩
   |false=>
    rw[hs]at x0 iN;have iG:=I (uB.o.next ii.o.gr iN.o);have Mu:=I (uB.o.cost gj.o).1;go_wp2;go_loopw [9,10,11,12] (λxe i _ _ JT=> ∃(k:Nat) (u:ar wr),k<=va.tr.length/\i= .int .i64 (k:Int)/\xe= .int .i64 (a:Int)/\JT=u.val/\ ∀k',k'<k-> ∀t',((bA V).tr a)[k']?=some t'-> ¬(bK (bA V) [] (aF rule) (bA V).n t'+aF rule (k'+1)=bK (bA V) [] (aF rule) (bA V).n a)) (λ_ i _ _ _=>va.tr.length-(RowKit.intOf i).toNat);case atStart=>exact ⟨0,u0,Nat.zero_le _,rfl,rfl,rfl,λk' di=>absurd di (Nat.not_lt_zero _)⟩
    case round=>
     obtain ⟨k,u1,hk,rfl,rfl,rfl,rf⟩:=hrel;have hY:=I rf;clear rf;by_cases qg:k<va.tr.length
     ·have hz:va.tr[k]?=some va.tr[k]:=List.getElem?_eq_getElem qg;obtain ⟨b3,o3,rfl,dB,e0⟩:=cZ HI.o hz;have x2:=λy:ar wr=>y.cell ((HB.o.cell (p:=⟨b3,o3+k,none⟩) dB).trans e0);obtain ⟨t1,t2,t3,t4⟩:=sI.o k _ hz;obtain ⟨t,ht⟩: ∃t:Nat,t=va.tr[k].toNat:=⟨_,rfl⟩
      rw[<-ht]at t1 t2 t3 t4;rw[<-t2]at x2;have lQ:=I t1;have iS:=SI.o k t a (by omega) halt t3 Mu.o;rw[<-zD.o,<-zD.o]at iS;have xh:=I (HC.o k);have q1:=sJ.o t;have q2:=sJ.o a;have x3:=λy:ar wr=>y.cell (fv.o.cell t _ (cD t3));have x4:=λy:ar wr=>y.cell (fv.o.cell a _ (cD halt));have kJ:(t:Int)<(V.length:Int):=by omega
      obtain ⟨x,hx⟩: ∃x,x=D t:=⟨_,rfl⟩
      obtain ⟨y,hy⟩: ∃y,y=D a:=⟨_,rfl⟩
      rw[<-hx]at x3 q1 iS;rw[<-hy]at x4 q2 iS;have js:=I iS;clear hx hy iS ht t1 t2 hz e0;have GI:ag (aF rule (k+1)=((k:Int)+1)):=I (by rw[xh.o];simp);go_upto_region 14 with (fail)
      by_cases hf:0<=x/\((k:Int)+1)+x=y
      ·obtain ⟨dp,Lr⟩:=hf;have iG:ag (nW (bA V) rule p a t):=I (nK gj.o lQ.o (js.o.1 ⟨dp,by rw[GI.o];exact Lr⟩) hY.o);have JU:=I (uB.o.more ii.o.gr iN.o iG.o);have Ho:decide (0<=x)=true:=by simp[dp]
       have Hp:(((k:Int)+1)+x==y)=true:=by simp[Lr]
       clear Lr iG hY;refine ap (by kernel_rfl) (by kernel_rfl) ?_
       repeat (go_big_quiet_step (fail))
       refine wpQuiet_nil ?_;rintro _ ⟨u,rfl⟩;have kX:=I (dz.o.below u.ok);have mz:=I (HB.o.trans (u.ok.mono HB.o.size));have sf:=I (fv.o.below u.ok fG);have sg:=Nat.lt_of_lt_of_le fG u.ok.size;go_wp2_with (at_builtin;refine wpList_append_own_at _ rfl _ _ 35 rfl w.heap.size 2 i0 (.int .i64 0) 1 8 underlying35 hi dK ez ek rfl (by decide) _ _ _ rfl (kX.o.row.alloc _) ⟨u.val.heap.size,0,none⟩ 1 1 (ak (t:Int)) rfl rfl (λj u hj=>fS hj) (λu hu=>cf _ hu) ?c3 ?c4 (aS mz.o.size) ?_);case c3=>unfold maxLen;omega
       case c4=>omega
       intro v' w9 aG aA aU iH;obtain ⟨g9,gM,rfl,zE,zF⟩:=bG aG (by simpa using aU);have iM:=I ((mz.o.alloc mz.o.size (.cells #[.int .i64 (t:Int)] 2)).grown aA (aS mz.o.size) (λj hj=>(kX.o.row.lt j hj).1))
       have zG:ag (dN w9 w.heap.size g9 gM (p++[t])):=I (by
        unfold dN;rw[cQ,cq,List.length_append];exact aG)
       have zH:=I ((sf.o.below ((Below.refl u.val.heap.size u.val).alloc (Nat.le_refl _) (.cells #[.int .i64 (t:Int)] 2)) sg).aD (F:=λc=>c=g2) (by simpa using Nat.lt_succ_of_lt sg) (Touch.aW aA (λc hc=>by injection hc with hc;exact hc.symm)) jP)
       have zI:g≠g9:=by
        rcases iH with h|h<;>injection h with h
        ·exact λe=>jP (e.trans h)
        simp at h;omega
       have zJ:g<w9.heap.size:=by have:=aA.size;simp at this;omega
       clear aG aA aU iH;go_wp2;go_roundw
       case rel=>
        exact ⟨p++[t],t,g9,gM,rfl,by rw[List.length_append];rfl,zG.o,JU.o,zH.o,zI,zJ,iM.o⟩
       case measure=>simp[mG];omega
      have wq:ag (∀k',k'<k+1-> ∀t',((bA V).tr a)[k']?=some t'-> ¬(bK (bA V) [] (aF rule) (bA V).n t'+aF rule (k'+1)=bK (bA V) [] (aF rule) (bA V).n a)):=I (λk' di t' kv=>by
       by_cases e:k'=k
       ·subst e;rw[lQ.o]at kv;injection kv with kv
        subst kv;exact λh=>hf (by rw[<-GI.o];exact js.o.2 h)
       exact hY.o k' (by omega) t' kv)
      by_cases dp:0<=x
      ·have Ho:decide (0<=x)=true:=by simp[dp]
       have Hp:(((k:Int)+1)+x==y)=false:=by
        have: ¬((k:Int)+1)+x=y:=λh=>hf ⟨dp,h⟩;simpa using this
       clear hf hY;refine ap (by kernel_rfl) (by kernel_rfl) ?_
       repeat (go_big_quiet_step (fail))
       refine wpQuiet_nil ?_;rintro _ ⟨u,rfl⟩;go_wp2;go_roundw;case rel=>exact ⟨k+1,u,by omega,by go_num,rfl,rfl,wq.o⟩
       case measure=>simp[RowKit.intOf];omega
      have Ho:decide (0<=x)=false:=by simp;omega
      clear hf hY;refine ap (by kernel_rfl) (by kernel_rfl) ?_
      repeat (go_big_quiet_step (fail))
      refine wpQuiet_nil ?_;rintro _ ⟨u,rfl⟩;go_wp2;go_roundw;case rel=>exact ⟨k+1,u,by omega,by go_num,rfl,rfl,wq.o⟩
      case measure=>simp[RowKit.intOf];omega
     exfalso
     obtain ⟨t,kk,h1,h2,_⟩:=iG.o;rw[if_neg gj.o]at h2;have:=(List.getElem?_eq_some_iff.1 h1).1;rw[qO.o]at this;exact hY.o kk (by omega) t h1 h2
def lf (zs:List Int) (w:World) (e:Ending) (w':World):Prop:=
 ∃v',e= .returned v'/\w'.ownsRow w.heap.size 2 1 v' zs.length (zs.flatMap ak)/\Below w.heap.size w w'
structure lM (base:Nat) (w:World) (vs vo vq:Value) (gq:Nat) (S E O:List Int):Prop where
 s:w.ownsRow base 2 1 vs S.length (S.flatMap ak)
 o:w.ownsRow base 2 1 vo E.length (E.flatMap ak)
 q:qL w base 2 gq vq (O.map (Value.int .i64))
 so: ∀j,vs.ownBlock=some j->vo.ownBlock≠some j
 sq:vs.ownBlock≠some gq
 oq:vo.ownBlock≠some gq
section
variable {base gq:Nat} {w w':World} {vs vo vq:Value} {S E O:List Int}
theorem lM.below (h:lM base w vs vo vq gq S E O) (hb:Below w.heap.size w w'):lM base w' vs vo vq gq S E O:=
 ⟨aT h.s hb,aT h.o hb,h.q.below hb,h.so,h.sq,h.oq⟩
theorem lM.ints (h:lM base w vs vo vq gq S E O):aae w w.heap.size vs S:=(ay.bI ak (size:=1) (λ_=>rfl) h.s).mo (size:=1) (λ_=>rfl)
end
def mQ (V:List lW) (B:List Nat) (m:Nat) (w:World) (e:Ending) (w':World):Prop:=
 ∃A n c,e= .returned (.slice A n c)/\n<=1000/\(0<n↔Reach (bA V) B m)/\Below w.heap.size w w'
theorem wv {g:Gr} {p:List Nat} {a t k:Nat} (h1:(g.tr a)[k]?=some t) (hf:Reach g p t)
 (hn: ∀k',k'<k-> ∀t',(g.tr a)[k']?=some t'-> ¬Reach g p t'):nW g 2 p a t:=
 ⟨k,h1,by simp only[if_true];exact hf,λk' di t' kv=>by simp only[if_true];exact hn k' di t' kv⟩
theorem zK (V:List lW) (m:Nat) (v:Value) (w:World) (hV:mN w w.heap.size v V) (cy:gF V) (hm:m<V.length):
 Calls prog 145 #[v,.int .i64 (m:Int)] w (kr V 2 m w):=by
 have BQ:=(Below.refl w.heap.size w).alloc (Nat.le_refl _) (.cells #[] 2);have KR:=I (qN V [] false v (.slice (some ⟨w.heap.size,0,none⟩) 0 0) (w.alloc (.cells #[] 2)) (hV.on BQ BQ.size) cy (cz.nil _ _ _ _ _ _ (Nat.zero_le _)));have WK:=I (λ(p:List Nat) (vp:Value) (W:World) (hb:Below w.heap.size w W) (hp:aae W W.heap.size vp (cW p))=>qN V p false v vp W (hV.on hb hb.size) cy hp);obtain ⟨A,c0,rfl,xE,An,cn⟩:=jL hV;have kM:=cy.n1;have fD:=cy.n12;obtain ⟨b,off,rfl,bD,aC⟩:=cn (by omega);have gH:=I aC;have ii:=I cy;have zC:=I BQ;unfold pY at KR WK;unfold kr;obtain ⟨i0,hi,dK,ez,ek⟩:=info_parts iD;have xO:ag (∀hr,eK (bA V) 2 m [m] m):=I (λhr=>eK.init cy.gr (show (bA V).n<=12 from fD) hm hr);have KS:=I (λp a (h:eK (bA V) 2 m p a)=>h.len cy.gr (show (bA V).n<=12 from fD) hm);have DY:ag (∀(B:List Nat) (i:Nat),i<V.length->(0<=fE (bA V) B (mP false) V.length i↔Reach (bA V) B i)):=I (λB i hi=>tw (g:=bA V) (B:=B) cy.gr fD (BP false) (i:=i) hi);clear hV cy cn aC BQ;go_enter func145,ntmps145;go_wp2_with (fail);refine KR.o.mono ?_;rintro e w1 ⟨g,KT,fG,rfl,bi,bw⟩;have da:=I (zC.o.trans (bw.mono zC.o.size));have x0:=bi.cell m _ (cD hm);have WH:(m:Int)<(V.length:Int):=by omega
 have HM:=I (DY.o [] m hm);clear bw bi KR;generalize fE (bA V) [] (mP false) V.length m=d at*;by_cases vj:d<0
 ·have JP:ag (mg (bA V) 2 m []):=I (Or.inl ⟨rfl,λh=>by
   have:=HM.o.2 h;omega⟩)
  go_wp2;go_ret;exact ⟨[],_,rfl,JP.o,by simp,ay.nil _ _ _,da.o⟩
 have qk:ag (Reach (bA V) [] m):=I (HM.o.1 (by omega));have JQ:=I (xO.o qk.o);have JR:=I ((dN.one w1 m).less da.o.size);have dy:=I (da.o.alloc da.o.size (.cells #[.int .i64 (m:Int)] 2));go_wp2;go_loopw [5,6,7,8] (λvp xe _ _ wr=> ∃(p:List Nat) (a g2 cap:Nat),xe= .int .i64 (a:Int)/\vp= .slice (some ⟨g2,0,none⟩) p.length cap/\dN wr w.heap.size g2 cap p/\eK (bA V) 2 m p a/\Below w.heap.size w wr) (λvp _ _ _ _=>600-mG vp);case atStart=>exact ⟨[m],m,w1.heap.size,1,rfl,rfl,JR.o,JQ.o,dy.o⟩
 case round=>
  obtain ⟨p,a,g2,cap,rfl,rfl,se,qt,hb⟩:=hrel;have dz:=I se;have uB:=I qt;have HB:=I hb;have halt:a<V.length:=qt.MJ;have sG:=KS.o p a qt;have aH:V[a]?=some V[a]:=List.getElem?_eq_getElem halt;obtain ⟨A1,c1,d0,d1,pQ,hI⟩:=gH.o a _ aH;have y0:=(hb.cell (p:=⟨b,off+a*2,none⟩) bD).trans d0;have iN:ag ((bA V).sp a=V[a].sp):=I (eX aH).1;have qO:ag (((bA V).tr a).length=V[a].tr.length):=I (by rw[(eX aH).2,List.length_map]);have sI:=I (λ(m:Nat) (z:Int) (hz:V[a].tr[m]?=some z)=>ii.o.ui aH hz);have h4:V[a].tr.length<=4:=fx (ii.o.tr a _ aH);have HI:=I hI;have ML:=I d1;have Rk:(a:Int)<(V.length:Int):=by omega
  clear aH hI d0 d1 se qt hb;generalize V[a]=va at*;cases hs:va.sp with
  |true=>
   rw[hs]at y0 iN;have JS:=I (uB.o.GG qk.o iN.o);have kX:=I (dz.o.own);go_wp2;go_ret;exact ⟨p,_,rfl,JS.o,sG,kX.o,HB.o⟩
  |false=>
   rw[hs]at y0 iN;have iG:=I (uB.o.next ii.o.gr iN.o);have WL:=I (WK.o p _ wr HB.o dz.o.ints);have Za:=I (DY.o p);go_wp2_with (fail);refine WL.o.mono ?_;rintro e w2 ⟨g3,uI,Zb,rfl,MS,dB⟩;have fv:=I MS;have dI:=I (HB.o.trans (dB.mono HB.o.size));have EW:=I (dz.o.below dB);have x1:=(dI.o.cell (p:=⟨b,off+a*2+1,none⟩) bD).trans ML.o;clear MS dB WL y0;generalize fE (bA V) p (mP false) V.length=D at*;go_wp2;go_loopw [6,8] (λxe i JT=> ∃(k:Nat),k<=va.tr.length/\i= .int .i64 (k:Int)/\xe= .int .i64 (a:Int)/\JT=w2/\ ∀k',k'<k-> ∀t',((bA V).tr a)[k']?=some t'-> ¬Reach (bA V) p t') (λ_ i _=>va.tr.length-(RowKit.intOf i).toNat);case atStart=>exact ⟨0,Nat.zero_le _,rfl,rfl,rfl,λk' di=>absurd di (Nat.not_lt_zero _)⟩
   case round=>
    obtain ⟨k,hk,rfl,rfl,rfl,rf⟩:=hrel;have hY:=I rf;clear rf;by_cases qg:k<va.tr.length
    ·have hz:va.tr[k]?=some va.tr[k]:=List.getElem?_eq_getElem qg;obtain ⟨b3,o3,rfl,dB,e0⟩:=cZ HI.o hz;have x2:=(dI.o.cell (p:=⟨b3,o3+k,none⟩) dB).trans e0;obtain ⟨t1,t2,t3,t4⟩:=sI.o k _ hz;obtain ⟨t,ht⟩: ∃t:Nat,t=va.tr[k].toNat:=⟨_,rfl⟩
     rw[<-ht]at t1 t2 t3 t4;rw[<-t2]at x2;have lQ:=I t1;have iS:=Za.o t t3;have x3:=fv.o.cell t _ (cD t3);have kJ:(t:Int)<(V.length:Int):=by omega
     obtain ⟨x,hx⟩: ∃x,x=D t:=⟨_,rfl⟩
     rw[<-hx]at x3 iS;have js:=I iS;clear hx iS ht t1 t2 hz e0;by_cases dp:0<=x
     ·have MT:ag (nW (bA V) 2 p a t):=I (wv lQ.o (js.o.1 dp) hY.o);have JU:=I (uB.o.more ii.o.gr iN.o MT.o);clear MT hY;go_wp2_with (at_builtin;refine wpList_append_own_at _ rfl _ _ 35 rfl w.heap.size 2 i0 (.int .i64 0) 1 8 underlying35 hi dK ez ek rfl (by decide) _ _ _ rfl (EW.o.row.alloc _) ⟨wr.heap.size,0,none⟩ 1 1 (ak (t:Int)) rfl rfl (λj u hj=>fS hj) (λu hu=>cf _ hu) ?c3 ?c4 (aS dI.o.size) ?_);case c3=>unfold maxLen;omega
      case c4=>omega
      intro v' w9 aG aA aU iH;obtain ⟨g9,gM,rfl,zE,zF⟩:=bG aG (by simpa using aU);have iM:=I ((dI.o.alloc dI.o.size (.cells #[.int .i64 (t:Int)] 2)).grown aA (aS dI.o.size) (λj hj=>(EW.o.row.lt j hj).1))
      have zG:ag (dN w9 w.heap.size g9 gM (p++[t])):=I (by
       unfold dN;rw[cQ,cq,List.length_append];exact aG)
      clear aG aA aU iH;go_wp2;go_roundw;case rel=>exact ⟨p++[t],t,g9,gM,rfl,by rw[List.length_append];rfl,zG.o,JU.o,iM.o⟩
      case measure=>simp[mG];omega
     have wq:ag (∀k',k'<k+1-> ∀t',((bA V).tr a)[k']?=some t'-> ¬Reach (bA V) p t'):=I (λk' di t' kv=>by
      by_cases e:k'=k
      ·subst e;rw[lQ.o]at kv;injection kv with kv
       subst kv;exact λh=>dp (js.o.2 h)
      exact hY.o k' (by omega) t' kv)
     clear hY;go_wp2;go_roundw;case rel=>exact ⟨k+1,by omega,by go_num,rfl,by first|rfl|trivial,wq.o⟩
     case measure=>simp[RowKit.intOf];omega
    exfalso
    obtain ⟨t,kk,h1,h2,_⟩:=iG.o;simp only[if_true]at h2;have:=(List.getElem?_eq_some_iff.1 h1).1;rw[qO.o]at this;exact hY.o kk (by omega) t h1 h2
theorem GL (V:List lW) (rule:Int) (m:Nat) (v:Value) (w:World) (hV:mN w w.heap.size v V) (cy:gF V) (hm:m<V.length):
 Calls prog 142 #[v,.int .i64 rule,.int .i64 (m:Int)] w (kr V rule m w):=by
 by_cases hr:rule=2
 ·subst hr;have H:=I (zK V m v w hV cy hm);unfold kr at H⊢;clear hV;go_enter func142,ntmps142;go_wp2_with (fail);refine H.o.mono ?_;rintro e w1 ⟨p,v1,rfl,h1,h2,h3,h4⟩;have HO:=I h3;obtain ⟨A1,c1,rfl,_⟩:=h3;have H1:=I h1;clear h1;go_wp2;go_ret;exact ⟨p,_,rfl,H1.o,h2,HO.o,h4⟩
 have H:=I (xN V rule (rule==1) m v w hV cy hr rfl hm);have gm:(rule==2)=false:=by simpa using hr
 unfold kr at H⊢;clear hV hr;go_enter func142,ntmps142;go_wp2_with (fail);refine H.o.mono ?_;rintro e w1 ⟨p,v1,rfl,h1,h2,h3,h4⟩;have HO:=I h3;obtain ⟨A1,c1,rfl,_⟩:=h3;have H1:=I h1;clear h1;go_wp2;go_ret;exact ⟨p,_,rfl,H1.o,h2,HO.o,h4⟩
end Go.Proofs.YtbcggaldkihcaaaGreatDoor
