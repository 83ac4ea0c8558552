/- With whom all ballots are settled, the reference's, walked. -/
import Derived.Test.YtbcggaldkihcaaaGreatYB
import Derived.StillTailTactics
import Derived.Laws.OwnMore
set_option maxHeartbeats 8000000
set_option maxRecDepth 100000
namespace Go.Proofs.YtbcggaldkihcaaaGreat
open Tryz
theorem aaV:type_of% @Go.RowKit.Below.mono:=@Go.RowKit.Below.mono
theorem abM:type_of% @Go.wp_region_held_drew:=@Go.wp_region_held_drew
theorem aav:type_of% @Go.wpAnyH_ready:=@Go.wpAnyH_ready
theorem aat:type_of% @Go.AllReadyH.cons:=@Go.AllReadyH.cons
theorem aaw:type_of% @Go.AllReadyH.nil:=@Go.AllReadyH.nil
theorem aaM:type_of% @Go.Calls.mono:=@Go.Calls.mono
theorem abz:type_of% @Go.wpAnyH_done:=@Go.wpAnyH_done
section
variable {P:Program} {ops:Array Oper} {Q:Exit->Act->World->Prop} {md:Region.Mode} {S:World->Prop} {oi:Oper} {v:Value} {dP:Nat} {listed:Array Bool} {a:Act} {w:World}
theorem aZ (i:Nat) (h:wpAnyH P md ops Q S dP (listed.setIfInBounds i true) (a.put oi.dst v) w) (hi:ops[i]?=some oi:=by exact rfl) (hs:Region.noSelect ops=true:=by kernel_rfl) (hf:Region.free md ops listed i=true:=by kernel_rfl) (hr:(Region.ready md ops listed).contains i=true:=by kernel_rfl)
 (hQ: ∀c a w,Q (.panic c) (a.put oi.dst v) w->Q (.panic c) a w:=by exact λ_ _ _ h=>h) (hS:S w:=by assumption)
 (hy:YieldsIf P ops S oi v a:=by
  refine Or.inl ⟨by rfl,?_⟩;intro w Td
  try dsimp only at Td
  simp only[aK];first|(go_simp;done)|(go_simp;with_reducible rfl)):wpAnyH P md ops Q S (dP+1) listed a w:=
 wpAnyH_take hi hs hf hr hQ hy hS h
theorem fh (i:Nat) (h:wpAnyH P md ops Q S dP (listed.setIfInBounds i true) (a.put oi.dst undef) w) (hi:ops[i]?=some oi:=by exact rfl) (hs:Region.noSelect ops=true:=by kernel_rfl) (hf:Region.free md ops listed i=true:=by kernel_rfl) (hr:(Region.ready md ops listed).contains i=true:=by kernel_rfl)
 (hQ: ∀c a w,Q (.panic c) (a.put oi.dst undef) w->Q (.panic c) a w:=by exact λ_ _ _ h=>h) (hw:Region.wanted oi (yielded ops a.tmps)=false:=by rfl) (hS:S w:=by assumption):wpAnyH P md ops Q S (dP+1) listed a w:=
 wpAnyH_take hi hs hf hr hQ (Or.inr ⟨hw,rfl⟩) hS h
end
open Go.RowKit Go.Lib
def iX (w:World) (base g cap:Nat) (L:List Int):Prop:=w.ownsRow base 2 1 (.slice (some ⟨g,0,none⟩) L.length cap) L.length (L.flatMap ak)
theorem iX.row {w:World} {base g cap:Nat} {L:List Int} (h:iX w base g cap L):w.ownsRow base 2 1 (.slice (some ⟨g,0,none⟩) L.length cap) L.length (L.flatMap ak):=h
theorem iX.below {w w':World} {base g cap:Nat} {L:List Int} (h:iX w base g cap L) (hb:Below w.heap.size w w'):iX w' base g cap L:=aT h hb
theorem iX.own {w:World} {base g cap:Nat} {L:List Int} (h:iX w base g cap L):ay ak L base w (.slice (some ⟨g,0,none⟩) L.length cap):=ay.bI ak (size:=1) (λ_=>rfl) h
theorem iX.ints {w:World} {base g cap:Nat} {L:List Int} (h:iX w base g cap L):Ints w w.heap.size (.slice (some ⟨g,0,none⟩) L.length cap) L:=h.own.mo (size:=1) (λ_=>rfl)
theorem iX.start (w:World):iX (w.alloc (.cells #[] 2)) w.heap.size w.heap.size 0 []:=by
 unfold iX;simpa using aaz w #[] 0 (aad _) (aaf _) rfl
def ww (g:Gr) (rule:Int) (L:List Int):Prop:= ∀(j:Nat) (e:Int),L[j]?=some e->lL g rule j e
theorem ww.push {g:Gr} {rule:Int} {L:List Int} {e:Int} (h:ww g rule L) (he:lL g rule L.length e):ww g rule (L++[e]):=λj e' hj=>by
 rcases abo j L.length with hl|hl
 ·rw[aaW hl]at hj;exact h j e' hj
 have vB:=(aal.1 hj).1;rw[aak,List.length_singleton]at vB;have:j=L.length:=by omega
 subst this;rw[aaN (aad _),abb]at hj;injection hj with hj
 rw[<-hj];exact he
def qQ (V:List lW) (rule:Int) (w:World) (e:Ending) (w':World):Prop:=
 ∃g cap,e= .returned (.slice (some ⟨g,0,none⟩) V.length cap)/\(jl V rule).length=V.length/\(∀(j:Nat) (x:Int),(jl V rule)[j]?=some x->lL (bA V) rule j x)/\iX w' w.heap.size g cap (jl V rule)/\Below w.heap.size w w'
theorem BU (V:List lW) (rule:Int) (v:Value) (w:World) (hV:mN w w.heap.size v V) (cy:gF V):
 Calls prog 215 #[v,.int .i64 rule] w (qQ V rule w):=by
 have Ro:=I (λ(m:Nat) (hm:m<V.length) (W:World) (hb:Below w.heap.size w W)=>GL V rule m v W (hV.on hb hb.size) cy hm);obtain ⟨A,c0,rfl,xE,An,cn⟩:=jL hV;have fD:=cy.n12;obtain ⟨i0,hi,dK,ez,ek⟩:=aaq iD;have FR:=I (iX.start w);have jT:=I ((aae w.heap.size w).alloc (aad _) (.cells #[] 2));unfold kr at Ro;unfold qQ;clear hV cn cy;go_enter func215,ntmps215;go_wp2;go_loopw [5,6,7] (λvo i _ wr=> ∃(k:Nat) (L:List Int) (g cap:Nat),k<=V.length/\i= .int .i64 (k:Int)/\vo= .slice (some ⟨g,0,none⟩) L.length cap/\L.length=k/\iX wr w.heap.size g cap L/\ww (bA V) rule L/\Below w.heap.size w wr) (λ_ i _ _=>V.length-(intOf i).toNat);case atStart=>exact ⟨0,[],_,0,aaf _,rfl,rfl,rfl,FR.o,(λj e hj=>by simp at hj),jT.o⟩
 case round=>
  obtain ⟨k,L,g,cap,hk,rfl,rfl,tf,ho,hle,hb⟩:=hrel;have HO:=I ho;have LQ:=I hle;have HB:=I hb;have xP:=I tf;have UT:L.length<=12:=by omega
  by_cases aI:k<V.length
  ·have D3:=I (Ro.o k aI wr hb);clear ho hle hb tf;go_wp2_with (fail);refine D3.o.mono ?_;rintro e w1 ⟨p,v1,rfl,hp,sG,se,bw⟩;have da:=I (HB.o.trans (bw.mono HB.o.size));have jh:=I (HO.o.below bw);by_cases h0:p=[]
   ·subst h0;have CI:ag (lL (bA V) rule L.length (-1)):=I (by rw[xP.o];exact hp.none);obtain ⟨A1,c1,rfl,_⟩:=se;clear hp bw D3;simp only[cW,abl,List.length_nil];have LR:=I (LQ.o.push CI.o);go_wp2_with (at_builtin;refine aaH _ rfl _ _ 33 rfl w.heap.size 2 i0 (.int .i64 0) 1 8 underlying33 hi dK ez ek rfl (by decide) _ _ _ rfl (jh.o.row.alloc _) ⟨w1.heap.size,0,none⟩ 1 1 (ak (-1)) rfl rfl (λj u hj=>fS hj) (λu hu=>cf _ hu) ?c3 ?c4 (aS da.o.size) ?_);case c3=>unfold maxLen;omega
    case c4=>omega
    intro v' w9 aG aA aU iH;obtain ⟨g9,gM,rfl,zE,zF⟩:=bG aG (by simpa using aU);have iM:=I ((da.o.alloc da.o.size (.cells #[.int .i64 (-1)] 2)).grown aA (aS da.o.size) (λj hj=>(jh.o.row.lt j hj).1))
    have zG:ag (iX w9 w.heap.size g9 gM (L++[(-1)])):=I (by
     unfold iX;rw[cq,aak];exact aG)
    clear aG aA aU iH;go_wp2;go_roundw;case rel=>exact ⟨k+1,L++[(-1)],g9,gM,by omega,by go_num,by rw[aak];rfl,by rw[aak,xP.o];rfl,zG.o,LR.o,iM.o⟩
    case measure=>simp[intOf];omega
   obtain ⟨q,b,rfl,hE⟩:=hp.some h0;have CI:ag (lL (bA V) rule L.length (b:Int)):=I (by rw[xP.o];exact hE);obtain ⟨A1,c1,rfl,pQ,Zc,iV⟩:=se;obtain ⟨g1,rfl,_,_,mU⟩:=iV (by rw[cQ];simp)
   have x0:=mU.cell q.length (.int .i64 (b:Int)) (by
    rw[je,aaX,cQ,aaN (by rw[cg];exact aad _),cg,abb];rfl)
   have PX:(cW (q++[b])).length=q.length+1:=by rw[cg];simp
   rw[PX]at pQ⊢;rw[aak,List.length_singleton]at sG;clear hp bw D3 hE mU iV h0 PX;generalize q.length=l at*;have gm:((l:Int)+1==0)=false:=by simp;omega
   have LR:=I (LQ.o.push CI.o);go_wp2_with (at_builtin;refine aaH _ rfl _ _ 33 rfl w.heap.size 2 i0 (.int .i64 0) 1 8 underlying33 hi dK ez ek rfl (by decide) _ _ _ rfl (jh.o.row.alloc _) ⟨w1.heap.size,0,none⟩ 1 1 (ak (b:Int)) rfl rfl (λj u hj=>fS hj) (λu hu=>cf _ hu) ?c3 ?c4 (aS da.o.size) ?_);case c3=>unfold maxLen;omega
   case c4=>omega
   intro v' w9 aG aA aU iH;obtain ⟨g9,gM,rfl,zE,zF⟩:=bG aG (by simpa using aU);have iM:=I ((da.o.alloc da.o.size (.cells #[.int .i64 (b:Int)] 2)).grown aA (aS da.o.size) (λj hj=>(jh.o.row.lt j hj).1))
   have zG:ag (iX w9 w.heap.size g9 gM (L++[(b:Int)])):=I (by
    unfold iX;rw[cq,aak];exact aG)
   clear aG aA aU iH;go_wp2;go_roundw;case rel=>exact ⟨k+1,L++[(b:Int)],g9,gM,by omega,by go_num,by rw[aak];rfl,by rw[aak,xP.o];rfl,zG.o,LR.o,iM.o⟩
   case measure=>simp[intOf];omega
  have eA: ¬(k:Int)<(V.length:Int):=by omega
  have xz:k=V.length:=by omega
  have jS:ag (jl V rule=L):=I (BO ⟨by rw[tf];exact xz,LQ.o⟩);have Rp:L.length=V.length:=by omega
  clear ho hle hb tf;go_wp2;go_ret;exact ⟨g,cap,by first|rfl|(rw[Rp];rfl),by rw[jS.o];exact Rp,by rw[jS.o];exact LQ.o,by rw[jS.o];exact HO.o,HB.o⟩
theorem Rq:(prog.info? 3).map (λi=>(i.zero,i.size,i.bytes))=some (some (.int .i64 0),1,8):=by kernel_rfl
theorem D4 (n:Nat):cj (λ_=>0) n=List.replicate n (.int .i64 0):=by
 apply List.ext_getElem?;intro j;by_cases hj:j<n
 ·rw[cD hj,List.getElem?_replicate,aaj hj]
 rw[abL (by rw[fk];omega),abL (by simp;omega)]
theorem tz {P:Program} (w:World) (t e:TypeId) (i:TypeInfo) (ht:P.underlying t=some (.slice e)) (hi:P.info? e=some i) (hz:i.zero=some (.int .i64 0)) (ga:i.size=1) (n:Nat) (hb:i.bytes*n<=281474976710656) (hn:n<=1048576):
 ∃w',(Instr.makeSlice t (.int .i64 (n:Int)) (.int .i64 (n:Int))).run P w= .ok (.slice (some ⟨w.heap.size,0,none⟩) n n) w'/\Row w' w.heap.size (cj (λ_=>0) n)/\w.heap.size<w'.heap.size/\Below w.heap.size w w':=by
 have dF:(i.bytes:Int)*(n:Int)<=281474976710656:=by
  have h:((i.bytes*n:Nat):Int)<=281474976710656:=by omega
  rwa [Int.natCast_mul]at h
 have hr:=run_make (P:=P) w t e i (.int .i64 0) ht hi hz .i64 .i64 n n (by omega) (Int.le_refl _) dF (by omega);simp only[Int.toNat_natCast]at hr;refine ⟨_,hr,?_,by simp,(aae _ _).alloc (aad _) _⟩;have:=Row.new w (madeCells (Value.int .i64 0).cells (n*i.size)) e;rw[ga,abj]at this⊢
 have e2:(madeCells (Value.int .i64 0).cells n).toList=cj (λ_=>0) n:=by
  rw[D4];exact toList_madeCells_one _ n
 rw[e2]at this;exact this
def pk (V:List lW) (c:Nat->Int) (w:World) (e:Ending) (w':World):Prop:=
 ∃g,w.heap.size<=g/\g<w'.heap.size/\e= .returned (.slice (some ⟨g,0,none⟩) V.length V.length)/\Row w' g (cj (bK (bA V) [] c V.length) V.length)/\Below w.heap.size w w'
def sh (g:Gr) (k:Nat):Nat->Int:=λj=>if j<k then kI g [] j else 0
theorem LS {g:Gr} {k:Nat} (h:g.sp k=true):sh g (k+1)=sh g k:=by
 funext j
 unfold sh;by_cases e:j=k
 ·subst e;rw[aaj (by omega),aah (by omega)];unfold kI;rw[h];rfl
 by_cases h2:j<k
 ·rw[aaj (by omega),aaj h2]
 rw[aah (by omega),aah h2]
theorem LU {g:Gr} {k:Nat} (h:g.sp k=false):sh g (k+1)=λj=>if j=k then 1000 else sh g k j:=by
 funext j
 unfold sh;by_cases e:j=k
 ·subst e;rw[aaj (by omega),aaj rfl];unfold kI;rw[h];rfl
 rw[aah e];by_cases h2:j<k
 ·rw[aaj (by omega),aaj h2]
 rw[aah (by omega),aah h2]
theorem D5 {g:Gr} {c C:Nat->Int} {i:Nat} (h:g.sp i=true):dZ g [] c C (i+1)=dZ g [] c C i:=by rw[dZ,BI (DW (Or.inl h))]
theorem GM {g:Gr} {c C:Nat->Int} {i:Nat} (h:g.sp i=false):dZ g [] c C (i+1)=uy g c i (dZ g [] c C i) (g.tr i).length:=by rw[dZ,LM (MK h rfl)]
theorem GN (g:Gr) (n:Nat):cj (sh g n) n=cj (kI g []) n:=GD (λj hj=>by unfold sh;rw[aaj hj])
theorem tA (V:List lW) (c:Nat->Int) (hc:gh c) (Te:FuncId) (eg: ∀args w,(callFunc Te args).run prog w= .ok (.enter Te args) w) (gn: ∀(k:Nat) (W:World),Calls prog Te #[.int .i64 ((k:Int)+1)] W (λe w'=>e= .returned (.int .i64 (c (k+1)))/\w'=W))
 (v:Value) (w:World) (hV:mN w w.heap.size v V) (cy:gF V):Calls prog 170 #[v,.func (.func Te) #[] #[]] w (pk V c w):=by
 obtain ⟨A,c0,rfl,xE,An,cn⟩:=jL hV;have kM:=cy.n1;have fD:=cy.n12;obtain ⟨b,off,rfl,bD,aC⟩:=cn (by omega);have gH:=I aC;have ii:=I cy;have xf:=I hc;have ue:=I gn;have UU:=I (λW (h:Below w.heap.size w W)=>hV.on h h.size);unfold pk;obtain ⟨i0,hi,dK,ez,ek⟩:=aaq Rq;obtain ⟨W,qe,bi,ow,ox⟩:=tz (P:=prog) w 190 3 i0 underlying190 hi dK ez V.length (by rw[ek];omega) (by omega)
 have HR:ag (Row W w.heap.size (cj (sh (bA V) 0) V.length)):=I (by
  have e:sh (bA V) 0=λ_=>0:=by funext j;unfold sh;rw[aah (by omega)]
  rw[e];exact bi)
 clear hV cy cn aC hi dK ez ek bi hc gn;go_enter func170,ntmps170;go_wp2;go_loopw [6,7,17] (λ_ _ i wr=> ∃k:Nat,k<=V.length/\i= .int .i64 (k:Int)/\Row wr w.heap.size (cj (sh (bA V) k) V.length)/\Below w.heap.size w wr/\w.heap.size<wr.heap.size) (λ_ _ i _=>V.length-(intOf i).toNat);case atStart=>exact ⟨0,aaf _,rfl,HR.o,ox,ow⟩
 case round=>
  obtain ⟨k,hk,rfl,bi,hb,iK⟩:=hrel;have mx:=I bi;clear HR bi;by_cases aI:k<V.length
  ·have aH:V[k]?=some V[k]:=aag aI;obtain ⟨A1,c1,d0,d1,_,_⟩:=gH.o k _ aH;have iN:ag ((bA V).sp k=V[k].sp):=I (eX aH).1;have x0:=(hb.cell (p:=⟨b,off+k*2,none⟩) bD).trans d0;have x1:=(hb.cell (p:=⟨b,off+k*2+1,none⟩) bD).trans d1;clear aH d0 d1;generalize V[k]=a at*;go_upto_region 5 with (fail)
   obtain ⟨U,hU⟩: ∃U:World,U=wr.alloc (.cells #[.bool a.sp,.slice A1 a.tr.length c1] 150):=⟨_,rfl⟩
   change Code.wp _ _ _ _ (wr.alloc (.cells #[.bool a.sp,.slice A1 a.tr.length c1] 150));have bU:Below wr.heap.size wr U:=by rw[hU];exact (aae _ _).alloc (aad _) _
   have a2:Row U wr.heap.size [.bool a.sp,.slice A1 a.tr.length c1]:=by rw[hU];exact Row.new wr _ _
   have y0:=a2.cell 0 _ rfl;have y1:=a2.cell 1 _ rfl;have PY:=hb.trans (bU.mono hb.size);have Rr:w.heap.size<U.heap.size:=aar iK bU.size;have D6:=I (mx.o.below bU iK);rw[<-hU];clear hU a2 bU x0 x1;cases hs:a.sp with
   |true=>
    rw[hs]at y0 iN;have HN:ag (Row U w.heap.size (cj (sh (bA V) (k+1)) V.length)):=I (by rw[LS iN.o];exact D6.o);go_wp2;go_roundw;case rel=>exact ⟨k+1,by omega,by go_num,HN.o,PY,Rr⟩
    case measure=>simp[intOf];omega
   |false=>
    rw[hs]at y0 iN;have x4:=D6.o.cell k _ (cD aI);have f4:=D6.o.free k (by rw[fk];exact aI)
    have HN:ag (Row (U.setCell ⟨w.heap.size,k,none⟩ (.int .i64 1000)) w.heap.size (cj (sh (bA V) (k+1)) V.length)):=I (by
     rw[LU iN.o,<-tu];exact D6.o.set k _ (by rw[fk];exact aI))
    have wZ:=PY.setCell (p:=⟨w.heap.size,k,none⟩) (aad _) (.int .i64 1000);have zB:w.heap.size<(U.setCell ⟨w.heap.size,k,none⟩ (.int .i64 1000)).heap.size:=by simpa using Rr
    have Hl:(k:Int)<(V.length:Int):=by omega
    go_wp2;go_roundw;case rel=>exact ⟨k+1,by omega,by go_num,HN.o,wZ,zB⟩
    case measure=>simp[intOf];omega
  have eA: ¬(k:Int)<(V.length:Int):=by omega
  have DX:ag (Row wr w.heap.size (cj (bK (bA V) [] c 0) V.length)):=I (by
   have:k=V.length:=by omega
   rw[this]at mx;have h:=mx.o;rw[GN]at h;exact h)
  clear mx;go_wp2;go_loopw [8,9,10,11,31,35,45] (λ_ _ _ _ r _ _ wr=> ∃q:Nat,q<=V.length/\r= .int .i64 (q:Int)/\Row wr w.heap.size (cj (bK (bA V) [] c q) V.length)/\Below w.heap.size w wr/\w.heap.size<wr.heap.size) (λ_ _ _ _ r _ _ _=>V.length-(intOf r).toNat);case atStart=>exact ⟨0,aaf _,rfl,DX.o,hb,iK⟩
  case round=>
   obtain ⟨q,hq,rfl,bi,hb,iK⟩:=hrel;have LO:=I bi;clear DX bi;by_cases mw:q<V.length
   ·go_wp2;go_loopw [8,9,10,11,35,45] (λ_ _ _ _ i _ wr=> ∃k:Nat,k<=V.length/\i= .int .i64 (k:Int)/\Row wr w.heap.size (cj (dZ (bA V) [] c (bK (bA V) [] c q) k) V.length)/\Below w.heap.size w wr/\w.heap.size<wr.heap.size) (λ_ _ _ _ i _ _=>V.length-(intOf i).toNat);case atStart=>exact ⟨0,aaf _,rfl,LO.o,hb,iK⟩
    case round=>
     obtain ⟨k,hk,rfl,bi,hb,iK⟩:=hrel;have mx:=I bi;clear LO bi;by_cases aI:k<V.length
     ·have aH:V[k]?=some V[k]:=aag aI;obtain ⟨A1,c1,d0,d1,pQ,hI⟩:=gH.o k _ aH;have iN:ag ((bA V).sp k=V[k].sp):=I (eX aH).1;have x0:=(hb.cell (p:=⟨b,off+k*2,none⟩) bD).trans d0;have x1:=(hb.cell (p:=⟨b,off+k*2+1,none⟩) bD).trans d1;have qO:ag (((bA V).tr k).length=V[k].tr.length):=I (by rw[(eX aH).2,aap]);have sI:=I (λ(m:Nat) (z:Int) (hz:V[k].tr[m]?=some z)=>ii.o.ui aH hz);have h4:V[k].tr.length<=4:=fx (ii.o.tr k _ aH);have HI:=I hI;clear aH d0 d1 hI;generalize V[k]=a at*;go_upto_region 13 with (fail)
      obtain ⟨U,hU⟩: ∃U:World,U=wr.alloc (.cells #[.bool a.sp,.slice A1 a.tr.length c1] 150):=⟨_,rfl⟩
      change Code.wp _ _ _ _ (wr.alloc (.cells #[.bool a.sp,.slice A1 a.tr.length c1] 150));have bU:Below wr.heap.size wr U:=by rw[hU];exact (aae _ _).alloc (aad _) _
      have a2:Row U wr.heap.size [.bool a.sp,.slice A1 a.tr.length c1]:=by rw[hU];exact Row.new wr _ _
      have y0:=a2.cell 0 _ rfl;have y1:=a2.cell 1 _ rfl;have PY:=hb.trans (bU.mono hb.size);have Rr:w.heap.size<U.heap.size:=aar iK bU.size;have D6:=I (mx.o.below bU iK);rw[<-hU];clear hU a2 bU x0 x1;cases hs:a.sp with
      |true=>
       rw[hs]at y0 iN;have HN:ag (Row U w.heap.size (cj (dZ (bA V) [] c (bK (bA V) [] c q) (k+1)) V.length)):=I (by rw[D5 iN.o];exact D6.o);go_wp2;go_roundw;case rel=>exact ⟨k+1,by omega,by go_num,HN.o,PY,Rr⟩
       case measure=>simp[intOf];omega
      |false=>
       rw[hs]at y0 iN;have HN:ag (dZ (bA V) [] c (bK (bA V) [] c q) (k+1)=uy (bA V) c k (dZ (bA V) [] c (bK (bA V) [] c q) k) a.tr.length):=I (by rw[GM iN.o,qO.o]);have MM:=I (λ(m j:Nat)=>(pj (B:=[]) ii.o.gr ii.o.n12 xf.o (r:=q) (i:=k) (by omega) hk m j).2);have dy:=I PY;clear hb PY mx;generalize dZ (bA V) [] c (bK (bA V) [] c q) k=C at*;go_wp2;go_loopw [10,11,45] (λ_ _ i wr=> ∃m:Nat,m<=a.tr.length/\i= .int .i64 (m:Int)/\Row wr w.heap.size (cj (uy (bA V) c k C m) V.length)/\Below w.heap.size w wr/\w.heap.size<wr.heap.size) (λ_ _ i _=>a.tr.length-(intOf i).toNat);case atStart=>exact ⟨0,aaf _,rfl,D6.o,dy.o,Rr⟩
       case round=>
        obtain ⟨m,hm,rfl,bi,hb,iK⟩:=hrel;have qk:=I bi;have WM:=I hb;clear D6 dy bi;by_cases nQ:m<a.tr.length
        ·have hz:a.tr[m]?=some a.tr[m]:=aag nQ;obtain ⟨b3,o3,rfl,dB,e0⟩:=cZ HI.o hz;have x2:=(hb.cell (p:=⟨b3,o3+m,none⟩) dB).trans e0;obtain ⟨t1,t2,t3,t4⟩:=sI.o m _ hz;obtain ⟨t,ht⟩: ∃t:Nat,t=a.tr[m].toNat:=⟨_,rfl⟩
         rw[<-ht]at t1 t2 t3 t4;rw[<-t2]at x2;have lE:=I (pg (c:=c) (C:=C) t1);have q1:=MM.o m t;have q2:=MM.o m k;have nj:=xf.o m (by omega);have x3:=qk.o.cell t _ (cD t3);have x4:=qk.o.cell k _ (cD aI);have MU:=I (qk.o.free k (by rw[fk];exact aI));have Hl:(k:Int)<(V.length:Int):=by omega
         have kJ:(t:Int)<(V.length:Int):=by omega
         have CE:=ue.o m;rw[<-(ajY ((m:Int)+1) (by omega):IntKind.i64.wrap ((m:Int)+1)=(m:Int)+1)]at CE;have dl:=I CE;clear ht t1 t2 hz e0 hb CE;generalize uy (bA V) c k C m=D at*;obtain ⟨x,hx⟩: ∃x,x=D t:=⟨_,rfl⟩
         obtain ⟨y,hy⟩: ∃y,y=D k:=⟨_,rfl⟩
         obtain ⟨s,UW⟩: ∃s,s=c (m+1):=⟨_,rfl⟩
         rw[<-hx]at x3 q1;rw[<-hy]at x4 q2;rw[<-UW]at nj dl;have HX:=I hx;have HY:=I hy;have HS:=I UW;clear hx hy UW;go_upto_region 17 with (fail)
         go_still_tail 17,(by kernel_rfl)
         still_call (dl.o _)
         repeat still_step
         refine wpStill_nil ?_;change wpList _ _ _ _ _ wr.drew;have bd:Below wr.heap.size wr wr.drew:=(aae _ _).drew;have gj:=I (qk.o.below bd iK);have dy:=I (WM.o.trans (bd.mono WM.o.size));have JN:=aar iK bd.size;have Zd:=I (gj.o.cell k _ (cD aI));have Ze:=I (gj.o.free k (by rw[fk];exact aI));clear x2 x3 x4 bd;generalize wr.drew=W2 at*;have x4:=Zd.o;have f4:=Ze.o;rw[(ajY (x+s) (by omega):IntKind.i64.wrap (x+s)=x+s)];obtain ⟨z,hz⟩: ∃z,z=min y (x+s):=⟨_,rfl⟩
         rw[<-hz]
         have wq:ag (Row (W2.setCell ⟨w.heap.size,k,none⟩ (.int .i64 z)) w.heap.size (cj (uy (bA V) c k C (m+1)) V.length)):=I (by
          have e:mc D k t s=λj=>if j=k then z else D j:=by
           funext j
           unfold mc;rw[<-HX.o,<-HY.o,<-hz]
          rw[lE.o,<-HS.o,e,<-tu];exact gj.o.set k _ (by rw[fk];exact aI))
         have wZ:=dy.o.setCell (p:=⟨w.heap.size,k,none⟩) (aad _) (.int .i64 z);have zB:w.heap.size<(W2.setCell ⟨w.heap.size,k,none⟩ (.int .i64 z)).heap.size:=by simpa using JN
         clear hz;go_wp2;go_roundw;case rel=>exact ⟨m+1,by omega,by go_num,wq.o,wZ,zB⟩
         case measure=>simp[intOf];omega
        have eA: ¬(m:Int)<(a.tr.length:Int):=by omega
        have wq:ag (Row wr w.heap.size (cj (dZ (bA V) [] c (bK (bA V) [] c q) (k+1)) V.length)):=I (by
         rw[HN.o];have:m=a.tr.length:=by omega
         rw[<-this];exact qk.o)
        go_wp2;go_roundw;case rel=>exact ⟨k+1,by omega,by go_num,wq.o,hb,iK⟩
        case measure=>simp[intOf];omega
     have eA: ¬(k:Int)<(V.length:Int):=by omega
     have HN:ag (Row wr w.heap.size (cj (bK (bA V) [] c (q+1)) V.length)):=I (by
      have:k=V.length:=by omega
      rw[bK];show Row wr w.heap.size (cj (dZ (bA V) [] c (bK (bA V) [] c q) V.length) V.length)
      rw[<-this]at mx⊢;exact mx.o)
     go_wp2;go_roundw;case rel=>exact ⟨q+1,by omega,by go_num,HN.o,hb,iK⟩
     case measure=>simp[intOf];omega
   have eA: ¬(q:Int)<(V.length:Int):=by omega
   have HN:ag (Row wr w.heap.size (cj (bK (bA V) [] c V.length) V.length)):=I (by
    have:q=V.length:=by omega
    rw[<-this]at LO⊢;exact LO.o)
   go_wp2;go_ret;exact ⟨w.heap.size,aad _,iK,rfl,HN.o,hb⟩
theorem pZ (z:Int) (W:World):Calls prog 168 #[.int .i64 z] W (λe w'=>e= .returned (.int .i64 1)/\w'=W):=by
 go_enter func168,ntmps168;go_wp2;go_ret;exact ⟨rfl,rfl⟩
theorem tB (z:Int) (W:World):Calls prog 169 #[.int .i64 z] W (λe w'=>e= .returned (.int .i64 z)/\w'=W):=by
 go_enter func169,ntmps169;go_wp2;go_ret;exact ⟨rfl,rfl⟩
theorem uO {P:Program} {f:FuncId} {args:Array Value} {W:World} {v:Value} (h:Calls P f args W (λe w'=>e= .returned v/\w'=W)):Calls P f args W (f' v W):=
 h.mono λ_ _ ⟨he,hw⟩=>⟨he,0,hw⟩
theorem yI: ∀args w,(callFunc 168 args).run prog w= .ok (.enter 168 args) w:=enters_of func168 (by kernel_rfl) rfl
theorem GO: ∀args w,(callFunc 169 args).run prog w= .ok (.enter 169 args) w:=enters_of func169 (by kernel_rfl) rfl
theorem MV (k:Nat):aF 1 (k+1)=(k:Int)+1:=by unfold aF;simp
theorem zL {rule:Int} (h:rule≠1) (k:Nat):aF rule (k+1)=1:=by unfold aF;rw[aah h]
theorem qu (zs:List Int) (x:Int) (w:World) (v:Value) (r:Bool) (h:Ints w w.heap.size v zs) (hr:zs.contains x=r):Calls prog 103 #[v,.int .i64 x] w (f' (.bool r) w):=hr▸kL zs x w v h
def D7 (W w':World):Prop:=Below W.heap.size W w'
theorem D7.go {W a b:World} (h2:Below a.heap.size a b) (h1:D7 W a):D7 W b:=Below.trans h1 (aaV h2 (Below.size h1))
theorem D7.draw {W a:World} (h1:D7 W a):D7 W a.drew:=Below.drew h1
def jn (V:List lW) (rule:Int) (m:Nat) (w:World) (e:Ending) (w':World):Prop:=
 (e= .returned (.slice none 0 0)/\mg (bA V) rule m []/\Below w.heap.size w w')\/
 ∃p g c,e= .returned (.slice (some ⟨g,0,none⟩) p.length c)/\mg (bA V) rule m p/\p≠[]/\ay ak (cW p) w.heap.size w' (.slice (some ⟨g,0,none⟩) p.length c)/\Below w.heap.size w w'
theorem D8 (V:List lW) (m:Nat) (v:Value) (w:World) (hV:mN w w.heap.size v V) (cy:gF V) (hm:m<V.length):
 Calls prog 115 #[v,.int .i64 2,.int .i64 (m:Int)] w (jn V 2 m w):=by
 have JY:=I (lg V [] m v (.slice none 0 0) w hV cy hm (by simp) (Or.inl ⟨rfl,rfl⟩));have UX:=I (λ(p:List Nat) (t g2 cap:Nat) (W:World) (hb:Below w.heap.size w W) (ht:t<V.length) (hp:Ints W W.heap.size (.slice (some ⟨g2,0,none⟩) p.length cap) (cW p)) (sG:p.length<=600)=>lg V p t v (.slice (some ⟨g2,0,none⟩) p.length cap) W (hV.on hb hb.size) cy ht sG (Or.inr ⟨⟨g2,0,none⟩,cap,by rw[cg],hp⟩));have JZ:=I (λ(W:World) (hb:Below w.heap.size w W)=>tA V (aF 2) (ca 2) 168 yI (λk W=>by rw[zL (rule:=2) (by decide) k];exact pZ ((k:Int)+1) W) v W (hV.on hb hb.size) cy);obtain ⟨A,c0,rfl,xE,An,cn⟩:=jL hV;have kM:=cy.n1;have fD:=cy.n12;obtain ⟨b,off,rfl,bD,aC⟩:=cn (by omega);have gH:=I aC;have ii:=I cy;obtain ⟨i0,hi,dK,ez,ek⟩:=aaq iD;have xO:ag (∀hr,eK (bA V) 2 m [m] m):=I (λhr=>eK.init cy.gr (show (bA V).n<=12 from fD) hm hr);have KS:=I (λp a (h:eK (bA V) 2 m p a)=>h.len cy.gr (show (bA V).n<=12 from fD) hm);have sJ:ag (∀j,0<=bK (bA V) [] (aF 2) V.length j/\bK (bA V) [] (aF 2) V.length j<=1000):=I (λj=>⟨(fw.run (B:=[]) cy.gr (ca 2) V.length).pos j,(fw.run (B:=[]) cy.gr (ca 2) V.length).MH j⟩);unfold mQ at JY;unfold pk at JZ;unfold jn;clear hV cy cn aC;go_enter func115,ntmps115;go_wp2_with (fail);refine JY.o.mono ?_;rintro e w1 ⟨A1,n1,c1,rfl,Rs,BV,bw⟩;have MW:=I BV;clear BV JY;by_cases h0:n1=0
 ·subst h0;have JP:ag (mg (bA V) 2 m []):=I (Or.inl ⟨rfl,λh=>by have:=MW.o.2 h;omega⟩);go_wp2;go_ret;exact .inl ⟨rfl,JP.o,bw⟩
 have gm:((n1:Int)==0)=false:=by simp;omega
 have qk:ag (Reach (bA V) [] m):=I (MW.o.1 (by omega));have JQ:=I (xO.o qk.o);have da:=I bw;have BW:=I (JZ.o w1 bw);clear bw JZ;go_wp2_with (fail);refine BW.o.mono ?_;rintro e w2 ⟨g,KT,fG,rfl,bi,cL⟩;have dy:=I (da.o.trans (cL.mono da.o.size));have JR:=I ((dN.one w2 m).less dy.o.size);have dI:=I (dy.o.alloc dy.o.size (.cells #[.int .i64 (m:Int)] 2));have sd:=I (bi.below ((aae w2.heap.size w2).alloc (aad _) (.cells #[.int .i64 (m:Int)] 2)) fG);have iV:g≠w2.heap.size:=by omega
 have j5:g<(w2.alloc (.cells #[.int .i64 (m:Int)] 2)).heap.size:=by simp;omega
 clear bi cL BW;go_wp2;go_loopw [9,10,11,12,43] (λvp _ _ _ _ wr=> ∃(p:List Nat) (a g2 cap:Nat),vp= .slice (some ⟨g2,0,none⟩) p.length cap/\dN wr w.heap.size g2 cap p/\eK (bA V) 2 m p a/\Row wr g (cj (bK (bA V) [] (aF 2) V.length) V.length)/\g≠g2/\g<wr.heap.size/\Below w.heap.size w wr) (λvp _ _ _ _ _=>600-mG vp);case atStart=>exact ⟨[m],m,w2.heap.size,1,rfl,JR.o,JQ.o,sd.o,iV,j5,dI.o⟩
 case round=>
  obtain ⟨p,a,g2,cap,rfl,se,qt,bi,jP,fG,hb⟩:=hrel;have dz:=I se;have uB:=I qt;have fv:=I bi;have HB:=I hb;have halt:a<V.length:=qt.MJ;have sG:=KS.o p a qt;obtain ⟨q,hq⟩:=qt.last;have mw:p.length=q.length+1:=by rw[hq];simp
  have z0: ∀y:ar wr,y.val.cell? ⟨g2,q.length,none⟩=some (.int .i64 (a:Int)):=λy=>y.cell ((cZ se.ints (k:=q.length) (z:=(a:Int)) (by
   rw[hq,cQ,aaN (by rw[cg];exact aad _),cg,abb]
   rfl)).elim (λb0 h=>by
    obtain ⟨o0,e0,_,h0⟩:=h;injection e0 with e0
    injection e0 with e1 e2
    rw[<-e1,<-e2,aan]at h0;exact h0))
  have aH:V[a]?=some V[a]:=aag halt;obtain ⟨A1,c1,d0,d1,pQ,hI⟩:=gH.o a _ aH;have x0:=λy:ar wr=>y.cell ((hb.cell (p:=⟨b,off+a*2,none⟩) bD).trans d0);have x1:=λy:ar wr=>y.cell ((hb.cell (p:=⟨b,off+a*2+1,none⟩) bD).trans d1);have iN:ag ((bA V).sp a=V[a].sp):=I (eX aH).1;have qO:ag (((bA V).tr a).length=V[a].tr.length):=I (by rw[(eX aH).2,aap]);have sI:=I (λ(m:Nat) (z:Int) (hz:V[a].tr[m]?=some z)=>ii.o.ui aH hz);have h4:V[a].tr.length<=4:=fx (ii.o.tr a _ aH);have HI:=I hI;have Rk:(a:Int)<(V.length:Int):=by omega
  obtain ⟨u0,qo⟩: ∃y:ar wr,y.val=wr:=⟨⟨wr,aae _ _⟩,rfl⟩
  rw[<-qo,mw];have E9:=I qo;have MX:=I mw;have Rt:q.length+1<=577:=by omega
  clear qo aH hI d0 d1 se qt bi hb hq mw;have mw:=MX.o;generalize q.length=l at*;generalize V[a]=va at*;cases hs:va.sp with
  |true=>
   rw[hs]at x0 iN;have JS:=I (uB.o.GG qk.o iN.o);have kX:=I (dz.o.own);have D9:ag (p≠[]):=I (λe=>by rw[e]at mw;simp at mw);clear mw;go_wp2;go_ret;exact .inr ⟨p,g2,cap,by rw[MX.o];rfl,JS.o,D9.o,by rw[E9.o];exact kX.o,by rw[E9.o];exact HB.o⟩
  |false=>
   rw[hs]at x0 iN;have iG:=I (uB.o.next ii.o.gr iN.o);have jW:=I mw;clear mw;go_wp2;go_loopw [9,11,12,43] (λvp _ _ i JT=> ∃(k:Nat) (u:ar wr),k<=va.tr.length/\i= .int .i64 (k:Int)/\vp= .slice (some ⟨g2,0,none⟩) (l+1) cap/\JT=u.val/\ ∀k',k'<k-> ∀t',((bA V).tr a)[k']?=some t'->(λ(_ t':Nat)=> ¬Reach (bA V) p t') k' t') (λ_ _ _ i _=>va.tr.length-(intOf i).toNat);case atStart=>exact ⟨0,u0,aaf _,rfl,rfl,rfl,λk' di=>absurd di (aa' _)⟩
   case round=>
    obtain ⟨k,u1,hk,rfl,rfl,rfl,rf⟩:=hrel;have hY:=I rf;clear rf;by_cases qg:k<va.tr.length
    ·have hz:va.tr[k]?=some va.tr[k]:=aag qg;obtain ⟨b3,o3,rfl,dB,e0⟩:=cZ HI.o hz;have x2:=λy:ar wr=>y.cell ((HB.o.cell (p:=⟨b3,o3+k,none⟩) dB).trans e0);obtain ⟨t1,t2,t3,t4⟩:=sI.o k _ hz;obtain ⟨t,ht⟩: ∃t:Nat,t=va.tr[k].toNat:=⟨_,rfl⟩
     rw[<-ht]at t1 t2 t3 t4;rw[<-t2]at x2;have lQ:=I t1;have kJ:(t:Int)<(V.length:Int):=by omega
     clear ht t1 t2 hz e0;have mw:=jW.o;have QB:=I (λy:ar wr=>(dz.o.below y.ok).ints);rw[mw]at QB;by_cases iq:t∈p
     ·have EM:(cW p).contains (t:Int)=true:=mf.trans (abe.2 iq)
      have wq:ag (∀k',k'<k+1-> ∀t',((bA V).tr a)[k']?=some t'->(λ_ t'=> ¬Reach (bA V) p t') k' t'):=I (λk' di t' kv=>by
       by_cases e:k'=k
       ·subst e;rw[lQ.o]at kv;injection kv with kv
        subst kv;exact λh=>h.free iq
       exact hY.o k' (by omega) t' kv)
      have UY:=I EM;clear iq EM hY;go_wp2_with (fail);refine ap (by kernel_rfl) (by kernel_rfl) ?_
      repeat (go_big_quiet_step ((first|(go_at_call 103;exact az (qu _ _ _ _ _ (QB.o _) UY.o)))))
      refine aai ?_;rintro _ ⟨u,rfl⟩;go_wp2;go_roundw;case rel=>exact ⟨k+1,u,by omega,by go_num,rfl,rfl,wq.o⟩
      case measure=>simp[intOf];omega
     have EM:(cW p).contains (t:Int)=false:=by
      rw[mf];simpa using iq
     have UY:=I EM;have dl:=I (λ(W:World) (h:D7 wr W)=>Nt (qu _ (t:Int) W _ _ (dz.o.below h).ints UY.o));rw[mw]at dl;have CI:=I (λ(W:World) (h:D7 wr W)=>UX.o p t g2 cap W (HB.o.trans (aaV h HB.o.size)) t3 (dz.o.below h).ints (by omega));rw[mw]at CI;unfold mQ at CI;have jo:D7 wr u1.val:=u1.ok;clear iq EM;go_upto_region 13 with (fail)
     obtain ⟨w1,CQ⟩: ∃w1,w1=u1.val:=⟨_,rfl⟩
     rw[<-CQ]at jo⊢;clear CQ x0 x1 x2 z0;by_cases hr:Reach (bA V) p t
     ·have MT:ag (nW (bA V) 2 p a t):=I (wv lQ.o hr hY.o);have OD:=I hr;clear hr hY;refine abM (S:=λw'=>D7 wr w') (by kernel_rfl) jo.draw (λaE=>?_);refine aZ 0 ?_;simp only[Act.put,aK,aM];refine aZ 1 ?_;simp only[Act.put,aK,aM];refine aZ 2 ?_;simp only[Act.put,aK,aM];refine aZ 3 ?_;simp only[Act.put,aK,aM];refine aZ 4 ?_;simp only[Act.put,aK,aM];refine aav (rs:=[5]) (by kernel_rfl) (by simp) ?_;refine aat rfl (λK hK=>?_) aaw;simp only[aK];go_simp;go_at_call 103;refine aaM (dl.o _ aE) ?_;rintro e w3 ⟨rfl,dB⟩;skip;refine hK.out _ _ (D7.go dB aE) (λau=>?_);clear hK K aE;have aE:=au;clear au
      try simp only[Act.put,aM]
      refine aZ 6 ?_;simp only[Act.put,aK,aM];refine aZ 7 ?_;simp only[Act.put,aK,aM];refine aZ 8 ?_;simp only[Act.put,aK,aM];refine aZ 9 ?_;simp only[Act.put,aK,aM];refine aZ 10 ?_;simp only[Act.put,aK,aM];refine aZ 11 ?_;simp only[Act.put,aK,aM];refine aav (rs:=[12]) (by kernel_rfl) (by simp) ?_;refine aat rfl (λK hK=>?_) aaw;simp only[aK];go_simp;go_at_call 167;refine aaM (CI.o _ aE) ?_;rintro e w4 ⟨A5,n5,c5,rfl,Zf,Ru,l8⟩;obtain ⟨n6,rfl⟩: ∃n6,n5=n6+1:=⟨n5-1,by have:=Ru.2 OD.o;omega⟩
      refine hK.out _ _ (D7.go l8 aE) (λau=>?_);clear hK K aE;have aE:=au;clear au
      try simp only[Act.put,aM]
      refine aZ 13 ?_;simp only[Act.put,aK,aM];refine aZ 14 ?_;simp only[Act.put,aK,aM];refine aZ 15 ?_;simp only[Act.put,aK,aM];refine aZ 16 ?_;simp only[Act.put,aK,aM];refine fh 17 ?_;simp only[Act.put,aK,aM];refine fh 18 ?_;simp only[Act.put,aK,aM];refine fh 19 ?_;simp only[Act.put,aK,aM];refine fh 20 ?_;simp only[Act.put,aK,aM];refine fh 21 ?_;simp only[Act.put,aK,aM];refine fh 22 ?_;simp only[Act.put,aK,aM];refine fh 23 ?_;simp only[Act.put,aK,aM];refine fh 24 ?_;simp only[Act.put,aK,aM];refine fh 25 ?_;simp only[Act.put,aK,aM];refine fh 26 ?_;simp only[Act.put,aK,aM];refine fh 27 ?_;simp only[Act.put,aK,aM];refine fh 28 ?_;simp only[Act.put,aK,aM];refine fh 29 ?_;simp only[Act.put,aK,aM];refine fh 30 ?_;simp only[Act.put,aK,aM];refine fh 31 ?_;simp only[Act.put,aK,aM];refine fh 32 ?_;simp only[Act.put,aK,aM];refine fh 33 ?_;simp only[Act.put,aK,aM];refine fh 34 ?_;simp only[Act.put,aK,aM];refine aZ 35 ?_;simp only[Act.put,aK,aM];refine abz (by kernel_rfl) ?_ _;have ub:Below wr.heap.size wr w4:=aE;clear Ru aE jo l8 dB;have JU:=I (uB.o.more ii.o.gr iN.o MT.o);have kX:=I (dz.o.below ub).row;rw[jW.o]at kX;have mz:=I (HB.o.trans (ub.mono HB.o.size));have sf:=I (fv.o.below ub fG);have sg:=aar fG ub.size;go_wp2_with (at_builtin;refine aaH _ rfl _ _ 33 rfl w.heap.size 2 i0 (.int .i64 0) 1 8 underlying33 hi dK ez ek rfl (by decide) _ _ _ rfl (kX.o.alloc _) ⟨w4.heap.size,0,none⟩ 1 1 (ak (t:Int)) rfl rfl (λj u hj=>fS hj) (λu hu=>cf _ hu) ?c3 ?c4 (aS mz.o.size) ?_);case c3=>unfold maxLen;omega
      case c4=>omega
      intro v' w9 aG aA aU iH;obtain ⟨g9,gM,rfl,zE,zF⟩:=bG aG (by simpa using aU);have iM:=I ((mz.o.alloc mz.o.size (.cells #[.int .i64 (t:Int)] 2)).grown aA (aS mz.o.size) (λj hj=>(kX.o.lt j hj).1))
      have zG:ag (dN w9 w.heap.size g9 gM (p++[t])):=I (by
       unfold dN;rw[cQ,cq,aak,jW.o];exact aG)
      have zH:=I ((sf.o.below ((aae w4.heap.size w4).alloc (aad _) (.cells #[.int .i64 (t:Int)] 2)) sg).aD (F:=λc=>c=g2) (by simpa using ab3 sg) (Touch.aW aA (λc hc=>by injection hc with hc;exact hc.symm)) jP)
      have zI:g≠g9:=by
       rcases iH with h|h<;>injection h with h
       ·exact λe=>jP (e.trans h)
       simp at h;omega
      have zJ:g<w9.heap.size:=by have:=aA.size;simp at this;omega
      clear aG aA aU iH;go_wp2;go_roundw;case rel=>exact ⟨p++[t],t,g9,gM,by rw[aak,jW.o];rfl,zG.o,JU.o,zH.o,zI,zJ,iM.o⟩
      case measure=>simp[mG];omega
     have OD:=I hr
     have wq:ag (∀k',k'<k+1-> ∀t',((bA V).tr a)[k']?=some t'->(λ_ t'=> ¬Reach (bA V) p t') k' t'):=I (λk' di t' kv=>by
      by_cases e:k'=k
      ·subst e;rw[lQ.o]at kv;injection kv with kv
       subst kv;exact hr
      exact hY.o k' (by omega) t' kv)
     clear hr hY;refine abM (S:=λw'=>D7 wr w') (by kernel_rfl) jo.draw (λaE=>?_);refine aZ 0 ?_;simp only[Act.put,aK,aM];refine aZ 1 ?_;simp only[Act.put,aK,aM];refine aZ 2 ?_;simp only[Act.put,aK,aM];refine aZ 3 ?_;simp only[Act.put,aK,aM];refine aZ 4 ?_;simp only[Act.put,aK,aM];refine aav (rs:=[5]) (by kernel_rfl) (by simp) ?_;refine aat rfl (λK hK=>?_) aaw;simp only[aK];go_simp;go_at_call 103;refine aaM (dl.o _ aE) ?_;rintro e w3 ⟨rfl,dB⟩;skip;refine hK.out _ _ (D7.go dB aE) (λau=>?_);clear hK K aE;have aE:=au;clear au
     try simp only[Act.put,aM]
     refine aZ 6 ?_;simp only[Act.put,aK,aM];refine aZ 7 ?_;simp only[Act.put,aK,aM];refine aZ 8 ?_;simp only[Act.put,aK,aM];refine aZ 9 ?_;simp only[Act.put,aK,aM];refine aZ 10 ?_;simp only[Act.put,aK,aM];refine aZ 11 ?_;simp only[Act.put,aK,aM];refine aav (rs:=[12]) (by kernel_rfl) (by simp) ?_;refine aat rfl (λK hK=>?_) aaw;simp only[aK];go_simp;go_at_call 167;refine aaM (CI.o _ aE) ?_;rintro e w4 ⟨A5,n5,c5,rfl,Zf,Ru,l8⟩;obtain rfl:n5=0:=Nat.le_zero.1 (Nat.le_of_not_lt (λh=>OD.o (Ru.1 h)));refine hK.out _ _ (D7.go l8 aE) (λau=>?_);clear hK K aE;have aE:=au;clear au
     try simp only[Act.put,aM]
     refine aZ 13 ?_;simp only[Act.put,aK,aM];refine aZ 14 ?_;simp only[Act.put,aK,aM];refine aZ 15 ?_;simp only[Act.put,aK,aM];refine aZ 16 ?_;simp only[Act.put,aK,aM];refine aZ 17 ?_;simp only[Act.put,aK,aM];refine aZ 18 ?_;simp only[Act.put,aK,aM];refine aZ 19 ?_;simp only[Act.put,aK,aM];refine fh 20 ?_;simp only[Act.put,aK,aM];refine fh 21 ?_;simp only[Act.put,aK,aM];refine fh 22 ?_;simp only[Act.put,aK,aM];refine fh 23 ?_;simp only[Act.put,aK,aM];refine fh 24 ?_;simp only[Act.put,aK,aM];refine fh 25 ?_;simp only[Act.put,aK,aM];refine fh 26 ?_;simp only[Act.put,aK,aM];refine fh 27 ?_;simp only[Act.put,aK,aM];refine fh 28 ?_;simp only[Act.put,aK,aM];refine fh 29 ?_;simp only[Act.put,aK,aM];refine fh 30 ?_;simp only[Act.put,aK,aM];refine fh 31 ?_;simp only[Act.put,aK,aM];refine fh 32 ?_;simp only[Act.put,aK,aM];refine fh 33 ?_;simp only[Act.put,aK,aM];refine aZ 34 ?_;simp only[Act.put,aK,aM];refine aZ 35 ?_;simp only[Act.put,aK,aM];refine abz (by kernel_rfl) ?_ _;obtain ⟨u4,WN⟩: ∃y:ar wr,y.val=w4:=⟨⟨w4,aE⟩,rfl⟩
     rw[<-WN];clear Ru aE jo l8 dB WN;go_wp2;go_roundw;case rel=>exact ⟨k+1,u4,by omega,by go_num,rfl,rfl,wq.o⟩
     case measure=>simp[intOf];omega
    exfalso
    obtain ⟨t,kk,h1,h2,_⟩:=iG.o;simp only[if_true]at h2;have:=(aal.1 h1).1;rw[qO.o]at this;exact hY.o kk (by omega) t h1 h2
theorem D' (V:List lW) (m:Nat) (v:Value) (w:World) (hV:mN w w.heap.size v V) (cy:gF V) (hm:m<V.length):
 Calls prog 115 #[v,.int .i64 1,.int .i64 (m:Int)] w (jn V 1 m w):=by
 have JY:=I (lg V [] m v (.slice none 0 0) w hV cy hm (by simp) (Or.inl ⟨rfl,rfl⟩));have UX:=I (λ(p:List Nat) (t g2 cap:Nat) (W:World) (hb:Below w.heap.size w W) (ht:t<V.length) (hp:Ints W W.heap.size (.slice (some ⟨g2,0,none⟩) p.length cap) (cW p)) (sG:p.length<=600)=>lg V p t v (.slice (some ⟨g2,0,none⟩) p.length cap) W (hV.on hb hb.size) cy ht sG (Or.inr ⟨⟨g2,0,none⟩,cap,by rw[cg],hp⟩));have JZ:=I (λ(W:World) (hb:Below w.heap.size w W)=>tA V (aF 1) (ca 1) 169 GO (λk W=>by rw[MV k];exact tB ((k:Int)+1) W) v W (hV.on hb hb.size) cy);obtain ⟨A,c0,rfl,xE,An,cn⟩:=jL hV;have kM:=cy.n1;have fD:=cy.n12;obtain ⟨b,off,rfl,bD,aC⟩:=cn (by omega);have gH:=I aC;have ii:=I cy;obtain ⟨i0,hi,dK,ez,ek⟩:=aaq iD;have xO:ag (∀hr,eK (bA V) 1 m [m] m):=I (λhr=>eK.init cy.gr (show (bA V).n<=12 from fD) hm hr);have KS:=I (λp a (h:eK (bA V) 1 m p a)=>h.len cy.gr (show (bA V).n<=12 from fD) hm);have sJ:ag (∀j,0<=bK (bA V) [] (aF 1) V.length j/\bK (bA V) [] (aF 1) V.length j<=1000):=I (λj=>⟨(fw.run (B:=[]) cy.gr (ca 1) V.length).pos j,(fw.run (B:=[]) cy.gr (ca 1) V.length).MH j⟩);unfold mQ at JY;unfold pk at JZ;unfold jn;clear hV cy cn aC;go_enter func115,ntmps115;go_wp2_with (fail);refine JY.o.mono ?_;rintro e w1 ⟨A1,n1,c1,rfl,Rs,BV,bw⟩;have MW:=I BV;clear BV JY;by_cases h0:n1=0
 ·subst h0;have JP:ag (mg (bA V) 1 m []):=I (Or.inl ⟨rfl,λh=>by have:=MW.o.2 h;omega⟩);go_wp2;go_ret;exact .inl ⟨rfl,JP.o,bw⟩
 have gm:((n1:Int)==0)=false:=by simp;omega
 have qk:ag (Reach (bA V) [] m):=I (MW.o.1 (by omega));have JQ:=I (xO.o qk.o);have da:=I bw;have BW:=I (JZ.o w1 bw);clear bw JZ;go_wp2_with (fail);refine BW.o.mono ?_;rintro e w2 ⟨g,KT,fG,rfl,bi,cL⟩;have dy:=I (da.o.trans (cL.mono da.o.size));have JR:=I ((dN.one w2 m).less dy.o.size);have dI:=I (dy.o.alloc dy.o.size (.cells #[.int .i64 (m:Int)] 2));have sd:=I (bi.below ((aae w2.heap.size w2).alloc (aad _) (.cells #[.int .i64 (m:Int)] 2)) fG);have iV:g≠w2.heap.size:=by omega
 have j5:g<(w2.alloc (.cells #[.int .i64 (m:Int)] 2)).heap.size:=by simp;omega
 clear bi cL BW;go_wp2;go_loopw [9,10,11,12,43] (λvp _ _ _ _ wr=> ∃(p:List Nat) (a g2 cap:Nat),vp= .slice (some ⟨g2,0,none⟩) p.length cap/\dN wr w.heap.size g2 cap p/\eK (bA V) 1 m p a/\Row wr g (cj (bK (bA V) [] (aF 1) V.length) V.length)/\g≠g2/\g<wr.heap.size/\Below w.heap.size w wr) (λvp _ _ _ _ _=>600-mG vp);case atStart=>exact ⟨[m],m,w2.heap.size,1,rfl,JR.o,JQ.o,sd.o,iV,j5,dI.o⟩
 case round=>
  obtain ⟨p,a,g2,cap,rfl,se,qt,bi,jP,fG,hb⟩:=hrel;have dz:=I se;have uB:=I qt;have fv:=I bi;have HB:=I hb;have halt:a<V.length:=qt.MJ;have sG:=KS.o p a qt;obtain ⟨q,hq⟩:=qt.last;have mw:p.length=q.length+1:=by rw[hq];simp
  have z0: ∀y:ar wr,y.val.cell? ⟨g2,q.length,none⟩=some (.int .i64 (a:Int)):=λy=>y.cell ((cZ se.ints (k:=q.length) (z:=(a:Int)) (by
   rw[hq,cQ,aaN (by rw[cg];exact aad _),cg,abb]
   rfl)).elim (λb0 h=>by
    obtain ⟨o0,e0,_,h0⟩:=h;injection e0 with e0
    injection e0 with e1 e2
    rw[<-e1,<-e2,aan]at h0;exact h0))
  have aH:V[a]?=some V[a]:=aag halt;obtain ⟨A1,c1,d0,d1,pQ,hI⟩:=gH.o a _ aH;have x0:=λy:ar wr=>y.cell ((hb.cell (p:=⟨b,off+a*2,none⟩) bD).trans d0);have x1:=λy:ar wr=>y.cell ((hb.cell (p:=⟨b,off+a*2+1,none⟩) bD).trans d1);have iN:ag ((bA V).sp a=V[a].sp):=I (eX aH).1;have qO:ag (((bA V).tr a).length=V[a].tr.length):=I (by rw[(eX aH).2,aap]);have sI:=I (λ(m:Nat) (z:Int) (hz:V[a].tr[m]?=some z)=>ii.o.ui aH hz);have h4:V[a].tr.length<=4:=fx (ii.o.tr a _ aH);have HI:=I hI;have Rk:(a:Int)<(V.length:Int):=by omega
  obtain ⟨u0,qo⟩: ∃y:ar wr,y.val=wr:=⟨⟨wr,aae _ _⟩,rfl⟩
  rw[<-qo,mw];have E9:=I qo;have MX:=I mw;have Rt:q.length+1<=577:=by omega
  clear qo aH hI d0 d1 se qt bi hb hq mw;have mw:=MX.o;generalize q.length=l at*;generalize V[a]=va at*;cases hs:va.sp with
  |true=>
   rw[hs]at x0 iN;have JS:=I (uB.o.GG qk.o iN.o);have kX:=I (dz.o.own);have D9:ag (p≠[]):=I (λe=>by rw[e]at mw;simp at mw);clear mw;go_wp2;go_ret;exact .inr ⟨p,g2,cap,by rw[MX.o];rfl,JS.o,D9.o,by rw[E9.o];exact kX.o,by rw[E9.o];exact HB.o⟩
  |false=>
   rw[hs]at x0 iN;have iG:=I (uB.o.next ii.o.gr iN.o);have jW:=I mw;clear mw;go_wp2;go_loopw [9,11,12,43] (λvp _ _ i JT=> ∃(k:Nat) (u:ar wr),k<=va.tr.length/\i= .int .i64 (k:Int)/\vp= .slice (some ⟨g2,0,none⟩) (l+1) cap/\JT=u.val/\ ∀k',k'<k-> ∀t',((bA V).tr a)[k']?=some t'->(λ(k' t':Nat)=> ¬(bK (bA V) [] (aF 1) (bA V).n t'+aF 1 (k'+1)=bK (bA V) [] (aF 1) (bA V).n a)) k' t') (λ_ _ _ i _=>va.tr.length-(intOf i).toNat);case atStart=>exact ⟨0,u0,aaf _,rfl,rfl,rfl,λk' di=>absurd di (aa' _)⟩
   case round=>
    obtain ⟨k,u1,hk,rfl,rfl,rfl,rf⟩:=hrel;have hY:=I rf;clear rf;by_cases qg:k<va.tr.length
    ·have hz:va.tr[k]?=some va.tr[k]:=aag qg;obtain ⟨b3,o3,rfl,dB,e0⟩:=cZ HI.o hz;have x2:=λy:ar wr=>y.cell ((HB.o.cell (p:=⟨b3,o3+k,none⟩) dB).trans e0);obtain ⟨t1,t2,t3,t4⟩:=sI.o k _ hz;obtain ⟨t,ht⟩: ∃t:Nat,t=va.tr[k].toNat:=⟨_,rfl⟩
     rw[<-ht]at t1 t2 t3 t4;rw[<-t2]at x2;have lQ:=I t1;have kJ:(t:Int)<(V.length:Int):=by omega
     clear ht t1 t2 hz e0;have mw:=jW.o;have x3:=λy:ar wr=>y.cell (fv.o.cell t _ (cD t3));have x4:=λy:ar wr=>y.cell (fv.o.cell a _ (cD halt));have q1:=sJ.o t;have q2:=sJ.o a;have CQ:IntKind.i64.wrap ((k:Int)+1)=(k:Int)+1:=ajY _ (by omega);obtain ⟨x,hx⟩: ∃x,x=bK (bA V) [] (aF 1) V.length t:=⟨_,rfl⟩
     obtain ⟨y,hy⟩: ∃y,y=bK (bA V) [] (aF 1) V.length a:=⟨_,rfl⟩
     rw[<-hx]at x3 q1;rw[<-hy]at x4 q2
     have js:ag (bK (bA V) [] (aF 1) (bA V).n t+aF 1 (k+1)=bK (bA V) [] (aF 1) (bA V).n a↔x+((k:Int)+1)=y):=I (by
      rw[MV k,hx,hy];exact aa6)
     clear hx hy;by_cases hf:x+((k:Int)+1)=y
     ·have MT:ag (nW (bA V) 1 p a t):=I (nK (by decide) lQ.o (js.o.2 hf) hY.o);have hd:(x+((k:Int)+1)==y)=true:=by simp[hf]
      clear hf hY;go_wp2_with (fail);refine ap (by kernel_rfl) (by kernel_rfl) ?_
      repeat (go_big_quiet_step ((first|(go_at_call 169;exact az (uO (tB _ _))))))
      refine aai ?_;rintro _ ⟨u,rfl⟩;have JU:=I (uB.o.more ii.o.gr iN.o MT.o);have kX:=I (dz.o.below u.ok).row;rw[jW.o]at kX;have mz:=I (HB.o.trans (u.ok.mono HB.o.size));have sf:=I (fv.o.below u.ok fG);have sg:=aar fG u.ok.size;go_wp2_with (at_builtin;refine aaH _ rfl _ _ 33 rfl w.heap.size 2 i0 (.int .i64 0) 1 8 underlying33 hi dK ez ek rfl (by decide) _ _ _ rfl (kX.o.alloc _) ⟨u.val.heap.size,0,none⟩ 1 1 (ak (t:Int)) rfl rfl (λj u hj=>fS hj) (λu hu=>cf _ hu) ?c3 ?c4 (aS mz.o.size) ?_);case c3=>unfold maxLen;omega
      case c4=>omega
      intro v' w9 aG aA aU iH;obtain ⟨g9,gM,rfl,zE,zF⟩:=bG aG (by simpa using aU);have iM:=I ((mz.o.alloc mz.o.size (.cells #[.int .i64 (t:Int)] 2)).grown aA (aS mz.o.size) (λj hj=>(kX.o.lt j hj).1))
      have zG:ag (dN w9 w.heap.size g9 gM (p++[t])):=I (by
       unfold dN;rw[cQ,cq,aak,jW.o];exact aG)
      have zH:=I ((sf.o.below ((aae u.val.heap.size u.val).alloc (aad _) (.cells #[.int .i64 (t:Int)] 2)) sg).aD (F:=λc=>c=g2) (by simpa using ab3 sg) (Touch.aW aA (λc hc=>by injection hc with hc;exact hc.symm)) jP)
      have zI:g≠g9:=by
       rcases iH with h|h<;>injection h with h
       ·exact λe=>jP (e.trans h)
       simp at h;omega
      have zJ:g<w9.heap.size:=by have:=aA.size;simp at this;omega
      clear aG aA aU iH;go_wp2;go_roundw;case rel=>exact ⟨p++[t],t,g9,gM,by rw[aak,jW.o];rfl,zG.o,JU.o,zH.o,zI,zJ,iM.o⟩
      case measure=>simp[mG];omega
     have hd:(x+((k:Int)+1)==y)=false:=by simpa using hf
     have wq:ag (∀k',k'<k+1-> ∀t',((bA V).tr a)[k']?=some t'->(λk' t'=> ¬(bK (bA V) [] (aF 1) (bA V).n t'+aF 1 (k'+1)=bK (bA V) [] (aF 1) (bA V).n a)) k' t'):=I (λk' di t' kv=>by
      by_cases e:k'=k
      ·subst e;rw[lQ.o]at kv;injection kv with kv
       subst kv;exact λh=>hf (js.o.1 h)
      exact hY.o k' (by omega) t' kv)
     clear hf hY;go_wp2_with (fail);refine ap (by kernel_rfl) (by kernel_rfl) ?_
     repeat (go_big_quiet_step ((first|(go_at_call 169;exact az (uO (tB _ _))))))
     refine aai ?_;rintro _ ⟨u,rfl⟩;go_wp2;go_roundw;case rel=>exact ⟨k+1,u,by omega,by go_num,rfl,rfl,wq.o⟩
     case measure=>simp[intOf];omega
    exfalso
    obtain ⟨t,kk,h1,h2,_⟩:=iG.o;rw[aah (by decide)]at h2;have:=(aal.1 h1).1;rw[qO.o]at this;exact hY.o kk (by omega) t h1 h2
theorem Ea (V:List lW) (rule:Int) (mU:rule≠1) (mV:rule≠2) (m:Nat) (v:Value) (w:World) (hV:mN w w.heap.size v V) (cy:gF V) (hm:m<V.length):
 Calls prog 115 #[v,.int .i64 rule,.int .i64 (m:Int)] w (jn V rule m w):=by
 have MY:(rule==1)=false:=by simpa using mU
 have Tf:(rule==2)=false:=by simpa using mV
 have hq3:(rule !=2)=true:=by simpa using mV
 have mB:=I mU;have gj:=I mV;clear mU mV;have JY:=I (lg V [] m v (.slice none 0 0) w hV cy hm (by simp) (Or.inl ⟨rfl,rfl⟩));have UX:=I (λ(p:List Nat) (t g2 cap:Nat) (W:World) (hb:Below w.heap.size w W) (ht:t<V.length) (hp:Ints W W.heap.size (.slice (some ⟨g2,0,none⟩) p.length cap) (cW p)) (sG:p.length<=600)=>lg V p t v (.slice (some ⟨g2,0,none⟩) p.length cap) W (hV.on hb hb.size) cy ht sG (Or.inr ⟨⟨g2,0,none⟩,cap,by rw[cg],hp⟩));have JZ:=I (λ(W:World) (hb:Below w.heap.size w W)=>tA V (aF rule) (ca rule) 168 yI (λk W=>by rw[zL mB.o k];exact pZ ((k:Int)+1) W) v W (hV.on hb hb.size) cy);obtain ⟨A,c0,rfl,xE,An,cn⟩:=jL hV;have kM:=cy.n1;have fD:=cy.n12;obtain ⟨b,off,rfl,bD,aC⟩:=cn (by omega);have gH:=I aC;have ii:=I cy;obtain ⟨i0,hi,dK,ez,ek⟩:=aaq iD;have xO:ag (∀hr,eK (bA V) rule m [m] m):=I (λhr=>eK.init cy.gr (show (bA V).n<=12 from fD) hm hr);have KS:=I (λp a (h:eK (bA V) rule m p a)=>h.len cy.gr (show (bA V).n<=12 from fD) hm);have sJ:ag (∀j,0<=bK (bA V) [] (aF rule) V.length j/\bK (bA V) [] (aF rule) V.length j<=1000):=I (λj=>⟨(fw.run (B:=[]) cy.gr (ca rule) V.length).pos j,(fw.run (B:=[]) cy.gr (ca rule) V.length).MH j⟩);unfold mQ at JY;unfold pk at JZ;unfold jn;clear hV cy cn aC;go_enter func115,ntmps115;go_wp2_with (fail);refine JY.o.mono ?_;rintro e w1 ⟨A1,n1,c1,rfl,Rs,BV,bw⟩;have MW:=I BV;clear BV JY;by_cases h0:n1=0
 ·subst h0;have JP:ag (mg (bA V) rule m []):=I (Or.inl ⟨rfl,λh=>by have:=MW.o.2 h;omega⟩);go_wp2;go_ret;exact .inl ⟨rfl,JP.o,bw⟩
 have gm:((n1:Int)==0)=false:=by simp;omega
 have qk:ag (Reach (bA V) [] m):=I (MW.o.1 (by omega));have JQ:=I (xO.o qk.o);have da:=I bw;have BW:=I (JZ.o w1 bw);clear bw JZ;go_wp2_with (fail);refine BW.o.mono ?_;rintro e w2 ⟨g,KT,fG,rfl,bi,cL⟩;have dy:=I (da.o.trans (cL.mono da.o.size));have JR:=I ((dN.one w2 m).less dy.o.size);have dI:=I (dy.o.alloc dy.o.size (.cells #[.int .i64 (m:Int)] 2));have sd:=I (bi.below ((aae w2.heap.size w2).alloc (aad _) (.cells #[.int .i64 (m:Int)] 2)) fG);have iV:g≠w2.heap.size:=by omega
 have j5:g<(w2.alloc (.cells #[.int .i64 (m:Int)] 2)).heap.size:=by simp;omega
 clear bi cL BW;go_wp2;go_loopw [9,10,11,12,43] (λvp _ _ _ _ wr=> ∃(p:List Nat) (a g2 cap:Nat),vp= .slice (some ⟨g2,0,none⟩) p.length cap/\dN wr w.heap.size g2 cap p/\eK (bA V) rule m p a/\Row wr g (cj (bK (bA V) [] (aF rule) V.length) V.length)/\g≠g2/\g<wr.heap.size/\Below w.heap.size w wr) (λvp _ _ _ _ _=>600-mG vp);case atStart=>exact ⟨[m],m,w2.heap.size,1,rfl,JR.o,JQ.o,sd.o,iV,j5,dI.o⟩
 case round=>
  obtain ⟨p,a,g2,cap,rfl,se,qt,bi,jP,fG,hb⟩:=hrel;have dz:=I se;have uB:=I qt;have fv:=I bi;have HB:=I hb;have halt:a<V.length:=qt.MJ;have sG:=KS.o p a qt;obtain ⟨q,hq⟩:=qt.last;have mw:p.length=q.length+1:=by rw[hq];simp
  have z0: ∀y:ar wr,y.val.cell? ⟨g2,q.length,none⟩=some (.int .i64 (a:Int)):=λy=>y.cell ((cZ se.ints (k:=q.length) (z:=(a:Int)) (by
   rw[hq,cQ,aaN (by rw[cg];exact aad _),cg,abb]
   rfl)).elim (λb0 h=>by
    obtain ⟨o0,e0,_,h0⟩:=h;injection e0 with e0
    injection e0 with e1 e2
    rw[<-e1,<-e2,aan]at h0;exact h0))
  have aH:V[a]?=some V[a]:=aag halt;obtain ⟨A1,c1,d0,d1,pQ,hI⟩:=gH.o a _ aH;have x0:=λy:ar wr=>y.cell ((hb.cell (p:=⟨b,off+a*2,none⟩) bD).trans d0);have x1:=λy:ar wr=>y.cell ((hb.cell (p:=⟨b,off+a*2+1,none⟩) bD).trans d1);have iN:ag ((bA V).sp a=V[a].sp):=I (eX aH).1;have qO:ag (((bA V).tr a).length=V[a].tr.length):=I (by rw[(eX aH).2,aap]);have sI:=I (λ(m:Nat) (z:Int) (hz:V[a].tr[m]?=some z)=>ii.o.ui aH hz);have h4:V[a].tr.length<=4:=fx (ii.o.tr a _ aH);have HI:=I hI;have Rk:(a:Int)<(V.length:Int):=by omega
  obtain ⟨u0,qo⟩: ∃y:ar wr,y.val=wr:=⟨⟨wr,aae _ _⟩,rfl⟩
  rw[<-qo,mw];have E9:=I qo;have MX:=I mw;have Rt:q.length+1<=577:=by omega
  clear qo aH hI d0 d1 se qt bi hb hq mw;have mw:=MX.o;generalize q.length=l at*;generalize V[a]=va at*;cases hs:va.sp with
  |true=>
   rw[hs]at x0 iN;have JS:=I (uB.o.GG qk.o iN.o);have kX:=I (dz.o.own);have D9:ag (p≠[]):=I (λe=>by rw[e]at mw;simp at mw);clear mw;go_wp2;go_ret;exact .inr ⟨p,g2,cap,by rw[MX.o];rfl,JS.o,D9.o,by rw[E9.o];exact kX.o,by rw[E9.o];exact HB.o⟩
  |false=>
   rw[hs]at x0 iN;have iG:=I (uB.o.next ii.o.gr iN.o);have jW:=I mw;clear mw;go_wp2;go_loopw [9,11,12,43] (λvp _ _ i JT=> ∃(k:Nat) (u:ar wr),k<=va.tr.length/\i= .int .i64 (k:Int)/\vp= .slice (some ⟨g2,0,none⟩) (l+1) cap/\JT=u.val/\ ∀k',k'<k-> ∀t',((bA V).tr a)[k']?=some t'->(λ(k' t':Nat)=> ¬(bK (bA V) [] (aF rule) (bA V).n t'+aF rule (k'+1)=bK (bA V) [] (aF rule) (bA V).n a)) k' t') (λ_ _ _ i _=>va.tr.length-(intOf i).toNat);case atStart=>exact ⟨0,u0,aaf _,rfl,rfl,rfl,λk' di=>absurd di (aa' _)⟩
   case round=>
    obtain ⟨k,u1,hk,rfl,rfl,rfl,rf⟩:=hrel;have hY:=I rf;clear rf;by_cases qg:k<va.tr.length
    ·have hz:va.tr[k]?=some va.tr[k]:=aag qg;obtain ⟨b3,o3,rfl,dB,e0⟩:=cZ HI.o hz;have x2:=λy:ar wr=>y.cell ((HB.o.cell (p:=⟨b3,o3+k,none⟩) dB).trans e0);obtain ⟨t1,t2,t3,t4⟩:=sI.o k _ hz;obtain ⟨t,ht⟩: ∃t:Nat,t=va.tr[k].toNat:=⟨_,rfl⟩
     rw[<-ht]at t1 t2 t3 t4;rw[<-t2]at x2;have lQ:=I t1;have kJ:(t:Int)<(V.length:Int):=by omega
     clear ht t1 t2 hz e0;have mw:=jW.o;have x3:=λy:ar wr=>y.cell (fv.o.cell t _ (cD t3));have x4:=λy:ar wr=>y.cell (fv.o.cell a _ (cD halt));have q1:=sJ.o t;have q2:=sJ.o a;have CQ:IntKind.i64.wrap ((k:Int)+1)=(k:Int)+1:=ajY _ (by omega);obtain ⟨x,hx⟩: ∃x,x=bK (bA V) [] (aF rule) V.length t:=⟨_,rfl⟩
     obtain ⟨y,hy⟩: ∃y,y=bK (bA V) [] (aF rule) V.length a:=⟨_,rfl⟩
     rw[<-hx]at x3 q1;rw[<-hy]at x4 q2
     have js:ag (bK (bA V) [] (aF rule) (bA V).n t+aF rule (k+1)=bK (bA V) [] (aF rule) (bA V).n a↔x+1=y):=I (by
      rw[zL mB.o k,hx,hy];exact aa6)
     clear hx hy;by_cases hf:x+1=y
     ·have MT:ag (nW (bA V) rule p a t):=I (nK gj.o lQ.o (js.o.2 hf) hY.o);have hd:(x+1==y)=true:=by simp[hf]
      clear hf hY;go_wp2_with (fail);refine ap (by kernel_rfl) (by kernel_rfl) ?_
      repeat (go_big_quiet_step ((first|(go_at_call 168;exact az (uO (pZ _ _))))))
      refine aai ?_;rintro _ ⟨u,rfl⟩;have JU:=I (uB.o.more ii.o.gr iN.o MT.o);have kX:=I (dz.o.below u.ok).row;rw[jW.o]at kX;have mz:=I (HB.o.trans (u.ok.mono HB.o.size));have sf:=I (fv.o.below u.ok fG);have sg:=aar fG u.ok.size;go_wp2_with (at_builtin;refine aaH _ rfl _ _ 33 rfl w.heap.size 2 i0 (.int .i64 0) 1 8 underlying33 hi dK ez ek rfl (by decide) _ _ _ rfl (kX.o.alloc _) ⟨u.val.heap.size,0,none⟩ 1 1 (ak (t:Int)) rfl rfl (λj u hj=>fS hj) (λu hu=>cf _ hu) ?c3 ?c4 (aS mz.o.size) ?_);case c3=>unfold maxLen;omega
      case c4=>omega
      intro v' w9 aG aA aU iH;obtain ⟨g9,gM,rfl,zE,zF⟩:=bG aG (by simpa using aU);have iM:=I ((mz.o.alloc mz.o.size (.cells #[.int .i64 (t:Int)] 2)).grown aA (aS mz.o.size) (λj hj=>(kX.o.lt j hj).1))
      have zG:ag (dN w9 w.heap.size g9 gM (p++[t])):=I (by
       unfold dN;rw[cQ,cq,aak,jW.o];exact aG)
      have zH:=I ((sf.o.below ((aae u.val.heap.size u.val).alloc (aad _) (.cells #[.int .i64 (t:Int)] 2)) sg).aD (F:=λc=>c=g2) (by simpa using ab3 sg) (Touch.aW aA (λc hc=>by injection hc with hc;exact hc.symm)) jP)
      have zI:g≠g9:=by
       rcases iH with h|h<;>injection h with h
       ·exact λe=>jP (e.trans h)
       simp at h;omega
      have zJ:g<w9.heap.size:=by have:=aA.size;simp at this;omega
      clear aG aA aU iH;go_wp2;go_roundw;case rel=>exact ⟨p++[t],t,g9,gM,by rw[aak,jW.o];rfl,zG.o,JU.o,zH.o,zI,zJ,iM.o⟩
      case measure=>simp[mG];omega
     have hd:(x+1==y)=false:=by simpa using hf
     have wq:ag (∀k',k'<k+1-> ∀t',((bA V).tr a)[k']?=some t'->(λk' t'=> ¬(bK (bA V) [] (aF rule) (bA V).n t'+aF rule (k'+1)=bK (bA V) [] (aF rule) (bA V).n a)) k' t'):=I (λk' di t' kv=>by
      by_cases e:k'=k
      ·subst e;rw[lQ.o]at kv;injection kv with kv
       subst kv;exact λh=>hf (js.o.1 h)
      exact hY.o k' (by omega) t' kv)
     clear hf hY;go_wp2_with (fail);refine ap (by kernel_rfl) (by kernel_rfl) ?_
     repeat (go_big_quiet_step ((first|(go_at_call 168;exact az (uO (pZ _ _))))))
     refine aai ?_;rintro _ ⟨u,rfl⟩;go_wp2;go_roundw;case rel=>exact ⟨k+1,u,by omega,by go_num,rfl,rfl,wq.o⟩
     case measure=>simp[intOf];omega
    exfalso
    obtain ⟨t,kk,h1,h2,_⟩:=iG.o;rw[aah gj.o]at h2;have:=(aal.1 h1).1;rw[qO.o]at this;exact hY.o kk (by omega) t h1 h2
def pn (V:List lW) (rule:Int) (w:World) (e:Ending) (w':World):Prop:=
 ∃g cap,e= .returned (.tuple #[.slice (some ⟨g,0,none⟩) V.length cap,.bool true])/\(jl V rule).length=V.length/\(∀(j:Nat) (x:Int),(jl V rule)[j]?=some x->lL (bA V) rule j x)/\iX w' w.heap.size g cap (jl V rule)/\Below w.heap.size w w'
theorem iX.less {w:World} {b base g cap:Nat} {L:List Int} (h:iX w base g cap L) (hb:b<=base):iX w b g cap L:=by
 obtain ⟨h1,h2|⟨g',c,kT,e,h3,h4⟩⟩:=h
 ·exact ⟨h1,.inl h2⟩
 exact ⟨h1,.inr ⟨g',c,kT,e,aaB hb h3,h4⟩⟩
theorem GQ (V:List lW) (rule:Int) (m:Nat) (v:Value) (w:World) (hV:mN w w.heap.size v V) (cy:gF V) (hm:m<V.length):
 Calls prog 115 #[v,.int .i64 rule,.int .i64 (m:Int)] w (jn V rule m w):=by
 by_cases h2:rule=2
 ·subst h2;exact D8 V m v w hV cy hm
 by_cases h1:rule=1
 ·subst h1;exact D' V m v w hV cy hm
 exact Ea V rule h1 h2 m v w hV cy hm
theorem BX (V:List lW) (rule:Int) (v:Value) (w:World) (yd:0<=rule) (mV:rule<=2) (hV:mN w w.heap.size v V) (cy:gF V):
 Calls prog 49 #[v,.int .i64 rule] w (pn V rule w):=by
 have Ro:=I (λ(m:Nat) (hm:m<V.length) (W:World) (hb:Below w.heap.size w W)=>GQ V rule m v W (hV.on hb hb.size) cy hm);have Zg:=I (BR V v w hV cy);have D6:=I (yx rule);have iq:dO rule 0 2=true:=dS.2 ⟨yd,mV⟩;rw[iq]at D6;obtain ⟨A,c0,rfl,xE,An,cn⟩:=jL hV;have fD:=cy.n12;obtain ⟨i0,hi,dK,ez,ek⟩:=aaq iD
 have Ij: ∀W,(binOp .neq 33 (.slice none 0 0) (.slice none 0 0)).run prog W= .ok (.bool false) W:=λW=>by
  have:=run_neq_slice_nil (P:=prog) W 33 2 none 0 0 underlying33;simpa using this
 have nm: ∀W ad n c,(binOp .neq 33 (.slice (some ad) n c) (.slice none 0 0)).run prog W= .ok (.bool true) W:=λW ad n c=>by
  have:=run_neq_slice_nil (P:=prog) W 33 2 (some ad) n c underlying33;simpa using this
 unfold jn at Ro;unfold pn;clear hV cn cy iq;go_enter func49,ntmps49;go_wp2_with (fail);refine Zg.o.mono ?_;rintro e wa ⟨rfl,ri⟩;have LG:=I ri;clear ri;go_wp2_with (fail);refine (D6.o wa).mono ?_;rintro e _ ⟨rfl,q,rfl⟩;have Rv:=I (below_drewN LG.o q);generalize wa.drewN q=wb at*;have FR:=I ((iX.start wb).less Rv.o.size);have jT:=I (Rv.o.alloc Rv.o.size (.cells #[] 2));go_wp2;go_loopw [6,7,8,9,21] (λvo _ _ _ i wr=> ∃(k:Nat) (L:List Int) (g cap:Nat),k<=V.length/\i= .int .i64 (k:Int)/\vo= .slice (some ⟨g,0,none⟩) L.length cap/\L.length=k/\iX wr w.heap.size g cap L/\ww (bA V) rule L/\Below w.heap.size w wr) (λ_ _ _ _ i _=>V.length-(intOf i).toNat);case atStart=>exact ⟨0,[],_,0,aaf _,rfl,rfl,rfl,FR.o,(λj e hj=>by simp at hj),jT.o⟩
 case round=>
  obtain ⟨k,L,g,cap,hk,rfl,rfl,tf,ho,hle,hb⟩:=hrel;have HO:=I ho;have LQ:=I hle;have HB:=I hb;have xP:=I tf;have UT:L.length<=12:=by omega
  by_cases aI:k<V.length
  ·have D3:=I (Ro.o k aI wr hb);clear ho hle hb tf;go_wp2_with (fail);refine D3.o.mono ?_;rintro e w1 (⟨rfl,hp,bw⟩|⟨p,g1,c1,rfl,hp,h0,se,bw⟩)
   ·have da:=I (HB.o.trans (bw.mono HB.o.size));have jh:=I (HO.o.below bw);have CI:ag (lL (bA V) rule L.length (-1)):=I (by rw[xP.o];exact hp.none);clear hp bw D3;have LR:=I (LQ.o.push CI.o);go_wp2_with (at_builtin;refine aaH _ rfl _ _ 33 rfl w.heap.size 2 i0 (.int .i64 0) 1 8 underlying33 hi dK ez ek rfl (by decide) _ _ _ rfl (jh.o.row.alloc _) ⟨w1.heap.size,0,none⟩ 1 1 (ak (-1)) rfl rfl (λj u hj=>fS hj) (λu hu=>cf _ hu) ?c3 ?c4 (aS da.o.size) ?_);case c3=>unfold maxLen;omega
    case c4=>omega
    intro v' w9 aG aA aU iH;obtain ⟨g9,gM,rfl,zE,zF⟩:=bG aG (by simpa using aU);have iM:=I ((da.o.alloc da.o.size (.cells #[.int .i64 (-1)] 2)).grown aA (aS da.o.size) (λj hj=>(jh.o.row.lt j hj).1))
    have zG:ag (iX w9 w.heap.size g9 gM (L++[(-1)])):=I (by
     unfold iX;rw[cq,aak];exact aG)
    clear aG aA aU iH;go_wp2;go_roundw;case rel=>exact ⟨k+1,L++[(-1)],g9,gM,by omega,by go_num,by rw[aak];rfl,by rw[aak,xP.o];rfl,zG.o,LR.o,iM.o⟩
    case measure=>simp[intOf];omega
   have da:=I (HB.o.trans (bw.mono HB.o.size));have jh:=I (HO.o.below bw);obtain ⟨q,b,rfl,hE⟩:=hp.some h0;have CI:ag (lL (bA V) rule L.length (b:Int)):=I (by rw[xP.o];exact hE);obtain ⟨A2,c2,Hj,E4,Rw,j5⟩:=se;obtain ⟨g3,Zh,_,_,mU⟩:=j5 (by rw[cQ];simp);subst Zh;injection Hj with e1 e2 e3
   injection e1 with e1
   injection e1 with e1
   rw[<-e1]at mU
   have x0:=mU.cell q.length (.int .i64 (b:Int)) (by
    rw[je,aaX,cQ,aaN (by rw[cg];exact aad _),cg,abb];rfl)
   have PX:(q++[b]).length=q.length+1:=by simp
   have rn:q.length+1<=9223372036854775807:=by
    unfold maxLen at Rw;rw[cg,PX]at E4;omega
   rw[PX];clear hp bw D3 hE mU j5 h0 PX e1 e2 e3 E4 Rw;generalize q.length=l at*;have LR:=I (LQ.o.push CI.o);go_wp2_with (at_builtin;refine aaH _ rfl _ _ 33 rfl w.heap.size 2 i0 (.int .i64 0) 1 8 underlying33 hi dK ez ek rfl (by decide) _ _ _ rfl (jh.o.row.alloc _) ⟨w1.heap.size,0,none⟩ 1 1 (ak (b:Int)) rfl rfl (λj u hj=>fS hj) (λu hu=>cf _ hu) ?c3 ?c4 (aS da.o.size) ?_);case c3=>unfold maxLen;omega
   case c4=>omega
   intro v' w9 aG aA aU iH;obtain ⟨g9,gM,rfl,zE,zF⟩:=bG aG (by simpa using aU);have iM:=I ((da.o.alloc da.o.size (.cells #[.int .i64 (b:Int)] 2)).grown aA (aS da.o.size) (λj hj=>(jh.o.row.lt j hj).1))
   have zG:ag (iX w9 w.heap.size g9 gM (L++[(b:Int)])):=I (by
    unfold iX;rw[cq,aak];exact aG)
   clear aG aA aU iH;go_wp2;go_roundw;case rel=>exact ⟨k+1,L++[(b:Int)],g9,gM,by omega,by go_num,by rw[aak];rfl,by rw[aak,xP.o];rfl,zG.o,LR.o,iM.o⟩
   case measure=>simp[intOf];omega
  have eA: ¬(k:Int)<(V.length:Int):=by omega
  have xz:k=V.length:=by omega
  have jS:ag (jl V rule=L):=I (BO ⟨by rw[tf];exact xz,LQ.o⟩);have Rp:L.length=V.length:=by omega
  clear ho hle hb tf;go_wp2;go_ret2;exact ⟨g,cap,by first|rfl|(rw[Rp];rfl),by rw[jS.o];exact Rp,by rw[jS.o];exact LQ.o,by rw[jS.o];exact HO.o,HB.o⟩
end Go.Proofs.YtbcggaldkihcaaaGreat
