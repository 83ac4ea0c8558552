/- With whom all ballots are settled, the reference's, walked. -/
import Derived.Test.YtbcggaldkihcaaaGreatDoorYB
import Derived.StillTailTactics
import Derived.Laws.OwnMore
set_option maxHeartbeats 4000000
set_option maxRecDepth 100000
namespace Go.Proofs.YtbcggaldkihcaaaGreatDoor
open Tryz
open Go.RowKit Go.Lib
def iX (w:World) (base g cap:Nat) (L:List Int):Prop:=w.ownsRow base 2 1 (.slice (some ⟨g,0,none⟩) L.length cap) L.length (L.flatMap ak)
theorem iX.row {w:World} {base g cap:Nat} {L:List Int} (h:iX w base g cap L):w.ownsRow base 2 1 (.slice (some ⟨g,0,none⟩) L.length cap) L.length (L.flatMap ak):=h
theorem iX.below {w w':World} {base g cap:Nat} {L:List Int} (h:iX w base g cap L) (hb:Below w.heap.size w w'):iX w' base g cap L:=aT h hb
theorem iX.own {w:World} {base g cap:Nat} {L:List Int} (h:iX w base g cap L):ay ak L base w (.slice (some ⟨g,0,none⟩) L.length cap):=ay.bI ak (size:=1) (λ_=>rfl) h
theorem iX.ints {w:World} {base g cap:Nat} {L:List Int} (h:iX w base g cap L):aae w w.heap.size (.slice (some ⟨g,0,none⟩) L.length cap) L:=h.own.mo (size:=1) (λ_=>rfl)
theorem iX.start (w:World):iX (w.alloc (.cells #[] 2)) w.heap.size w.heap.size 0 []:=by
 unfold iX;simpa using World.ownsRow_made w #[] 0 (Nat.le_refl _) (Nat.zero_le _) rfl
def ww (g:Gr) (rule:Int) (L:List Int):Prop:= ∀(j:Nat) (e:Int),L[j]?=some e->lL g rule j e
theorem ww.push {g:Gr} {rule:Int} {L:List Int} {e:Int} (h:ww g rule L) (he:lL g rule L.length e):ww g rule (L++[e]):=λj e' hj=>by
 rcases Nat.lt_or_ge j L.length with hl|hl
 ·rw[List.getElem?_append_left hl]at hj;exact h j e' hj
 have vB:=(List.getElem?_eq_some_iff.1 hj).1;rw[List.length_append,List.length_singleton]at vB;have:j=L.length:=by omega
 subst this;rw[List.getElem?_append_right (Nat.le_refl _),Nat.sub_self]at hj;injection hj with hj
 rw[<-hj];exact he
def qQ (V:List lW) (rule:Int) (w:World) (e:Ending) (w':World):Prop:=
 ∃g cap,e= .returned (.slice (some ⟨g,0,none⟩) V.length cap)/\(jl V rule).length=V.length/\(∀(j:Nat) (x:Int),(jl V rule)[j]?=some x->lL (bA V) rule j x)/\iX w' w.heap.size g cap (jl V rule)/\Below w.heap.size w w'
theorem BU (V:List lW) (rule:Int) (v:Value) (w:World) (hV:mN w w.heap.size v V) (cy:gF V):
 Calls prog 134 #[v,.int .i64 rule] w (qQ V rule w):=by
 have Ro:=I (λ(m:Nat) (hm:m<V.length) (W:World) (hb:Below w.heap.size w W)=>GL V rule m v W (hV.on hb hb.size) cy hm);obtain ⟨A,c0,rfl,xE,An,cn⟩:=jL hV;have fD:=cy.n12;obtain ⟨i0,hi,dK,ez,ek⟩:=info_parts iD;have FR:=I (iX.start w);have jT:=I ((Below.refl w.heap.size w).alloc (Nat.le_refl _) (.cells #[] 2));unfold kr at Ro;unfold qQ;clear hV cn cy;go_enter func134,ntmps134;go_wp2;go_loopw [5,6,7] (λvo i _ wr=> ∃(k:Nat) (L:List Int) (g cap:Nat),k<=V.length/\i= .int .i64 (k:Int)/\vo= .slice (some ⟨g,0,none⟩) L.length cap/\L.length=k/\iX wr w.heap.size g cap L/\ww (bA V) rule L/\Below w.heap.size w wr) (λ_ i _ _=>V.length-(RowKit.intOf i).toNat);case atStart=>exact ⟨0,[],_,0,Nat.zero_le _,rfl,rfl,rfl,FR.o,(λj e hj=>by simp at hj),jT.o⟩
 case round=>
  obtain ⟨k,L,g,cap,hk,rfl,rfl,tf,ho,hle,hb⟩:=hrel;have HO:=I ho;have LQ:=I hle;have HB:=I hb;have xP:=I tf;have UT:L.length<=12:=by omega
  by_cases aI:k<V.length
  ·have D3:=I (Ro.o k aI wr hb);clear ho hle hb tf;go_wp2_with (fail);refine D3.o.mono ?_;rintro e w1 ⟨p,v1,rfl,hp,sG,se,bw⟩;have da:=I (HB.o.trans (bw.mono HB.o.size));have jh:=I (HO.o.below bw);by_cases h0:p=[]
   ·subst h0;have CI:ag (lL (bA V) rule L.length (-1)):=I (by rw[xP.o];exact hp.none);obtain ⟨A1,c1,rfl,_⟩:=se;clear hp bw D3;simp only[cW,List.map_nil,List.length_nil];have LR:=I (LQ.o.push CI.o);go_wp2_with (at_builtin;refine wpList_append_own_at _ rfl _ _ 35 rfl w.heap.size 2 i0 (.int .i64 0) 1 8 underlying35 hi dK ez ek rfl (by decide) _ _ _ rfl (jh.o.row.alloc _) ⟨w1.heap.size,0,none⟩ 1 1 (ak (-1)) rfl rfl (λj u hj=>fS hj) (λu hu=>cf _ hu) ?c3 ?c4 (aS da.o.size) ?_);case c3=>unfold maxLen;omega
    case c4=>omega
    intro v' w9 aG aA aU iH;obtain ⟨g9,gM,rfl,zE,zF⟩:=bG aG (by simpa using aU);have iM:=I ((da.o.alloc da.o.size (.cells #[.int .i64 (-1)] 2)).grown aA (aS da.o.size) (λj hj=>(jh.o.row.lt j hj).1))
    have zG:ag (iX w9 w.heap.size g9 gM (L++[(-1)])):=I (by
     unfold iX;rw[cq,List.length_append];exact aG)
    clear aG aA aU iH;go_wp2;go_roundw;case rel=>exact ⟨k+1,L++[(-1)],g9,gM,by omega,by go_num,by rw[List.length_append];rfl,by rw[List.length_append,xP.o];rfl,zG.o,LR.o,iM.o⟩
    case measure=>simp[RowKit.intOf];omega
   obtain ⟨q,b,rfl,hE⟩:=hp.some h0;have CI:ag (lL (bA V) rule L.length (b:Int)):=I (by rw[xP.o];exact hE);obtain ⟨A1,c1,rfl,pQ,Zc,iV⟩:=se;obtain ⟨g1,rfl,_,_,mU⟩:=iV (by rw[cQ];simp)
   have x0:=mU.cell q.length (.int .i64 (b:Int)) (by
    rw[je,List.getElem?_map,cQ,List.getElem?_append_right (by rw[cg];exact Nat.le_refl _),cg,Nat.sub_self];rfl)
   have PX:(cW (q++[b])).length=q.length+1:=by rw[cg];simp
   rw[PX]at pQ⊢;rw[List.length_append,List.length_singleton]at sG;clear hp bw D3 hE mU iV h0 PX;generalize q.length=l at*;have gm:((l:Int)+1==0)=false:=by simp;omega
   have LR:=I (LQ.o.push CI.o);go_wp2_with (at_builtin;refine wpList_append_own_at _ rfl _ _ 35 rfl w.heap.size 2 i0 (.int .i64 0) 1 8 underlying35 hi dK ez ek rfl (by decide) _ _ _ rfl (jh.o.row.alloc _) ⟨w1.heap.size,0,none⟩ 1 1 (ak (b:Int)) rfl rfl (λj u hj=>fS hj) (λu hu=>cf _ hu) ?c3 ?c4 (aS da.o.size) ?_);case c3=>unfold maxLen;omega
   case c4=>omega
   intro v' w9 aG aA aU iH;obtain ⟨g9,gM,rfl,zE,zF⟩:=bG aG (by simpa using aU);have iM:=I ((da.o.alloc da.o.size (.cells #[.int .i64 (b:Int)] 2)).grown aA (aS da.o.size) (λj hj=>(jh.o.row.lt j hj).1))
   have zG:ag (iX w9 w.heap.size g9 gM (L++[(b:Int)])):=I (by
    unfold iX;rw[cq,List.length_append];exact aG)
   clear aG aA aU iH;go_wp2;go_roundw;case rel=>exact ⟨k+1,L++[(b:Int)],g9,gM,by omega,by go_num,by rw[List.length_append];rfl,by rw[List.length_append,xP.o];rfl,zG.o,LR.o,iM.o⟩
   case measure=>simp[RowKit.intOf];omega
  have eA: ¬(k:Int)<(V.length:Int):=by omega
  have xz:k=V.length:=by omega
  have jS:ag (jl V rule=L):=I (BO ⟨by rw[tf];exact xz,LQ.o⟩);have Rp:L.length=V.length:=by omega
  clear ho hle hb tf;go_wp2;go_ret;exact ⟨g,cap,by first|rfl|(rw[Rp];rfl),by rw[jS.o];exact Rp,by rw[jS.o];exact LQ.o,by rw[jS.o];exact HO.o,HB.o⟩
theorem D4 (n:Nat):cj (λ_=>0) n=List.replicate n (.int .i64 0):=by
 apply List.ext_getElem?;intro j;by_cases hj:j<n
 ·rw[cD hj,List.getElem?_replicate,if_pos hj]
 rw[List.getElem?_eq_none (by rw[fk];omega),List.getElem?_eq_none (by simp;omega)]
theorem tz {P:Program} (w:World) (t e:TypeId) (i:TypeInfo) (ht:P.underlying t=some (.slice e)) (hi:P.info? e=some i) (hz:i.zero=some (.int .i64 0)) (ga:i.size=1) (n:Nat) (hb:i.bytes*n<=281474976710656) (hn:n<=1048576):
 ∃w',(Instr.makeSlice t (.int .i64 (n:Int)) (.int .i64 (n:Int))).run P w= .ok (.slice (some ⟨w.heap.size,0,none⟩) n n) w'/\Row w' w.heap.size (cj (λ_=>0) n)/\w.heap.size<w'.heap.size/\Below w.heap.size w w':=by
 have dF:(i.bytes:Int)*(n:Int)<=281474976710656:=by
  have h:((i.bytes*n:Nat):Int)<=281474976710656:=by omega
  rwa [Int.natCast_mul]at h
 have hr:=run_make (P:=P) w t e i (.int .i64 0) ht hi hz .i64 .i64 n n (by omega) (Int.le_refl _) dF (by omega);simp only[Int.toNat_natCast]at hr;refine ⟨_,hr,?_,by simp,(Below.refl _ _).alloc (Nat.le_refl _) _⟩;have:=Row.new w (madeCells (Value.int .i64 0).cells (n*i.size)) e;rw[ga,Nat.mul_one]at this⊢
 have e2:(madeCells (Value.int .i64 0).cells n).toList=cj (λ_=>0) n:=by
  rw[D4];exact toList_madeCells_one _ n
 rw[e2]at this;exact this
def pk (V:List lW) (c:Nat->Int) (w:World) (e:Ending) (w':World):Prop:=
 ∃g,w.heap.size<=g/\g<w'.heap.size/\e= .returned (.slice (some ⟨g,0,none⟩) V.length V.length)/\Row w' g (cj (bK (bA V) [] c V.length) V.length)/\Below w.heap.size w w'
def sh (g:Gr) (k:Nat):Nat->Int:=λj=>if j<k then kI g [] j else 0
def D7 (W w':World):Prop:=Below W.heap.size W w'
theorem D7.go {W a b:World} (h2:Below a.heap.size a b) (h1:D7 W a):D7 W b:=Below.trans h1 (Below.mono h2 (Below.size h1))
theorem D7.draw {W a:World} (h1:D7 W a):D7 W a.drew:=Below.drew h1
def jn (V:List lW) (rule:Int) (m:Nat) (w:World) (e:Ending) (w':World):Prop:=
 (e= .returned (.slice none 0 0)/\mg (bA V) rule m []/\Below w.heap.size w w')\/
 ∃p g c,e= .returned (.slice (some ⟨g,0,none⟩) p.length c)/\mg (bA V) rule m p/\p≠[]/\ay ak (cW p) w.heap.size w' (.slice (some ⟨g,0,none⟩) p.length c)/\Below w.heap.size w w'
def pn (V:List lW) (rule:Int) (w:World) (e:Ending) (w':World):Prop:=
 ∃g cap,e= .returned (.tuple #[.slice (some ⟨g,0,none⟩) V.length cap,.bool true])/\(jl V rule).length=V.length/\(∀(j:Nat) (x:Int),(jl V rule)[j]?=some x->lL (bA V) rule j x)/\iX w' w.heap.size g cap (jl V rule)/\Below w.heap.size w w'
theorem iX.less {w:World} {b base g cap:Nat} {L:List Int} (h:iX w base g cap L) (hb:b<=base):iX w b g cap L:=by
 obtain ⟨h1,h2|⟨g',c,kT,e,h3,h4⟩⟩:=h
 ·exact ⟨h1,.inl h2⟩
 exact ⟨h1,.inr ⟨g',c,kT,e,Nat.le_trans hb h3,h4⟩⟩
end Go.Proofs.YtbcggaldkihcaaaGreatDoor
