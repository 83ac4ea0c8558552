/- Voices: plain, in memory; a motion found by its title, walked. -/
import Derived.Test.YtbcggaldkihcaaaGreatDoorQF
import Derived.Test.YtbcggaldkihcaaaGreatDoorQH
import Derived.Test.YtbcggaldkihcaaaGreatDoorQE
set_option maxHeartbeats 8000000
set_option maxRecDepth 100000
namespace Go.Proofs.YtbcggaldkihcaaaGreatDoor
open Tryz
open Go.RowKit Go.Lib
structure lW where
 sp:Bool
 tr:List Int
structure oh where
 a:lW
 v:Value
def nI (x:oh):List Value:=[.bool x.a.sp,x.v]
def qj:Kind oh where
 cells:=nI
 size:=2
 fa base w x:=ay ak x.a.tr base w x.v
 dR x b:=cx x.a.tr x.v b
 len _:=rfl
 aD h ht hF:=ay.aD h ht hF
 lt h hb:=ay.dw h hb
 less h hb:=ay.less h hb
def mN (w:World) (B:Nat) (v:Value) (ls:List lW):Prop:=
 ∃L:List oh,L.map (·.a)=ls/\cz (Pl nI) 2 w B v L/\ ∀x∈L,aae w B x.v x.a.tr
theorem mN.on {w w':World} {B B':Nat} {v:Value} {ls:List lW} (h:mN w B v ls) (hb:Below B w w') (hB:B<=B'):mN w' B' v ls:=by
 obtain ⟨L,h1,h2,h3⟩:=h;exact ⟨L,h1,cz.on h2 (Pl.stays _) hb hB,λx hx=>cz.on (h3 x hx) (Pl.stays _) hb hB⟩
theorem aR.Jx {base:Nat} {w:World} {v:Value} {L:List oh} (h:aR qj base w v L):mN w w.heap.size v (L.map (·.a)):=⟨L,rfl,h.mo,λx hx=>(show ay _ _ _ _ _ from h.fa x hx).mo (size:=1) (λ_=>rfl)⟩
theorem jL {w:World} {B:Nat} {v:Value} {ls:List lW} (h:mN w B v ls): ∃(A:Option Addr) (c:Nat),v= .slice A ls.length c/\ls.length<=c/\c<=maxLen/\(0<ls.length-> ∃b off,A=some ⟨b,off,none⟩/\b<B/\
 ∀(k:Nat) (a:lW),ls[k]?=some a-> ∃A1 c1,w.cell? ⟨b,off+k*2,none⟩=some (.bool a.sp)/\w.cell? ⟨b,off+k*2+1,none⟩=some (.slice A1 a.tr.length c1)/\c1<=maxLen/\aae w B (.slice A1 a.tr.length c1) a.tr):=by
 obtain ⟨L,rfl,⟨A,c,rfl,h1,h2,h3⟩,h4⟩:=h;rw[List.length_map];refine ⟨A,c,rfl,h1,h2,λh0=>?_⟩;obtain ⟨b,off,rfl,hb,hk⟩:=h3 h0;refine ⟨b,off,rfl,hb,λk a ha=>?_⟩;rw[List.getElem?_map]at ha;cases hx:L[k]? with
 |none=>rw[hx]at ha;cases ha
 |some x=>
  rw[hx]at ha;injection ha with ha
  subst ha;obtain ⟨us,hl,hp,hc⟩:=hk k x hx;have hp:us=nI x:=hp;subst hp;have hi:=h4 x (List.mem_of_getElem? hx);obtain ⟨A1,c1,e1,_,hm⟩:=hi.sl;have Jk:=hc 1 _ rfl;rw[e1]at Jk hi;exact ⟨A1,c1,hc 0 _ rfl,Jk,hm,hi⟩
def fX (L:List gu) (t:ByteArray):Int:=kF (λm:gu=>m.al.toList==t.toList) L
theorem qI (a:cp) (x:cS) (t:ByteArray) (b o:Nat) (w:World) (k5:w.cell? ⟨b,o+5,none⟩=some x.m) (h:nA w w.heap.size x.m a.ao):
 Calls prog 77 #[.pointer (some ⟨b,o,none⟩),.string t] w (bT (.int .i64 (fX a.ao t)) w):=by
 obtain ⟨A,c,hv,hc,hm,cn⟩:=fQ h;rw[hv]at k5;have z5:=λy:ar w=>y.cell k5;have gH:=I cn;unfold maxLen at hm;have rn:a.ao.length<=9223372036854775807:=by omega
 clear h cn hv k5;refine aL λx0=>?_;go_enter func77,ntmps77;go_wp2;go_loopw [5] (λi wr=> ∃(k:Nat) (x:ar w),k<=a.ao.length/\i= .int .i64 (k:Int)/\(∀j (hj:j<a.ao.length),j<k->(a.ao[j].al.toList==t.toList)=false)/\wr=x.val) (λi _=>a.ao.length-(RowKit.intOf i).toNat);case atStart=>exact ⟨0,x0,Nat.zero_le _,rfl,λj _ hj=>absurd hj (Nat.not_lt_zero _),rfl⟩
 case round=>
  obtain ⟨k,x,hk,rfl,hn,rfl⟩:=hrel;have HN:=I hn;clear hn;by_cases aI:k<a.ao.length
  ·obtain ⟨b2,off,rfl,bD,aC⟩:=gH.o (by omega);obtain ⟨A1,c1,A2,c2,hP⟩:=aC k _ (List.getElem?_eq_getElem aI);have Q3:=x.cell hP.k0;clear aC hP;cases hq:(a.ao[k].al.toList==t.toList)with
   |true=>
    have HQ:ag (fX a.ao t=k):=I (vO aI hq (λj hj=>HN.o j (by omega) hj));generalize a.ao[k].al=e at*;go_wp2;go_ret;exact ⟨by rw[HQ.o];rfl,x.ok⟩
   |false=>
    have Da:ag (∀j (hj:j<a.ao.length),j<k+1->(a.ao[j].al.toList==t.toList)=false):=I (λj hj KI=>by
     by_cases e:j=k
     ·subst e;exact hq
     exact HN.o j hj (by omega))
    generalize a.ao[k].al=e at hq Q3;go_wp2;go_roundw;case rel=>exact ⟨k+1,x,by omega,by go_num,Da.o,rfl⟩
    case measure=>simp[RowKit.intOf];omega
  have eA: ¬(k:Int)<(a.ao.length:Int):=by omega
  have HQ:ag (fX a.ao t= -1):=I (tl (λj hj=>HN.o j hj (by omega)));go_wp2;go_ret;exact ⟨by rw[HQ.o];rfl,x.ok⟩
open Classical in
noncomputable def Jz (a:cp) (t:ByteArray):Bool:=fI a&&decide (0<=fX a.ao t)
structure iE {β:Type} (K:Kind β) (te:TypeId) (base:Nat) (w:World) (g cap:Nat) (L:List β):Prop where
 row:w.ownsRow base te K.size (.slice (some ⟨g,0,none⟩) L.length cap) L.length (L.flatMap K.cells)
 fa: ∀x∈L,K.fa base w x
 o: ∀x∈L,∀b,K.dR x b->b≠g
 two:L.Pairwise (λp q=> ∀b,K.dR p b-> ¬K.dR q b)
theorem iE.below {β:Type} {K:Kind β} {te:TypeId} {base:Nat} {w w':World} {g cap:Nat} {L:List β} (h:iE K te base w g cap L) (hb:Below w.heap.size w w'):iE K te base w' g cap L:=
 ⟨aT h.row hb,λx hx=>K.aD (F:=λ_=>False) (h.fa x hx) (Touch.dV hb) (λ_ _ h=>h),h.o,h.two⟩
theorem iE.start {β:Type} (K:Kind β) (te:TypeId) {base:Nat} {w:World} {g cap:Nat} (h:w.ownsRow base te K.size (.slice (some ⟨g,0,none⟩) 0 cap) 0 []):iE K te base w g cap ([]:List β):=
 ⟨by simpa using h,(λx hx=>by cases hx),(λx hx=>by cases hx),List.Pairwise.nil⟩
theorem iE.push {β:Type} {K:Kind β} {te:TypeId} {base:Nat} {w w':World} {g cap g' fq:Nat} {L:List β} {x:β} (h:iE K te base w g cap L) (hg:w.grownBy w' (some g)) (gd:g'=g\/g'=w.heap.size)
 (bi:w'.ownsRow base te K.size (.slice (some ⟨g',0,none⟩) (L.length+1) fq) (L.length+1) (L.flatMap K.cells++K.cells x)) (hx:K.fa base w x) (F0: ∀b,K.dR x b->b≠g/\ ∀q∈L,¬K.dR q b):iE K te base w' g' fq (L++[x]):=by
 have ht:Touch (λb=>b=g) w w':=Touch.aW hg (λb hb=>by injection hb with hb;exact hb.symm);refine ⟨by simpa using bi,λy hy=>?_,λy hy b hb=>?_,?_⟩
 ·rcases List.mem_append.1 hy with hy|hy
  ·exact K.aD (h.fa y hy) ht (λb hb e=>h.o y hy b hb e)
  rw[List.mem_singleton.1 hy];exact K.aD hx ht (λb hb e=>(F0 b hb).1 e)
 ·have aI:b<w.heap.size:=by
   rcases List.mem_append.1 hy with hy|hy
   ·exact (K.lt (h.fa y hy) hb).2
   rw[List.mem_singleton.1 hy]at hb;exact (K.lt hx hb).2
  have YO:b≠g:=by
   rcases List.mem_append.1 hy with hy|hy
   ·exact h.o y hy b hb
   rw[List.mem_singleton.1 hy]at hb;exact (F0 b hb).1
  rcases gd with e|e
  ·rw[e];exact YO
  omega
 rw[List.pairwise_append];refine ⟨h.two,List.pairwise_singleton _ _,λp hp q hq b h1 h2=>?_⟩;rw[List.mem_singleton.1 hq]at h2;exact (F0 b h2).2 p hp h1
theorem iE.tree {β:Type} {K:Kind β} {te:TypeId} {base:Nat} {w:World} {g cap:Nat} {L:List β} (h:iE K te base w g cap L):aR K base w (.slice (some ⟨g,0,none⟩) L.length cap) L:=
 ⟨ay.bI K.cells K.len h.row,h.fa,λq hq b hb e=>h.o q hq b hb (by injection e with e;exact e.symm),h.two⟩
theorem iE.lt {β:Type} {K:Kind β} {te:TypeId} {base:Nat} {w:World} {g cap:Nat} {L:List β} (h:iE K te base w g cap L):base<=g/\g<w.heap.size:=h.row.lt g rfl
theorem MG:(prog.info? 198).map (λi=>(i.zero,i.size,i.bytes))=some (some (.agg #[.bool false,.slice none 0 0]),2,32):=by kernel_rfl
def rY (zs:List Int) (w:World) (e:Ending) (w':World):Prop:= ∃A c,e= .returned (.slice A zs.length c)/\ay ak zs w.heap.size w' (.slice A zs.length c)/\Below w.heap.size w w'
theorem pV (zs:List Int) (w:World) (v:Value) (h:aae w w.heap.size v zs) (hl:zs.length<=1048576):Calls prog 65 #[v] w (rY zs w):=by
 have bW:=(Below.refl w.heap.size w).alloc (Nat.le_refl _) (.cells #[] 2);have FR:=I (cz.on h (Pl.stays _) bW bW.size);have jT:=I bW;have cN:(w.alloc (.cells #[] 2)).ownsRow w.heap.size 2 1 (.slice (some ⟨w.heap.size,0,none⟩) 0 0) 0 []:=by simpa using World.ownsRow_made w #[] 0 (Nat.le_refl _) (Nat.zero_le _) rfl
 have dY:=I cN;obtain ⟨T,tc,rfl,_⟩:=h;obtain ⟨i0,hi,dK,ez,ek⟩:=info_parts iD;clear bW cN;go_enter func65,ntmps65;go_wp2_with (at_builtin;refine eI ak rfl _ _ 35 rfl w.heap.size 2 i0 (.int .i64 0) 1 8 underlying35 hi dK ez ek rfl (by decide) _ _ _ rfl dY.o _ zs _ rfl FR.o (λ_=>rfl) (λy u hu=>cf _ hu) ?c3 ?c4 jT.o.size ?_);case c3=>unfold maxLen;omega
 case c4=>omega
 intro o1 w1 fe gC uv;have jh:ag (ay ak zs w.heap.size w1 o1):=I (ay.bI ak (size:=1) (λ_=>rfl) (by simpa using fe));have da:ag (Below w.heap.size w w1):=I (jT.o.grown gC jT.o.size (λj hj=>(dY.o.lt j hj).1));obtain ⟨A1,c1,rfl,_⟩:=jh.o;clear fe gC uv;go_wp2;go_ret;exact ⟨_,_,rfl,jh.o,da.o⟩
def eF (vs:List Int) (tr:List (List Int)):List lW:=List.zipWith (λv l=>⟨v !=0,l⟩) vs tr
theorem we {vs:List Int} {tr:List (List Int)} {k:Nat} (h1:k<vs.length) (h2:k<tr.length):(eF vs tr)[k]?=some ⟨vs[k] !=0,tr[k]⟩:=by
 unfold eF;rw[List.getElem?_zipWith];simp[h1,h2]
theorem ew {vs:List Int} {tr:List (List Int)} (h:vs.length=tr.length):(eF vs tr).length=tr.length:=by unfold eF;simp[h]
theorem ud {vs:List Int} {tr:List (List Int)} {L:List oh} {k:Nat} (hL:L.map (·.a)=(eF vs tr).take k) (h1:k<vs.length) (h2:k<tr.length) {x:oh} (hx:x.a=⟨vs[k] !=0,tr[k]⟩):(L++[x]).map (·.a)=(eF vs tr).take (k+1):=by
 obtain ⟨q1,q2⟩:=List.getElem?_eq_some_iff.1 (we h1 h2);rw[List.map_append,hL,List.map_cons,List.map_nil,hx,List.take_succ_eq_append_getElem q1,q2]
def pW (vs:List Int) (tr:List (List Int)) (w:World) (e:Ending) (w':World):Prop:=
 ∃A c L,e= .returned (.slice A L.length c)/\L.map (·.a)=eF vs tr/\aR qj w.heap.size w' (.slice A L.length c) L/\Below w.heap.size w w'
theorem E5 {x:oh} {A:Option Addr} {n c:Nat} (h:x.v= .slice A n c) {u:Value} (hu:u∈nI x):u.oneCell'=true:=by
 unfold nI at hu;rw[h]at hu;simp only[List.mem_cons,List.not_mem_nil,or_false]at hu;rcases hu with rfl|rfl<;>rfl
theorem BG (a:cp) (At:Option Addr) (ct:Nat) (vs:List Int) (b o:Nat) (Av:Option Addr) (cv:Nat) (w:World) (k2:w.cell? ⟨b,o+2,none⟩=some (.slice At a.af.length ct)) (hT:kH w w.heap.size (.slice At a.af.length ct) a.af) (hV:aae w w.heap.size (.slice Av vs.length cv) vs) (hl:vs.length=a.af.length) (hn:a.af.length<=1000) (h4: ∀l∈a.af,l.length<=1048576):
 Calls prog 135 #[.pointer (some ⟨b,o,none⟩),.slice Av vs.length cv] w (pW vs a.af w):=by
 obtain ⟨A',c',hv,_,_,cn⟩:=fY hT;injection hv with e1 e2 e3
 subst e1;have gH:=I cn;have HV:=I hV;have jO:=I k2;have H4:=I h4;have HIV:=I (λW (hb:Below w.heap.size w W)=>hT.on hb hb.size);obtain ⟨i0,hi,dK,ez,ek⟩:=info_parts MG;have qf:b<w.heap.size:=World.block_lt_of_cell? w _ k2;have cN:(w.alloc (.cells #[] 198)).ownsRow w.heap.size 198 2 (.slice (some ⟨w.heap.size,0,none⟩) 0 0) 0 []:=by simpa using World.ownsRow_made w #[] 0 (Nat.le_refl _) (Nat.zero_le _) rfl
 have KQ:ag (iE qj 198 w.heap.size (w.alloc (.cells #[] 198)) w.heap.size 0 []):=I (iE.start qj _ cN);have jT:ag (Below w.heap.size w (w.alloc (.cells #[] 198))):=I ((Below.refl _ _).alloc (Nat.le_refl _) _);unfold pW;have HL:=I hl;have YP:vs.length<=1000:=by omega
 have YQ:vs.length<=a.af.length:=by omega
 clear hT hV cn e2 e3 cN k2 h4 hl;go_enter func135,ntmps135;go_wp2;go_loopw [5,6] (λo' i wr=> ∃(k g cap:Nat) (L:List oh),i= .int .i64 (k:Int)/\k<=vs.length/\o'= .slice (some ⟨g,0,none⟩) L.length cap/\L.map (·.a)=(eF vs a.af).take k/\iE qj 198 w.heap.size wr g cap L/\Below w.heap.size w wr) (λ_ i _=>vs.length-(RowKit.intOf i).toNat);case atStart=>exact ⟨0,w.heap.size,0,[],rfl,Nat.zero_le _,rfl,rfl,KQ.o,jT.o⟩
 case round=>
  obtain ⟨k,g,cap,L,rfl,hk,rfl,nJ,hD,hb⟩:=hrel
  have fG:L.length=k:=by
   have:=congrArg List.length nJ;rw[List.length_map,List.length_take,ew HL.o,<-HL.o]at this;omega
  have HD:=I hD;have HB:=I hb;have wh:=I nJ;clear nJ hD;by_cases aI:k<vs.length
  ·have qc:k<a.af.length:=by omega
   obtain ⟨Rd,ot,rfl,Re,aC⟩:=gH.o (by omega);obtain ⟨A1,c1,c0,_,hI⟩:=aC k _ (List.getElem?_eq_getElem qc);obtain ⟨bv,ov,rfl,JA,d0⟩:=cZ HV.o (List.getElem?_eq_getElem aI);have x0:=(hb.cell (p:=⟨bv,ov+k,none⟩) JA).trans d0;have x1:=(hb.cell (p:=⟨b,o+2,none⟩) qf).trans jO.o;have x2:=(hb.cell (p:=⟨Rd,ot+k,none⟩) Re).trans c0;have iG:=I (λ(x:oh) hx=>ud wh.o aI qc (x:=x) hx);have WC:=H4.o a.af[k] (List.getElem_mem qc);have tY:=I (λW (hb:Below w.heap.size w W)=>(cz.on hI (Pl.stays _) hb hb.size:aae W W.heap.size _ _));clear aC hI c0 d0;generalize a.af[k]=l at*;generalize vs[k]=z at*;have Ot:=HD.o.lt;have LF:=hb.size;have Hl:(k:Int)<(vs.length:Int):=by omega
   have jA:(0:Int)<=(k:Int):=Int.natCast_nonneg _;have Gz:Below wr.heap.size wr wr.drew:=(Below.refl _ _).drew;have ue:=I (pV l wr.drew _ (tY.o wr.drew (hb.trans (Gz.mono LF))) WC);unfold rY at ue;go_wp2_with (fail)
   try rw[fG]
   go_region_held3 (λw'=>w'.cell? ⟨bv,ov+k,none⟩=some (.int .i64 z)/\w'.cell? ⟨b,o+2,none⟩=some (.slice (some ⟨Rd,ot,none⟩) a.af.length ct)/\w'.cell? ⟨Rd,ot+k,none⟩=some (.slice A1 l.length c1))
    (first|exact ⟨x0,x1,x2⟩|exact fH ⟨x0,x1,x2⟩ Gz|exact fH (fH ⟨x0,x1,x2⟩ Gz) bw|exact fH (fH (fH ⟨x0,x1,x2⟩ Gz) bw) ((Below.refl _ _).alloc (Nat.le_refl _) _)|exact Br (fH (fH (fH ⟨x0,x1,x2⟩ Gz) bw) ((Below.refl _ _).alloc (Nat.le_refl _) _)) aA (by show bv≠g;omega) (by show b≠g;omega) (by show Rd≠g;omega)|go_keep)
    (first
     |(go_at_call 65
       refine ue.o.mono ?_;rintro e w1 ⟨A2,c2,rfl,vC,bw⟩;have jh:=I vC;have ux:Below wr.heap.size wr w1:=Gz.trans bw;have Ou:=I (λq (hq:q∈L) c (hc:qj.dR q c)=>(qj.lt (HD.o.fa q hq) hc).2);have ri:Below w1.heap.size w1 (w1.alloc (.cells #[.bool (z !=0),.slice A2 l.length c2] 198)):=(Below.refl _ _).alloc (Nat.le_refl _) _;have Hn:=I (iE.below (HD.o.below ux) ri);have JB:=(hb.trans (ux.mono LF)).trans (ri.mono (Nat.le_trans LF ux.size));have LG:=I JB;have fv:=I Hn.o.row;have UC:w.heap.size<=wr.drew.heap.size:=LF;have YR:wr.heap.size<=w1.heap.size:=ux.size;rw[fG]at fv;clear vC JB)
     |(refine er (by rfl) _ _ 187 (by rfl) w.heap.size 198 i0 (.agg #[.bool false,.slice none 0 0]) 2 32 underlying187 hi dK ez ek rfl (by decide) _ _ _ (by rfl) fv.o ⟨w1.heap.size,0,none⟩ 1 1 (nI ⟨⟨z !=0,l⟩,.slice A2 l.length c2⟩) (by rfl) (by rfl) (λj u hj=>by have:=(Row.new w1 (nI ⟨⟨z !=0,l⟩,.slice A2 l.length c2⟩).toArray 198).cell j u (by simpa using hj);rw[Addr.add_lit,Nat.zero_add];exact this) (λu hu=>E5 rfl hu) (by unfold maxLen;omega) (by omega) LG.o.size ?_
       intro v' w9 aG aA aU gd;obtain ⟨g',fq,rfl,qh,lB⟩:=bG aG (by simpa using aU);clear aU))
   have wi:=I (jh.o.on ri)
   have Dq:=I (iE.push (x:=⟨⟨z !=0,l⟩,.slice A2 l.length c2⟩) Hn.o aA (by rcases gd with h|h<;>injection h with h;exact .inl h;exact .inr (by simpa using h)) (by rw[fG];exact aG) (qj.less (x:=⟨⟨z !=0,l⟩,.slice A2 l.length c2⟩) wi.o UC) (λb hb=>by
    have q1:wr.heap.size<=b:=(ay.dw wi.o hb).1;exact ⟨by omega,λq hq mq=>by have q2:=Ou.o q hq b mq;omega⟩))
   have iM:=I ((LG.o).grown aA LG.o.size (λj hj=>(fv.o.lt j hj).1));clear aG aA gd;go_wp2;go_roundw;case rel=>exact ⟨k+1,g',fq,L++[⟨⟨z !=0,l⟩,.slice A2 l.length c2⟩],by go_num,by omega,by rw[List.length_append,List.length_singleton,fG],iG.o ⟨⟨z !=0,l⟩,.slice A2 l.length c2⟩ rfl,Dq.o,iM.o⟩
   case measure=>simp[RowKit.intOf];omega
  have eA: ¬(k:Int)<(vs.length:Int):=by omega
  have di:k=vs.length:=by omega
  have eB:ag (L.map (·.a)=eF vs a.af):=I (by rw[wh.o,di,List.take_of_length_le (by rw[ew HL.o,<-HL.o];omega)]);have UD:=I (HD.o.tree);clear di aI;go_wp2;go_ret;exact ⟨some ⟨g,0,none⟩,cap,L,by rw[fG];rfl,eB.o,UD.o,hb⟩
def UE (k:Nat) (x:oh):Nat:=k+1+x.a.tr.length
def UF (k:Nat) (x:oh):oh:=⟨⟨((k:Int).tmod 3==0),jr (k+1) x.a.tr.length⟩,x.v⟩
structure pf (a:cp):Prop where
 n1:1<=a.af.length
 n12:a.af.length<=12
 m6:a.ao.length<=6
 rule:0<=a.rule/\a.rule<=2
 af: ∀(k:Nat) (l:List Int),a.af[k]?=some l->cF l (k:Int) a.af.length=true
 ao: ∀(k:Nat) (m:gu),a.ao[k]?=some m->dD m a.day a.af.length=true
theorem pf.t4 {a:cp} (h:pf a): ∀l∈a.af,l.length<=4:=λl hl=>by
 obtain ⟨k,hk⟩:=List.getElem?_of_mem hl;have:=h.af k l hk;rw[fo,Bool.and_eq_true]at this;exact of_decide_eq_true this.2
theorem pf.ax {a:cp} (h:pf a) {k:Nat} {m:gu} (hk:a.ao[k]?=some m):m.ax.length=a.af.length:=by
 have:=h.ao k m hk;unfold dD at this;simp only[Bool.and_eq_true,beq_iff_eq]at this;have:=this.1.1.1.2;omega
theorem LH {α:Type} {p:α->Bool} {L:List α} (h:0<=kF p L): ∃k,∃hk:k<L.length,kF p L=k/\p L[k]=true:=by
 rcases hf:L.findIdx? p with _|k
 ·have e:kF p L= -1:=by unfold kF;rw[hf]
  omega
 obtain ⟨h1,h2,_⟩:=List.findIdx?_eq_some_iff_getElem.1 hf;exact ⟨k,h1,by unfold kF;rw[hf],h2⟩
def jU (a:cp) (t:ByteArray):gu:=(a.ao[(fX a.ao t).toNat]?).getD ⟨⟨#[]⟩,0,[],0,0,0,[],0⟩
noncomputable def PV (a:cp) (t:ByteArray):List lW:=if Jz a t=true then eF (jU a t).ax a.af else []
def nV (k:Nat) (x:lW):Nat:=k+1+x.tr.length
def YU (R:List lW):Jw where
 own b W v:= ∃L A c,v= .slice A L.length c/\L.map oh.a=R/\aR qj b W v L
 Rc b W v:= ∃L A c,v= .slice A L.length c/\L.map oh.a=R/\aR qj b W v (bL UF UE 1 L)
 n:=bs nV 1 R
 slice h:=by obtain ⟨L,A,c,e,_⟩:=h;exact ⟨A,_,c,e⟩
 aD h ht hF:=by
  obtain ⟨L,A,c,e,hm,hT⟩:=h;exact ⟨L,A,c,e,hm,hT.aD ht (λc hc hf=>by have q1:=(hT.lt hc).1;have q2:=hF c hf;omega)⟩
 DS h hb:=by
  obtain ⟨L,A,c,e,hm,hT⟩:=h;exact ⟨L,A,c,e,hm,hT.below hb⟩
structure JD (R:List lW):Prop where
 n:R.length<=12
 t: ∀x∈R,x.tr.length<=4
theorem JD.of {R:List lW} (h:JD R) {L:List oh} (hm:L.map oh.a=R):L.length<=12/\ ∀x∈L,x.a.tr.length<=4:=
 ⟨by have:=h.n;rw[<-hm,List.length_map]at this;exact this,λx hx=>h.t _ (by rw[<-hm];exact List.mem_map_of_mem hx)⟩
end Go.Proofs.YtbcggaldkihcaaaGreatDoor
