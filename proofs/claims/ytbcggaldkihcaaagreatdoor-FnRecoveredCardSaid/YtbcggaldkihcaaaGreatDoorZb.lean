/- Acts copied, walked: their patches share no block. (Printed by tools/gen/g_zb.py) -/
import Derived.Test.YtbcggaldkihcaaaGreatDoorQE
set_option maxHeartbeats 4000000
set_option maxRecDepth 100000
namespace Go.Proofs.YtbcggaldkihcaaaGreatDoor
open Tryz
open Go.RowKit Go.Lib
structure bM (base:Nat) (w:World) (g cap:Nat) (L:List bu):Prop where
 st:fV base w g cap L
 two:L.Pairwise (λp q=> ∀b,cw.dR p b-> ¬cw.dR q b)
theorem bM.row {base:Nat} {w:World} {g cap:Nat} {L:List bu} (h:bM base w g cap L):w.ownsRow base 139 3 (.slice (some ⟨g,0,none⟩) L.length cap) L.length (L.flatMap cu):=dL.row h.st
theorem bM.below {base:Nat} {w w':World} {g cap:Nat} {L:List bu} (h:bM base w g cap L) (hb:Below w.heap.size w w'):bM base w' g cap L:=⟨dL.below h.st hb,h.two⟩
theorem bM.dR {base:Nat} {w:World} {g cap:Nat} {L:List bu} (h:bM base w g cap L) {q:bu} (hq:q∈L) {b:Nat} (hb:cw.dR q b):base<=b/\b<w.heap.size:=ay.dw (dL.nt h.st q hq).1 hb
theorem bM.start {base:Nat} {w:World} {g cap:Nat} (h:w.ownsRow base 139 3 (.slice (some ⟨g,0,none⟩) 0 cap) 0 []):bM base w g cap []:=
 ⟨⟨mI _ _,λh=>absurd rfl h,mI _ _,λh=>absurd rfl h,h,λx hx=>by cases hx⟩,List.Pairwise.nil⟩
theorem bM.push {base:Nat} {w w':World} {g cap g' fq:Nat} {L:List bu} {x:bu} (h:bM base w g cap L) (hg:w.grownBy w' (some g)) (gd:g'=g\/g'=w.heap.size)
 (bi:w'.ownsRow base 139 3 (.slice (some ⟨g',0,none⟩) (L.length+1) fq) (L.length+1) (L.flatMap cu++cu x))
 (hx:ay ah x.a.pat base w x.v) (F0:x.a.pat≠[]->x.v.ownBlock≠some g) (TX:bS x.a.pat) (hf: ∀b,cx x.a.pat x.v b-> ∀q∈L,¬cw.dR q b):bM base w' g' fq (L++[x]):=by
 refine ⟨dL.push h.st hg gd bi hx F0 TX,?_⟩;rw[List.pairwise_append];refine ⟨h.two,List.pairwise_singleton _ _,λp hp q hq b h1 h2=>?_⟩;rw[List.mem_singleton.1 hq]at h2;exact hf b h2 p hp h1
theorem bM.tree {base:Nat} {w:World} {g cap:Nat} {L:List bu} (h:bM base w g cap L):aR cw base w (.slice (some ⟨g,0,none⟩) L.length cap) L:=
 ⟨ay.bI cu (size:=3) (λ_=>rfl) h.row,λx hx=>(dL.nt h.st x hx).1,λq hq b hb e=>by
  have h2:=(dL.nt h.st q hq).2.1 hb.1;rw[hb.2]at h2;exact h2 e.symm,h.two⟩
def uk (ls:List bo) (w:World) (e:Ending) (w':World):Prop:=
 ∃g cap L,e= .returned (.slice (some ⟨g,0,none⟩) L.length cap)/\L.map (·.a)=ls/\bM w.heap.size w' g cap L/\Below w.heap.size w w'
theorem lk (ls:List bo) (w:World) (v:Value) (h:eE w w.heap.size v ls) (ho:bJ ls=true):
 Calls prog 64 #[v] w (uk ls w):=by
 obtain ⟨A,c,rfl,hc,hm,cn⟩:=dk h;have gH:=I cn;have J1:=I ho;have IM:=eM ho;clear cn h ho;obtain ⟨i0,hi,dK,rF,ek⟩:=info_parts kf;obtain ⟨e0,po,pq,pr,mu⟩:=info_parts oG;have cN:(w.alloc (.cells #[] 139)).ownsRow w.heap.size 139 3 (.slice (some ⟨w.heap.size,0,none⟩) 0 0) 0 []:=by simpa using World.ownsRow_made w #[] 0 (Nat.le_refl _) (Nat.zero_le _) rfl
 have KQ:ag (bM w.heap.size (w.alloc (.cells #[] 139)) w.heap.size 0 []):=I bM.start cN;have jT:ag (Below w.heap.size w (w.alloc (.cells #[] 139))):=I ((Below.refl _ _).alloc (Nat.le_refl _) _);clear cN;go_enter func64,ntmps64;go_wp2;go_loopw [3,4] (λo i wr=> ∃(k g cap:Nat) (L:List bu),i= .int .i64 (k:Int)/\k<=ls.length/\o= .slice (some ⟨g,0,none⟩) L.length cap/\L.map (·.a)=ls.take k/\bM w.heap.size wr g cap L/\Below w.heap.size w wr) (λ_ i _=>ls.length-(RowKit.intOf i).toNat);case atStart=>exact ⟨0,w.heap.size,0,[],rfl,Nat.zero_le _,rfl,rfl,KQ.o,jT.o⟩
 case round=>
  obtain ⟨k,g,cap,L,rfl,hk,rfl,nJ,hD,hb⟩:=hrel
  have tf:L.length=k:=by
   have:=congrArg List.length nJ;rw[List.length_map,List.length_take]at this;omega
  have HD:=I hD;have HB:=I hb;have wh:=I nJ;clear nJ hD;by_cases aI:k<ls.length
  ·obtain ⟨b,off,rfl,bD,aC⟩:=gH.o (by omega);have aH:ls[k]?=some ls[k]:=List.getElem?_eq_getElem aI;obtain ⟨pv,c0,c1,c2,hE⟩:=aC k _ aH;have x0:=(hb.cell (p:=⟨b,off+k*3,none⟩) bD).trans c0;have x1:=(hb.cell (p:=⟨b,off+k*3+1,none⟩) bD).trans c1;have x2:=(hb.cell (p:=⟨b,off+k*3+2,none⟩) bD).trans c2;have OO:=I (lC (ep.1 (fj J1.o aH)).pat);have oz:=eZ (ep.1 (fj J1.o aH)).pat
   have iG:ag (∀x:bu,x.a=ls[k]->(L++[x]).map (·.a)=ls.take (k+1)):=I (λx hx=>by
    rw[List.map_append,wh.o,List.take_succ_eq_append_getElem aI,List.map_cons,List.map_nil,hx])
   have HE:ag (∀W,Below w.heap.size w W->bg W W.heap.size pv ls[k].pat):=I (λW h=>cz.on hE (Pl.stays _) h h.size);clear aC c0 c1 c2 aH;generalize ls[k]=a at*;have Lk:=HE.o wr hb;obtain ⟨pA,pc,rfl,_⟩:=Lk;have Hl:(k:Int)<(ls.length:Int):=by omega
   have jA:(0:Int)<=(k:Int):=Int.natCast_nonneg _;clear hE;have B5:=HD;have gf:=HB;have kd:b≠g:=by have:=(HD.o.row.lt g rfl).1;omega
   go_wp2_with (fail);have lX:wr.heap.size=wr.heap.size:=by simp
   have Ot:g<wr.heap.size:=by have:=(B5.o.row.lt g rfl).2;rw[lX]at this;exact this
   have Eh:w.heap.size<=wr.heap.size:=by have:=gf.o.size;rw[lX]at this;exact this
   have bw:Below wr.heap.size wr (wr.alloc (.cells #[] 93)).drew:=((Below.refl _ _).alloc (by rw[lX];exact Nat.le_refl _) _).drew;have wz:wr.heap.size<=(wr.alloc (.cells #[] 93)).drew.heap.size:=by rw[<-lX];exact bw.size
   have da:=I bw;have fe:(wr.alloc (.cells #[] 93)).ownsRow wr.heap.size 93 4 (.slice (some ⟨wr.heap.size,0,none⟩) 0 0) 0 []:=by rw[<-lX];simpa using World.ownsRow_made wr #[] 0 (Nat.le_refl _) (Nat.zero_le _) rfl
   have gW:=I fe.drew;have tN:=I (HE.o _ (gf.o.trans (bw.mono Eh)));clear fe bw;have fG:=tf
   try rw[tf]
   go_region_held3 (λw'=>w'.cell? ⟨b,off+k*3,none⟩=some (.int .i64 a.a8)/\w'.cell? ⟨b,off+k*3+1,none⟩=some (.int .i64 a.fin)/\w'.cell? ⟨b,off+k*3+2,none⟩=some (.slice pA a.pat.length pc))
    (first|exact ⟨x0,x1,x2⟩|exact fH ⟨x0,x1,x2⟩ ((Below.refl _ _).drew)|exact fH ⟨x0,x1,x2⟩ ((Below.refl _ _).alloc (Nat.le_refl _) _)|exact fH ⟨x0,x1,x2⟩ (((Below.refl _ _).alloc (Nat.le_refl _) _).drew)|exact kD ⟨x0,x1,x2⟩ dy.o lX|exact fH (kD ⟨x0,x1,x2⟩ dy.o lX) ((Below.refl _ _).alloc (Nat.le_refl _) _)|exact Br (fH (kD ⟨x0,x1,x2⟩ dy.o lX) ((Below.refl _ _).alloc (Nat.le_refl _) _)) aA kd kd kd|go_keep)
    (first
     |(refine gL ah (by rfl) _ _ 36 (by rfl) wr.heap.size 93 e0 (.agg #[.int .i64 0,.int .i64 0,.string ⟨#[]⟩,.string ⟨#[]⟩]) 4 48 underlying36 po pq pr mu rfl (by decide) _ _ _ (by rfl) gW.o _ a.pat _ (by rfl) tN.o (λ_=>rfl) (λy u hu=>cJ hu) (by unfold maxLen;omega) (by omega) wz ?_
       intro v2 w2 aY aw cY;have ju:ag (ay ah a.pat wr.heap.size w2 v2):=I (ay.bI ah (size:=4) (λ_=>rfl) (by simpa using aY));have dy:ag (Below wr.heap.size wr w2):=I (da.o.grown aw wz (λj hj=>(gW.o.lt j hj).1));have Ei:=I (bM.below B5.o (by rw[lX];exact dy.o));have my:=I (gf.o.trans (dy.o.mono Eh))
       have D9:ag (a.pat≠[]->v2.ownBlock≠some g):=I (λh0 e=>by
        obtain ⟨j,hj,h1,_⟩:=ju.o.dR h0;rw[hj]at e;injection e with e
        omega)
       obtain ⟨A2,c2,rfl,_⟩:=ju.o
       have MU:ag (∀b,cx a.pat (.slice A2 a.pat.length c2) b-> ∀q∈L,¬cw.dR q b):=I (λb hb q hq mq=>by
        have q1:=(ay.dw ju.o hb).1;have q2:=(B5.o.dR hq mq).2;rw[lX]at q2;omega)
       have pS:=I (ju.o.less Eh);have ri:Below w2.heap.size w2 (w2.alloc (.cells #[.int .i64 a.a8,.int .i64 a.fin,.slice A2 a.pat.length c2] 139)):=(Below.refl _ _).alloc (Nat.le_refl _) _;have LX:=I (bM.below Ei.o ri);have LY:=I (pS.o.on ri);have fv:=I (Ei.o.row.alloc (.cells #[.int .i64 a.a8,.int .i64 a.fin,.slice A2 a.pat.length c2] 139));rw[fG]at fv;clear aY aw cY ri)
     |(refine er (by rfl) _ _ 26 (by rfl) w.heap.size 139 i0 (.agg #[.int .i64 0,.int .i64 0,.slice none 0 0]) 3 40 underlying26 hi dK rF ek rfl (by decide) _ _ _ (by rfl) fv.o ⟨w2.heap.size,0,none⟩ 1 1 (cu ⟨⟨a.a8,a.fin,a.pat⟩,.slice A2 a.pat.length c2⟩) (by rfl) (by rfl) (λj u hj=>by have:=(Row.new w2 (cu ⟨⟨a.a8,a.fin,a.pat⟩,.slice A2 a.pat.length c2⟩).toArray 139).cell j u (by simpa using hj);rw[Addr.add_lit,Nat.zero_add];exact this) (λu hu=>oX rfl hu) (by unfold maxLen;omega) (by omega) (aS my.o.size) ?_
       intro v' w9 aG aA aU gd;obtain ⟨g',fq,rfl,qh,lB⟩:=bG aG (by simpa using aU);clear aU))
   have CJ:=I (LX.o.push (x:=⟨⟨a.a8,a.fin,a.pat⟩,.slice A2 a.pat.length c2⟩) aA (by rcases gd with h|h<;>injection h with h;exact .inl h;exact .inr (by simpa using h)) (by rw[fG];exact aG) LY.o D9.o OO.o MU.o);have iM:=I ((my.o.alloc my.o.size (.cells #[.int .i64 a.a8,.int .i64 a.fin,.slice A2 a.pat.length c2] 139)).grown aA (aS my.o.size) (λj hj=>(fv.o.lt j hj).1));clear aG aA gd;go_wp2;go_roundw;case rel=>exact ⟨k+1,g',fq,L++[(⟨⟨a.a8,a.fin,a.pat⟩,.slice A2 a.pat.length c2⟩:bu)],by go_num,by omega,by rw[List.length_append,List.length_singleton,fG],iG.o _ rfl,CJ.o,iM.o⟩
   case measure=>simp[RowKit.intOf];omega
  have eA: ¬(k:Int)<(ls.length:Int):=by omega
  have di:k=ls.length:=by omega
  have eB:ag (L.map (·.a)=ls):=I (by rw[wh.o,di,List.take_length]);clear di aI;go_wp2;go_ret;exact ⟨g,cap,L,by rw[tf];rfl,eB.o,HD.o,hb⟩
end Go.Proofs.YtbcggaldkihcaaaGreatDoor
