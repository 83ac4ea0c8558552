/- The text of a deed, walked: the reference's. -/
import Derived.Test.YtbcggaldkihcaaaGreatQA
import Derived.Lib.ConvBytes
import Derived.BigQuiet
import Derived.Laws.AppendOwn
import Derived.Laws.CopyOwn
import Derived.Laws.IdiomCopy
import Derived.Lib.SliceRun
import Derived.Deep.RegionLaw
import Derived.Laws.StructEq
import Derived.RegionCalls
set_option maxHeartbeats 4000000
set_option maxRecDepth 100000
namespace Go.Proofs.YtbcggaldkihcaaaGreat
open Tryz
open Go.RowKit Go.Lib
theorem aaE:type_of% @List.length_set:=@List.length_set
theorem aaS:type_of% @List.length_drop:=@List.length_drop
theorem abu:type_of% @List.drop_eq_getElem_cons:=@List.drop_eq_getElem_cons
theorem aaI:type_of% @List.append_assoc:=@List.append_assoc
theorem aaJ:type_of% @List.take_of_length_le:=@List.take_of_length_le
theorem abB:type_of% @List.drop_eq_nil_of_le:=@List.drop_eq_nil_of_le
theorem abv:type_of% @List.append_nil:=@List.append_nil
theorem aaF:type_of% @List.mem_cons:=@List.mem_cons
theorem abG:type_of% @List.take_append_drop:=@List.take_append_drop
theorem abw:type_of% @Go.run_underlying:=@Go.run_underlying
theorem ab0:type_of% @List.map_toArray:=@List.map_toArray
theorem aa4:type_of% @List.map_cons:=@List.map_cons
theorem abl:type_of% @List.map_nil:=@List.map_nil
theorem abf:type_of% @List.flatMap_append:=@List.flatMap_append
theorem abm:type_of% @List.take_left':=@List.take_left'
theorem aaP:type_of% @Nat.min_eq_left:=@Nat.min_eq_left
theorem abg:type_of% @Go.wpList_append_own:=@Go.wpList_append_own
theorem abp:type_of% @List.length_pos_iff:=@List.length_pos_iff
theorem abC:type_of% @Nat.mul_comm:=@Nat.mul_comm
theorem abH:type_of% @Nat.add_assoc:=@Nat.add_assoc
theorem aaQ:type_of% @Go.Addr.add_lit:=@Go.Addr.add_lit
theorem aaq:type_of% @Go.info_parts:=@Go.info_parts
theorem aap:type_of% @List.length_map:=@List.length_map
theorem aaX:type_of% @List.getElem?_map:=@List.getElem?_map
theorem aaT:type_of% @Go.bodyPost_ret:=@Go.bodyPost_ret
theorem ab1:type_of% @List.set_cons_zero:=@List.set_cons_zero
theorem aa9:type_of% @List.pairwise_cons:=@List.pairwise_cons
theorem abq:type_of% @List.mem_or_eq_of_mem_set:=@List.mem_or_eq_of_mem_set
theorem aa2:type_of% @List.getElem?_of_mem:=@List.getElem?_of_mem
theorem abQ:type_of% @List.getElem?_set_self:=@List.getElem?_set_self
theorem abR:type_of% @List.getElem?_set_ne:=@List.getElem?_set_ne
theorem abn:type_of% @List.pairwise_iff_getElem:=@List.pairwise_iff_getElem
theorem abD:type_of% @List.map_set:=@List.map_set
theorem abb:type_of% @Nat.sub_self:=@Nat.sub_self
theorem aaY:type_of% @List.pairwise_append:=@List.pairwise_append
theorem aaA:type_of% @List.mem_cons_self:=@List.mem_cons_self
theorem aaR:type_of% @List.mem_cons_of_mem:=@List.mem_cons_of_mem
theorem ajZ:type_of% @beq_iff_eq:=@beq_iff_eq
theorem abr:type_of% @List.mem_append_left:=@List.mem_append_left
theorem aa5:type_of% @List.mem_append_right:=@List.mem_append_right
theorem abS:type_of% @List.mem_range:=@List.mem_range
theorem Fy (d:dr) (b o:Nat) (A1:Option Addr) (c1:Nat) (A2:Option Addr) (c2:Nat) (w:World) (h:fp w b o d A1 c1 A2 c2):
 Calls prog 94 #[.pointer (some ⟨b,o,none⟩)] w (bT (.bool (cA d)) w):=by
 by_cases k1:d.kind=1
 ·exact H' d b o A1 c1 A2 c2 w h k1
 by_cases k2:d.kind=2
 ·exact Ia d b o A1 c1 A2 c2 w h k2
 by_cases k3:d.kind=3
 ·exact Ib d b o A1 c1 A2 c2 w h k3
 by_cases k4:d.kind=4
 ·exact Ic d b o A1 c1 A2 c2 w h k4
 have OK:=I (AA k1 k2 k3 k4);have b1:(d.kind==1)=false:=by simp[k1]
 have b2:(d.kind==2)=false:=by simp[k2]
 have b3:(d.kind==3)=false:=by simp[k3]
 have b4:(d.kind==4)=false:=by simp[k4]
 have z0:=λy:ar w=>y.cell h.k0;have z1:=λy:ar w=>y.cell h.k1;clear h k1 k2 k3 k4;refine aL λx0=>?_;go_enter func94,ntmps94;go_wp2_with (fail);refine (az (rl _ _ _ _)).mono ?_;rintro e _ ⟨rfl,y,rfl⟩;go_wp2;go_ret;exact ⟨by rw[OK.o];rfl,y.ok⟩
structure uX (w:World) (g:Nat) (l:List UInt8):Prop where
 cell: ∀j (c:UInt8),l[j]?=some c->w.cell? ⟨g,j,none⟩=some (.int .u8 (c.toNat:Int))
 free: ∀j,j<l.length->w.frozen? ⟨g,j,none⟩=false
def swp (fr XK:UInt8) (l:List UInt8) (k:Nat):List UInt8:=(l.take k).map (λc=>if c=fr then XK else c)++l.drop k
theorem uX.set {w:World} {g:Nat} {l:List UInt8} (h:uX w g l) (k:Nat) (c:UInt8) (hk:k<l.length):uX (w.setCell ⟨g,k,none⟩ (.int .u8 (c.toNat:Int))) g (l.set k c) where
 cell:=λj d hj=>by
  by_cases e:k=j
  ·subst e;rw[List.getElem?_set,aaj rfl,aaj hk]at hj;injection hj with hj
   subst hj;have:=h.cell k l[k] (aag hk);exact World.cell?_setCell_same _ _ _ this
  rw[List.getElem?_set,aah e]at hj;rw[World.cell?_setCell_other _ _ _ _ (by intro h;injection h with _ h;exact e h)];exact h.cell j d hj
 free:=λj hj=>by
  rw[aaE]at hj;rw[World.frozen?_setCell];exact h.free j hj
def Qp (l:List UInt8):Nat:=l.foldl (λn c=>if 48<=c.toNat/\c.toNat<=57 then 10*n+(c.toNat-48)else n) 0
def Wa (l:List UInt8):Int:=if l.head?.map (·.toNat)=some 45 then-(Qp l:Int)else (Qp l:Int)
structure Row (w:World) (g:Nat) (L:List Value):Prop where
 cell: ∀j u,L[j]?=some u->w.cell? ⟨g,j,none⟩=some u
 free: ∀j,j<L.length->w.frozen? ⟨g,j,none⟩=false
theorem Row.set {w:World} {g:Nat} {L:List Value} (h:Row w g L) (k:Nat) (u:Value) (hk:k<L.length):Row (w.setCell ⟨g,k,none⟩ u) g (L.set k u) where
 cell:=λj d hj=>by
  by_cases e:k=j
  ·subst e;rw[List.getElem?_set,aaj rfl,aaj hk]at hj;injection hj with hj
   subst hj;exact World.cell?_setCell_same _ _ _ (h.cell k L[k] (aag hk))
  rw[List.getElem?_set,aah e]at hj;rw[World.cell?_setCell_other _ _ _ _ (by intro h;injection h with _ h;exact e h)];exact h.cell j d hj
 free:=λj hj=>by
  rw[aaE]at hj;rw[World.frozen?_setCell];exact h.free j hj
theorem Row.below {w w':World} {g B:Nat} {L:List Value} (h:Row w g L) (hb:Below B w w') (hg:g<B):Row w' g L:=
 ⟨λj u hj=>(hb.cell (p:=⟨g,j,none⟩) hg).trans (h.cell j u hj),λj hj=>(hb.frozen (p:=⟨g,j,none⟩) hg).trans (h.free j hj)⟩
theorem Row.nP {w:World} {g:Nat} {L:List Value} {p:Addr} (h:Row w g L) (u:Value) (hp:p.block≠g):Row (w.setCell p u) g L:=
 ⟨λj v hj=>(World.cell?_setCell_far w p ⟨g,j,none⟩ u hp).trans (h.cell j v hj),λj hj=>by rw[World.frozen?_setCell];exact h.free j hj⟩
theorem Row.new (w:World) (cs:Array Value) (e:TypeId):Row (w.alloc (.cells cs e)) w.heap.size cs.toList where
 cell:=λj u hj=>by
  have:cs[j]?=some u:=by simpa using hj
  simpa [go_sem]using this
 free:=λj hj=>by simp[go_sem]
theorem cz.CS {α:Type} (f:α->List Value) {size:Nat} {w:World} {g c:Nat} {xs:List α} (hf: ∀x,(f x).length=size) (h:Row w g (xs.flatMap f)) (hg:g<w.heap.size) (hc:xs.length<=c) (hm:c<=maxLen):cz (Pl f) size w w.heap.size (.slice (some ⟨g,0,none⟩) xs.length c) xs:=by
 refine ⟨_,c,rfl,hc,hm,λh0=>⟨g,0,rfl,hg,λk x hx=>⟨f x,hf x,rfl,λj u hu=>?_⟩⟩⟩;have hj:j<size:=by rw[<-hf x];exact (aal.1 hu).1
 rw[aan];exact h.cell _ u (l5 f hf xs k x j u hx hu hj)
def ay {α:Type} (f:α->List Value) (xs:List α) (base:Nat) (w:World) (v:Value):Prop:=
 ∃A c,v= .slice A xs.length c/\xs.length<=c/\c<=maxLen/\(xs≠[]-> ∃g,A=some ⟨g,0,none⟩/\base<=g/\g<w.heap.size/\Row w g (xs.flatMap f))
theorem ay.bI {α:Type} (f:α->List Value) {size:Nat} {w:World} {base:Nat} {e:TypeId} {v:Value} {xs:List α} (hf: ∀x,(f x).length=size) (h:w.ownsRow base e size v xs.length (xs.flatMap f)):ay f xs base w v:=by
 have hS:=cz.bI f hf h;obtain ⟨hl,h|⟨g,cap,kT,rfl,hg,hh,h1,h2,h3,h4⟩⟩:=h
 ·obtain ⟨rfl,h0⟩:=h;have:xs=[]:=abO h0;subst this;exact ⟨none,0,rfl,aad _,aaf _,λh=>absurd rfl h⟩
 refine ⟨_,cap,rfl,h1,h2,λh0=>⟨g,rfl,hg,?_,⟨λj u hj=>?_,λj hj=>?_⟩⟩⟩
 ·rcases abo g w.heap.size with aI|eA
  ·exact aI
  rw[ab5 eA]at hh;cases hh
 ·have aI:j<xs.length*size:=by rw[<-hl];exact (aal.1 hj).1
  have Nq:kT[j]?=some u:=by rw[<-Array.getElem?_toList,<-hj,<-h4,abP,aaj aI]
  simp[World.cell?,hh,Nq]
 have aI:j<xs.length*size:=by rw[<-hl];exact hj
 have ur:xs.length*size<=cap*size:=abX _ h1;simp[World.frozen?,hh]
theorem ay.on {α:Type} {f:α->List Value} {xs:List α} {base:Nat} {w w':World} {v:Value} (h:ay f xs base w v) (hb:Below w.heap.size w w'):ay f xs base w' v:=by
 obtain ⟨A,c,rfl,h1,h2,h3⟩:=h;refine ⟨A,c,rfl,h1,h2,λh0=>?_⟩;obtain ⟨g,e,hg,aI,hr⟩:=h3 h0;exact ⟨g,e,hg,aar aI hb.size,hr.below hb aI⟩
theorem ay.less {α:Type} {f:α->List Value} {xs:List α} {base b:Nat} {w:World} {v:Value} (h:ay f xs base w v) (hb:b<=base):ay f xs b w v:=by
 obtain ⟨A,c,rfl,h1,h2,h3⟩:=h;refine ⟨A,c,rfl,h1,h2,λh0=>?_⟩;obtain ⟨g,e,hg,aI,hr⟩:=h3 h0;exact ⟨g,e,aaB hb hg,aI,hr⟩
theorem ay.mo {α:Type} {f:α->List Value} {size:Nat} {xs:List α} {base:Nat} {w:World} {v:Value} (hf: ∀x,(f x).length=size) (h:ay f xs base w v):cz (Pl f) size w w.heap.size v xs:=by
 obtain ⟨A,c,rfl,h1,h2,h3⟩:=h;by_cases h0:xs=[]
 ·subst h0;exact cz.nil _ _ _ _ _ _ h2
 obtain ⟨g,rfl,hg,aI,hr⟩:=h3 h0;exact cz.CS f hf hr aI h1 h2
theorem ay.nil {α:Type} (f:α->List Value) (base:Nat) (w:World):ay f ([]:List α) base w (.slice none 0 0):=⟨none,0,rfl,aad _,aaf _,λh=>absurd rfl h⟩
theorem rr {w:World} {base:Nat} {e:TypeId} {size n:Nat} {v:Value} {xs:List Value} (h:w.ownsRow base e size v n xs): ∃A c,v= .slice A n c/\n<=c/\c<=maxLen:=by
 obtain ⟨hl,h|⟨g,cap,kT,rfl,hg,hh,h1,h2,h3,h4⟩⟩:=h
 ·obtain ⟨rfl,rfl⟩:=h;exact ⟨none,0,rfl,aad _,aaf _⟩
 exact ⟨_,cap,rfl,h1,h2⟩
def Lb (w:World) (v:Value) (ls:List (List UInt8)):Prop:=cz (Pl K7) 1 w w.heap.size v ls
theorem Lb.on {w w':World} {v:Value} {ls:List (List UInt8)} (h:Lb w v ls) (hb:Below w.heap.size w w'):Lb w' v ls:=cz.on h (Pl.stays _) hb hb.size
theorem cq {α:Type} (f:α->List Value) (xs:List α) (x:α):(xs++[x]).flatMap f=xs.flatMap f++f x:=by simp
theorem Ig {α:Type} {R:World->Nat->List Value->α->Prop} {size:Nat} {w:World} {B n c:Nat} {A:Option Addr} {xs:List α} (h:cz R size w B (.slice A n c) xs):n=xs.length/\xs.length<=c/\c<=9223372036854775807:=by
 obtain ⟨A',c',hv,h1,h2,h3⟩:=h;injection hv with e1 e2 e3
 unfold maxLen at h2;exact ⟨e2,by omega,by omega⟩
theorem fB {α:Type} {R:World->Nat->List Value->α->Prop} {size:Nat} {w:World} {B n c:Nat} {A:Option Addr} {xs:List α} (h:cz R size w B (.slice A n c) xs):n=xs.length/\xs.length<=c/\c<=9223372036854775807:=Ig h
theorem kU {w:World} {B n c k:Nat} {A:Option Addr} {es:List aV} {e:aV} (h:bg w B (.slice A n c) es) (hk:es[k]?=some e):
 ∃b off,A=some ⟨b,off,none⟩/\b<B/\w.cell? ⟨b,off+k*4,none⟩=some (.int .i64 e.kind)/\w.cell? ⟨b,off+k*4+1,none⟩=some (.int .i64 e.id)/\w.cell? ⟨b,off+k*4+2,none⟩=some (.string e.dA)/\w.cell? ⟨b,off+k*4+3,none⟩=some (.string e.new):=by
 obtain ⟨A',c',hv,h1,h2,h3⟩:=h;injection hv with e1 e2 e3
 subst e1;have aI:k<es.length:=(aal.1 hk).1;obtain ⟨b,off,hA,hb,hc⟩:=h3 (by omega);exact ⟨b,off,hA,hb,ln hc hk⟩
theorem cZ {w:World} {B n c k:Nat} {A:Option Addr} {zs:List Int} {z:Int} (h:Ints w B (.slice A n c) zs) (hk:zs[k]?=some z):
 ∃b off,A=some ⟨b,off,none⟩/\b<B/\w.cell? ⟨b,off+k,none⟩=some (.int .i64 z):=by
 obtain ⟨A',c',hv,h1,h2,h3⟩:=h;injection hv with e1 e2 e3
 subst e1;have aI:k<zs.length:=(aal.1 hk).1;obtain ⟨b,off,hA,hb,hc⟩:=h3 (by omega);exact ⟨b,off,hA,hb,ints_at hc hk⟩
theorem qz (zs:List Int) (A1:Option Addr) (n1 c1:Nat) (A2:Option Addr) (n2 c2:Nat) (w:World) (h1:Ints w w.heap.size (.slice A1 n1 c1) zs) (h2:Ints w w.heap.size (.slice A2 n2 c2) zs):
 Calls prog 135 #[.slice A1 n1 c1,.slice A2 n2 c2] w (bT (.bool true) w):=by
 obtain ⟨rfl,e1,g1⟩:=fB h1;obtain ⟨rfl,e2,g2⟩:=fB h2;have H1:=I h1;have H2:=I h2;have rn:zs.length<=9223372036854775807:=by omega
 clear h1 h2;refine aL λx0=>?_;go_enter func135,ntmps135;go_wp2;go_loopw [5] (λi wr=> ∃(k:Nat) (x:ar w),k<=zs.length/\i= .int .i64 (k:Int)/\wr=x.val) (λi _=>zs.length-(intOf i).toNat);case atStart=>exact ⟨0,x0,aaf _,rfl,rfl⟩
 case round=>
  obtain ⟨k,x,hk,rfl,rfl⟩:=hrel;by_cases aI:k<zs.length
  ·have aH:zs[k]?=some zs[k]:=aag aI;obtain ⟨b,off,rfl,hb,c0⟩:=cZ H1.o aH;obtain ⟨b',xw,rfl,dF,c1⟩:=cZ H2.o aH;have z0:=λy:ar w=>y.cell c0;have z1:=λy:ar w=>y.cell c1;clear aH c0 c1;generalize zs[k]=z at*;go_wp2_with (fail);refine ap (by kernel_rfl) (by kernel_rfl) ?_
   repeat (go_big_quiet_step (fail))
   refine aai ?_;rintro _ ⟨y,rfl⟩;go_wp2;go_roundw;case rel=>exact ⟨k+1,y,by omega,by go_num,rfl⟩
   case measure=>simp[intOf];omega
  have eA: ¬(k:Int)<(zs.length:Int):=by omega
  go_wp2;go_ret;exact ⟨rfl,x.ok⟩
theorem CT (e:aV) (w:World):
 Calls prog 175 #[.agg #[.int .i64 e.kind,.int .i64 e.id,.string e.dA,.string e.new],.agg #[.int .i64 e.kind,.int .i64 e.id,.string e.dA,.string e.new]] w (bT (.bool true) w):=by
 go_enter func175,ntmps175;go_wp2;go_ret;exact ⟨rfl,((aae _ _).alloc (aad _) _).alloc (by simp) _⟩
theorem oE (es:List aV) (A1:Option Addr) (n1 c1:Nat) (A2:Option Addr) (n2 c2:Nat) (w:World) (h1:bg w w.heap.size (.slice A1 n1 c1) es) (h2:bg w w.heap.size (.slice A2 n2 c2) es):
 Calls prog 139 #[.slice A1 n1 c1,.slice A2 n2 c2] w (bT (.bool true) w):=by
 obtain ⟨rfl,e1,g1⟩:=fB h1;obtain ⟨rfl,e2,g2⟩:=fB h2;have H1:=I h1;have H2:=I h2;have rn:es.length<=9223372036854775807:=by omega
 clear h1 h2;refine aL λx0=>?_;go_enter func139,ntmps139;go_wp2;go_loopw [5] (λi wr=> ∃(k:Nat) (x:ar w),k<=es.length/\i= .int .i64 (k:Int)/\wr=x.val) (λi _=>es.length-(intOf i).toNat);case atStart=>exact ⟨0,x0,aaf _,rfl,rfl⟩
 case round=>
  obtain ⟨k,x,hk,rfl,rfl⟩:=hrel;by_cases aI:k<es.length
  ·have aH:es[k]?=some es[k]:=aag aI;obtain ⟨b,off,rfl,hb,c0,c1,c2,c3⟩:=kU H1.o aH;obtain ⟨b',xw,rfl,dF,d0,d1,d2,d3⟩:=kU H2.o aH;have z0:=λy:ar w=>y.cell c0;have z1:=λy:ar w=>y.cell c1;have z2:=λy:ar w=>y.cell c2;have z3:=λy:ar w=>y.cell c3;have t0:=λy:ar w=>y.cell d0;have t1:=λy:ar w=>y.cell d1;have t2:=λy:ar w=>y.cell d2;have t3:=λy:ar w=>y.cell d3;clear aH c0 c1 c2 c3 d0 d1 d2 d3;generalize es[k]=e at*;go_wp2_with (fail);refine ap (by kernel_rfl) (by kernel_rfl) ?_
   repeat (go_big_quiet_step ((first|(go_at_call 175;exact aq (CT e _)))))
   refine aai ?_;rintro _ ⟨y,rfl⟩;go_wp2;go_roundw;case rel=>exact ⟨k+1,y,by omega,by go_num,rfl⟩
   case measure=>simp[intOf];omega
  have eA: ¬(k:Int)<(es.length:Int):=by omega
  go_wp2;go_ret;exact ⟨rfl,x.ok⟩
theorem CU (d:dr) (A1:Option Addr) (n1 c1:Nat) (A2:Option Addr) (n2 c2:Nat) (A3:Option Addr) (n3 c3:Nat) (A4:Option Addr) (n4 c4:Nat) (w:World) (h1:Ints w w.heap.size (.slice A1 n1 c1) d.af) (h2:bg w w.heap.size (.slice A2 n2 c2) d.patch) (h3:Ints w w.heap.size (.slice A3 n3 c3) d.af) (h4:bg w w.heap.size (.slice A4 n4 c4) d.patch):
 Calls prog 77 #[.agg #[.int .i64 d.kind,.int .i64 d.member,.slice A1 n1 c1,.string d.al,.int .i64 d.bO,.slice A2 n2 c2,.int .i64 d.start,.int .i64 d.aB,.int .i64 d.aj],.agg #[.int .i64 d.kind,.int .i64 d.member,.slice A3 n3 c3,.string d.al,.int .i64 d.bO,.slice A4 n4 c4,.int .i64 d.start,.int .i64 d.aB,.int .i64 d.aj]] w (bT (.bool true) w):=by
 go_enter func77,ntmps77;go_wp2_with (fail);obtain ⟨W,hW⟩: ∃W:World,W=(w.alloc (.cells #[.int .i64 d.kind,.int .i64 d.member,.slice A1 n1 c1,.string d.al,.int .i64 d.bO,.slice A2 n2 c2,.int .i64 d.start,.int .i64 d.aB,.int .i64 d.aj] 48)).alloc (.cells #[.int .i64 d.kind,.int .i64 d.member,.slice A3 n3 c3,.string d.al,.int .i64 d.bO,.slice A4 n4 c4,.int .i64 d.start,.int .i64 d.aB,.int .i64 d.aj] 48):=⟨_,rfl⟩
 have bW:Below w.heap.size w W:=by rw[hW];exact ((aae _ _).alloc (aad _) _).alloc (by simp) _
 have y3:W.cell? ⟨w.heap.size,3,none⟩=some (.string d.al):=by rw[hW];simp[go_sem]
 have y4:W.cell? ⟨w.heap.size,4,none⟩=some (.int .i64 d.bO):=by rw[hW];simp[go_sem]
 have y5:W.cell? ⟨w.heap.size,5,none⟩=some (.slice A2 n2 c2):=by rw[hW];simp[go_sem]
 have y6:W.cell? ⟨w.heap.size,6,none⟩=some (.int .i64 d.start):=by rw[hW];simp[go_sem]
 have y7:W.cell? ⟨w.heap.size,7,none⟩=some (.int .i64 d.aB):=by rw[hW];simp[go_sem]
 have y8:W.cell? ⟨w.heap.size,8,none⟩=some (.int .i64 d.aj):=by rw[hW];simp[go_sem]
 have v3:W.cell? ⟨w.heap.size+1,3,none⟩=some (.string d.al):=by rw[hW];simp[go_sem]
 have v4:W.cell? ⟨w.heap.size+1,4,none⟩=some (.int .i64 d.bO):=by rw[hW];simp[go_sem]
 have v5:W.cell? ⟨w.heap.size+1,5,none⟩=some (.slice A4 n4 c4):=by rw[hW];simp[go_sem]
 have v6:W.cell? ⟨w.heap.size+1,6,none⟩=some (.int .i64 d.start):=by rw[hW];simp[go_sem]
 have v7:W.cell? ⟨w.heap.size+1,7,none⟩=some (.int .i64 d.aB):=by rw[hW];simp[go_sem]
 have v8:W.cell? ⟨w.heap.size+1,8,none⟩=some (.int .i64 d.aj):=by rw[hW];simp[go_sem]
 rw[<-hW];clear hW;have Z3:=λy:ar W=>y.cell y3;have Z4:=λy:ar W=>y.cell y4;have Z5:=λy:ar W=>y.cell y5;have Z6:=λy:ar W=>y.cell y6;have Z7:=λy:ar W=>y.cell y7;have Z8:=λy:ar W=>y.cell y8;have V3:=λy:ar W=>y.cell v3;have V4:=λy:ar W=>y.cell v4;have V5:=λy:ar W=>y.cell v5;have V6:=λy:ar W=>y.cell v6;have V7:=λy:ar W=>y.cell v7;have V8:=λy:ar W=>y.cell v8;have XL:=I (λy:ar W=>h2.on (Pl.stays _) (aJ bW y) (aJ bW y).size);have XM:=I (λy:ar W=>h4.on (Pl.stays _) (aJ bW y) (aJ bW y).size);have I1:=h1.on (Pl.stays _) bW bW.size;have I3:=h3.on (Pl.stays _) bW bW.size;clear y3 y4 y5 y6 y7 y8 v3 v4 v5 v6 v7 v8 h1 h2 h3 h4;refine (qz d.af A1 n1 c1 A3 n3 c3 _ I1 I3).mono ?_;rintro e1 w1 ⟨rfl,bw⟩;obtain ⟨y,rfl⟩: ∃y:ar W,w1=y.val:=⟨⟨w1,bw⟩,rfl⟩
 go_wp2_with (fail);refine (aq (oE d.patch A2 n2 c2 A4 n4 c4 _ (XL.o y) (XM.o y))).mono ?_;rintro e2 _ ⟨rfl,t,rfl⟩;go_wp2;go_ret;exact ⟨rfl,aJ bW t⟩
def pN (L Z:List Value) (k:Nat):List Value:=L.take k++Z.drop k
theorem iR {L Z:List Value} (h:L.length=Z.length) (k:Nat):(pN L Z k).length=Z.length:=by
 unfold pN;rw[aak,aao,aaS];omega
theorem lu {L Z:List Value} (h:L.length=Z.length) {k:Nat} {u:Value} (hu:L[k]?=some u):pN L Z (k+1)=(pN L Z k).set k u:=by
 obtain ⟨hk,rfl⟩:=aal.1 hu;unfold pN
 have e:(Z.drop k).set 0 L[k]=L[k]::Z.drop (k+1):=by
  rw[abu (by omega)];rfl
 rw[aaG hk,List.set_append,aah (by rw[aao];omega),aao,show k-min k L.length=0 by omega,e,aaI];rfl
theorem ru {L Z:List Value} (h:L.length=Z.length) (k:Nat) (hk:L.length<=k):pN L Z k=L:=by
 unfold pN;rw[aaJ hk,abB (by omega),abv]
theorem Row.step {w:World} {g j:Nat} {L Z:List Value} {u:Value} (h:Row w g (pN L Z j)) (hl:L.length=Z.length) (hu:L[j]?=some u):Row (w.setCell ⟨g,j,none⟩ u) g (pN L Z (j+1)):=by
 rw[lu hl hu];have hj:j<L.length:=(aal.1 hu).1;exact h.set j u (by rw[iR hl];omega)
theorem Row.some {w:World} {g j:Nat} {L:List Value} (h:Row w g L) (hj:j<L.length): ∃z,w.cell? ⟨g,j,none⟩=some z:=⟨_,h.cell j _ (aag hj)⟩
theorem uY {b:Nat} {w w':World} (h:Below w.heap.size w w'):iJ b w w':=⟨h.os,h.tape,h.output,h.size,λk hk _=>h.block k hk⟩
theorem oF {b:Nat} {a w:World} (h:iJ b a w) (j:Nat) (u:Value):iJ b a (w.setCell ⟨b,j,none⟩ u):=mX h (.inl rfl) u
theorem ac2 (k:Nat) (w:World) (h0:0<k) (h2:k<=1099511627776):
 Calls prog 83 #[.int .i64 (k:Int)] w (bT (.string ⟨(109::itoa (k:Int)).toArray⟩) w):=by
 have SG: ¬(k:Int)<=0:=by omega
 have kM: -9223372036854775808<=(k:Int):=by omega
 have rq:(k:Int)<=9223372036854775807:=by omega
 go_enter func83,ntmps83;go_wp2;go_loopw [0,3] (λm o wr=> ∃(u:Nat) (out:List UInt8),m= .int .i64 (u:Int)/\(u:Int)<=1099511627776/\o= .string ⟨out.toArray⟩/\out.length<=21/\dg u++out=itoa (k:Int)/\Below w.heap.size w wr) (λm _ _=>(intOf m).toNat);case atStart=>exact ⟨k,[],rfl,by omega,rfl,by simp,by rw[abv];exact Nu (k:Int) (by omega),aae _ _⟩
 case round=>
  obtain ⟨u,out,rfl,hu,rfl,YC,S3,hb⟩:=hrel;by_cases qo:u=0
  ·subst qo;have HO:ag (out=itoa (k:Int)):=I (by simpa [dg]using S3);clear S3;obtain ⟨T1,e1,n1,q1⟩:=H7 (P:=prog) [109] out (by simp) (by omega);have HT:ag (T1=109::itoa (k:Int)):=I (by rw[e1,HO.o];rfl);clear e1;go_wp2;go_ret;exact ⟨by rw[<-HT.o];rfl,hb⟩
  have aI:(0:Int)<(u:Int):=by omega
  have CY:(u:Int).tmod 10=((u% 10:Nat):Int):=by rw[Int.tmod_eq_emod_of_nonneg (by omega)];omega
  have hdiv:(u:Int).tdiv 10=((u/10:Nat):Int):=by rw[Int.tdiv_eq_ediv_of_nonneg (by omega)];omega
  have Q6:u% 10<10:=Nat.mod_lt _ (by omega);have Ux:u/10<u:=Nat.div_lt_self (by omega) (by omega);obtain ⟨r,NB⟩: ∃r,r=u% 10:=⟨_,rfl⟩
  obtain ⟨q,Im⟩: ∃q,q=u/10:=⟨_,rfl⟩
  rw[<-NB]at CY Q6;rw[<-Im]at hdiv Ux;have oy:dg u=dg q++[UInt8.ofNat (48+r)]:=by rw[NB,Im];exact La u qo
  have Ww:=Hv r Q6;generalize UInt8.ofNat (48+r)=ch at*
  have hcv:(convert 22 9 (.slice (some ⟨wr.heap.size,0,none⟩) 1 1)).run prog (wr.alloc (.cells #[.int .u8 (48+(r:Int))] 5))= .ok (.string ⟨#[ch]⟩) (wr.alloc (.cells #[.int .u8 (48+(r:Int))] 5)):=run_convert_bytes_back (P:=prog) (wr.alloc (.cells #[.int .u8 (48+(r:Int))] 5)) 22 9 5 ⟨wr.heap.size,0,none⟩ 1 [ch] underlying22 underlying5 underlying9 (λj hj=>by
   have:j=0:=by simp at hj;omega
   subst this;simp[go_sem,Ww])
  obtain ⟨T1,e1,n1,q1⟩:=H7 (P:=prog) [ch] out (by simp) (by omega);have HT:ag (dg q++T1=itoa (k:Int)):=I (by rw[<-S3,oy,e1,aaI]);have Uy:T1.length<=21:=Qo (dg q) T1 (k:Int) HT.o kM rq;have ox:=hb.alloc hb.size (.cells #[.int .u8 (48+(r:Int))] 5);clear e1 oy NB Im S3 qo Ww;go_wp2;go_roundw;case rel=>exact ⟨q,T1,by go_num,by omega,rfl,Uy,HT.o,ox⟩
  case measure=>simp[intOf];omega
def jr (k n:Nat):List Int:=(List.range n).map λi=>((k+i:Nat):Int)
theorem gI (k n:Nat):(jr k n).length=n:=by simp[jr]
theorem AB {k n i:Nat} (h:i<n):(jr k n)[i]?=some (((k+i:Nat):Int)):=by simp[jr,h]
theorem sQ (zs:List Int):(zs.flatMap ak).length=zs.length:=by
 induction zs with
 |nil=>rfl
 |cons z zs ih=>rw[aa0,aak,ih];simp[ak];omega
theorem xx {zs:List Int} {i:Nat} {z:Int} (h:zs[i]?=some z):(zs.flatMap ak)[i]?=some (.int .i64 z):=by
 have:=l5 ak (size:=1) (λ_=>rfl) zs i z 0 (.int .i64 z) h rfl (by omega);simpa using this
def sR {α:Type} (f:α->List Value) (xs:List α) (k' base:Nat) (v:Value) (w:World) (e:Ending) (w':World):Prop:=
 e= .returned (.int .i64 (k':Int))/\ay f xs base w' v/\w.grownBy w' (if xs.length=0 then none else v.ownBlock)
theorem uZ (w:World) (r:Option Nat):w.grownBy w r:=⟨rfl,rfl,rfl,aad _,λ_ _ _=>rfl⟩
theorem ry (n k:Nat) (A:Option Addr) (c:Nat) (w:World) (h:Ints w w.heap.size (.slice A n c) (jr k n)) (hk:k<=4294967296) (hn:n<=1048576):
 Calls prog 140 #[.slice A n c,.int .i64 (k:Int)] w (f' (.int .i64 ((k+n:Nat):Int)) w):=by
 have H:=I h;clear h;go_enter func140,ntmps140;go_wp2;go_loop [1,5] (λm i=> ∃j:Nat,j<=n/\i= .int .i64 (j:Int)/\m= .int .i64 ((k+j:Nat):Int)) (λ_ i=>n-(intOf i).toNat);case atStart=>exact ⟨0,aaf _,rfl,rfl⟩
 case round=>
  obtain ⟨j,hj,rfl,rfl⟩:=hrel;by_cases aI:j<n
  ·obtain ⟨b,off,rfl,hb,x0⟩:=cZ H.o (AB aI);go_wp2;go_round;case rel=>exact ⟨j+1,by omega,by go_num,by go_num⟩
   case measure=>simp[intOf];omega
  have eA: ¬(j:Int)<(n:Int):=by omega
  have sF:j=n:=by omega
  subst sF;go_wp2;go_ret;exact ⟨pJ (by omega),0,rfl⟩
def tQ (k:Nat):aV:=⟨(k:Int),(k:Int)+1,⟨(109::itoa ((k+2:Nat):Int)).toArray⟩,⟨(109::itoa ((k+3:Nat):Int)).toArray⟩⟩
def dG (k n:Nat):List aV:=(List.range n).map λi=>tQ (k+4*i)
theorem eL (k n:Nat):(dG k n).length=n:=by simp[dG]
theorem qA {k n i:Nat} (h:i<n):(dG k n)[i]?=some (tQ (k+4*i)):=by simp[dG,h]
theorem lv (zs:List aV):(zs.flatMap ah).length=zs.length*4:=by
 induction zs with
 |nil=>rfl
 |cons z zs ih=>rw[aa0,aak,ih];simp[ah];omega
theorem s9 (z:Int) (k:Nat) (hz:z=(k:Int)) (w:World) (h0:0<k) (h2:k<=1099511627776):
 Calls prog 83 #[.int .i64 z] w (bT (.string ⟨(109::itoa (k:Int)).toArray⟩) w):=by
 subst hz;exact ac2 k w h0 h2
theorem qw (n k:Nat) (A:Option Addr) (c:Nat) (w:World) (h:bg w w.heap.size (.slice A n c) (dG k n)) (jA:0<k) (hk:k<=4294967296) (hn:n<=1048576):
 Calls prog 141 #[.slice A n c,.int .i64 (k:Int)] w (bT (.int .i64 ((k+4*n:Nat):Int)) w):=by
 have H:=I (cz.km h (Pl.stays _) (aad _));clear h;refine aL λx0=>?_;go_enter func141,ntmps141;go_wp2;go_loopw [1,5] (λm i wr=> ∃(j:Nat) (x:ar w),j<=n/\i= .int .i64 (j:Int)/\m= .int .i64 ((k+4*j:Nat):Int)/\wr=x.val) (λ_ i _=>n-(intOf i).toNat);case atStart=>exact ⟨0,x0,aaf _,rfl,rfl,rfl⟩
 case round=>
  obtain ⟨j,x,hj,rfl,rfl,rfl⟩:=hrel;by_cases aI:j<n
  ·obtain ⟨b,off,rfl,hb,c0,c1,c2,c3⟩:=kU (H.o x) (qA aI)
   have C:ag (∀y:ar w,y.val.cell? ⟨b,off+j*4,none⟩=some (.int .i64 (tQ (k+4*j)).kind)/\y.val.cell? ⟨b,off+j*4+1,none⟩=some (.int .i64 (tQ (k+4*j)).id)/\y.val.cell? ⟨b,off+j*4+2,none⟩=some (.string (tQ (k+4*j)).dA)/\y.val.cell? ⟨b,off+j*4+3,none⟩=some (.string (tQ (k+4*j)).new)):=I (λy=>by
    obtain ⟨b',xw,hA,dF,d0,d1,d2,d3⟩:=kU (H.o y) (qA aI);injection hA with hA
    injection hA with e1 e2
    subst e1 e2;exact ⟨d0,d1,d2,d3⟩)
   obtain ⟨K,hK⟩: ∃K,K=k+4*j:=⟨_,rfl⟩
   have PT:K<=4303355904:=by omega
   have PU:0<K:=by omega
   have jO:ag (((k+4*(j+1):Nat):Int)=(K:Int)+1+1+1+1):=I (by omega);clear c0 c1 c2 c3;rw[<-hK]at C⊢;clear hK;have oe:ag (∀W,Calls prog 83 #[.int .i64 ((K:Int)+1+1)] W (bT (.string ⟨(109::itoa ((K+2:Nat):Int)).toArray⟩) W)):=I (λW=>s9 _ (K+2) (by omega) W (by omega) (by omega));have oa:ag (∀W,Calls prog 83 #[.int .i64 ((K:Int)+1+1+1)] W (bT (.string ⟨(109::itoa ((K+3:Nat):Int)).toArray⟩) W)):=I (λW=>s9 _ (K+3) (by omega) W (by omega) (by omega));have z0: ∀y:ar w,y.val.cell? ⟨b,off+j*4,none⟩=some (.int .i64 (K:Int)):=λy=>(C.o y).1;have z1: ∀y:ar w,y.val.cell? ⟨b,off+j*4+1,none⟩=some (.int .i64 ((K:Int)+1)):=λy=>(C.o y).2.1;have z2: ∀y:ar w,y.val.cell? ⟨b,off+j*4+2,none⟩=some (.string ⟨(109::itoa ((K+2:Nat):Int)).toArray⟩):=λy=>(C.o y).2.2.1;have z3: ∀y:ar w,y.val.cell? ⟨b,off+j*4+3,none⟩=some (.string ⟨(109::itoa ((K+3:Nat):Int)).toArray⟩):=λy=>(C.o y).2.2.2;generalize (⟨(109::itoa ((K+2:Nat):Int)).toArray⟩:ByteArray)=t2 at*;generalize (⟨(109::itoa ((K+3:Nat):Int)).toArray⟩:ByteArray)=t3 at*;go_upto_region 10 with (fail)
   refine ap (by kernel_rfl) (by kernel_rfl) ?_
   repeat (go_big_quiet_step ((first|(go_at_call 83;exact aq (oe.o _)))))
   refine aai ?_;rintro _ ⟨y,rfl⟩;go_upto_region 13 with (fail)
   refine ap (by kernel_rfl) (by kernel_rfl) ?_
   repeat (go_big_quiet_step ((first|(go_at_call 83;exact aq (oa.o _)))))
   refine aai ?_;rintro _ ⟨z,rfl⟩;go_wp2;go_roundw;case rel=>exact ⟨j+1,z,by omega,by go_num,by rw[jO.o],rfl⟩
   case measure=>simp[intOf];omega
  have eA: ¬(j:Int)<(n:Int):=by omega
  have sF:j=n:=by omega
  subst sF;go_wp2;go_ret;exact ⟨pJ (by omega),x.ok⟩
def PE (s:ByteArray) (most:Nat) (w:World) (e:Ending) (w':World):Prop:=
 ∃ls v ok,e= .returned (.tuple #[v,.bool ok])/\Lb w' v ls/\(ok=true->sL 10 s.data.toList=ls++[[]]/\ls.length<=most)/\(ok=false-> ∀qs,sL 10 s.data.toList=qs++[[]]->most<qs.length)/\Below w.heap.size w w'
def sS {α:Type} (f:α->List Value) (xs:List α) (w:World) (e:Ending) (w':World):Prop:= ∃v,e= .returned v/\ay f xs w.heap.size w' v/\Below w.heap.size w w'
theorem iD:(prog.info? 2).map (λi=>(i.zero,i.size,i.bytes))=some (some (.int .i64 0),1,8):=by kernel_rfl
def PF (l:List UInt8) (w:World) (e:Ending) (w':World):Prop:=
 ∃v,e= .returned (.tuple #[v,.bool (EG l).isSome])/\ay ah ((EG l).getD []) w.heap.size w' v/\Below w.heap.size w w'
theorem oG:(prog.info? 174).map (λi=>(i.zero,i.size,i.bytes))=some (some (.agg #[.int .i64 0,.int .i64 0,.string ⟨#[]⟩,.string ⟨#[]⟩]),4,48):=by kernel_rfl
theorem fS {w:World} {cs:List Value} {T:TypeId} {j:Nat} {u:Value} (h:cs[j]?=some u):(w.alloc (.cells cs.toArray T)).cell? ((⟨w.heap.size,0,none⟩:Addr).add j)=some u:=by
 have hr:=(Row.new w cs.toArray T).cell j u (by simpa using h);unfold Addr.add;by_cases h0:j=0
 ·subst h0;simpa using hr
 simpa [h0]using hr
theorem cJ {q:aV} {u:Value} (h:u∈ah q):u.oneCell'=true:=by
 simp only[ah,aaF,List.not_mem_nil,or_false]at h;rcases h with rfl|rfl|rfl|rfl<;>rfl
theorem aS {b:Nat} {w:World} {o:Obj} (h:b<=w.heap.size):b<=(w.alloc o).heap.size:=by simp;omega
section
variable {P:Program}
def jR (w:World) (g:Nat) (e:TypeId) (C:List Value):Prop:=w.heap[g]?=some (.cells C.toArray e (0,0))
theorem jR.cell {w:World} {g:Nat} {e:TypeId} {C:List Value} (h:jR w g e C) (j:Nat):w.cell? ⟨g,j,none⟩=C[j]?:=by
 unfold jR at h;simp[World.cell?,h]
theorem jR.free {w:World} {g:Nat} {e:TypeId} {C:List Value} (h:jR w g e C) {j:Nat} (_hj:j<C.length):w.frozen? ⟨g,j,none⟩=false:=by
 unfold jR at h;simp[World.frozen?,h]
theorem jR.lt {w:World} {g:Nat} {e:TypeId} {C:List Value} (h:jR w g e C):g<w.heap.size:=(Array.getElem?_eq_some_iff.1 h).1
theorem jR.isSome {w:World} {g:Nat} {e:TypeId} {C:List Value} (h:jR w g e C) {j:Nat} (hj:j<C.length):(w.cell? ⟨g,j,none⟩).isSome=true:=by
 rw[h.cell,aag hj];rfl
theorem jR.drewN {w:World} {g:Nat} {e:TypeId} {C:List Value} (h:jR w g e C) (n:Nat):jR (w.drewN n) g e C:=h
theorem jR.drew {w:World} {g:Nat} {e:TypeId} {C:List Value} (h:jR w g e C):jR w.drew g e C:=h
theorem jR.grown {w w':World} {g:Nat} {e:TypeId} {C:List Value} {row:Option Nat} (h:jR w g e C) (hg:w.grownBy w' row) (gm:row≠some g):jR w' g e C:=by
 have:=hg.block g h.lt (λe=>gm e.symm);unfold jR;rw[this];exact h
theorem rz (P:Program) {w:World} {g:Nat} {e:TypeId} {C:List Value} (h:jR w g e C) (o:Nat) (vs:List Value) (iS:o+vs.length<=C.length) (h1: ∀v∈vs,v.oneCell'=true):w.setCells g o vs=w.setRow g (splice C o vs).toArray:=by
 have a:=run_storeCells_cells (P:=P) g o vs 0 w (λj hj=>h.isSome (by omega)) (λj hj=>h.free (by omega)) h1;have b:=run_storeCells_at P g o e vs 0 C.toArray w h (by simpa using iS) h1;rw[a]at b;injection b with _ b
 rw[Nat.add_zero]at b;rw[b];simp[splice]
theorem jR.set (P:Program) {w:World} {g:Nat} {e:TypeId} {C:List Value} (h:jR w g e C) (o:Nat) (vs:List Value) (iS:o+vs.length<=C.length) (h1: ∀v∈vs,v.oneCell'=true):jR (w.setCells g o vs) g e (splice C o vs):=by
 rw[rz P h o vs iS h1];exact setRow_heap w g _ _ e _ h
theorem gP (P:Program) {w:World} {g:Nat} {e:TypeId} {C:List Value} (h:jR w g e C) (o:Nat) (vs:List Value) (iS:o+vs.length<=C.length) (h1: ∀v∈vs,v.oneCell'=true):w.grownBy (w.setCells g o vs) (some g):=by
 rw[rz P h o vs iS h1];exact ⟨rfl,rfl,rfl,by simp[World.setRow],λk _ hk=>setRow_other w g k _ (λe=>hk (by rw[e]))⟩
theorem dH {w:World} {base g n cap size:Nat} {e:TypeId} {xs:List Value} (h:w.ownsRow base e size (.slice (some ⟨g,0,none⟩) n cap) n xs): ∃T,jR w g e (xs++T)/\(xs++T).length=cap*size/\n<=cap/\cap<=maxLen/\base<=g/\xs.length=n*size:=by
 obtain ⟨hl,⟨hv,_⟩|⟨g',fq,kT,hv,hg,hh,h1,h2,h3,h4⟩⟩:=h
 ·cases hv
 injection hv with e1 e2 e3
 injection e1 with e1
 injection e1 with e1
 subst e1 e3;refine ⟨kT.toList.drop (n*size),?_,?_,h1,h2,hg,hl⟩
 ·unfold jR;rw[<-h4,abG];exact hh
 rw[<-h4,abG];simpa using h3
theorem gz {w:World} {base g n cap size:Nat} {e:TypeId} {C xs:List Value} (h:jR w g e C) (hC:C.length=cap*size) (hx:C.take (n*size)=xs) (hl:xs.length=n*size) (h1:n<=cap) (h2:cap<=maxLen) (hg:base<=g):w.ownsRow base e size (.slice (some ⟨g,0,none⟩) n cap) n xs:=
 ⟨hl,.inr ⟨g,cap,C.toArray,rfl,hg,h,h1,h2,by simpa using hC,by simpa using hx⟩⟩
theorem ic (w:World) (dT sT ty elem:TypeId) (k:Nat) (b o Nv TE:Nat) (a:Addr) (Nw TF:Nat) (cs:List Value)
 (hu:P.underlying dT=some (.slice elem)) (hs:(P.info? elem).map (·.size)=some k) (hn:cs.length=Nat.min Nw Nv*k)
 (Nx: ∀j v,cs[j]?=some v->w.cell? (a.add j)=some v) (hc: ∀j,j<cs.length->(w.cell? ⟨b,o+j,none⟩).isSome=true) (hf: ∀j,j<cs.length->w.frozen? ⟨b,o+j,none⟩=false) (h1: ∀v∈cs,v.oneCell'=true):
 (Builtin.copy_ #[dT,sT] ty #[.slice (some ⟨b,o,none⟩) Nv TE,.slice (some a) Nw TF]).run P w= .ok (goInt (Nat.min Nw Nv)) (w.setCells b o cs):=by
 have hl:=run_loadCells_list (P:=P) w a cs Nx;have CV:=run_storeCells_cells (P:=P) b o cs 0 w (by simpa using hc) (by simpa using hf) h1;cases hq:P.info? elem with
 |none=>simp[hq]at hs
 |some i=>
  have hi:i.size=k:=by simpa [hq]using hs
  simp[Builtin.copy_,abw hu,Builtin.lenOf,Builtin.firstCells,sizeOf,typeInfo,hq,hi,<-hn,hl,CV]
theorem AC (w:World) (t e ty:TypeId) (z:Value) (zs:List Value) (ht:P.underlying t=some (.slice e)) (hv: ∀w,(zeroValue e).run P w= .ok z w) (b o n c:Nat) (hn:0<n)
 (hz:(Builtin.zeroCells z.cells n).toList=zs) (h1: ∀v∈zs,v.oneCell'=true)
 (hc: ∀j,j<zs.length->(w.cell? ⟨b,o+j,none⟩).isSome=true) (hf: ∀j,j<zs.length->w.frozen? ⟨b,o+j,none⟩=false):
 (Builtin.clear_ #[t] ty #[.slice (some ⟨b,o,none⟩) n c]).run P w= .ok (.tuple #[]) (w.setCells b o zs):=by
 have CV:=run_storeCells_cells (P:=P) b o zs 0 w (by simpa using hc) (by simpa using hf) h1;simp only[Nat.add_zero]at CV;obtain ⟨m,rfl⟩: ∃m,n=m+1:=⟨n-1,by omega⟩
 simp[Builtin.clear_,abw ht,hv,hz,CV]
end
theorem yZ {P:Program} (w:World) {o:Oper} {a:Act} {K:Act->World->Prop} {Q:Exit->Act->World->Prop} (d s:Operand) (t t':TypeId)
 (ho:o.op= .call {callee:= .builtin .copy,args:= #[d,s],argTypes:= #[t,t']}) (v u:Value) (hd:a.eval d=v) (hs:a.eval s=u) {v':Value} {w':World}
 (hr:(Builtin.copy_ #[t,t'] o.type #[v,u]).run P w= .ok v' w') (h:K (a.put o.dst v') w'):o.wp P a w K Q:=by
 unfold Oper.wp execOp;simp only[ho,resolve,invoke,builtin,Sem.run_bind,Sem.run_pure,Result.andThen_ok,ab0,aa4,abl,hd,hs,hr];exact h
theorem iu {P:Program} (w:World) {ops:Array Oper} {rest:List Oper} {o:Oper} {a:Act} {Q:Exit->Act->World->Prop} (xZ:o.guard=none) (d s:Operand) (t t':TypeId)
 (ho:o.op= .call {callee:= .builtin .copy,args:= #[d,s],argTypes:= #[t,t']}) (v u:Value) (hd:a.eval d=v) (hs:a.eval s=u) {v':Value} {w':World}
 (hr:(Builtin.copy_ #[t,t'] o.type #[v,u]).run P w= .ok v' w') (h:wpList P ops Q rest (a.put o.dst v') w'):wpList P ops Q (o::rest) a w:=
 wpList_plain xZ λ_ hK=>yZ w d s t t' ho v u hd hs hr (hK _ _ h)
theorem jC {P:Program} {ops:Array Oper} {o:Oper} {a:Act} {w:World} {K:Act->World->Prop} {Q:Exit->Act->World->Prop} {E:Prop}
 (hg:o.guard=none) (d x:Operand) (dT sT:TypeId) (XN:o.op=Op.call {callee:=Callee.builtin Builtin.copy,args:= #[d,x],argTypes:= #[dT,sT]})
 (v u:Value) (hd:a.eval d=v) (hx:a.eval x=u) {v':Value} {w':World} (hr:(Builtin.copy_ #[dT,sT] o.type #[v,u]).run P w= .ok v' w') (hK:K (a.put o.dst v') w'):
 if Region.wanted o (yielded ops a.tmps)=true then Oper.wp P o a w K Q else E:=by
 have hw:Region.wanted o (yielded ops a.tmps)=true:=by simp[Region.wanted,hg]
 rw[aaj hw];unfold Oper.wp;simp[execOp,XN,resolve,invoke,builtin,hd,hx,hr,Result.andThen];exact hK
theorem bp {α:Type} (f:α->List Value) {k:Nat} (hf: ∀x,(f x).length=k) (L:List α):(L.flatMap f).length=L.length*k:=by
 induction L with
 |nil=>simp
 |cons x r ih=>rw[aa0,aak,ih,hf,List.length_cons,aaO];omega
theorem gA {α:Type} (f:α->List Value) (L:List α) (i:Nat):L.flatMap f=(L.take i).flatMap f++(L.drop i).flatMap f:=by
 rw[<-abf,abG]
theorem gJ {α:Type} (f:α->List Value) {P:Value->Prop} (h: ∀x,∀v∈f x,P v) (L:List α): ∀v∈L.flatMap f,P v:=λv hv=>by
 obtain ⟨x,_,hx⟩:=List.mem_flatMap.1 hv;exact h x v hx
theorem Fz {α:Type} (f:α->List Value) {k:Nat} (hf: ∀x,(f x).length=k) (L:List α) (T zs:List Value) (i:Nat) (hi:i<L.length) (_hz:zs.length=k) (_hT:k<=k+T.length):
 (splice (splice (L.flatMap f++T) (i*k) ((L.drop (i+1)).flatMap f)) ((L.length-1)*k) zs).take ((L.length-1)*k)=(L.take i++L.drop (i+1)).flatMap f:=by
 have hl:((L.take i++L.drop (i+1)).flatMap f).length=(L.length-1)*k:=by
  rw[bp f hf,aak,aao,aaS]
  congr 1
  omega
 have h1:(L.flatMap f++T).take (i*k)=(L.take i).flatMap f:=by
  rw[gA f L i,aaI,abm];rw[bp f hf,aao,aaP (by omega)]
 have h2:splice (L.flatMap f++T) (i*k) ((L.drop (i+1)).flatMap f)=(L.take i++L.drop (i+1)).flatMap f++(L.flatMap f++T).drop (i*k+((L.drop (i+1)).flatMap f).length):=by
  unfold splice;rw[h1,abf,aaI]
 rw[h2];unfold splice;rw[abm hl,abm hl]
section
variable {P:Program} {w:World}
theorem eI {α:Type} (f:α->List Value) {ops:Array Oper} {rest:List Oper} {o:Oper} {a:Act} {Q:Exit->Act->World->Prop} (xZ:o.guard=none) (s x:Operand) (t:TypeId)
 (ho:o.op= .call {callee:= .builtin .append,args:= #[s,x],argTypes:= #[t,t]})
 (base:Nat) (e:TypeId) (i:TypeInfo) (z:Value) (size bytes:Nat) (ht:P.underlying t=some (.slice e)) (hi:P.info? e=some i) (hz:i.zero=some z)
 (ga:i.size=size) (y9:i.bytes=bytes) (qd:z.cells.size=size) (ja:0<size)
 (v:Value) (n:Nat) (ys:List Value) (hs:a.eval s=v) (cr:w.ownsRow base e size v n ys)
 (vs:Value) (xs:List α) (B:Nat) (hx:a.eval x=vs) (FA:cz (Pl f) size w B vs xs) (hf: ∀y,(f y).length=size) (h1: ∀y,∀u∈f y,u.oneCell'=true)
 (ya:n+xs.length<=maxLen) (gB:(n+xs.length)*bytes<=140737488355328) (dC:base<=w.heap.size)
 (h: ∀v' w',w'.ownsRow base e size v' (n+xs.length) (ys++xs.flatMap f)->w.grownBy w' v.ownBlock->(v≠ .slice none 0 0->v'≠ .slice none 0 0)->wpList P ops Q rest (a.put o.dst v') w'):wpList P ops Q (o::rest) a w:=by
 obtain ⟨A,c,rfl,hc,hm,cn⟩:=FA
 have oH: ∀ad:Addr,A=some ad->(∀j u,(xs.flatMap f)[j]?=some u->w.cell? (ad.add j)=some u)->wpList P ops Q (o::rest) a w:=λad hA qB=>by
  subst hA;exact abg w xZ s x t ho base e i z size bytes ht hi hz ga y9 qd ja v n ys hs cr ad xs.length c (xs.flatMap f) hx (bp f hf xs) qB (gJ f (λy u hu=>h1 y u hu) xs) ya gB dC (λv' w' g1 g2 g3=>h v' w' g1 g2 (λhv Ny=>hv (g3.1 Ny).1))
 by_cases h0:xs=[]
 ·subst h0;cases A with
  |some ad=>exact oH ad rfl (λj u hj=>by simp at hj)
  |none=>
   have CW:(Builtin.append_ #[t,t] o.type #[v,.slice none 0 c]).run P w= .ok v w:=by
    rcases cr.2 with ⟨rfl,rfl⟩|⟨g,cap,kT,rfl,_,_,xy,_⟩
    ·simp[Builtin.append_,abw ht,sizeOf,typeInfo,hi,Builtin.lenOf,Builtin.firstCells]
    simp[Builtin.append_,abw ht,sizeOf,typeInfo,hi,Builtin.lenOf,Builtin.firstCells,xy,storeCells]
   refine wpList_plain xZ λK hK=>?_;unfold Oper.wp;have Ih:a.eval x= .slice none 0 c:=hx;simp[execOp,ho,resolve,invoke,builtin,hs,Ih,CW,Result.andThen];exact hK _ _ (h v w (by simpa using cr) ⟨rfl,rfl,rfl,aad _,λ_ _ _=>rfl⟩ (λhv=>hv))
 obtain ⟨b,off,hA,hb,aC⟩:=cn (abp.2 h0);refine oH ⟨b,off,none⟩ hA (λj u hj=>?_);have yb:j<xs.length*size:=by rw[<-bp f hf xs];exact (aal.1 hj).1
 have hq:j/size<xs.length:=Nat.div_lt_of_lt_mul (by rw[abC];exact yb);obtain ⟨us,hl,hp,CX⟩:=aC (j/size) xs[j/size] (aag hq);have hp:us=f xs[j/size]:=hp;subst hp;have CY:j% size<size:=Nat.mod_lt _ ja
 have hu:(f xs[j/size])[j% size]?=some u:=by
  have Ii:j=(j/size)*size+j% size:=by rw[abC];exact (Nat.div_add_mod j size).symm
  have KH: ∀(L:List α) (q r:Nat) (hq:q<L.length),r<size->(L.flatMap f)[q*size+r]?=(f L[q])[r]?:=by
   intro L;induction L with
   |nil=>intro q r hq;cases hq
   |cons y L ih=>
    intro q r hq hr;rw[aa0];cases q with
    |zero=>rw[Nat.zero_mul,aan,aaW (by rw[hf];exact hr)];rfl
    |succ q=>
     rw[aaN (by rw[hf,aaO];omega),hf,aaO,show q*size+size+r-size=q*size+r by omega];exact ih q r (by simpa using hq) hr
  rw[<-KH xs (j/size) (j% size) hq CY,<-Ii];exact hj
 have:=CX (j% size) u hu;have Ii:(j/size)*size+j% size=j:=by rw[abC];exact Nat.div_add_mod j size
 rw[abH,Ii]at this;rw[aaQ];exact this
end
def kz (p:Prop) (w:World) (e:Ending) (w':World):Prop:=
 ∃r:Int,e= .returned (.int .i64 r)/\(r<0\/(p/\0<=r/\r<=1048576))/\Below w.heap.size w w'
def yc (e:aV):Prop:=e.dA.size<=1048576/\e.new.size<=1048576
theorem qC (A:Option Addr) (n c:Nat) (left:Int) (w:World) (hn:n<=9223372036854775807) (h0:0<=left) (h1:left<=1048576):
 Calls prog 121 #[.slice A n c,.int .i64 left] w (kz (n<=1048576) w):=by
 by_cases h:left-(n:Int)<0
 ·go_enter func121,ntmps121;go_wp2;go_ret;exact ⟨_,rfl,.inl (by omega),aae _ _⟩
 go_enter func121,ntmps121;go_wp2;go_ret;exact ⟨_,rfl,.inr ⟨by omega,by omega,by omega⟩,aae _ _⟩
theorem CZ (e:aV) (left:Int) (w:World) (hs:mY e) (h0:0<=left) (h1:left<=1048576):
 Calls prog 172 #[.agg #[.int .i64 e.kind,.int .i64 e.id,.string e.dA,.string e.new],.int .i64 left] w (kz (yc e) w):=by
 obtain ⟨s1,s2⟩:=hs;unfold maxLen at s1 s2;by_cases h:left-(e.dA.size:Int)<0
 ·go_enter func172,ntmps172;go_wp2;go_ret;exact ⟨_,rfl,.inl (by omega),(aae _ _).alloc (aad _) _⟩
 by_cases h2:left-(e.dA.size:Int)-(e.new.size:Int)<0
 ·go_enter func172,ntmps172;go_wp2;go_ret;exact ⟨_,rfl,.inl (by omega),(aae _ _).alloc (aad _) _⟩
 go_enter func172,ntmps172;go_wp2;go_ret;exact ⟨_,rfl,.inr ⟨⟨by omega,by omega⟩,by omega,by omega⟩,(aae _ _).alloc (aad _) _⟩
theorem oI (es:List aV) (A:Option Addr) (n c:Nat) (left:Int) (w:World) (h:bg w w.heap.size (.slice A n c) es) (hs:bS es) (h0:0<=left) (h1:left<=1048576):
 Calls prog 125 #[.slice A n c,.int .i64 left] w (kz (n<=1048576/\ ∀e∈es,yc e) w):=by
 obtain ⟨hn,hc,hm⟩:=fB h;have HE:=I h;have HS:=I hs;have HN:=I hn;have Mq:n<=9223372036854775807:=by omega
 have Ij:n<=es.length:=by omega
 have hln:es.length<=n:=by omega
 clear h hs hn;refine aL λx0=>?_;by_cases aI:left-(n:Int)<0
 ·go_enter func125,ntmps125;go_wp2;go_ret;exact ⟨_,rfl,.inl (by omega),x0.ok⟩
 go_enter func125,ntmps125;go_wp2;go_loopw [1,5] (λl i wr=> ∃(k:Nat) (r:Int) (x:ar w),k<=n/\i= .int .i64 (k:Int)/\l= .int .i64 r/\0<=r/\r<=1048576/\(∀e∈es.take k,yc e)/\wr=x.val) (λ_ i _=>n-(intOf i).toNat);case atStart=>exact ⟨0,_,x0,aaf _,rfl,rfl,by omega,by omega,by simp,rfl⟩
 case round=>
  obtain ⟨k,r,x,hk,rfl,rfl,yd,mU,dn,rfl⟩:=hrel;have HA:=I dn;clear dn;by_cases xz:k<n
  ·have aH:es[k]?=some es[k]:=aag (by omega);obtain ⟨b,off,rfl,hb,c0,c1,c2,c3⟩:=kU HE.o aH;have z0:=λy:ar w=>y.cell c0;have z1:=λy:ar w=>y.cell c1;have z2:=λy:ar w=>y.cell c2;have z3:=λy:ar w=>y.cell c3;have H5:es.take (k+1)=es.take k++[es[k]]:=by rw[aaG]
   have Lc:=I H5;have gU:=HS.o es[k] (aax (by omega));clear aH c0 c1 c2 c3 H5;generalize es[k]=e at*;go_wp2_with (fail);refine (CZ e r _ gU yd mU).mono ?_;rintro e' w1 ⟨r',rfl,hr,bw⟩;have cL:=x.ok.trans (bw.mono x.ok.size);obtain ⟨y,rfl⟩: ∃y:ar w,w1=y.val:=⟨⟨w1,cL⟩,rfl⟩
   rcases hr with hr|⟨hf,mV,Ik⟩
   ·go_wp2;go_ret;exact ⟨_,rfl,.inl (by omega),y.ok⟩
   have Nz: ¬r'<0:=by omega
   have HF:=I hf;clear hf;go_wp2;go_roundw;case rel=>exact ⟨k+1,r',y,by omega,by go_num,rfl,mV,Ik,by rw[Lc.o];intro d hd;rcases aau.1 hd with hd|hd;exact HA.o d hd;rw[aas.1 hd];exact HF.o,rfl⟩
   case measure=>simp[intOf];omega
  have eA: ¬(k:Int)<(n:Int):=by omega
  go_wp2;go_ret;refine ⟨_,rfl,.inr ⟨⟨by omega,?_⟩,yd,mU⟩,x.ok⟩;have:=HA.o
  rwa [aaJ (by omega)]at this
theorem FB {w:World} {g k:Nat} {L Z:List Value} {a b c d:Value} (h:L.length=Z.length) (hz:k*4+4<=Z.length) (hr:Row w g (pN L Z (k*4))) (h0:L[k*4+0]?=some a) (h1:L[k*4+1]?=some b) (h2:L[k*4+2]?=some c) (h3:L[k*4+3]?=some d):
 Row ((((w.setCell ⟨g,k*4,none⟩ a).setCell ⟨g,k*4+1,none⟩ b).setCell ⟨g,k*4+2,none⟩ c).setCell ⟨g,k*4+3,none⟩ d) g (pN L Z ((k+1)*4)):=by
 have e:pN L Z ((k+1)*4)=((((pN L Z (k*4)).set (k*4) a).set (k*4+1) b).set (k*4+2) c).set (k*4+3) d:=by
  rw[show (k+1)*4=k*4+1+1+1+1 by omega,lu h h3,lu h h2,lu h h1,lu h (by simpa using h0)]
 have hl:=iR h (k*4);rw[e];exact (((hr.set _ _ (by omega)).set _ _ (by rw[aaE];omega)).set _ _ (by rw[aaE,aaE];omega)).set _ _ (by rw[aaE,aaE,aaE];omega)
def C1 {α:Type} (f:α->List Value) (_:Nat) (xs:List α) (w:World) (e:Ending) (w':World):Prop:=
 ∃g c,e= .returned (.slice (some ⟨g,0,none⟩) xs.length c)/\xs.length<=c/\c<=maxLen/\w.heap.size<=g/\g<w'.heap.size/\Row w' g (xs.flatMap f)/\Below w.heap.size w w'
theorem je (zs:List Int):zs.flatMap ak=zs.map (Value.int .i64):=by
 induction zs with
 |nil=>rfl
 |cons z zs ih=>rw[aa0,ih];rfl
theorem lx {P:Program} (w:World) (t e:TypeId) (i:TypeInfo) (z:Value) (size:Nat) (ht:P.underlying t=some (.slice e)) (hi:P.info? e=some i) (hz:i.zero=some z) (ga:i.size=size) (n:Nat) (hb:i.bytes*n<=281474976710656) (hn:n<=1048576):
 ∃w' Z,(Instr.makeSlice t (.int .i64 (n:Int)) (.int .i64 (n:Int))).run P w= .ok (.slice (some ⟨w.heap.size,0,none⟩) n n) w'/\Row w' w.heap.size Z/\Z.length=n*size/\w.heap.size<w'.heap.size/\Below w.heap.size w w':=by
 subst ga
 have dF:(i.bytes:Int)*(n:Int)<=281474976710656:=by
  have h:((i.bytes*n:Nat):Int)<=281474976710656:=by omega
  rwa [Int.natCast_mul]at h
 have hr:=run_make (P:=P) w t e i z ht hi hz .i64 .i64 n n (by omega) (Int.le_refl _) dF (by omega);simp only[Int.toNat_natCast]at hr;exact ⟨_,_,hr,Row.new _ _ _,by rw[Array.length_toList,size_madeCells],by simp,(aae _ _).alloc (aad _) _⟩
theorem qD (zs:List Int) (A:Option Addr) (n c:Nat) (w:World) (h:Ints w w.heap.size (.slice A n c) zs) (hn:n<=1048576):
 Calls prog 128 #[.slice A n c] w (C1 ak 1 zs w):=by
 obtain ⟨rfl,e1,g1⟩:=fB h;have H1:=I h;clear h;obtain ⟨i0,hi,dK,ez,ek⟩:=aaq iD;obtain ⟨W,Z,qe,bi,hZ,ow,ox⟩:=lx (P:=prog) w 33 2 i0 _ 1 underlying33 hi dK ez zs.length (by rw[ek];omega) hn;have Mr:(zs.map (Value.int .i64)).length=Z.length:=by rw[aap,hZ];omega
 have Il:=I Mr;have HZ:=I hZ;have HR:=I bi;clear hi dK ez ek bi Mr hZ;go_enter func128,ntmps128;go_wp2;go_loopw [4] (λi wr=> ∃k:Nat,k<=zs.length/\i= .int .i64 (k:Int)/\Row wr w.heap.size (pN (zs.map (Value.int .i64)) Z k)/\Below w.heap.size w wr/\w.heap.size<wr.heap.size) (λi _=>zs.length-(intOf i).toNat);case atStart=>exact ⟨0,aaf _,rfl,HR.o,ox,ow⟩
 case round=>
  obtain ⟨k,hk,rfl,bi,hb,iK⟩:=hrel;have HW:=I bi;by_cases aI:k<zs.length
  ·have aH:zs[k]?=some zs[k]:=aag aI;obtain ⟨b,off,rfl,bD,c0⟩:=cZ H1.o aH;have x0:=(hb.cell (p:=⟨b,off+k,none⟩) bD).trans c0;have nQ:k<(pN (zs.map (Value.int .i64)) Z k).length:=by rw[iR Il.o,HZ.o];omega
   have f0:=bi.free k nQ;have g0:=bi.cell k _ (aag nQ);have HS:=I (lu Il.o (k:=k) (u:= .int .i64 zs[k]) (by rw[aaX,aH];rfl));have pO:=I nQ;have HB:=I hb;clear aH c0 bi hb;generalize zs[k]=z at*;generalize (pN (zs.map (Value.int .i64)) Z k)[k]=dA at*;have HN:ag (Row (wr.setCell ⟨w.heap.size,k,none⟩ (.int .i64 z)) w.heap.size (pN (zs.map (Value.int .i64)) Z (k+1))):=I (by rw[HS.o];exact HW.o.set k _ pO.o);go_wp2;go_roundw;case rel=>exact ⟨k+1,by omega,by go_num,HN.o,HB.o.setCell (aad _) _,by simpa using iK⟩
   case measure=>simp[intOf];omega
  have eA: ¬(k:Int)<(zs.length:Int):=by omega
  rw[ru Il.o k (by rw[aap];omega),<-je]at bi;have HF:=I bi;clear bi HW;go_wp2;go_ret;exact ⟨_,_,rfl,aad _,by unfold maxLen;omega,aad _,iK,HF.o,hb⟩
theorem C2 (e:aV) (w:World):
 Calls prog 173 #[.agg #[.int .i64 e.kind,.int .i64 e.id,.string e.dA,.string e.new]] w (bT (.agg #[.int .i64 e.kind,.int .i64 e.id,.string e.dA,.string e.new]) w):=by
 go_enter func173,ntmps173;go_wp2;exact aaT (v:= .agg #[.int .i64 e.kind,.int .i64 e.id,.string e.dA,.string e.new]) (by simp[results,results173,go_sem]) rfl ⟨rfl,(((aae _ _).alloc (aad _) _).alloc (by simp) _).alloc (by simp;omega) _⟩
theorem oJ (es:List aV) (A:Option Addr) (n c:Nat) (w:World) (h:bg w w.heap.size (.slice A n c) es) (hn:n<=1048576):
 Calls prog 132 #[.slice A n c] w (C1 ah 4 es w):=by
 obtain ⟨rfl,e1,g1⟩:=fB h;have H1:=I h;clear h;obtain ⟨i0,hi,dK,ez,ek⟩:=aaq oG;obtain ⟨W,Z,qe,bi,hZ,ow,ox⟩:=lx (P:=prog) w 32 174 i0 _ 4 underlying32 hi dK ez es.length (by rw[ek];omega) hn;have Mr:(es.flatMap ah).length=Z.length:=by rw[lv,hZ]
 have Il:=I Mr;have HZ:=I hZ;have HR:=I bi;clear hi dK ez ek bi Mr hZ;go_enter func132,ntmps132;go_wp2;go_loopw [4] (λi wr=> ∃k:Nat,k<=es.length/\i= .int .i64 (k:Int)/\Row wr w.heap.size (pN (es.flatMap ah) Z (k*4))/\Below w.heap.size w wr/\w.heap.size<wr.heap.size) (λi _=>es.length-(intOf i).toNat);case atStart=>exact ⟨0,aaf _,rfl,HR.o,ox,ow⟩
 case round=>
  obtain ⟨k,hk,rfl,bi,hb,iK⟩:=hrel;have HW:=I bi;by_cases aI:k<es.length
  ·have aH:es[k]?=some es[k]:=aag aI;obtain ⟨b,off,rfl,bD,c0,c1,c2,c3⟩:=kU H1.o aH;have x0:=(hb.cell (p:=⟨b,off+k*4,none⟩) bD).trans c0;have x1:=(hb.cell (p:=⟨b,off+k*4+1,none⟩) bD).trans c1;have x2:=(hb.cell (p:=⟨b,off+k*4+2,none⟩) bD).trans c2;have x3:=(hb.cell (p:=⟨b,off+k*4+3,none⟩) bD).trans c3;have hF: ∀j u,(ah es[k])[j]?=some u->(es.flatMap ah)[k*4+j]?=some u:=λj u hu=>l5 ah (λ_=>rfl) es k _ j u aH hu (by have:=(aal.1 hu).1;simpa [ah]using this);have HF:=I hF;have HB:=I hb;clear aH c0 c1 c2 c3 hF bi hb;generalize es[k]=e at*;go_wp2_with (fail);refine (C2 e _).mono ?_;rintro e' w1 ⟨rfl,bw⟩;have ng:=aar iK bw.size;have qm:=HW.o.below bw iK;have nQ: ∀j,j<4->k*4+j<(pN (es.flatMap ah) Z (k*4)).length:=λj hj=>by rw[iR Il.o,HZ.o];omega
   have f0:=qm.free (k*4) (nQ 0 (by omega));have f1:=qm.free (k*4+1) (nQ 1 (by omega));have f2:=qm.free (k*4+2) (nQ 2 (by omega));have f3:=qm.free (k*4+3) (nQ 3 (by omega));obtain ⟨o0,g0⟩: ∃o,w1.cell? ⟨w.heap.size,k*4,none⟩=some o:=⟨_,qm.cell (k*4) _ (aag (nQ 0 (by omega)))⟩
   obtain ⟨o1,g1⟩: ∃o,w1.cell? ⟨w.heap.size,k*4+1,none⟩=some o:=⟨_,qm.cell (k*4+1) _ (aag (nQ 1 (by omega)))⟩
   obtain ⟨o2,g2⟩: ∃o,w1.cell? ⟨w.heap.size,k*4+2,none⟩=some o:=⟨_,qm.cell (k*4+2) _ (aag (nQ 2 (by omega)))⟩
   obtain ⟨o3,g3⟩: ∃o,w1.cell? ⟨w.heap.size,k*4+3,none⟩=some o:=⟨_,qm.cell (k*4+3) _ (aag (nQ 3 (by omega)))⟩
   have mB:=I qm;have da:=I bw;clear qm bw;clear nQ;have pO:=I (show k*4+4<=Z.length by rw[HZ.o];omega);go_wp2;go_roundw;case rel=>exact ⟨k+1,by omega,by go_num,FB Il.o pO.o mB.o (HF.o 0 _ rfl) (HF.o 1 _ rfl) (HF.o 2 _ rfl) (HF.o 3 _ rfl),(((((HB.o.trans (da.o.mono HB.o.size)).setCell (aad _) _).setCell (aad _) _).setCell (aad _) _).setCell (aad _) _),by simpa using ng⟩
   case measure=>simp[intOf];omega
  have eA: ¬(k:Int)<(es.length:Int):=by omega
  rw[ru Il.o (k*4) (by rw[lv];omega)]at bi;have HF:=I bi;clear bi HW;go_wp2;go_ret;exact ⟨_,_,rfl,aad _,by unfold maxLen;omega,aad _,iK,HF.o,hb⟩
theorem C1.ints {zs:List Int} {w w':World} {e:Ending} (h:C1 ak 1 zs w e w'): ∃A c,e= .returned (.slice A zs.length c)/\Ints w' w'.heap.size (.slice A zs.length c) zs/\Below w.heap.size w w':=by
 obtain ⟨g,c,he,h1,h2,h3,h4,h5,h6⟩:=h;exact ⟨_,c,he,cz.CS ak (λ_=>rfl) h5 h4 h1 h2,h6⟩
theorem C1.fF {es:List aV} {w w':World} {e:Ending} (h:C1 ah 4 es w e w'): ∃A c,e= .returned (.slice A es.length c)/\bg w' w'.heap.size (.slice A es.length c) es/\Below w.heap.size w w':=by
 obtain ⟨g,c,he,h1,h2,h3,h4,h5,h6⟩:=h;exact ⟨_,c,he,cz.CS ah (λ_=>rfl) h5 h4 h1 h2,h6⟩
structure Touch (F:Nat->Prop) (w w':World):Prop where
 os:w'.os=w.os
 tape:w'.tape=w.tape
 output:w'.output=w.output
 size:w.heap.size<=w'.heap.size
 block: ∀b,b<w.heap.size-> ¬F b->w'.heap[b]?=w.heap[b]?
theorem Touch.refl (F:Nat->Prop) (w:World):Touch F w w:=⟨rfl,rfl,rfl,aad _,λ_ _ _=>rfl⟩
theorem Touch.trans {F:Nat->Prop} {a b c:World} (h:Touch F a b) (k:Touch F b c):Touch F a c:=
 ⟨k.os.trans h.os,k.tape.trans h.tape,k.output.trans h.output,aaB h.size k.size,λi hi hF=>(k.block i (aar hi h.size) hF).trans (h.block i hi hF)⟩
theorem Touch.mono {F G:Nat->Prop} {w w':World} (h:Touch F w w') (XO: ∀b,b<w.heap.size->F b->G b):Touch G w w':=
 ⟨h.os,h.tape,h.output,h.size,λb hb hG=>h.block b hb (λhF=>hG (XO b hb hF))⟩
theorem Touch.dV {F:Nat->Prop} {w w':World} (h:Below w.heap.size w w'):Touch F w w':=⟨h.os,h.tape,h.output,h.size,λb hb _=>h.block b hb⟩
theorem Touch.aW {F:Nat->Prop} {w w':World} {r:Option Nat} (h:w.grownBy w' r) (hr: ∀b,r=some b->F b):Touch F w w':=
 ⟨h.os,h.tape,h.output,h.size,λb hb hF=>h.block b hb (λe=>hF (hr b e.symm))⟩
theorem Touch.below {F:Nat->Prop} {B:Nat} {w w':World} (h:Touch F w w') (hB:B<=w.heap.size) (hF: ∀b,F b->B<=b):Below B w w':=
 ⟨h.os,h.tape,h.output,h.size,λb hb=>h.block b (by omega) (λhf=>by have:=hF b hf;omega)⟩
theorem Touch.setCell {F:Nat->Prop} {a w:World} (h:Touch F a w) {p:Addr} (hp:F p.block) (u:Value):Touch F a (w.setCell p u):=
 ⟨h.os,h.tape,h.output,by simpa [World.setCell]using h.size,λi hi hF=>(Below.heap_setCell w p u i (by
  rintro rfl;exact hF hp)).trans (h.block i hi hF)⟩
theorem Row.aD {F:Nat->Prop} {w w':World} {g:Nat} {L:List Value} (h:Row w g L) (hg:g<w.heap.size) (ht:Touch F w w') (hF: ¬F g):Row w' g L:=
 ⟨λj u hj=>(abW (a:=⟨g,j,none⟩) (ht.block g hg hF)).trans (h.cell j u hj),λj hj=>(World.frozen?_of_block (a:=⟨g,j,none⟩) (ht.block g hg hF)).trans (h.free j hj)⟩
def cx {α:Type} (xs:List α) (v:Value) (b:Nat):Prop:=xs≠[]/\v.ownBlock=some b
theorem ay.aD {α:Type} {f:α->List Value} {xs:List α} {base:Nat} {w w':World} {v:Value} {F:Nat->Prop} (h:ay f xs base w v) (ht:Touch F w w') (hF: ∀b,cx xs v b-> ¬F b):ay f xs base w' v:=by
 obtain ⟨A,c,rfl,h1,h2,h3⟩:=h;refine ⟨A,c,rfl,h1,h2,λh0=>?_⟩;obtain ⟨g,rfl,hg,aI,hr⟩:=h3 h0;exact ⟨g,rfl,hg,aar aI ht.size,hr.aD aI ht (hF g ⟨h0,rfl⟩)⟩
theorem ay.dw {α:Type} {f:α->List Value} {xs:List α} {base:Nat} {w:World} {v:Value} (h:ay f xs base w v) {b:Nat} (hb:cx xs v b):base<=b/\b<w.heap.size:=by
 obtain ⟨A,c,rfl,h1,h2,h3⟩:=h;obtain ⟨g,rfl,hg,aI,hr⟩:=h3 hb.1;have:=hb.2;injection this with this
 have:g=b:=this;omega
theorem gK {α β:Type} {xs:List α} {ys:List β} {v:Value} {b:Nat} (h:cx xs v b) (hl:xs.length=ys.length):cx ys v b:=
 ⟨λe=>h.1 (by rw[e]at hl;exact abO hl),h.2⟩
structure Kind (β:Type) where
 cells:β->List Value
 size:Nat
 fa:Nat->World->β->Prop
 dR:β->Nat->Prop
 len: ∀x,(cells x).length=size
 aD: ∀{base w w' x} {F:Nat->Prop},fa base w x->Touch F w w'->(∀b,dR x b-> ¬F b)->fa base w' x
 lt: ∀{base w x b},fa base w x->dR x b->base<=b/\b<w.heap.size
 less: ∀{base b w x},fa base w x->b<=base->fa b w x
structure aR {β:Type} (K:Kind β) (base:Nat) (w:World) (v:Value) (L:List β):Prop where
 row:ay K.cells L base w v
 fa: ∀x∈L,K.fa base w x
 o: ∀q∈L,∀b,K.dR q b->v.ownBlock≠some b
 two:L.Pairwise (λp q=> ∀b,K.dR p b-> ¬K.dR q b)
def bN {β:Type} (K:Kind β) (v:Value) (L:List β) (b:Nat):Prop:=cx L v b\/ ∃q∈L,K.dR q b
theorem aR.aD {β:Type} {K:Kind β} {base:Nat} {w w':World} {v:Value} {L:List β} {F:Nat->Prop} (h:aR K base w v L) (ht:Touch F w w') (hF: ∀b,bN K v L b-> ¬F b):aR K base w' v L:=
 ⟨h.row.aD ht (λb hb=>hF b (.inl hb)),λx hx=>K.aD (h.fa x hx) ht (λb hb=>hF b (.inr ⟨x,hx,hb⟩)),h.o,h.two⟩
theorem aR.below {β:Type} {K:Kind β} {base:Nat} {w w':World} {v:Value} {L:List β} (h:aR K base w v L) (hb:Below w.heap.size w w'):aR K base w' v L:=
 h.aD (F:=λ_=>False) (Touch.dV hb) (λ_ _ h=>h)
theorem aR.lt {β:Type} {K:Kind β} {base:Nat} {w:World} {v:Value} {L:List β} (h:aR K base w v L) {b:Nat} (hb:bN K v L b):base<=b/\b<w.heap.size:=by
 rcases hb with hb|⟨q,hq,hb⟩
 ·exact h.row.dw hb
 exact K.lt (h.fa q hq) hb
theorem aR.less {β:Type} {K:Kind β} {base b:Nat} {w:World} {v:Value} {L:List β} (h:aR K base w v L) (hb:b<=base):aR K b w v L:=
 ⟨h.row.less hb,λx hx=>K.less (h.fa x hx) hb,h.o,h.two⟩
theorem aR.mo {β:Type} {K:Kind β} {base:Nat} {w:World} {v:Value} {L:List β} (h:aR K base w v L):cz (Pl K.cells) K.size w w.heap.size v L:=h.row.mo K.len
theorem aR.nil {β:Type} (K:Kind β) (base:Nat) (w:World) (A:Option Addr) (c:Nat) (hc:c<=maxLen):aR K base w (.slice A 0 c) []:=
 ⟨⟨A,c,rfl,aaf _,hc,λh=>absurd rfl h⟩,(λx hx=>by cases hx),(λx hx=>by cases hx),List.Pairwise.nil⟩
theorem aR.cell {β:Type} {K:Kind β} {base:Nat} {w:World} {v:Value} {L:List β} (h:aR K base w v L) {j:Nat} {x:β} (hx:L[j]?=some x): ∃g c,v= .slice (some ⟨g,0,none⟩) L.length c/\L.length<=c/\c<=maxLen/\base<=g/\g<w.heap.size/\ ∀i u,(K.cells x)[i]?=some u->w.cell? ⟨g,j*K.size+i,none⟩=some u/\w.frozen? ⟨g,j*K.size+i,none⟩=false:=by
 obtain ⟨A,c,rfl,h1,h2,h3⟩:=h.row;have gm:L≠[]:=λe=>by rw[e]at hx;simp at hx
 obtain ⟨g,rfl,hg,aI,hr⟩:=h3 gm;refine ⟨g,c,rfl,h1,h2,hg,aI,λi u hu=>?_⟩;have hf:=l5 K.cells K.len L j x i u hx hu (by rw[<-K.len x];exact (aal.1 hu).1);exact ⟨hr.cell _ u hf,hr.free _ (aal.1 hf).1⟩
theorem rA {β:Type} (K:Kind β): ∀(L:List β) (j:Nat) (x x':β) (i:Nat) (u:Value),L[j]?=some x->i<K.size->K.cells x'=(K.cells x).set i u->(L.flatMap K.cells).set (j*K.size+i) u=(L.set j x').flatMap K.cells
 |[],_,_,_,_,_,h,_,_=>by simp at h
 |y::L,0,x,x',i,u,h,hi,hc=>by
  rw[List.getElem?_cons_zero]at h;injection h with h
  subst h;rw[ab1,aa0,aa0,Nat.zero_mul,aan,hc,List.set_append,aaj (by rw[K.len];exact hi)]
 |y::L,j+1,x,x',i,u,h,hi,hc=>by
  rw[List.getElem?_cons_succ]at h;rw[List.set_cons_succ,aa0,aa0,List.set_append,aah (by rw[K.len,aaO];omega),K.len,show (j+1)*K.size+i-K.size=j*K.size+i by rw[aaO];omega,rA K L j x x' i u h hi hc]
theorem u6 {β:Type} {R:β->β->Prop}: ∀(L:List β) (j:Nat) (x x':β),L[j]?=some x->L.Pairwise R->(∀p,R p x->R p x')->(∀p,R x p->R x' p)->(L.set j x').Pairwise R
 |[],_,_,_,h,_,_,_=>by simp at h
 |y::L,0,x,x',h,hp,h1,h2=>by
  rw[List.getElem?_cons_zero]at h;injection h with h
  subst h;rw[ab1,aa9];rw[aa9]at hp;exact ⟨λp NA=>h2 p (hp.1 p NA),hp.2⟩
 |y::L,j+1,x,x',h,hp,h1,h2=>by
  rw[List.getElem?_cons_succ]at h;rw[aa9]at hp;rw[List.set_cons_succ,aa9];refine ⟨λp NA=>?_,u6 L j x x' h hp.2 h1 h2⟩;rcases abq NA with hm|rfl
  ·exact hp.1 p hm
  exact h1 y (hp.1 x (aaC h))
theorem FC {β:Type} {K:Kind β} {L:List β} (h:L.Pairwise (λp q=> ∀b,K.dR p b-> ¬K.dR q b)) {j:Nat} {x:β} (hx:L[j]?=some x) {x':β}: ∀q∈L.set j x',q=x'\/(q∈L/\ ∀b,K.dR x b-> ¬K.dR q b):=λq hq=>by
 obtain ⟨i,hi⟩:=aa2 hq;by_cases e:j=i
 ·subst e;rw[abQ (aal.1 hx).1]at hi;injection hi with hi
  exact .inl hi.symm
 rw[abR e]at hi;refine .inr ⟨aaC hi,λb hb hq=>?_⟩;obtain ⟨lj,ej⟩:=aal.1 hx;obtain ⟨li,ei⟩:=aal.1 hi;have hp:=abn.1 h;rcases abo j i with aI|eA
 ·exact hp j i lj li aI b (by rw[ej];exact hb) (by rw[ei];exact hq)
 exact hp i j li lj (by omega) b (by rw[ei];exact hq) (by rw[ej];exact hb)
theorem aR.setCell {β:Type} {K:Kind β} {base:Nat} {w:World} {v:Value} {L:List β} (h:aR K base w v L) {j:Nat} {x x':β} (hx:L[j]?=some x) {g:Nat} (hv:v.ownBlock=some g) (i:Nat) (hi:i<K.size) (u:Value) (hc:K.cells x'=(K.cells x).set i u)
 (hb: ∀b,K.dR x' b↔K.dR x b) (iq: ∀w,K.fa base w x->K.fa base w x'):aR K base (w.setCell ⟨g,j*K.size+i,none⟩ u) v (L.set j x'):=by
 obtain ⟨A,c,rfl,h1,h2,h3⟩:=h.row;have gm:L≠[]:=λe=>by rw[e]at hx;simp at hx
 obtain ⟨g',rfl,hg,aI,hr⟩:=h3 gm;injection hv with hv
 have hv:g'=g:=hv;subst hv;have PG:=(aal.1 hx).1;have ht:Touch (λb=>b=g') w (w.setCell ⟨g',j*K.size+i,none⟩ u):=Touch.setCell (F:=λb=>b=g') (Touch.refl _ w) rfl u;refine ⟨⟨_,c,by rw[aaE],by rw[aaE];exact h1,h2,λ_=>⟨g',rfl,hg,by simpa [World.setCell]using aI,?_⟩⟩,λq hq=>?_,λq hq b mq=>?_,?_⟩
 ·rw[<-rA K L j x x' i u hx hi hc];refine hr.set _ u ?_;have:(j+1)*K.size<=L.length*K.size:=abX _ PG;rw[aaO]at this;rw[bp K.cells K.len];omega
 ·rcases abq hq with hm|rfl
  ·exact K.aD (h.fa q hm) ht (λb dF e=>h.o q hm b dF (by rw[e];rfl))
  have hm:=aaC hx;exact iq _ (K.aD (h.fa x hm) ht (λb dF e=>h.o x hm b dF (by rw[e];rfl)))
 ·rcases abq hq with hm|rfl
  ·exact h.o q hm b mq
  exact h.o x (aaC hx) b ((hb b).1 mq)
 exact u6 L j x x' hx h.two (λp hp b h1 h2=>hp b h1 ((hb b).1 h2)) (λp hp b h1 h2=>hp b ((hb b).1 h1) h2)
theorem aR.inner {β:Type} {K:Kind β} {base:Nat} {w w':World} {v:Value} {L:List β} {F:Nat->Prop} (h:aR K base w v L) {j:Nat} {x x':β} (hx:L[j]?=some x) (ht:Touch F w w') (hF: ∀b,b<w.heap.size->F b->K.dR x b) (hc:K.cells x'=K.cells x)
 (hb: ∀b,K.dR x' b↔K.dR x b) (iq:K.fa base w' x'):aR K base w' v (L.set j x'):=by
 have hm:=aaC hx;have PG:=(aal.1 hx).1
 have e:(L.set j x').flatMap K.cells=L.flatMap K.cells:=by
  obtain ⟨hl,he⟩:=aal.1 hx;rw[List.flatMap_def,List.flatMap_def,abD,hc,<-abD,<-he,List.set_getElem_self]
 have kv:=ht.mono hF;refine ⟨?_,λq hq=>?_,λq hq b mq=>?_,u6 L j x x' hx h.two (λp hp b h1 h2=>hp b h1 ((hb b).1 h2)) (λp hp b h1 h2=>hp b ((hb b).1 h1) h2)⟩
 ·obtain ⟨A,c,hv,h1,h2,h3⟩:=h.row.aD kv (λb dF hk=>h.o x hm b hk dF.2);refine ⟨A,c,by rw[aaE];exact hv,by rw[aaE];exact h1,h2,λh0=>?_⟩;obtain ⟨g,e1,e2,e3,e4⟩:=h3 (λe=>h0 (by rw[e];rfl));exact ⟨g,e1,e2,e3,by rw[e];exact e4⟩
 ·rcases FC h.two hx q hq with rfl|⟨Im,hd⟩
  ·exact iq
  exact K.aD (h.fa q Im) kv (λb dF hk=>hd b hk dF)
 rcases abq hq with Io|rfl
 ·exact h.o q Io b mq
 exact h.o x hm b ((hb b).1 mq)
theorem Row.Qq {g:Nat}: ∀(C X Y:List Value) (w:World),Row w g (X++Y)->C.length<=Y.length->Row (w.setCells g X.length C) g (X++(C++Y.drop C.length))
 |[],X,Y,w,h,_=>by simpa [World.setCells]using h
 |c::C,X,[],w,h,hl=>by simp at hl
 |c::C,X,y::Y,w,h,hl=>by
  have h1:=h.set X.length c (by rw[aak,List.length_cons];omega);rw[List.set_append_right _ _ (aad _),abb,ab1]at h1;have h2:=Row.Qq C (X++[c]) Y _ (by rw[aaI];exact h1) (by simpa using hl);rw[aak,List.length_singleton,aaI]at h2;rw[World.setCells];simpa using h2
theorem acT (g:Nat): ∀(vs:List Value) (o:Nat) (w:World),(w.setCells g o vs).heap.size=w.heap.size
 |[],_,_=>rfl
 |v::r,o,w=>by rw[World.setCells,acT g r];simp
theorem oK {F:Nat->Prop} {a:World} (g:Nat) (hg:F g): ∀(vs:List Value) (o:Nat) (w:World),Touch F a w->Touch F a (w.setCells g o vs)
 |[],_,_,h=>h
 |v::r,o,w,h=>by rw[World.setCells];exact oK g hg r (o+1) _ (h.setCell hg _)
structure rh {β:Type} (K:Kind β) (base n:Nat) (w:World) (g:Nat) (L:List β) (Z:List Value):Prop where
 row:Row w g (L.flatMap K.cells++Z)
 len:L.length*K.size+Z.length=n*K.size
 fa: ∀x∈L,K.fa base w x
 o: ∀x∈L,∀b,K.dR x b->b≠g
 two:L.Pairwise (λp q=> ∀b,K.dR p b-> ¬K.dR q b)
theorem rh.below {β:Type} {K:Kind β} {base n:Nat} {w w':World} {g:Nat} {L:List β} {Z:List Value} (h:rh K base n w g L Z) (hb:Below w.heap.size w w') (hg:g<w.heap.size):rh K base n w' g L Z:=
 ⟨h.row.below hb hg,h.len,λx hx=>K.aD (F:=λ_=>False) (h.fa x hx) (Touch.dV hb) (λ_ _ h=>h),h.o,h.two⟩
theorem rh.start {β:Type} {K:Kind β} {base n:Nat} {w:World} {g:Nat} {Z:List Value} (h:Row w g Z) (hl:Z.length=n*K.size):rh K base n w g ([]:List β) Z:=
 ⟨by simpa using h,by simpa using hl,(λx hx=>by cases hx),(λx hx=>by cases hx),List.Pairwise.nil⟩
theorem rh.cell {β:Type} {K:Kind β} {base n:Nat} {w:World} {g:Nat} {L:List β} {Z:List Value} (h:rh K base n w g L Z) {k:Nat} (hk:L.length=k) (aI:k<n) {i:Nat} (hi:i<K.size):(∃u,w.cell? ⟨g,k*K.size+i,none⟩=some u)/\w.frozen? ⟨g,k*K.size+i,none⟩=false:=by
 subst hk;have:(L.length+1)*K.size<=n*K.size:=abX _ aI;rw[aaO]at this
 have hl:L.length*K.size+i<(L.flatMap K.cells++Z).length:=by
  rw[aak,bp K.cells K.len,h.len];omega
 exact ⟨⟨_,h.row.cell _ _ (aag hl)⟩,h.row.free _ hl⟩
theorem rh.step {β:Type} {K:Kind β} {base n:Nat} {w:World} {g:Nat} {L:List β} {Z:List Value} (h:rh K base n w g L Z) {k:Nat} (hk:L.length=k) (aI:k<n) {x:β} {lo:Nat} (hx:K.fa base w x) (PH: ∀b,K.dR x b->lo<=b) (hg:g<lo) (hL: ∀q∈L,∀b,K.dR q b->b<lo):
 rh K base n (w.setCells g (k*K.size) (K.cells x)) g (L++[x]) (Z.drop K.size):=by
 subst hk;have hmul:(L.length+1)*K.size<=n*K.size:=abX _ aI;rw[aaO]at hmul;have hl:=h.len;have hlen:=bp K.cells K.len L;have ht:Touch (λb=>b=g) w (w.setCells g (L.length*K.size) (K.cells x)):=oK (F:=λb=>b=g) g rfl _ _ _ (Touch.refl _ _);refine ⟨?_,?_,λq hq=>?_,λq hq b hb=>?_,?_⟩
 ·have:=Row.Qq (K.cells x) (L.flatMap K.cells) Z w h.row (by rw[K.len];omega);rw[hlen,K.len]at this;rw[abf,aa0,List.flatMap_nil,abv,aaI];exact this
 ·rw[aak,List.length_singleton,aaS,aaO];omega
 ·rcases aau.1 hq with hq|hq
  ·exact K.aD (h.fa q hq) ht (λb hb e=>h.o q hq b hb e)
  rw[aas.1 hq];exact K.aD hx ht (λb hb e=>by have:=PH b hb;omega)
 ·rcases aau.1 hq with hq|hq
  ·exact h.o q hq b hb
  rw[aas.1 hq]at hb;have:=PH b hb;omega
 rw[aaY];refine ⟨h.two,List.pairwise_singleton _ _,λp hp q hq b h1 h2=>?_⟩;rw[aas.1 hq]at h2;have:=hL p hp b h1;have:=PH b h2;omega
theorem rh.lt {β:Type} {K:Kind β} {base n:Nat} {w:World} {g:Nat} {L:List β} {Z:List Value} (h:rh K base n w g L Z): ∀q∈L,∀b,K.dR q b->b<w.heap.size:=λq hq _ hb=>(K.lt (h.fa q hq) hb).2
theorem rh.tree {β:Type} {K:Kind β} {base n:Nat} {w:World} {g:Nat} {L:List β} {Z:List Value} (h:rh K base n w g L Z) (hn:L.length=n) (hg:g<w.heap.size) (kd:base<=g) (hm:n<=maxLen):aR K base w (.slice (some ⟨g,0,none⟩) n n) L:=by
 subst hn;have hz:Z=[]:=abO (by have:=h.len;omega);have hr:=h.row;rw[hz,abv]at hr;exact ⟨⟨_,_,rfl,aad _,hm,λ_=>⟨g,rfl,kd,hg,hr⟩⟩,h.fa,λq hq b hb e=>h.o q hq b hb (by injection e with e;exact e.symm),h.two⟩
theorem bG {w:World} {base:Nat} {e:TypeId} {size n:Nat} {v:Value} {xs:List Value} (h:w.ownsRow base e size v n xs) (hn:v≠ .slice none 0 0): ∃g cap,v= .slice (some ⟨g,0,none⟩) n cap/\n<=cap/\cap<=maxLen:=by
 obtain ⟨hl,h|⟨g1,cap,kT,rfl,_,hh,h1,h2,_⟩⟩:=h
 ·exact absurd h.1 hn
 exact ⟨g1,cap,rfl,h1,h2⟩
theorem ly (w:World) (o:Obj):(w.alloc o).heap[w.heap.size]?=some o:=heap_alloc_new w o
def Sx (l:List UInt8):List UInt8:=l.map λc=>if c=59 then 10 else c
theorem dj (n a b:Int) (w:World) (r:Bool) (h:dO n a b=r):Calls prog 40 #[.int .i64 n,.int .i64 a,.int .i64 b] w (f' (.bool r) w):=h▸lZ n a b w
noncomputable def XP (lo hi:Int) (l:List UInt8):List Int:=if l=[]then []else if (sL 44 l).length<=101 then (Qm lo hi (sL 44 l)).getD []else []
def Qr (zs:List Int) (w:World) (e:Ending) (w':World):Prop:= ∃v ok,e= .returned (.tuple #[v,.bool ok])/\ay ak zs w.heap.size w' v/\Below w.heap.size w w'
structure bE where
 id:Int
 text:ByteArray
def ai (a:bE):List Value:=[.int .i64 a.id,.string a.text]
def iT (w:World) (B:Nat) (v:Value) (s:List bE):Prop:=cz (Pl ai) 2 w B v s
def jf (a:bE):Bool:=dO a.id 1 99&&bP a.text.toList
def EH (s:List bE) (k:Nat):Int:=((s[k]?).map (·.id)).getD 0
def gR (s:List bE) (k:Nat):Bool:=((s[k]?).map jf).getD true&&(decide (k=0)||decide (EH s (k-1)<EH s k))
def cd (s:List bE):Bool:=cE s.length (gR s)&&decide (s.length<=8)
def Ld (a:bE):List UInt8:=itoa a.id++32::a.text.toList
def AD (s:List bE):List UInt8:=s.flatMap (λa=>Ld a++[10])
theorem ke {w:World} {B b off:Nat} {es:List bE} (h: ∀(k:Nat) (x:bE),es[k]?=some x-> ∃us,us.length=2/\Pl ai w B us x/\ ∀(j:Nat) (u:Value),us[j]?=some u->w.cell? ⟨b,off+k*2+j,none⟩=some u) {k:Nat} {e:bE} (hk:es[k]?=some e):
 w.cell? ⟨b,off+k*2,none⟩=some (.int .i64 e.id)/\w.cell? ⟨b,off+k*2+1,none⟩=some (.string e.text):=by
 obtain ⟨us,hl,hp,hc⟩:=h k e hk;have hp:us=ai e:=hp;subst hp;exact ⟨hc 0 _ rfl,hc 1 _ rfl⟩
theorem nh {p:List bE} {k:Nat} {e:bE} (h:p[k]?=some e) (ho:jf e=false):gR p k=false:=by
 unfold gR;rw[h];simp[ho]
theorem oL {p:List bE} {k:Nat} {e:bE} (hk:k=0) (h:p[k]?=some e) (ho:jf e=true):gR p k=true:=by
 subst hk;unfold gR;rw[h];simp[ho]
theorem oM {p:List bE} {m:Nat} {d e:bE} (hd:p[m]?=some d) (h:p[m+1]?=some e) (ho:jf e=true):gR p (m+1)=decide (d.id<e.id):=by
 unfold gR EH;rw[h];simp[ho,hd]
theorem jZ {p:List bE} {k:Nat} (hk:k<p.length) (h:gR p k=false):cd p=false:=by
 unfold cd;rw[fN hk h];rfl
theorem lz {p:List bE} (h:cd p=true):p.length<=8:=by
 unfold cd at h;rw[aay]at h;exact aa3 h.2
theorem oN {e:bE} (h:jf e=true):1<=e.id/\e.id<=99/\bP e.text.toList=true/\e.text.toList.length<=24:=by
 unfold jf at h;rw[aay,dS]at h;exact ⟨h.1.1,h.1.2,h.2,lq h.2⟩
noncomputable def Wb (l:List UInt8):bE:=⟨(numOf 1 99 (sK 32 l).1).getD 0,⟨(sK 32 l).2.toArray⟩⟩
noncomputable def statOf (t:List UInt8):Option (List bE):=inv cd AD t
def Sy (s:List bE):List UInt8:=if cd s=true then AD s else []
theorem AE {α:Type} (key:α->Int) (s:List α) (h: ∀(k:Nat) (a b:α),s[k]?=some a->s[k+1]?=some b->key a<key b):s.Pairwise (λa b=>key a<key b):=by
 rw[abn];intro i j hi hj Ip;induction j with
 |zero=>omega
 |succ j ih=>
  have Qs:j<s.length:=by omega
  have h1:=h j s[j] s[j+1] (aag Qs) (aag hj);by_cases e:i=j
  ·subst e;exact h1
  have:=ih Qs (by omega);omega
theorem AF {α:Type} (key:α->Int) {s:List α} (h:s.Pairwise (λa b=>key a<key b)): ∀(k:Nat) (a b:α),s[k]?=some a->s[k+1]?=some b->key a<key b:=by
 intro k a b ha hb;obtain ⟨hk,rfl⟩:=aal.1 ha;obtain ⟨di,rfl⟩:=aal.1 hb;exact (abn.1 h) k (k+1) hk di (by omega)
def iL (s:List bE):Prop:=s.Pairwise (λa b=>a.id<b.id)
def gV (p:List aV):Prop:=p.Pairwise (λa b=>a.id<b.id)
theorem lA (s:List bE):cd s=true↔(∀a∈s,jf a=true)/\iL s/\s.length<=8:=by
 unfold cd;rw[aay,eo,aaU];constructor
 ·rintro ⟨h,hl⟩;refine ⟨λa ha=>?_,AE (λx:bE=>x.id) s (λk a b ha hb=>?_),hl⟩
  ·obtain ⟨k,hk⟩:=aa2 ha;have:=h k (aal.1 hk).1;unfold gR at this;rw[hk,aay]at this;exact this.1
  have:=h (k+1) (aal.1 hb).1;unfold gR EH at this;rw[hb]at this;simp[ha]at this;exact this.2
 rintro ⟨h1,h2,hl⟩;refine ⟨λk hk=>?_,hl⟩;have hx:s[k]?=some s[k]:=aag hk;rcases k with _|k
 ·exact oL rfl hx (h1 _ (aax hk))
 have hd:s[k]?=some s[k]:=aag (by omega);rw[oM hd hx (h1 _ (aax hk)),aaU];exact AF (λx:bE=>x.id) h2 k _ _ hd hx
theorem fO (s:List aV):bF s=true↔(∀a∈s,dE a=true)/\gV s/\s.length<=16:=by
 rw[lp,aay,eo,aaU];constructor
 ·rintro ⟨h,hl⟩;refine ⟨λa ha=>?_,AE (λx:aV=>x.id) s (λk a b ha hb=>?_),hl⟩
  ·obtain ⟨k,hk⟩:=aa2 ha;have:=h k (aal.1 hk).1;unfold fA at this;rw[hk,aay]at this;exact this.1
  have:=h (k+1) (aal.1 hb).1;unfold fA Fj at this;rw[hb]at this;simp[ha]at this;exact this.2
 rintro ⟨h1,h2,hl⟩;refine ⟨λk hk=>?_,hl⟩;have hx:s[k]?=some s[k]:=aag hk;rcases k with _|k
 ·exact mZ rfl hx (h1 _ (aax hk))
 have hd:s[k]?=some s[k]:=aag (by omega);rw[m9 hd hx (h1 _ (aax hk)),aaU];exact AF (λx:aV=>x.id) h2 k _ _ hd hx
def bC:List bE->Int->ByteArray
 |[],_=>⟨#[]⟩
 |a::r,i=>if a.id=i then a.text else bC r i
def sX:aV:=⟨0,0,⟨#[]⟩,⟨#[]⟩⟩
def bQ:List aV->Int->aV
 |[],_=>sX
 |a::r,i=>if a.id=i then a else bQ r i
theorem iU {s:List bE} {i:Int} (h: ∀a∈s,a.id≠i):bC s i=⟨#[]⟩:=by
 induction s with
 |nil=>rfl
 |cons a r ih=>rw[bC,aah (h a (aaA)),ih (λx hx=>h x (aaR _ hx))]
theorem FD {s:List bE} (hr:iL s) {a:bE} (h:a∈s):bC s a.id=a.text:=by
 induction s with
 |nil=>cases h
 |cons b r ih=>
  rw[bC];obtain ⟨hb,NB⟩:=aa9.1 hr;rcases aaF.1 h with rfl|h
  ·rw[aaj rfl]
  rw[aah (by have:=hb a h;omega),ih NB h]
theorem tR {s:List aV} {i:Int} (h: ∀a∈s,a.id≠i):bQ s i=sX:=by
 induction s with
 |nil=>rfl
 |cons a r ih=>rw[bQ,aah (h a (aaA)),ih (λx hx=>h x (aaR _ hx))]
theorem u9 {s:List aV} (hr:gV s) {a:aV} (h:a∈s):bQ s a.id=a:=by
 induction s with
 |nil=>cases h
 |cons b r ih=>
  rw[bQ];obtain ⟨hb,NB⟩:=aa9.1 hr;rcases aaF.1 h with rfl|h
  ·rw[aaj rfl]
  rw[aah (by have:=hb a h;omega),ih NB h]
theorem rB (s:List aV) (i:Int):(bQ s i∈s/\(bQ s i).id=i)\/(bQ s i=sX/\ ∀a∈s,a.id≠i):=by
 induction s with
 |nil=>exact .inr ⟨rfl,λa ha=>by cases ha⟩
 |cons b r ih=>
  rw[bQ];by_cases h:b.id=i
  ·rw[aaj h];exact .inl ⟨aaA,h⟩
  rw[aah h];rcases ih with ⟨h1,h2⟩|⟨h1,h2⟩
  ·exact .inl ⟨aaR _ h1,h2⟩
  refine .inr ⟨h1,λa ha=>?_⟩;rcases aaF.1 ha with rfl|ha
  ·exact h
  exact h2 a ha
theorem tS (s:List bE) (i:Int):(∃a∈s,a.id=i/\bC s i=a.text)\/(bC s i=⟨#[]⟩/\ ∀a∈s,a.id≠i):=by
 induction s with
 |nil=>exact .inr ⟨rfl,λa ha=>by cases ha⟩
 |cons b r ih=>
  rw[bC];by_cases h:b.id=i
  ·rw[aaj h];exact .inl ⟨b,aaA,h,rfl⟩
  rw[aah h];rcases ih with ⟨a,h1,h2,h3⟩|⟨h1,h2⟩
  ·exact .inl ⟨a,aaR _ h1,h2,h3⟩
  refine .inr ⟨h1,λa ha=>?_⟩;rcases aaF.1 ha with rfl|ha
  ·exact h
  exact h2 a ha
theorem C3 {s:List bE} {i:Int} {k:Nat} {a:bE} (hk:s[k]?=some a) (hn:a.id≠i) (h:bC s i=bC (s.drop k) i):bC s i=bC (s.drop (k+1)) i:=by
 have aI:=(aal.1 hk).1
 have e:s.drop k=a::s.drop (k+1):=by
  rw[abu aI];rw[(aal.1 hk).2]
 rw[h,e,bC,aah hn]
theorem FE {s:List bE} {i:Int} {k:Nat} {a:bE} (hk:s[k]?=some a) (hn:a.id=i) (h:bC s i=bC (s.drop k) i):bC s i=a.text:=by
 have aI:=(aal.1 hk).1
 have e:s.drop k=a::s.drop (k+1):=by
  rw[abu aI];rw[(aal.1 hk).2]
 rw[h,e,bC,aaj hn]
theorem FF {s:List bE} {i:Int} {k:Nat} (hk:s.length<=k) (h:bC s i=bC (s.drop k) i):bC s i=⟨#[]⟩:=by
 rw[h,abB hk];rfl
theorem AG {s:List aV} {i:Int} {k:Nat} {a:aV} (hk:s[k]?=some a) (hn:a.id≠i) (h:bQ s i=bQ (s.drop k) i):bQ s i=bQ (s.drop (k+1)) i:=by
 have aI:=(aal.1 hk).1
 have e:s.drop k=a::s.drop (k+1):=by
  rw[abu aI];rw[(aal.1 hk).2]
 rw[h,e,bQ,aah hn]
theorem C4 {s:List aV} {i:Int} {k:Nat} {a:aV} (hk:s[k]?=some a) (hn:a.id=i) (h:bQ s i=bQ (s.drop k) i):bQ s i=a:=by
 have aI:=(aal.1 hk).1
 have e:s.drop k=a::s.drop (k+1):=by
  rw[abu aI];rw[(aal.1 hk).2]
 rw[h,e,bQ,aaj hn]
theorem C6 {s:List aV} {i:Int} {k:Nat} (hk:s.length<=k) (h:bQ s i=bQ (s.drop k) i):bQ s i=sX:=by
 rw[h,abB hk];rfl
def Wc (i:Int) (dA new:ByteArray):aV:=
 if dA.toList=new.toList then sX else if dA.toList=[]then ⟨1,i,dA,new⟩else if new.toList=[]then ⟨2,i,dA,new⟩else ⟨3,i,dA,new⟩
theorem AH: ∀{s t:List bE},iL s->iL t->(∀a∈s,a.text≠⟨#[]⟩)->(∀a∈t,a.text≠⟨#[]⟩)->(∀i,bC s i=bC t i)->s=t
 |[],[],_,_,_,_,_=>rfl
 |[],b::t,_,ht,_,hb,h=>by
  have:=h b.id;rw[bC,bC,aaj rfl]at this;exact absurd this.symm (hb b aaA)
 |a::s,[],_,_,ha,_,h=>by
  have:=h a.id;rw[bC,bC,aaj rfl]at this;exact absurd this (ha a aaA)
 |a::s,b::t,hs,ht,ha,hb,h=>by
  obtain ⟨CB,wY⟩:=aa9.1 hs;obtain ⟨Wd,XQ⟩:=aa9.1 ht
  have hid:a.id=b.id:=by
   rcases Int.lt_trichotomy a.id b.id with aI|he|XR
   ·have e:=h a.id;rw[bC,aaj rfl,bC,aah (by omega),iU (λx hx=>by have:=Wd x hx;omega)]at e;exact absurd e (ha a aaA)
   ·exact he
   have e:=h b.id;rw[bC,aah (by omega),iU (λx hx=>by have:=CB x hx;omega),bC,aaj rfl]at e;exact absurd e.symm (hb b aaA)
  have We:a.text=b.text:=by
   have e:=h a.id;rw[bC,aaj rfl,bC,aaj hid.symm]at e;exact e
  have XS:a=b:=by
   obtain ⟨i,x⟩:=a;obtain ⟨j,y⟩:=b;simp only at hid We;rw[hid,We]
  rw[XS,AH wY XQ (λx hx=>ha x (aaR _ hx)) (λx hx=>hb x (aaR _ hx)) (λi=>by
   by_cases hi:i=a.id
   ·rw[iU (λx hx=>by have:=CB x hx;omega),iU (λx hx=>by have:=Wd x hx;omega)]
   have e:=h i;rw[bC,aah (by omega),bC,aah (by omega)]at e;exact e)]
theorem oO: ∀{A B:List bE} {a:bE},(∀c∈A,c.id<a.id)-> ∀q,bC (A++a::B) q=if q=a.id then a.text else bC (A++B) q
 |[],B,a,_,q=>by
  show bC (a::B) q=_
  rw[bC];by_cases h:a.id=q
  ·rw[aaj h,aaj h.symm]
  rw[aah h,aah (λe=>h e.symm)];rfl
 |x::A,B,a,hA,q=>by
  have hx:=hA x aaA;show bC (x::(A++a::B)) q=if q=a.id then a.text else bC (x::(A++B)) q
  rw[bC,bC,oO (λc hc=>hA c (aaR _ hc)) q];by_cases h:x.id=q
  ·rw[aaj h,aaj h,aah (by omega)]
  rw[aah h,aah h]
theorem rC {A B:List bE} {a:bE} (h:iL (A++a::B)):(∀c∈A,c.id<a.id)/\(∀c∈B,a.id<c.id)/\iL (A++B):=by
 unfold iL at*;rw[aaY,aa9]at h;refine ⟨λc hc=>h.2.2 c hc a aaA,h.2.1.1,?_⟩;rw[aaY];exact ⟨h.1,h.2.1.2,λx hx y hy=>h.2.2 x hx y (aaR _ hy)⟩
theorem AI {A B:List bE} {a:bE} (h:iL (A++B)) (hA: ∀c∈A,c.id<a.id) (hB: ∀c∈B,a.id<c.id):iL (A++a::B):=by
 unfold iL at*;rw[aaY]at h⊢;rw[aa9];refine ⟨h.1,⟨hB,h.2.1⟩,λx hx y hy=>?_⟩;rcases aaF.1 hy with rfl|hy
 ·exact hA x hx
 exact h.2.2 x hx y hy
theorem FG {A B:List bE} {a:bE} (h:iL (A++a::B)) (q:Int):bC (A++B) q=if q=a.id then ⟨#[]⟩else bC (A++a::B) q:=by
 obtain ⟨hA,hB,_⟩:=rC h;by_cases e:q=a.id
 ·rw[aaj e,iU];intro c hc;rcases aau.1 hc with hc|hc
  ·have:=hA c hc;omega
  have:=hB c hc;omega
 rw[aah e,oO hA q,aah e]
theorem AJ {A B:List bE} {a:bE} (x:ByteArray) (h:iL (A++a::B)) (q:Int):bC (A++⟨a.id,x⟩::B) q=if q=a.id then x else bC (A++a::B) q:=by
 obtain ⟨hA,hB,_⟩:=rC h;rw[oO (a:=⟨a.id,x⟩) hA q,oO hA q];by_cases e:q=a.id
 ·rw[aaj e,aaj e]
 rw[aah e,aah e,aah e]
theorem AK {A B:List bE} {a:bE} (x:ByteArray) (h:iL (A++a::B)):iL (A++⟨a.id,x⟩::B):=by
 obtain ⟨hA,hB,hr⟩:=rC h;exact AI (a:=⟨a.id,x⟩) hr hA hB
def target (S:List bE) (P:List aV) (i:Int):ByteArray:=if (bQ P i).kind=0 then bC S i else (bQ P i).new
def fits (S:List bE) (P:List aV):Bool:=P.all (λe=>bC S e.id==e.dA)
theorem rD {S:List bE} {P:List aV}:fits S P=true↔ ∀e∈P,bC S e.id=e.dA:=by
 unfold fits;rw[List.all_eq_true];constructor
 ·intro h e he;have:=h e he;rw[beq_toListBytes,ajZ]at this;rw[<-gO (bC S e.id),this,gO]
 intro h e he;rw[h e he,beq_toListBytes];simp
structure jD (S:List bE):Prop where
 lS:iL S
 all: ∀a∈S,jf a=true
theorem jD.of {S:List bE} (h:cd S=true):jD S:=⟨((lA S).1 h).2.1,((lA S).1 h).1⟩
theorem jD.ok {S:List bE} (h:jD S) (h8:S.length<=8):cd S=true:=(lA S).2 ⟨h.all,h.lS,h8⟩
theorem uH {t:ByteArray} (h:bP t.toList=true):t.toList≠[]:=by
 intro h0;rw[h0]at h;revert h;decide
theorem jD.text {S:List bE} (h:jD S) {a:bE} (ha:a∈S):a.text≠⟨#[]⟩:=by
 intro e;have:=(oN (h.all a ha)).2.2.1;rw[e]at this;exact uH this (by rw[abk])
theorem jD.ext {S T:List bE} (hS:jD S) (hT:jD T) (h: ∀i,bC S i=bC T i):S=T:=
 AH hS.lS hT.lS (λ_ ha=>hS.text ha) (λ_ ha=>hT.text ha) h
structure cP (S:List bE) (P:List aV) (R:List bE):Prop where
 mC:jD R
 find: ∀i,bC R i=target S P i
theorem cP.Qt {S:List bE} {P:List aV} {R T:List bE} (h:cP S P R) (k:cP S P T):R=T:=
 h.mC.ext k.mC (λi=>(h.find i).trans (k.find i).symm)
theorem cP.nil {S:List bE} (h:jD S):cP S [] S:=⟨h,λ_=>rfl⟩
theorem vd: ∀{P Q:List aV} {i:Int},(∀a∈P,a.id≠i)->bQ (P++Q) i=bQ Q i
 |[],_,_,_=>rfl
 |a::P,Q,i,h=>by
  show bQ (a::(P++Q)) i=_
  rw[bQ,aah (h a aaA),vd (λx hx=>h x (aaR _ hx))]
theorem tT: ∀{P Q:List aV} {i:Int},(∀a∈Q,a.id≠i)->bQ (P++Q) i=bQ P i
 |[],Q,i,h=>by
  show bQ Q i=sX
  exact tR h
 |a::P,Q,i,h=>by
  show bQ (a::(P++Q)) i=_
  rw[bQ,bQ,tT h]
theorem Le {e:aV} (h:dE e=true):e.kind≠0:=by
 obtain ⟨_,_,hk⟩:=gy h;omega
theorem C7 {S:List bE} {P:List aV} {i:Int} (h: ∀a∈P,a.id≠i):target S P i=bC S i:=by
 unfold target;rw[tR h];rfl
theorem oP {S:List bE} {P:List aV} {e:aV} (hP:gV (P++[e])) (he:dE e=true) (i:Int):target S (P++[e]) i=if i=e.id then e.new else target S P i:=by
 have gm: ∀a∈P,a.id≠e.id:=λa ha=>by
  unfold gV at hP;rw[aaY]at hP;have:=hP.2.2 a ha e (by simp);omega
 by_cases h:i=e.id
 ·subst h;rw[aaj rfl];unfold target;rw[vd gm,bQ,aaj rfl,aah (Le he)]
 rw[aah h];unfold target;rw[tT (by simpa using λe'=>h e'.symm)]
theorem cP.drop {S A B:List bE} {P:List aV} {e:aV} {a:bE} (h:cP S P (A++a::B)) (hP:gV (P++[e])) (he:dE e=true) (hk:e.kind=2) (hi:a.id=e.id):cP S (P++[e]) (A++B) where
 mC:=⟨(rC h.mC.lS).2.2,λc hc=>h.mC.all c (by
  rcases aau.1 hc with hc|hc
  ·exact abr _ hc
  exact aa5 _ (aaR _ hc))⟩
 find:=λi=>by
  have hn:e.new=⟨#[]⟩:=by
   obtain ⟨_,_,di⟩:=gy he;rcases di with ⟨k,_,_⟩|⟨_,_,hn⟩|⟨k,_,_⟩
   ·omega
   ·exact hn
   omega
  rw[FG h.mC.lS i,oP hP he i,h.find i,hn,hi]
theorem cP.turn {S A B:List bE} {P:List aV} {e:aV} {a:bE} (h:cP S P (A++a::B)) (hP:gV (P++[e])) (he:dE e=true) (hk:e.kind=3) (hi:a.id=e.id):cP S (P++[e]) (A++⟨a.id,e.new⟩::B) where
 mC:=⟨AK _ h.mC.lS,λc hc=>by
  rcases aau.1 hc with hc|hc
  ·exact h.mC.all c (abr _ hc)
  rcases aaF.1 hc with rfl|hc
  ·obtain ⟨h1,h2,di⟩:=gy he;rcases di with ⟨k,_,_⟩|⟨k,_,_⟩|⟨_,_,hn⟩
   ·omega
   ·omega
   unfold jf;rw[hn,ki (by show 1<=a.id;omega) (by show a.id<=99;omega)];rfl
  exact h.mC.all c (aa5 _ (aaR _ hc))⟩
 find:=λi=>by rw[AJ _ h.mC.lS i,oP hP he i,h.find i,hi]
theorem cP.add {S A B:List bE} {P:List aV} {e:aV} (h:cP S P (A++B)) (hP:gV (P++[e])) (he:dE e=true) (hk:e.kind=1) (hA: ∀c∈A,c.id<e.id) (hB: ∀c∈B,e.id<c.id):cP S (P++[e]) (A++⟨e.id,e.new⟩::B) where
 mC:=⟨AI (a:=⟨e.id,e.new⟩) h.mC.lS hA hB,λc hc=>by
  rcases aau.1 hc with hc|hc
  ·exact h.mC.all c (abr _ hc)
  rcases aaF.1 hc with rfl|hc
  ·obtain ⟨h1,h2,di⟩:=gy he;rcases di with ⟨_,_,hn⟩|⟨k,_,_⟩|⟨k,_,_⟩
   ·unfold jf;rw[hn,ki h1 h2];rfl
   ·omega
   omega
  exact h.mC.all c (aa5 _ hc)⟩
 find:=λi=>by rw[oO (a:=⟨e.id,e.new⟩) hA i,oP hP he i,h.find i]
def ni (S:List bE) (P:List aV):List bE:=
 (List.range 99).filterMap (λj:Nat=>if (target S P ((j:Int)+1)).toList=[]then none else some ⟨(j:Int)+1,target S P ((j:Int)+1)⟩)
theorem ye {S:List bE} {P:List aV} (hS:jD S) (hP:bF P=true) (i:Int):(target S P i).toList=[]\/(bP (target S P i).toList=true/\1<=i/\i<=99):=by
 unfold target
 split
 ·rcases tS S i with ⟨a,ha,hi,h⟩|⟨h,_⟩
  ·obtain ⟨h1,h2,h3,_⟩:=oN (hS.all a ha);rw[h];exact .inr ⟨h3,by omega,by omega⟩
  rw[h];exact .inl (by rw[abk])
 rename_i hk;rcases rB P i with ⟨hm,hi⟩|⟨h,_⟩
 ·obtain ⟨h1,h2,di⟩:=gy (((fO P).1 hP).1 _ hm);rcases di with ⟨_,_,hn⟩|⟨_,_,hn⟩|⟨_,_,hn⟩
  ·exact .inr ⟨hn,by omega,by omega⟩
  ·rw[hn];exact .inl (by rw[abk])
  exact .inr ⟨hn,by omega,by omega⟩
 rw[h]at hk;exact absurd rfl hk
theorem C8 (f:Nat->ByteArray): ∀(n:Nat) (a:bE),a∈(List.range n).filterMap (λj=>if (f j).toList=[]then none else some (⟨(j:Int)+1,f j⟩:bE))-> ∃j,j<n/\a=⟨(j:Int)+1,f j⟩/\(f j).toList≠[]:=by
 intro n a h;obtain ⟨j,hj,h⟩:=List.mem_filterMap.1 h
 split at h
 ·cases h
 rename_i gm;injection h with h
 exact ⟨j,abS.1 hj,h.symm,gm⟩
theorem Lf (f:Nat->ByteArray) (n:Nat):iL ((List.range n).filterMap (λj=>if (f j).toList=[]then none else some (⟨(j:Int)+1,f j⟩:bE))):=by
 induction n with
 |zero=>exact List.Pairwise.nil
 |succ n ih=>
  unfold iL at*;rw[List.range_succ,List.filterMap_append,aaY];refine ⟨ih,?_,λx hx y hy=>?_⟩
  ·rw[List.filterMap_cons,List.filterMap_nil]
   split<;>simp
  obtain ⟨j,hj,rfl,_⟩:=C8 f n x hx;obtain ⟨k,hk,h⟩:=List.mem_filterMap.1 hy;rw[aas]at hk;subst hk
  split at h
  ·cases h
  injection h with h
  rw[<-h];show (j:Int)+1<(k:Int)+1
  omega
theorem cP.ni {S:List bE} {P:List aV} (hS:jD S) (hP:bF P=true):cP S P (ni S P) where
 mC:=⟨Lf (λj:Nat=>target S P ((j:Int)+1)) 99,λa ha=>by
  obtain ⟨j,hj,rfl,gm⟩:=C8 (λj:Nat=>target S P ((j:Int)+1)) 99 a ha;rcases ye hS hP ((j:Int)+1)with h|⟨h1,h2,h3⟩
  ·exact absurd h gm
  unfold jf;rw[h1,ki h2 h3];rfl⟩
 find:=λi=>by
  have TG: ∀t:ByteArray,t.toList=[]->t=⟨#[]⟩:=λt h=>by rw[<-gO t,h]
  rcases tS (Go.Proofs.YtbcggaldkihcaaaGreat.ni S P) i with ⟨a,ha,hi,h⟩|⟨h,rf⟩
  ·obtain ⟨j,hj,rfl,gm⟩:=C8 (λj:Nat=>target S P ((j:Int)+1)) 99 a ha;rw[h,<-hi]
  rw[h];rcases ye hS hP i with h0|⟨h1,h2,h3⟩
  ·exact (TG _ h0).symm
  exfalso
  refine rf ⟨i,target S P i⟩ (List.mem_filterMap.2 ⟨(i-1).toNat,abS.2 (by omega),?_⟩) rfl;have e:(((i-1).toNat:Nat):Int)+1=i:=by omega
  rw[e,aah (uH h1)]
def fT (S:List bE) (P:List aV):Option (List bE):=if fits S P=true/\(ni S P).length<=8 then some (ni S P)else none
theorem FH {S R:List bE} {P:List aV} (hS:jD S) (hP:bF P=true) (h:fT S P=some R):cd R=true/\cP S P R/\fits S P=true:=by
 unfold fT at h
 split at h
 ·rename_i hc;injection h with h
  subst h;exact ⟨(cP.ni hS hP).mC.ok hc.2,cP.ni hS hP,hc.1⟩
 cases h
theorem FI {S R:List bE} {P:List aV} (hS:jD S) (hP:bF P=true) (hf:fits S P=true) (hR:cP S P R):fT S P=if R.length<=8 then some R else none:=by
 have e:=(cP.ni hS hP).Qt hR;unfold fT;rw[e];by_cases h:R.length<=8
 ·rw[aaj ⟨hf,h⟩,aaj h]
 rw[aah (λk=>h k.2),aah h]
theorem yf {S:List bE} {P:List aV} (hf:fits S P=false):fT S P=none:=aah (λk=>by rw[hf]at k;cases k.1)
theorem oQ:(prog.info? 139).map (λi=>(i.zero,i.size,i.bytes))=some (some (.agg #[.int .i64 0,.string ⟨#[]⟩]),2,24):=by kernel_rfl
theorem eU {q:bE} {u:Value} (h:u∈ai q):u.oneCell'=true:=by
 unfold ai at h;rcases aaF.1 h with rfl|h
 ·rfl
 rcases aaF.1 h with rfl|h
 ·rfl
 cases h
theorem mD (s:ByteArray) (w:World) (hs:s.size<=maxLen) (r:Bool) (h:bP s.toList=r):Calls prog 109 #[.string s] w (f' (.bool r) w):=h▸fM s w hs
theorem EI {a:bE} (h:dO a.id 1 99=false):jf a=false:=by unfold jf;rw[h];rfl
theorem EJ {a:bE} (h:bP a.text.toList=false):jf a=false:=by unfold jf;rw[h,Bool.and_false]
theorem EK {a:bE} (h1:dO a.id 1 99=true) (h2:bP a.text.toList=true):jf a=true:=by unfold jf;rw[h1,h2];rfl
theorem FJ (es:List bE) (w:World) (v:Value) (h:iT w w.heap.size v es) (hs: ∀a∈es,a.text.size<=maxLen):
 Calls prog 45 #[v] w (bT (.bool (cd es)) w):=by
 obtain ⟨A,c,rfl,hc,hm,cn⟩:=h;unfold maxLen at hm;have rn:es.length<=9223372036854775807:=by omega
 have gH:=I cn;have HS:=I hs;clear cn hs;go_enter func45,ntmps45;go_wp2;go_loopw [3,4,7] (λ_ _ i wr=> ∃k:Nat,k<=es.length/\i= .int .i64 (k:Int)/\cE k (gR es)=true/\Below w.heap.size w wr) (λ_ _ i _=>es.length-(intOf i).toNat);case atStart=>exact ⟨0,aaf _,rfl,rfl,aae _ _⟩
 case round=>
  obtain ⟨k,hk,rfl,dn,hb⟩:=hrel;have HA:=I dn;clear dn;by_cases aI:k<es.length
  ·obtain ⟨b,off,rfl,bD,aC⟩:=gH.o (by omega);have aH:es[k]?=some es[k]:=aag aI;obtain ⟨c0,c1⟩:=ke aC aH;have x0:=(hb.cell (p:=⟨b,off+k*2,none⟩) bD).trans c0;have x1:=(hb.cell (p:=⟨b,off+k*2+1,none⟩) bD).trans c1;have HG:=I aH;have HC:=I aC;have gU:=HS.o es[k] (aax aI);clear aH aC c0 c1;generalize es[k]=e at*;cases tU:dO e.id 1 99 with
   |false=>
    have H1:=I tU;have H2:ag (bP e.text.toList=bP e.text.toList):=I rfl;have HB:=I (jZ aI (nh HG.o (EI tU)));clear tU;go_upto_region 4 with (fail)
    obtain ⟨W,hW⟩: ∃W:World,W=wr.alloc (.cells (ai e).toArray 139):=⟨_,rfl⟩
    change Code.wp _ _ _ _ (wr.alloc (.cells (ai e).toArray 139));have bW:Below w.heap.size w W:=by rw[hW];exact hb.alloc hb.size _
    have y0:W.cell? ⟨wr.heap.size,0,none⟩=some (.int .i64 e.id):=by rw[hW];simp[go_sem,ai]
    have y1:W.cell? ⟨wr.heap.size,1,none⟩=some (.string e.text):=by rw[hW];simp[go_sem,ai]
    rw[<-hW];clear hW x0 x1;have z0:=λx:ar W=>x.cell y0;have z1:=λx:ar W=>x.cell y1;clear y0 y1;refine bj (by kernel_rfl) (by kernel_rfl) ?_
    repeat (go_big_quiet_step ((first|(go_at_call 40;exact az (dj _ _ _ _ false H1.o))|(go_at_call 109;exact az (mD _ _ gU _ H2.o)))))
    refine aai ?_;rintro _ ⟨y,rfl⟩;have bY:=bW.trans (y.ok.mono bW.size);go_wp2;go_ret;exact ⟨by rw[HB.o];rfl,bY⟩
   |true=>
    have H1:=I tU;cases CD:bP e.text.toList with
    |false=>
     have H2:=I CD;have HB:=I (jZ aI (nh HG.o (EJ CD)));clear tU CD;go_upto_region 4 with (fail)
     obtain ⟨W,hW⟩: ∃W:World,W=wr.alloc (.cells (ai e).toArray 139):=⟨_,rfl⟩
     change Code.wp _ _ _ _ (wr.alloc (.cells (ai e).toArray 139));have bW:Below w.heap.size w W:=by rw[hW];exact hb.alloc hb.size _
     have y0:W.cell? ⟨wr.heap.size,0,none⟩=some (.int .i64 e.id):=by rw[hW];simp[go_sem,ai]
     have y1:W.cell? ⟨wr.heap.size,1,none⟩=some (.string e.text):=by rw[hW];simp[go_sem,ai]
     rw[<-hW];clear hW x0 x1;have z0:=λx:ar W=>x.cell y0;have z1:=λx:ar W=>x.cell y1;clear y0 y1;refine bj (by kernel_rfl) (by kernel_rfl) ?_
     repeat (go_big_quiet_step ((first|(go_at_call 40;exact az (dj _ _ _ _ true H1.o))|(go_at_call 109;exact az (mD _ _ gU false H2.o)))))
     refine aai ?_;rintro _ ⟨y,rfl⟩;have bY:=bW.trans (y.ok.mono bW.size);go_wp2;go_ret;exact ⟨by rw[HB.o];rfl,bY⟩
    |true=>
     have H2:=I CD;have HO:=I (EK tU CD);clear tU CD;have gN:=cR k (gR es);rw[HA.o,aaD]at gN;have gN:=I gN;by_cases jA:k=0
     ·have HN:ag (cE (k+1) (gR es)=true):=gN.o.trans (oL jA HG.o HO.o);have rc:decide ((0:Int)<(k:Int))=false:=by simp;omega
      have H0:decide (0<k)=false:=by simp;omega
      clear jA;go_upto_region 4 with (fail)
      obtain ⟨W,hW⟩: ∃W:World,W=wr.alloc (.cells (ai e).toArray 139):=⟨_,rfl⟩
      change Code.wp _ _ _ _ (wr.alloc (.cells (ai e).toArray 139));have bW:Below w.heap.size w W:=by rw[hW];exact hb.alloc hb.size _
      have y0:W.cell? ⟨wr.heap.size,0,none⟩=some (.int .i64 e.id):=by rw[hW];simp[go_sem,ai]
      have y1:W.cell? ⟨wr.heap.size,1,none⟩=some (.string e.text):=by rw[hW];simp[go_sem,ai]
      rw[<-hW];clear hW x0 x1;have z0:=λx:ar W=>x.cell y0;have z1:=λx:ar W=>x.cell y1;clear y0 y1;refine bj (by kernel_rfl) (by kernel_rfl) ?_
      repeat (go_big_quiet_step ((first|(go_at_call 40;exact az (dj _ _ _ _ true H1.o))|(go_at_call 109;exact az (mD _ _ gU true H2.o)))))
      refine aai ?_;rintro _ ⟨y,rfl⟩;have bY:=bW.trans (y.ok.mono bW.size);go_wp2;go_roundw;case rel=>exact ⟨k+1,by omega,by go_num,HN.o,bY⟩
      case measure=>simp[intOf];omega
     obtain ⟨m,rfl⟩: ∃m,k=m+1:=⟨k-1,by omega⟩
     have hd:es[m]?=some (es[m]'(by omega)):=aag (by omega);obtain ⟨d1,_⟩:=ke HC.o hd;generalize (es[m]'(by omega))=d at*;have HP:=I (oM hd HG.o HO.o);clear hd jA;by_cases hid:d.id<e.id
     ·have HN:ag (cE (m+1+1) (gR es)=true):=gN.o.trans (HP.o.trans (abd hid));have uT: ¬(e.id<=d.id):=by omega
      go_upto_region 4 with (fail)
      obtain ⟨W,hW⟩: ∃W:World,W=wr.alloc (.cells (ai e).toArray 139):=⟨_,rfl⟩
      change Code.wp _ _ _ _ (wr.alloc (.cells (ai e).toArray 139));have bW:Below w.heap.size w W:=by rw[hW];exact hb.alloc hb.size _
      have y0:W.cell? ⟨wr.heap.size,0,none⟩=some (.int .i64 e.id):=by rw[hW];simp[go_sem,ai]
      have y1:W.cell? ⟨wr.heap.size,1,none⟩=some (.string e.text):=by rw[hW];simp[go_sem,ai]
      rw[<-hW];clear hW x0 x1;have z0:=λx:ar W=>x.cell y0;have z1:=λx:ar W=>x.cell y1;clear y0 y1;have y4:W.cell? ⟨b,off+m*2,none⟩=some (.int .i64 d.id):=(bW.cell (p:=⟨b,off+m*2,none⟩) bD).trans d1;have z4:=λx:ar W=>x.cell y4;clear d1 y4;refine bj (by kernel_rfl) (by kernel_rfl) ?_
      repeat (go_big_quiet_step ((first|(go_at_call 40;exact az (dj _ _ _ _ true H1.o))|(go_at_call 109;exact az (mD _ _ gU true H2.o)))))
      refine aai ?_;rintro _ ⟨y,rfl⟩;have bY:=bW.trans (y.ok.mono bW.size);go_wp2;go_roundw;case rel=>exact ⟨(m+1)+1,by omega,by go_num,HN.o,bY⟩
      case measure=>simp[intOf];omega
     have HB:=I (jZ aI (HP.o.trans (aba hid)));have uT:e.id<=d.id:=by omega
     go_upto_region 4 with (fail)
     obtain ⟨W,hW⟩: ∃W:World,W=wr.alloc (.cells (ai e).toArray 139):=⟨_,rfl⟩
     change Code.wp _ _ _ _ (wr.alloc (.cells (ai e).toArray 139));have bW:Below w.heap.size w W:=by rw[hW];exact hb.alloc hb.size _
     have y0:W.cell? ⟨wr.heap.size,0,none⟩=some (.int .i64 e.id):=by rw[hW];simp[go_sem,ai]
     have y1:W.cell? ⟨wr.heap.size,1,none⟩=some (.string e.text):=by rw[hW];simp[go_sem,ai]
     rw[<-hW];clear hW x0 x1;have z0:=λx:ar W=>x.cell y0;have z1:=λx:ar W=>x.cell y1;clear y0 y1;have y4:W.cell? ⟨b,off+m*2,none⟩=some (.int .i64 d.id):=(bW.cell (p:=⟨b,off+m*2,none⟩) bD).trans d1;have z4:=λx:ar W=>x.cell y4;clear d1 y4;refine bj (by kernel_rfl) (by kernel_rfl) ?_
     repeat (go_big_quiet_step ((first|(go_at_call 40;exact az (dj _ _ _ _ true H1.o))|(go_at_call 109;exact az (mD _ _ gU true H2.o)))))
     refine aai ?_;rintro _ ⟨y,rfl⟩;have bY:=bW.trans (y.ok.mono bW.size);go_wp2;go_ret;exact ⟨by rw[HB.o];rfl,bY⟩
  have di:k=es.length:=by omega
  have hP:cd es=decide (es.length<=8):=by
   unfold cd;rw[<-di,HA.o,aaD]
  have HP:=I hP;have eA: ¬(k:Int)<(es.length:Int):=by omega
  clear hP di aI;by_cases rp:es.length<=8
  ·have Hg:decide ((es.length:Int)<=8)=true:=by simp;omega
   have uU:=I rp;clear rp;go_wp2;go_ret;exact ⟨by rw[HP.o];simp[uU.o],hb⟩
  have Hg:decide ((es.length:Int)<=8)=false:=by simp;omega
  have uU:=I rp;clear rp;go_wp2;go_ret;exact ⟨by rw[HP.o];simp[uU.o],hb⟩
def za (w:World) (B:Nat) (A:Option Addr) (n:Nat):Prop:=
 n<=maxLen/\(0<n-> ∃b off,A=some ⟨b,off,none⟩/\b<B/\ ∀i,i<n-> ∃x:Nat,x<=255/\w.cell? ⟨b,off+i,none⟩=some (.int .u8 x))
def Src (B:Nat) (w:World) (b:Nat) (k:Nat):Prop:=
 ∃(A:Option Addr) (n c p:Nat) (q:Int),w.heap[b]?=some (.cells #[.slice A n c,.int .i64 (p:Int),.int .u64 q] 125 (0,0))/\B<=b/\p<=k/\0<=q/\q<18446744073709551616/\za w B A n
def acC (B:Nat) (w:World) (b k:Nat) (e:Ending) (w':World):Prop:=
 ∃x:Nat,x<=255/\e= .returned (.int .i64 (x:Int))/\Src B w' b (k+1)/\iJ b w w'
theorem Src.more {B:Nat} {w:World} {b k k':Nat} (h:Src B w b k) (hk:k<=k'):Src B w b k':=by
 obtain ⟨A,n,c,p,q,h1,h2,h3,h4⟩:=h;exact ⟨A,n,c,p,q,h1,h2,by omega,h4⟩
def aen (B:Nat) (w:World) (b k:Nat) (n:Int) (e:Ending) (w':World):Prop:=
 ∃x:Int,0<=x/\(x=0\/x<n)/\e= .returned (.int .i64 x)/\Src B w' b (k+2)/\iJ b w w'
def aeN (B:Nat) (w:World) (b k:Nat) (e:Ending) (w':World):Prop:=
 ∃x:Bool,e= .returned (.bool x)/\Src B w' b (k+2)/\iJ b w w'
def aeo (w:World) (e:Ending) (w':World):Prop:=
 e= .returned (.pointer (some ⟨w.heap.size,0,none⟩))/\Src w.heap.size w' w.heap.size 0/\Below w.heap.size w w'
end Go.Proofs.YtbcggaldkihcaaaGreat
