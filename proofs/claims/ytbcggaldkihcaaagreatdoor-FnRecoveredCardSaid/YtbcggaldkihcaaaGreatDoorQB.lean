/- The text of a deed, walked: the reference's. -/
import Derived.Test.YtbcggaldkihcaaaGreatDoorQN
import Derived.Test.YtbcggaldkihcaaaGreatDoorQJ
import Derived.Lib.ConvBytes
import Derived.BigQuiet
import Derived.Laws.AppendOwn
import Derived.Laws.CopyOwn
import Derived.Laws.IdiomCopy
import Derived.Lib.SliceRun
import Derived.Deep.RegionLaw
import Derived.Laws.StructEq
import Derived.RegionCalls
import Derived.Test.YtbcggaldkihcaaaGreatDoorQA
set_option maxHeartbeats 2000000
set_option maxRecDepth 100000
namespace Go.Proofs.YtbcggaldkihcaaaGreatDoor
open Tryz
open Go.RowKit Go.Lib
theorem Fy (d:dr) (b o:Nat) (A1:Option Addr) (c1:Nat) (A2:Option Addr) (c2:Nat) (w:World) (h:fp w b o d A1 c1 A2 c2):
 Calls prog 44 #[.pointer (some ⟨b,o,none⟩)] w (bT (.bool (cA d)) w):=by
 by_cases k1:d.kind=1
 ·exact H' d b o A1 c1 A2 c2 w h k1
 by_cases k2:d.kind=2
 ·exact Ia d b o A1 c1 A2 c2 w h k2
 by_cases k3:d.kind=3
 ·exact Ib d b o A1 c1 A2 c2 w h k3
 by_cases k4:d.kind=4
 ·exact Ic d b o A1 c1 A2 c2 w h k4
 have OK:=I (AA k1 k2 k3 k4);have bU:(d.kind==1)=false:=by simp[k1]
 have b2:(d.kind==2)=false:=by simp[k2]
 have b3:(d.kind==3)=false:=by simp[k3]
 have b4:(d.kind==4)=false:=by simp[k4]
 have z0:=λy:ar w=>y.cell h.k0;have z1:=λy:ar w=>y.cell h.k1;clear h k1 k2 k3 k4;refine aL λx0=>?_;go_enter func44,ntmps44;go_wp2_with (fail);refine (az (rl _ _ _ _)).mono ?_;rintro e _ ⟨rfl,y,rfl⟩;go_wp2;go_ret;exact ⟨by rw[OK.o];rfl,y.ok⟩
structure uX (w:World) (g:Nat) (l:List UInt8):Prop where
 cell: ∀j (c:UInt8),l[j]?=some c->w.cell? ⟨g,j,none⟩=some (.int .u8 (c.toNat:Int))
 free: ∀j,j<l.length->w.frozen? ⟨g,j,none⟩=false
def swp (fr XK:UInt8) (l:List UInt8) (k:Nat):List UInt8:=(l.take k).map (λc=>if c=fr then XK else c)++l.drop k
theorem uX.set {w:World} {g:Nat} {l:List UInt8} (h:uX w g l) (k:Nat) (c:UInt8) (hk:k<l.length):uX (w.setCell ⟨g,k,none⟩ (.int .u8 (c.toNat:Int))) g (l.set k c) where
 cell:=λj d hj=>by
  by_cases e:k=j
  ·subst e;rw[List.getElem?_set,if_pos rfl,if_pos hk]at hj;injection hj with hj
   subst hj;have:=h.cell k l[k] (List.getElem?_eq_getElem hk);exact World.cell?_setCell_same _ _ _ this
  rw[List.getElem?_set,if_neg e]at hj;rw[World.cell?_setCell_other _ _ _ _ (by intro h;injection h with _ h;exact e h)];exact h.cell j d hj
 free:=λj hj=>by
  rw[List.length_set]at hj;rw[World.frozen?_setCell];exact h.free j hj
theorem mk_data (b:ByteArray):(⟨b.data.toList.toArray⟩:ByteArray)=b:=by
 apply ByteArray.ext;simp
theorem ags (s:ByteArray) (k:Nat):s.extract 0 k=⟨(s.data.toList.take k).toArray⟩:=by rw[<-extract_from_zero,mk_data]
theorem agt (s:ByteArray) (k:Nat):s.extract k s.size=⟨(s.data.toList.drop k).toArray⟩:=by rw[<-extract_to_end,mk_data]
def Qp (l:List UInt8):Nat:=l.foldl (λn c=>if 48<=c.toNat/\c.toNat<=57 then 10*n+(c.toNat-48)else n) 0
def Wa (l:List UInt8):Int:=if l.head?.map (·.toNat)=some 45 then-(Qp l:Int)else (Qp l:Int)
theorem agu {lo hi z:Int} {t:List UInt8} (hu: ∀q,dO q lo hi=true->itoa q=t->z=q) (h: ¬(dO z lo hi=true/\itoa z=t)):numOf lo hi t=none:=afk hu h
theorem afU {lo hi z:Int} {t:List UInt8} (hu: ∀q,dO q lo hi=true->itoa q=t->z=q) (h1:dO z lo hi=true) (h2:itoa z=t):numOf lo hi t=some z:=adv hu h1 h2
structure Row (w:World) (g:Nat) (L:List Value):Prop where
 cell: ∀j u,L[j]?=some u->w.cell? ⟨g,j,none⟩=some u
 free: ∀j,j<L.length->w.frozen? ⟨g,j,none⟩=false
theorem Row.set {w:World} {g:Nat} {L:List Value} (h:Row w g L) (k:Nat) (u:Value) (hk:k<L.length):Row (w.setCell ⟨g,k,none⟩ u) g (L.set k u) where
 cell:=λj d hj=>by
  by_cases e:k=j
  ·subst e;rw[List.getElem?_set,if_pos rfl,if_pos hk]at hj;injection hj with hj
   subst hj;exact World.cell?_setCell_same _ _ _ (h.cell k L[k] (List.getElem?_eq_getElem hk))
  rw[List.getElem?_set,if_neg e]at hj;rw[World.cell?_setCell_other _ _ _ _ (by intro h;injection h with _ h;exact e h)];exact h.cell j d hj
 free:=λj hj=>by
  rw[List.length_set]at hj;rw[World.frozen?_setCell];exact h.free j hj
theorem Row.below {w w':World} {g B:Nat} {L:List Value} (h:Row w g L) (hb:Below B w w') (hg:g<B):Row w' g L:=
 ⟨λj u hj=>(hb.cell (p:=⟨g,j,none⟩) hg).trans (h.cell j u hj),λj hj=>(hb.frozen (p:=⟨g,j,none⟩) hg).trans (h.free j hj)⟩
theorem Row.nP {w:World} {g:Nat} {L:List Value} {p:Addr} (h:Row w g L) (u:Value) (hp:p.block≠g):Row (w.setCell p u) g L:=
 ⟨λj v hj=>(World.cell?_setCell_far w p ⟨g,j,none⟩ u hp).trans (h.cell j v hj),λj hj=>by rw[World.frozen?_setCell];exact h.free j hj⟩
theorem Row.new (w:World) (cs:Array Value) (e:TypeId):Row (w.alloc (.cells cs e)) w.heap.size cs.toList where
 cell:=λj u hj=>by
  have:cs[j]?=some u:=by simpa using hj
  simpa [go_sem]using this
 free:=λj hj=>by simp[go_sem]
theorem cz.CS {α:Type} (f:α->List Value) {size:Nat} {w:World} {g c:Nat} {xs:List α} (hf: ∀x,(f x).length=size) (h:Row w g (xs.flatMap f)) (hg:g<w.heap.size) (hc:xs.length<=c) (hm:c<=maxLen):cz (Pl f) size w w.heap.size (.slice (some ⟨g,0,none⟩) xs.length c) xs:=by
 refine ⟨_,c,rfl,hc,hm,λh0=>⟨g,0,rfl,hg,λk x hx=>⟨f x,hf x,rfl,λj u hu=>?_⟩⟩⟩;have hj:j<size:=by rw[<-hf x];exact (List.getElem?_eq_some_iff.1 hu).1
 rw[Nat.zero_add];exact h.cell _ u (l5 f hf xs k x j u hx hu hj)
def ay {α:Type} (f:α->List Value) (xs:List α) (base:Nat) (w:World) (v:Value):Prop:=
 ∃A c,v= .slice A xs.length c/\xs.length<=c/\c<=maxLen/\(xs≠[]-> ∃g,A=some ⟨g,0,none⟩/\base<=g/\g<w.heap.size/\Row w g (xs.flatMap f))
theorem ay.bI {α:Type} (f:α->List Value) {size:Nat} {w:World} {base:Nat} {e:TypeId} {v:Value} {xs:List α} (hf: ∀x,(f x).length=size) (h:w.ownsRow base e size v xs.length (xs.flatMap f)):ay f xs base w v:=by
 have hS:=cz.bI f hf h;obtain ⟨hl,h|⟨g,cap,kT,rfl,hg,hh,h1,h2,h3,h4⟩⟩:=h
 ·obtain ⟨rfl,h0⟩:=h;have:xs=[]:=List.eq_nil_of_length_eq_zero h0;subst this;exact ⟨none,0,rfl,Nat.le_refl _,Nat.zero_le _,λh=>absurd rfl h⟩
 refine ⟨_,cap,rfl,h1,h2,λh0=>⟨g,rfl,hg,?_,⟨λj u hj=>?_,λj hj=>?_⟩⟩⟩
 ·rcases Nat.lt_or_ge g w.heap.size with aI|eA
  ·exact aI
  rw[Array.getElem?_eq_none eA]at hh;cases hh
 ·have aI:j<xs.length*size:=by rw[<-hl];exact (List.getElem?_eq_some_iff.1 hj).1
  have Nq:kT[j]?=some u:=by rw[<-Array.getElem?_toList,<-hj,<-h4,List.getElem?_take,if_pos aI]
  simp[World.cell?,hh,Nq]
 have aI:j<xs.length*size:=by rw[<-hl];exact hj
 have ur:xs.length*size<=cap*size:=Nat.mul_le_mul_right _ h1;simp[World.frozen?,hh]
theorem ay.on {α:Type} {f:α->List Value} {xs:List α} {base:Nat} {w w':World} {v:Value} (h:ay f xs base w v) (hb:Below w.heap.size w w'):ay f xs base w' v:=by
 obtain ⟨A,c,rfl,h1,h2,h3⟩:=h;refine ⟨A,c,rfl,h1,h2,λh0=>?_⟩;obtain ⟨g,e,hg,aI,hr⟩:=h3 h0;exact ⟨g,e,hg,Nat.lt_of_lt_of_le aI hb.size,hr.below hb aI⟩
theorem ay.less {α:Type} {f:α->List Value} {xs:List α} {base b:Nat} {w:World} {v:Value} (h:ay f xs base w v) (hb:b<=base):ay f xs b w v:=by
 obtain ⟨A,c,rfl,h1,h2,h3⟩:=h;refine ⟨A,c,rfl,h1,h2,λh0=>?_⟩;obtain ⟨g,e,hg,aI,hr⟩:=h3 h0;exact ⟨g,e,Nat.le_trans hb hg,aI,hr⟩
theorem ay.mo {α:Type} {f:α->List Value} {size:Nat} {xs:List α} {base:Nat} {w:World} {v:Value} (hf: ∀x,(f x).length=size) (h:ay f xs base w v):cz (Pl f) size w w.heap.size v xs:=by
 obtain ⟨A,c,rfl,h1,h2,h3⟩:=h;by_cases h0:xs=[]
 ·subst h0;exact cz.nil _ _ _ _ _ _ h2
 obtain ⟨g,rfl,hg,aI,hr⟩:=h3 h0;exact cz.CS f hf hr aI h1 h2
theorem ay.nil {α:Type} (f:α->List Value) (base:Nat) (w:World):ay f ([]:List α) base w (.slice none 0 0):=⟨none,0,rfl,Nat.le_refl _,Nat.zero_le _,λh=>absurd rfl h⟩
theorem rr {w:World} {base:Nat} {e:TypeId} {size n:Nat} {v:Value} {xs:List Value} (h:w.ownsRow base e size v n xs): ∃A c,v= .slice A n c/\n<=c/\c<=maxLen:=by
 obtain ⟨hl,h|⟨g,cap,kT,rfl,hg,hh,h1,h2,h3,h4⟩⟩:=h
 ·obtain ⟨rfl,rfl⟩:=h;exact ⟨none,0,rfl,Nat.le_refl _,Nat.zero_le _⟩
 exact ⟨_,cap,rfl,h1,h2⟩
def Lb (w:World) (v:Value) (ls:List (List UInt8)):Prop:=cz (Pl K7) 1 w w.heap.size v ls
theorem Lb.on {w w':World} {v:Value} {ls:List (List UInt8)} (h:Lb w v ls) (hb:Below w.heap.size w w'):Lb w' v ls:=cz.on h (Pl.stays _) hb hb.size
theorem agv {w:World} {n c k:Nat} {A:Option Addr} {ls:List (List UInt8)} {l:List UInt8} (h:Lb w (.slice A n c) ls) (hk:ls[k]?=some l): ∃b off,A=some ⟨b,off,none⟩/\b<w.heap.size/\w.cell? ⟨b,off+k,none⟩=some (.string ⟨l.toArray⟩):=by
 obtain ⟨A',c',hv,h1,h2,h3⟩:=h;injection hv with e1 e2 e3
 subst e1;have aI:k<ls.length:=(List.getElem?_eq_some_iff.1 hk).1;obtain ⟨b,off,hA,hb,hc⟩:=h3 (by omega);obtain ⟨us,hl,U1,aC⟩:=hc k l hk;subst U1;have:=aC 0 _ rfl;rw[Nat.mul_one,Nat.add_zero]at this;exact ⟨b,off,hA,hb,this⟩
theorem cq {α:Type} (f:α->List Value) (xs:List α) (x:α):(xs++[x]).flatMap f=xs.flatMap f++f x:=by simp
theorem Ig {α:Type} {R:World->Nat->List Value->α->Prop} {size:Nat} {w:World} {B n c:Nat} {A:Option Addr} {xs:List α} (h:cz R size w B (.slice A n c) xs):n=xs.length/\xs.length<=c/\c<=9223372036854775807:=by
 obtain ⟨A',c',hv,h1,h2,h3⟩:=h;injection hv with e1 e2 e3
 unfold maxLen at h2;exact ⟨e2,by omega,by omega⟩
theorem fB {α:Type} {R:World->Nat->List Value->α->Prop} {size:Nat} {w:World} {B n c:Nat} {A:Option Addr} {xs:List α} (h:cz R size w B (.slice A n c) xs):n=xs.length/\xs.length<=c/\c<=9223372036854775807:=Ig h
theorem kU {w:World} {B n c k:Nat} {A:Option Addr} {es:List aV} {e:aV} (h:bg w B (.slice A n c) es) (hk:es[k]?=some e):
 ∃b off,A=some ⟨b,off,none⟩/\b<B/\w.cell? ⟨b,off+k*4,none⟩=some (.int .i64 e.kind)/\w.cell? ⟨b,off+k*4+1,none⟩=some (.int .i64 e.id)/\w.cell? ⟨b,off+k*4+2,none⟩=some (.string e.dA)/\w.cell? ⟨b,off+k*4+3,none⟩=some (.string e.new):=by
 obtain ⟨A',c',hv,h1,h2,h3⟩:=h;injection hv with e1 e2 e3
 subst e1;have aI:k<es.length:=(List.getElem?_eq_some_iff.1 hk).1;obtain ⟨b,off,hA,hb,hc⟩:=h3 (by omega);exact ⟨b,off,hA,hb,ln hc hk⟩
theorem cZ {w:World} {B n c k:Nat} {A:Option Addr} {zs:List Int} {z:Int} (h:aae w B (.slice A n c) zs) (hk:zs[k]?=some z):
 ∃b off,A=some ⟨b,off,none⟩/\b<B/\w.cell? ⟨b,off+k,none⟩=some (.int .i64 z):=by
 obtain ⟨A',c',hv,h1,h2,h3⟩:=h;injection hv with e1 e2 e3
 subst e1;have aI:k<zs.length:=(List.getElem?_eq_some_iff.1 hk).1;obtain ⟨b,off,hA,hb,hc⟩:=h3 (by omega);exact ⟨b,off,hA,hb,ints_at hc hk⟩
def pN (L Z:List Value) (k:Nat):List Value:=L.take k++Z.drop k
theorem iR {L Z:List Value} (h:L.length=Z.length) (k:Nat):(pN L Z k).length=Z.length:=by
 unfold pN;rw[List.length_append,List.length_take,List.length_drop];omega
theorem lu {L Z:List Value} (h:L.length=Z.length) {k:Nat} {u:Value} (hu:L[k]?=some u):pN L Z (k+1)=(pN L Z k).set k u:=by
 obtain ⟨hk,rfl⟩:=List.getElem?_eq_some_iff.1 hu;unfold pN
 have e:(Z.drop k).set 0 L[k]=L[k]::Z.drop (k+1):=by
  rw[List.drop_eq_getElem_cons (by omega)];rfl
 rw[List.take_succ_eq_append_getElem hk,List.set_append,if_neg (by rw[List.length_take];omega),List.length_take,show k-min k L.length=0 by omega,e,List.append_assoc];rfl
theorem ru {L Z:List Value} (h:L.length=Z.length) (k:Nat) (hk:L.length<=k):pN L Z k=L:=by
 unfold pN;rw[List.take_of_length_le hk,List.drop_eq_nil_of_le (by omega),List.append_nil]
theorem Row.step {w:World} {g j:Nat} {L Z:List Value} {u:Value} (h:Row w g (pN L Z j)) (hl:L.length=Z.length) (hu:L[j]?=some u):Row (w.setCell ⟨g,j,none⟩ u) g (pN L Z (j+1)):=by
 rw[lu hl hu];have hj:j<L.length:=(List.getElem?_eq_some_iff.1 hu).1;exact h.set j u (by rw[iR hl];omega)
theorem Row.some {w:World} {g j:Nat} {L:List Value} (h:Row w g L) (hj:j<L.length): ∃z,w.cell? ⟨g,j,none⟩=some z:=⟨_,h.cell j _ (List.getElem?_eq_getElem hj)⟩
theorem uY {b:Nat} {w w':World} (h:Below w.heap.size w w'):iJ b w w':=⟨h.os,h.tape,h.output,h.size,λk hk _=>h.block k hk⟩
theorem oF {b:Nat} {a w:World} (h:iJ b a w) (j:Nat) (u:Value):iJ b a (w.setCell ⟨b,j,none⟩ u):=mX h (.inl rfl) u
def jr (k n:Nat):List Int:=(List.range n).map λi=>((k+i:Nat):Int)
theorem gI (k n:Nat):(jr k n).length=n:=by simp[jr]
theorem AB {k n i:Nat} (h:i<n):(jr k n)[i]?=some (((k+i:Nat):Int)):=by simp[jr,h]
theorem sQ (zs:List Int):(zs.flatMap ak).length=zs.length:=by
 induction zs with
 |nil=>rfl
 |cons z zs ih=>rw[List.flatMap_cons,List.length_append,ih];simp[ak];omega
theorem xx {zs:List Int} {i:Nat} {z:Int} (h:zs[i]?=some z):(zs.flatMap ak)[i]?=some (.int .i64 z):=by
 have:=l5 ak (size:=1) (λ_=>rfl) zs i z 0 (.int .i64 z) h rfl (by omega);simpa using this
def sR {α:Type} (f:α->List Value) (xs:List α) (k' base:Nat) (v:Value) (w:World) (e:Ending) (w':World):Prop:=
 e= .returned (.int .i64 (k':Int))/\ay f xs base w' v/\w.grownBy w' (if xs.length=0 then none else v.ownBlock)
theorem uZ (w:World) (r:Option Nat):w.grownBy w r:=⟨rfl,rfl,rfl,Nat.le_refl _,λ_ _ _=>rfl⟩
def tQ (k:Nat):aV:=⟨(k:Int),(k:Int)+1,⟨(109::itoa ((k+2:Nat):Int)).toArray⟩,⟨(109::itoa ((k+3:Nat):Int)).toArray⟩⟩
def dG (k n:Nat):List aV:=(List.range n).map λi=>tQ (k+4*i)
theorem eL (k n:Nat):(dG k n).length=n:=by simp[dG]
theorem qA {k n i:Nat} (h:i<n):(dG k n)[i]?=some (tQ (k+4*i)):=by simp[dG,h]
theorem lv (zs:List aV):(zs.flatMap ah).length=zs.length*4:=by
 induction zs with
 |nil=>rfl
 |cons z zs ih=>rw[List.flatMap_cons,List.length_append,ih];simp[ah];omega
def PE (s:ByteArray) (most:Nat) (w:World) (e:Ending) (w':World):Prop:=
 ∃ls v ok,e= .returned (.tuple #[v,.bool ok])/\Lb w' v ls/\(ok=true->sL 10 s.data.toList=ls++[[]]/\ls.length<=most)/\(ok=false-> ∀qs,sL 10 s.data.toList=qs++[[]]->most<qs.length)/\Below w.heap.size w w'
def sS {α:Type} (f:α->List Value) (xs:List α) (w:World) (e:Ending) (w':World):Prop:= ∃v,e= .returned v/\ay f xs w.heap.size w' v/\Below w.heap.size w w'
theorem iD:(prog.info? 2).map (λi=>(i.zero,i.size,i.bytes))=some (some (.int .i64 0),1,8):=by kernel_rfl
theorem acm (c:UInt8) (l:List UInt8):(sK c l).1.length<=l.length/\(sK c l).2.length<=l.length:=by
 unfold sK;have h1:=(List.takeWhile_sublist (λx=>x !=c) (l:=l)).length_le;have h2:=(List.dropWhile_sublist (λx=>x !=c) (l:=l)).length_le;refine ⟨h1,?_⟩;rw[List.length_drop];omega
theorem ag' (l:List UInt8):(⟨l.toArray⟩:ByteArray).size=l.length:=by simp[ByteArray.size]
theorem afV {α:Type} {ok:α->Bool} {f:α->List UInt8} {t:List UInt8} (h: ∀q,ok q=true->f q=t->False):inv ok f t=none:=by
 unfold inv;rw[dif_neg];rintro ⟨q,h1,h2⟩;exact h q h1 h2
theorem adz (c:UInt8): ∀(l:List UInt8) (p:List UInt8),p∈sL c l->p.length<=l.length
 |[],p,h=>by simp[sL]at h;subst h;simp
 |x::l,p,h=>by
  have ih:=adz c l;unfold sL at h
  split at h
  ·rcases List.mem_cons.1 h with rfl|h
   ·simp
   have:=ih p h;simp;omega
  revert h;cases hs:sL c l with
  |nil=>exact absurd hs (adU c l)
  |cons a r=>
   intro h;rcases List.mem_cons.1 h with rfl|h
   ·have:=ih a (by rw[hs];simp);simp;omega
   have:=ih p (by rw[hs];simp[h]);simp;omega
theorem adb (c:UInt8): ∀(k:Nat) (l:List UInt8) (p:List UInt8),p∈K8 c k l->p.length<=l.length
 |0,l,p,h=>by
  rw[K8,List.mem_singleton]at h;rw[h];exact Nat.le_refl _
 |k+1,l,p,h=>by
  rw[K8]at h;obtain ⟨a1,a2⟩:=acm c l
  split at h
  ·rcases List.mem_cons.1 h with rfl|h
   ·exact a1
   exact Nat.le_trans (adb c k _ p h) a2
  rw[List.mem_singleton]at h;rw[h];exact Nat.le_refl _
theorem afp (d:Bool) (lo hi:Int) (l:List UInt8):(V' d lo hi l).dA.size<=l.length/\(V' d lo hi l).new.size<=l.length:=by
 cases l with
 |nil=>exact ⟨Nat.le_refl _,Nat.le_refl _⟩
 |cons h r=>
  obtain ⟨a1,a2⟩:=acm 32 r;obtain ⟨bU,b2⟩:=acm 124 (sK 32 r).2;rw[V',List.length_cons]
  split
  ·constructor<;>simp[ByteArray.size]<;>omega
  split
  ·constructor<;>simp[ByteArray.size]<;>omega
  split
  ·constructor<;>simp[ByteArray.size]<;>omega
  constructor<;>simp[ByteArray.size]
def PF (l:List UInt8) (w:World) (e:Ending) (w':World):Prop:=
 ∃v,e= .returned (.tuple #[v,.bool (EG l).isSome])/\ay ah ((EG l).getD []) w.heap.size w' v/\Below w.heap.size w w'
theorem oG:(prog.info? 93).map (λi=>(i.zero,i.size,i.bytes))=some (some (.agg #[.int .i64 0,.int .i64 0,.string ⟨#[]⟩,.string ⟨#[]⟩]),4,48):=by kernel_rfl
theorem fS {w:World} {cs:List Value} {T:TypeId} {j:Nat} {u:Value} (h:cs[j]?=some u):(w.alloc (.cells cs.toArray T)).cell? ((⟨w.heap.size,0,none⟩:Addr).add j)=some u:=by
 have hr:=(Row.new w cs.toArray T).cell j u (by simpa using h);unfold Addr.add;by_cases h0:j=0
 ·subst h0;simpa using hr
 simpa [h0]using hr
theorem cJ {q:aV} {u:Value} (h:u∈ah q):u.oneCell'=true:=by
 simp only[ah,List.mem_cons,List.not_mem_nil,or_false]at h;rcases h with rfl|rfl|rfl|rfl<;>rfl
theorem aS {b:Nat} {w:World} {o:Obj} (h:b<=w.heap.size):b<=(w.alloc o).heap.size:=by simp;omega
theorem afq {α:Type} (f:α->List Value) {xs:List α} {k:Nat} {x:α} (h:xs[k]?=some x):(xs.take (k+1)).flatMap f=(xs.take k).flatMap f++f x:=by
 obtain ⟨hk,rfl⟩:=List.getElem?_eq_some_iff.1 h;rw[List.take_succ_eq_append_getElem hk,cq]
section
variable {P:Program}
def jR (w:World) (g:Nat) (e:TypeId) (C:List Value):Prop:=w.heap[g]?=some (.cells C.toArray e (0,0))
theorem jR.cell {w:World} {g:Nat} {e:TypeId} {C:List Value} (h:jR w g e C) (j:Nat):w.cell? ⟨g,j,none⟩=C[j]?:=by
 unfold jR at h;simp[World.cell?,h]
theorem jR.free {w:World} {g:Nat} {e:TypeId} {C:List Value} (h:jR w g e C) {j:Nat} (_hj:j<C.length):w.frozen? ⟨g,j,none⟩=false:=by
 unfold jR at h;simp[World.frozen?,h]
theorem jR.lt {w:World} {g:Nat} {e:TypeId} {C:List Value} (h:jR w g e C):g<w.heap.size:=(Array.getElem?_eq_some_iff.1 h).1
theorem jR.isSome {w:World} {g:Nat} {e:TypeId} {C:List Value} (h:jR w g e C) {j:Nat} (hj:j<C.length):(w.cell? ⟨g,j,none⟩).isSome=true:=by
 rw[h.cell,List.getElem?_eq_getElem hj];rfl
theorem jR.drewN {w:World} {g:Nat} {e:TypeId} {C:List Value} (h:jR w g e C) (n:Nat):jR (w.drewN n) g e C:=h
theorem jR.drew {w:World} {g:Nat} {e:TypeId} {C:List Value} (h:jR w g e C):jR w.drew g e C:=h
theorem jR.grown {w w':World} {g:Nat} {e:TypeId} {C:List Value} {row:Option Nat} (h:jR w g e C) (hg:w.grownBy w' row) (gm:row≠some g):jR w' g e C:=by
 have:=hg.block g h.lt (λe=>gm e.symm);unfold jR;rw[this];exact h
theorem rz (P:Program) {w:World} {g:Nat} {e:TypeId} {C:List Value} (h:jR w g e C) (o:Nat) (vs:List Value) (iS:o+vs.length<=C.length) (h1: ∀v∈vs,v.oneCell'=true):w.setCells g o vs=w.setRow g (splice C o vs).toArray:=by
 have a:=run_storeCells_cells (P:=P) g o vs 0 w (λj hj=>h.isSome (by omega)) (λj hj=>h.free (by omega)) h1;have b:=run_storeCells_at P g o e vs 0 C.toArray w h (by simpa using iS) h1;rw[a]at b;injection b with _ b
 rw[Nat.add_zero]at b;rw[b];simp[splice]
theorem jR.set (P:Program) {w:World} {g:Nat} {e:TypeId} {C:List Value} (h:jR w g e C) (o:Nat) (vs:List Value) (iS:o+vs.length<=C.length) (h1: ∀v∈vs,v.oneCell'=true):jR (w.setCells g o vs) g e (splice C o vs):=by
 rw[rz P h o vs iS h1];exact setRow_heap w g _ _ e _ h
theorem dH {w:World} {base g n cap size:Nat} {e:TypeId} {xs:List Value} (h:w.ownsRow base e size (.slice (some ⟨g,0,none⟩) n cap) n xs): ∃T,jR w g e (xs++T)/\(xs++T).length=cap*size/\n<=cap/\cap<=maxLen/\base<=g/\xs.length=n*size:=by
 obtain ⟨hl,⟨hv,_⟩|⟨g',fq,kT,hv,hg,hh,h1,h2,h3,h4⟩⟩:=h
 ·cases hv
 injection hv with e1 e2 e3
 injection e1 with e1
 injection e1 with e1
 subst e1 e3;refine ⟨kT.toList.drop (n*size),?_,?_,h1,h2,hg,hl⟩
 ·unfold jR;rw[<-h4,List.take_append_drop];exact hh
 rw[<-h4,List.take_append_drop];simpa using h3
theorem gz {w:World} {base g n cap size:Nat} {e:TypeId} {C xs:List Value} (h:jR w g e C) (hC:C.length=cap*size) (hx:C.take (n*size)=xs) (hl:xs.length=n*size) (h1:n<=cap) (h2:cap<=maxLen) (hg:base<=g):w.ownsRow base e size (.slice (some ⟨g,0,none⟩) n cap) n xs:=
 ⟨hl,.inr ⟨g,cap,C.toArray,rfl,hg,h,h1,h2,by simpa using hC,by simpa using hx⟩⟩
end
theorem bp {α:Type} (f:α->List Value) {k:Nat} (hf: ∀x,(f x).length=k) (L:List α):(L.flatMap f).length=L.length*k:=by
 induction L with
 |nil=>simp
 |cons x r ih=>rw[List.flatMap_cons,List.length_append,ih,hf,List.length_cons,Nat.succ_mul];omega
theorem gJ {α:Type} (f:α->List Value) {P:Value->Prop} (h: ∀x,∀v∈f x,P v) (L:List α): ∀v∈L.flatMap f,P v:=λv hv=>by
 obtain ⟨x,_,hx⟩:=List.mem_flatMap.1 hv;exact h x v hx
section
variable {P:Program} {w:World}
theorem eI {α:Type} (f:α->List Value) {ops:Array Oper} {rest:List Oper} {o:Oper} {a:Act} {Q:Exit->Act->World->Prop} (xZ:o.guard=none) (s x:Operand) (t:TypeId)
 (ho:o.op= .call {callee:= .builtin .append,args:= #[s,x],argTypes:= #[t,t]})
 (base:Nat) (e:TypeId) (i:TypeInfo) (z:Value) (size bytes:Nat) (ht:P.underlying t=some (.slice e)) (hi:P.info? e=some i) (hz:i.zero=some z)
 (ga:i.size=size) (y9:i.bytes=bytes) (qd:z.cells.size=size) (ja:0<size)
 (v:Value) (n:Nat) (ys:List Value) (hs:a.eval s=v) (cr:w.ownsRow base e size v n ys)
 (vs:Value) (xs:List α) (B:Nat) (hx:a.eval x=vs) (FA:cz (Pl f) size w B vs xs) (hf: ∀y,(f y).length=size) (h1: ∀y,∀u∈f y,u.oneCell'=true)
 (ya:n+xs.length<=maxLen) (gB:(n+xs.length)*bytes<=140737488355328) (dC:base<=w.heap.size)
 (h: ∀v' w',w'.ownsRow base e size v' (n+xs.length) (ys++xs.flatMap f)->w.grownBy w' v.ownBlock->(v≠ .slice none 0 0->v'≠ .slice none 0 0)->wpList P ops Q rest (a.put o.dst v') w'):wpList P ops Q (o::rest) a w:=by
 obtain ⟨A,c,rfl,hc,hm,cn⟩:=FA
 have oH: ∀ad:Addr,A=some ad->(∀j u,(xs.flatMap f)[j]?=some u->w.cell? (ad.add j)=some u)->wpList P ops Q (o::rest) a w:=λad hA qB=>by
  subst hA;exact wpList_append_own w xZ s x t ho base e i z size bytes ht hi hz ga y9 qd ja v n ys hs cr ad xs.length c (xs.flatMap f) hx (bp f hf xs) qB (gJ f (λy u hu=>h1 y u hu) xs) ya gB dC (λv' w' g1 g2 g3=>h v' w' g1 g2 (λhv Ny=>hv (g3.1 Ny).1))
 by_cases h0:xs=[]
 ·subst h0;cases A with
  |some ad=>exact oH ad rfl (λj u hj=>by simp at hj)
  |none=>
   have CW:(Builtin.append_ #[t,t] o.type #[v,.slice none 0 c]).run P w= .ok v w:=by
    rcases cr.2 with ⟨rfl,rfl⟩|⟨g,cap,kT,rfl,_,_,xy,_⟩
    ·simp[Builtin.append_,run_underlying ht,sizeOf,typeInfo,hi,Builtin.lenOf,Builtin.firstCells]
    simp[Builtin.append_,run_underlying ht,sizeOf,typeInfo,hi,Builtin.lenOf,Builtin.firstCells,xy,storeCells]
   refine wpList_plain xZ λK hK=>?_;unfold Oper.wp;have Ih:a.eval x= .slice none 0 c:=hx;simp[execOp,ho,resolve,invoke,builtin,hs,Ih,CW,Result.andThen];exact hK _ _ (h v w (by simpa using cr) ⟨rfl,rfl,rfl,Nat.le_refl _,λ_ _ _=>rfl⟩ (λhv=>hv))
 obtain ⟨b,off,hA,hb,aC⟩:=cn (List.length_pos_iff.2 h0);refine oH ⟨b,off,none⟩ hA (λj u hj=>?_);have yb:j<xs.length*size:=by rw[<-bp f hf xs];exact (List.getElem?_eq_some_iff.1 hj).1
 have hq:j/size<xs.length:=Nat.div_lt_of_lt_mul (by rw[Nat.mul_comm];exact yb);obtain ⟨us,hl,hp,CX⟩:=aC (j/size) xs[j/size] (List.getElem?_eq_getElem hq);have hp:us=f xs[j/size]:=hp;subst hp;have CY:j% size<size:=Nat.mod_lt _ ja
 have hu:(f xs[j/size])[j% size]?=some u:=by
  have Ii:j=(j/size)*size+j% size:=by rw[Nat.mul_comm];exact (Nat.div_add_mod j size).symm
  have KH: ∀(L:List α) (q r:Nat) (hq:q<L.length),r<size->(L.flatMap f)[q*size+r]?=(f L[q])[r]?:=by
   intro L;induction L with
   |nil=>intro q r hq;cases hq
   |cons y L ih=>
    intro q r hq hr;rw[List.flatMap_cons];cases q with
    |zero=>rw[Nat.zero_mul,Nat.zero_add,List.getElem?_append_left (by rw[hf];exact hr)];rfl
    |succ q=>
     rw[List.getElem?_append_right (by rw[hf,Nat.succ_mul];omega),hf,Nat.succ_mul,show q*size+size+r-size=q*size+r by omega];exact ih q r (by simpa using hq) hr
  rw[<-KH xs (j/size) (j% size) hq CY,<-Ii];exact hj
 have:=CX (j% size) u hu;have Ii:(j/size)*size+j% size=j:=by rw[Nat.mul_comm];exact Nat.div_add_mod j size
 rw[Nat.add_assoc,Ii]at this;rw[Addr.add_lit];exact this
end
def kz (p:Prop) (w:World) (e:Ending) (w':World):Prop:=
 ∃r:Int,e= .returned (.int .i64 r)/\(r<0\/(p/\0<=r/\r<=1048576))/\Below w.heap.size w w'
def yc (e:aV):Prop:=e.dA.size<=1048576/\e.new.size<=1048576
def C1 {α:Type} (f:α->List Value) (_:Nat) (xs:List α) (w:World) (e:Ending) (w':World):Prop:=
 ∃g c,e= .returned (.slice (some ⟨g,0,none⟩) xs.length c)/\xs.length<=c/\c<=maxLen/\w.heap.size<=g/\g<w'.heap.size/\Row w' g (xs.flatMap f)/\Below w.heap.size w w'
theorem je (zs:List Int):zs.flatMap ak=zs.map (Value.int .i64):=by
 induction zs with
 |nil=>rfl
 |cons z zs ih=>rw[List.flatMap_cons,ih];rfl
theorem lx {P:Program} (w:World) (t e:TypeId) (i:TypeInfo) (z:Value) (size:Nat) (ht:P.underlying t=some (.slice e)) (hi:P.info? e=some i) (hz:i.zero=some z) (ga:i.size=size) (n:Nat) (hb:i.bytes*n<=281474976710656) (hn:n<=1048576):
 ∃w' Z,(Instr.makeSlice t (.int .i64 (n:Int)) (.int .i64 (n:Int))).run P w= .ok (.slice (some ⟨w.heap.size,0,none⟩) n n) w'/\Row w' w.heap.size Z/\Z.length=n*size/\w.heap.size<w'.heap.size/\Below w.heap.size w w':=by
 subst ga
 have dF:(i.bytes:Int)*(n:Int)<=281474976710656:=by
  have h:((i.bytes*n:Nat):Int)<=281474976710656:=by omega
  rwa [Int.natCast_mul]at h
 have hr:=run_make (P:=P) w t e i z ht hi hz .i64 .i64 n n (by omega) (Int.le_refl _) dF (by omega);simp only[Int.toNat_natCast]at hr;exact ⟨_,_,hr,Row.new _ _ _,by rw[Array.length_toList,size_madeCells],by simp,(Below.refl _ _).alloc (Nat.le_refl _) _⟩
theorem C1.ints {zs:List Int} {w w':World} {e:Ending} (h:C1 ak 1 zs w e w'): ∃A c,e= .returned (.slice A zs.length c)/\aae w' w'.heap.size (.slice A zs.length c) zs/\Below w.heap.size w w':=by
 obtain ⟨g,c,he,h1,h2,h3,h4,h5,h6⟩:=h;exact ⟨_,c,he,cz.CS ak (λ_=>rfl) h5 h4 h1 h2,h6⟩
theorem C1.fF {es:List aV} {w w':World} {e:Ending} (h:C1 ah 4 es w e w'): ∃A c,e= .returned (.slice A es.length c)/\bg w' w'.heap.size (.slice A es.length c) es/\Below w.heap.size w w':=by
 obtain ⟨g,c,he,h1,h2,h3,h4,h5,h6⟩:=h;exact ⟨_,c,he,cz.CS ah (λ_=>rfl) h5 h4 h1 h2,h6⟩
structure Touch (F:Nat->Prop) (w w':World):Prop where
 os:w'.os=w.os
 tape:w'.tape=w.tape
 output:w'.output=w.output
 size:w.heap.size<=w'.heap.size
 block: ∀b,b<w.heap.size-> ¬F b->w'.heap[b]?=w.heap[b]?
theorem Touch.refl (F:Nat->Prop) (w:World):Touch F w w:=⟨rfl,rfl,rfl,Nat.le_refl _,λ_ _ _=>rfl⟩
theorem Touch.trans {F:Nat->Prop} {a b c:World} (h:Touch F a b) (k:Touch F b c):Touch F a c:=
 ⟨k.os.trans h.os,k.tape.trans h.tape,k.output.trans h.output,Nat.le_trans h.size k.size,λi hi hF=>(k.block i (Nat.lt_of_lt_of_le hi h.size) hF).trans (h.block i hi hF)⟩
theorem Touch.mono {F G:Nat->Prop} {w w':World} (h:Touch F w w') (XO: ∀b,b<w.heap.size->F b->G b):Touch G w w':=
 ⟨h.os,h.tape,h.output,h.size,λb hb hG=>h.block b hb (λhF=>hG (XO b hb hF))⟩
theorem Touch.dV {F:Nat->Prop} {w w':World} (h:Below w.heap.size w w'):Touch F w w':=⟨h.os,h.tape,h.output,h.size,λb hb _=>h.block b hb⟩
theorem Touch.aW {F:Nat->Prop} {w w':World} {r:Option Nat} (h:w.grownBy w' r) (hr: ∀b,r=some b->F b):Touch F w w':=
 ⟨h.os,h.tape,h.output,h.size,λb hb hF=>h.block b hb (λe=>hF (hr b e.symm))⟩
theorem Touch.below {F:Nat->Prop} {B:Nat} {w w':World} (h:Touch F w w') (hB:B<=w.heap.size) (hF: ∀b,F b->B<=b):Below B w w':=
 ⟨h.os,h.tape,h.output,h.size,λb hb=>h.block b (by omega) (λhf=>by have:=hF b hf;omega)⟩
theorem Touch.setCell {F:Nat->Prop} {a w:World} (h:Touch F a w) {p:Addr} (hp:F p.block) (u:Value):Touch F a (w.setCell p u):=
 ⟨h.os,h.tape,h.output,by simpa [World.setCell]using h.size,λi hi hF=>(Below.heap_setCell w p u i (by
  rintro rfl;exact hF hp)).trans (h.block i hi hF)⟩
theorem Row.aD {F:Nat->Prop} {w w':World} {g:Nat} {L:List Value} (h:Row w g L) (hg:g<w.heap.size) (ht:Touch F w w') (hF: ¬F g):Row w' g L:=
 ⟨λj u hj=>(World.cell?_of_block (a:=⟨g,j,none⟩) (ht.block g hg hF)).trans (h.cell j u hj),λj hj=>(World.frozen?_of_block (a:=⟨g,j,none⟩) (ht.block g hg hF)).trans (h.free j hj)⟩
def cx {α:Type} (xs:List α) (v:Value) (b:Nat):Prop:=xs≠[]/\v.ownBlock=some b
theorem ay.aD {α:Type} {f:α->List Value} {xs:List α} {base:Nat} {w w':World} {v:Value} {F:Nat->Prop} (h:ay f xs base w v) (ht:Touch F w w') (hF: ∀b,cx xs v b-> ¬F b):ay f xs base w' v:=by
 obtain ⟨A,c,rfl,h1,h2,h3⟩:=h;refine ⟨A,c,rfl,h1,h2,λh0=>?_⟩;obtain ⟨g,rfl,hg,aI,hr⟩:=h3 h0;exact ⟨g,rfl,hg,Nat.lt_of_lt_of_le aI ht.size,hr.aD aI ht (hF g ⟨h0,rfl⟩)⟩
theorem ay.dw {α:Type} {f:α->List Value} {xs:List α} {base:Nat} {w:World} {v:Value} (h:ay f xs base w v) {b:Nat} (hb:cx xs v b):base<=b/\b<w.heap.size:=by
 obtain ⟨A,c,rfl,h1,h2,h3⟩:=h;obtain ⟨g,rfl,hg,aI,hr⟩:=h3 hb.1;have:=hb.2;injection this with this
 have:g=b:=this;omega
theorem gK {α β:Type} {xs:List α} {ys:List β} {v:Value} {b:Nat} (h:cx xs v b) (hl:xs.length=ys.length):cx ys v b:=
 ⟨λe=>h.1 (by rw[e]at hl;exact List.eq_nil_of_length_eq_zero hl),h.2⟩
structure Kind (β:Type) where
 cells:β->List Value
 size:Nat
 fa:Nat->World->β->Prop
 dR:β->Nat->Prop
 len: ∀x,(cells x).length=size
 aD: ∀{base w w' x} {F:Nat->Prop},fa base w x->Touch F w w'->(∀b,dR x b-> ¬F b)->fa base w' x
 lt: ∀{base w x b},fa base w x->dR x b->base<=b/\b<w.heap.size
 less: ∀{base b w x},fa base w x->b<=base->fa b w x
structure aR {β:Type} (K:Kind β) (base:Nat) (w:World) (v:Value) (L:List β):Prop where
 row:ay K.cells L base w v
 fa: ∀x∈L,K.fa base w x
 o: ∀q∈L,∀b,K.dR q b->v.ownBlock≠some b
 two:L.Pairwise (λp q=> ∀b,K.dR p b-> ¬K.dR q b)
def bN {β:Type} (K:Kind β) (v:Value) (L:List β) (b:Nat):Prop:=cx L v b\/ ∃q∈L,K.dR q b
theorem aR.aD {β:Type} {K:Kind β} {base:Nat} {w w':World} {v:Value} {L:List β} {F:Nat->Prop} (h:aR K base w v L) (ht:Touch F w w') (hF: ∀b,bN K v L b-> ¬F b):aR K base w' v L:=
 ⟨h.row.aD ht (λb hb=>hF b (.inl hb)),λx hx=>K.aD (h.fa x hx) ht (λb hb=>hF b (.inr ⟨x,hx,hb⟩)),h.o,h.two⟩
theorem aR.below {β:Type} {K:Kind β} {base:Nat} {w w':World} {v:Value} {L:List β} (h:aR K base w v L) (hb:Below w.heap.size w w'):aR K base w' v L:=
 h.aD (F:=λ_=>False) (Touch.dV hb) (λ_ _ h=>h)
theorem aR.lt {β:Type} {K:Kind β} {base:Nat} {w:World} {v:Value} {L:List β} (h:aR K base w v L) {b:Nat} (hb:bN K v L b):base<=b/\b<w.heap.size:=by
 rcases hb with hb|⟨q,hq,hb⟩
 ·exact h.row.dw hb
 exact K.lt (h.fa q hq) hb
theorem aR.less {β:Type} {K:Kind β} {base b:Nat} {w:World} {v:Value} {L:List β} (h:aR K base w v L) (hb:b<=base):aR K b w v L:=
 ⟨h.row.less hb,λx hx=>K.less (h.fa x hx) hb,h.o,h.two⟩
theorem aR.mo {β:Type} {K:Kind β} {base:Nat} {w:World} {v:Value} {L:List β} (h:aR K base w v L):cz (Pl K.cells) K.size w w.heap.size v L:=h.row.mo K.len
theorem aR.nil {β:Type} (K:Kind β) (base:Nat) (w:World) (A:Option Addr) (c:Nat) (hc:c<=maxLen):aR K base w (.slice A 0 c) []:=
 ⟨⟨A,c,rfl,Nat.zero_le _,hc,λh=>absurd rfl h⟩,(λx hx=>by cases hx),(λx hx=>by cases hx),List.Pairwise.nil⟩
theorem aR.cell {β:Type} {K:Kind β} {base:Nat} {w:World} {v:Value} {L:List β} (h:aR K base w v L) {j:Nat} {x:β} (hx:L[j]?=some x): ∃g c,v= .slice (some ⟨g,0,none⟩) L.length c/\L.length<=c/\c<=maxLen/\base<=g/\g<w.heap.size/\ ∀i u,(K.cells x)[i]?=some u->w.cell? ⟨g,j*K.size+i,none⟩=some u/\w.frozen? ⟨g,j*K.size+i,none⟩=false:=by
 obtain ⟨A,c,rfl,h1,h2,h3⟩:=h.row;have gm:L≠[]:=λe=>by rw[e]at hx;simp at hx
 obtain ⟨g,rfl,hg,aI,hr⟩:=h3 gm;refine ⟨g,c,rfl,h1,h2,hg,aI,λi u hu=>?_⟩;have hf:=l5 K.cells K.len L j x i u hx hu (by rw[<-K.len x];exact (List.getElem?_eq_some_iff.1 hu).1);exact ⟨hr.cell _ u hf,hr.free _ (List.getElem?_eq_some_iff.1 hf).1⟩
theorem rA {β:Type} (K:Kind β): ∀(L:List β) (j:Nat) (x x':β) (i:Nat) (u:Value),L[j]?=some x->i<K.size->K.cells x'=(K.cells x).set i u->(L.flatMap K.cells).set (j*K.size+i) u=(L.set j x').flatMap K.cells
 |[],_,_,_,_,_,h,_,_=>by simp at h
 |y::L,0,x,x',i,u,h,hi,hc=>by
  rw[List.getElem?_cons_zero]at h;injection h with h
  subst h;rw[List.set_cons_zero,List.flatMap_cons,List.flatMap_cons,Nat.zero_mul,Nat.zero_add,hc,List.set_append,if_pos (by rw[K.len];exact hi)]
 |y::L,j+1,x,x',i,u,h,hi,hc=>by
  rw[List.getElem?_cons_succ]at h;rw[List.set_cons_succ,List.flatMap_cons,List.flatMap_cons,List.set_append,if_neg (by rw[K.len,Nat.succ_mul];omega),K.len,show (j+1)*K.size+i-K.size=j*K.size+i by rw[Nat.succ_mul];omega,rA K L j x x' i u h hi hc]
theorem u6 {β:Type} {R:β->β->Prop}: ∀(L:List β) (j:Nat) (x x':β),L[j]?=some x->L.Pairwise R->(∀p,R p x->R p x')->(∀p,R x p->R x' p)->(L.set j x').Pairwise R
 |[],_,_,_,h,_,_,_=>by simp at h
 |y::L,0,x,x',h,hp,h1,h2=>by
  rw[List.getElem?_cons_zero]at h;injection h with h
  subst h;rw[List.set_cons_zero,List.pairwise_cons];rw[List.pairwise_cons]at hp;exact ⟨λp NA=>h2 p (hp.1 p NA),hp.2⟩
 |y::L,j+1,x,x',h,hp,h1,h2=>by
  rw[List.getElem?_cons_succ]at h;rw[List.pairwise_cons]at hp;rw[List.set_cons_succ,List.pairwise_cons];refine ⟨λp NA=>?_,u6 L j x x' h hp.2 h1 h2⟩;rcases List.mem_or_eq_of_mem_set NA with hm|rfl
  ·exact hp.1 p hm
  exact h1 y (hp.1 x (List.mem_of_getElem? h))
theorem FC {β:Type} {K:Kind β} {L:List β} (h:L.Pairwise (λp q=> ∀b,K.dR p b-> ¬K.dR q b)) {j:Nat} {x:β} (hx:L[j]?=some x) {x':β}: ∀q∈L.set j x',q=x'\/(q∈L/\ ∀b,K.dR x b-> ¬K.dR q b):=λq hq=>by
 obtain ⟨i,hi⟩:=List.getElem?_of_mem hq;by_cases e:j=i
 ·subst e;rw[List.getElem?_set_self (List.getElem?_eq_some_iff.1 hx).1]at hi;injection hi with hi
  exact .inl hi.symm
 rw[List.getElem?_set_ne e]at hi;refine .inr ⟨List.mem_of_getElem? hi,λb hb hq=>?_⟩;obtain ⟨lj,ej⟩:=List.getElem?_eq_some_iff.1 hx;obtain ⟨li,eg⟩:=List.getElem?_eq_some_iff.1 hi;have hp:=List.pairwise_iff_getElem.1 h;rcases Nat.lt_or_ge j i with aI|eA
 ·exact hp j i lj li aI b (by rw[ej];exact hb) (by rw[eg];exact hq)
 exact hp i j li lj (by omega) b (by rw[eg];exact hq) (by rw[ej];exact hb)
theorem aR.setCell {β:Type} {K:Kind β} {base:Nat} {w:World} {v:Value} {L:List β} (h:aR K base w v L) {j:Nat} {x x':β} (hx:L[j]?=some x) {g:Nat} (hv:v.ownBlock=some g) (i:Nat) (hi:i<K.size) (u:Value) (hc:K.cells x'=(K.cells x).set i u)
 (hb: ∀b,K.dR x' b↔K.dR x b) (iq: ∀w,K.fa base w x->K.fa base w x'):aR K base (w.setCell ⟨g,j*K.size+i,none⟩ u) v (L.set j x'):=by
 obtain ⟨A,c,rfl,h1,h2,h3⟩:=h.row;have gm:L≠[]:=λe=>by rw[e]at hx;simp at hx
 obtain ⟨g',rfl,hg,aI,hr⟩:=h3 gm;injection hv with hv
 have hv:g'=g:=hv;subst hv;have PG:=(List.getElem?_eq_some_iff.1 hx).1;have ht:Touch (λb=>b=g') w (w.setCell ⟨g',j*K.size+i,none⟩ u):=Touch.setCell (F:=λb=>b=g') (Touch.refl _ w) rfl u;refine ⟨⟨_,c,by rw[List.length_set],by rw[List.length_set];exact h1,h2,λ_=>⟨g',rfl,hg,by simpa [World.setCell]using aI,?_⟩⟩,λq hq=>?_,λq hq b mq=>?_,?_⟩
 ·rw[<-rA K L j x x' i u hx hi hc];refine hr.set _ u ?_;have:(j+1)*K.size<=L.length*K.size:=Nat.mul_le_mul_right _ PG;rw[Nat.succ_mul]at this;rw[bp K.cells K.len];omega
 ·rcases List.mem_or_eq_of_mem_set hq with hm|rfl
  ·exact K.aD (h.fa q hm) ht (λb dF e=>h.o q hm b dF (by rw[e];rfl))
  have hm:=List.mem_of_getElem? hx;exact iq _ (K.aD (h.fa x hm) ht (λb dF e=>h.o x hm b dF (by rw[e];rfl)))
 ·rcases List.mem_or_eq_of_mem_set hq with hm|rfl
  ·exact h.o q hm b mq
  exact h.o x (List.mem_of_getElem? hx) b ((hb b).1 mq)
 exact u6 L j x x' hx h.two (λp hp b h1 h2=>hp b h1 ((hb b).1 h2)) (λp hp b h1 h2=>hp b ((hb b).1 h1) h2)
theorem aR.inner {β:Type} {K:Kind β} {base:Nat} {w w':World} {v:Value} {L:List β} {F:Nat->Prop} (h:aR K base w v L) {j:Nat} {x x':β} (hx:L[j]?=some x) (ht:Touch F w w') (hF: ∀b,b<w.heap.size->F b->K.dR x b) (hc:K.cells x'=K.cells x)
 (hb: ∀b,K.dR x' b↔K.dR x b) (iq:K.fa base w' x'):aR K base w' v (L.set j x'):=by
 have hm:=List.mem_of_getElem? hx;have PG:=(List.getElem?_eq_some_iff.1 hx).1
 have e:(L.set j x').flatMap K.cells=L.flatMap K.cells:=by
  obtain ⟨hl,he⟩:=List.getElem?_eq_some_iff.1 hx;rw[List.flatMap_def,List.flatMap_def,List.map_set,hc,<-List.map_set,<-he,List.set_getElem_self]
 have kv:=ht.mono hF;refine ⟨?_,λq hq=>?_,λq hq b mq=>?_,u6 L j x x' hx h.two (λp hp b h1 h2=>hp b h1 ((hb b).1 h2)) (λp hp b h1 h2=>hp b ((hb b).1 h1) h2)⟩
 ·obtain ⟨A,c,hv,h1,h2,h3⟩:=h.row.aD kv (λb dF hk=>h.o x hm b hk dF.2);refine ⟨A,c,by rw[List.length_set];exact hv,by rw[List.length_set];exact h1,h2,λh0=>?_⟩;obtain ⟨g,e1,e2,e3,e4⟩:=h3 (λe=>h0 (by rw[e];rfl));exact ⟨g,e1,e2,e3,by rw[e];exact e4⟩
 ·rcases FC h.two hx q hq with rfl|⟨Im,hd⟩
  ·exact iq
  exact K.aD (h.fa q Im) kv (λb dF hk=>hd b hk dF)
 rcases List.mem_or_eq_of_mem_set hq with Io|rfl
 ·exact h.o q Io b mq
 exact h.o x hm b ((hb b).1 mq)
theorem Row.Qq {g:Nat}: ∀(C X Y:List Value) (w:World),Row w g (X++Y)->C.length<=Y.length->Row (w.setCells g X.length C) g (X++(C++Y.drop C.length))
 |[],X,Y,w,h,_=>by simpa [World.setCells]using h
 |c::C,X,[],w,h,hl=>by simp at hl
 |c::C,X,y::Y,w,h,hl=>by
  have h1:=h.set X.length c (by rw[List.length_append,List.length_cons];omega);rw[List.set_append_right _ _ (Nat.le_refl _),Nat.sub_self,List.set_cons_zero]at h1;have h2:=Row.Qq C (X++[c]) Y _ (by rw[List.append_assoc];exact h1) (by simpa using hl);rw[List.length_append,List.length_singleton,List.append_assoc]at h2;rw[World.setCells];simpa using h2
theorem oK {F:Nat->Prop} {a:World} (g:Nat) (hg:F g): ∀(vs:List Value) (o:Nat) (w:World),Touch F a w->Touch F a (w.setCells g o vs)
 |[],_,_,h=>h
 |v::r,o,w,h=>by rw[World.setCells];exact oK g hg r (o+1) _ (h.setCell hg _)
structure rh {β:Type} (K:Kind β) (base n:Nat) (w:World) (g:Nat) (L:List β) (Z:List Value):Prop where
 row:Row w g (L.flatMap K.cells++Z)
 len:L.length*K.size+Z.length=n*K.size
 fa: ∀x∈L,K.fa base w x
 o: ∀x∈L,∀b,K.dR x b->b≠g
 two:L.Pairwise (λp q=> ∀b,K.dR p b-> ¬K.dR q b)
theorem rh.below {β:Type} {K:Kind β} {base n:Nat} {w w':World} {g:Nat} {L:List β} {Z:List Value} (h:rh K base n w g L Z) (hb:Below w.heap.size w w') (hg:g<w.heap.size):rh K base n w' g L Z:=
 ⟨h.row.below hb hg,h.len,λx hx=>K.aD (F:=λ_=>False) (h.fa x hx) (Touch.dV hb) (λ_ _ h=>h),h.o,h.two⟩
theorem rh.start {β:Type} {K:Kind β} {base n:Nat} {w:World} {g:Nat} {Z:List Value} (h:Row w g Z) (hl:Z.length=n*K.size):rh K base n w g ([]:List β) Z:=
 ⟨by simpa using h,by simpa using hl,(λx hx=>by cases hx),(λx hx=>by cases hx),List.Pairwise.nil⟩
theorem rh.cell {β:Type} {K:Kind β} {base n:Nat} {w:World} {g:Nat} {L:List β} {Z:List Value} (h:rh K base n w g L Z) {k:Nat} (hk:L.length=k) (aI:k<n) {i:Nat} (hi:i<K.size):(∃u,w.cell? ⟨g,k*K.size+i,none⟩=some u)/\w.frozen? ⟨g,k*K.size+i,none⟩=false:=by
 subst hk;have:(L.length+1)*K.size<=n*K.size:=Nat.mul_le_mul_right _ aI;rw[Nat.succ_mul]at this
 have hl:L.length*K.size+i<(L.flatMap K.cells++Z).length:=by
  rw[List.length_append,bp K.cells K.len,h.len];omega
 exact ⟨⟨_,h.row.cell _ _ (List.getElem?_eq_getElem hl)⟩,h.row.free _ hl⟩
theorem rh.step {β:Type} {K:Kind β} {base n:Nat} {w:World} {g:Nat} {L:List β} {Z:List Value} (h:rh K base n w g L Z) {k:Nat} (hk:L.length=k) (aI:k<n) {x:β} {lo:Nat} (hx:K.fa base w x) (PH: ∀b,K.dR x b->lo<=b) (hg:g<lo) (hL: ∀q∈L,∀b,K.dR q b->b<lo):
 rh K base n (w.setCells g (k*K.size) (K.cells x)) g (L++[x]) (Z.drop K.size):=by
 subst hk;have hmul:(L.length+1)*K.size<=n*K.size:=Nat.mul_le_mul_right _ aI;rw[Nat.succ_mul]at hmul;have hl:=h.len;have hlen:=bp K.cells K.len L;have ht:Touch (λb=>b=g) w (w.setCells g (L.length*K.size) (K.cells x)):=oK (F:=λb=>b=g) g rfl _ _ _ (Touch.refl _ _);refine ⟨?_,?_,λq hq=>?_,λq hq b hb=>?_,?_⟩
 ·have:=Row.Qq (K.cells x) (L.flatMap K.cells) Z w h.row (by rw[K.len];omega);rw[hlen,K.len]at this;rw[List.flatMap_append,List.flatMap_cons,List.flatMap_nil,List.append_nil,List.append_assoc];exact this
 ·rw[List.length_append,List.length_singleton,List.length_drop,Nat.succ_mul];omega
 ·rcases List.mem_append.1 hq with hq|hq
  ·exact K.aD (h.fa q hq) ht (λb hb e=>h.o q hq b hb e)
  rw[List.mem_singleton.1 hq];exact K.aD hx ht (λb hb e=>by have:=PH b hb;omega)
 ·rcases List.mem_append.1 hq with hq|hq
  ·exact h.o q hq b hb
  rw[List.mem_singleton.1 hq]at hb;have:=PH b hb;omega
 rw[List.pairwise_append];refine ⟨h.two,List.pairwise_singleton _ _,λp hp q hq b h1 h2=>?_⟩;rw[List.mem_singleton.1 hq]at h2;have:=hL p hp b h1;have:=PH b h2;omega
theorem rh.lt {β:Type} {K:Kind β} {base n:Nat} {w:World} {g:Nat} {L:List β} {Z:List Value} (h:rh K base n w g L Z): ∀q∈L,∀b,K.dR q b->b<w.heap.size:=λq hq _ hb=>(K.lt (h.fa q hq) hb).2
theorem rh.tree {β:Type} {K:Kind β} {base n:Nat} {w:World} {g:Nat} {L:List β} {Z:List Value} (h:rh K base n w g L Z) (hn:L.length=n) (hg:g<w.heap.size) (kd:base<=g) (hm:n<=maxLen):aR K base w (.slice (some ⟨g,0,none⟩) n n) L:=by
 subst hn;have hz:Z=[]:=List.eq_nil_of_length_eq_zero (by have:=h.len;omega);have hr:=h.row;rw[hz,List.append_nil]at hr;exact ⟨⟨_,_,rfl,Nat.le_refl _,hm,λ_=>⟨g,rfl,kd,hg,hr⟩⟩,h.fa,λq hq b hb e=>h.o q hq b hb (by injection e with e;exact e.symm),h.two⟩
theorem aho {w:World} {base g:Nat} {e e':TypeId} {size n:Nat} {v:Value} {xs:List Value} {cs:Array Value} (h:w.ownsRow base e size v n xs) (hg:w.heap[g]?=some (.cells cs e' (0,0))) (gm:e≠e'):v.ownBlock≠some g:=by
 obtain ⟨hl,h|⟨g1,cap,kT,rfl,_,hh,_⟩⟩:=h
 ·obtain ⟨rfl,_⟩:=h;simp[Value.ownBlock]
 intro hb;simp[Value.ownBlock]at hb;subst hb;rw[hh]at hg;injection hg with hg
 injection hg with _ h2 _
 exact gm h2
theorem bG {w:World} {base:Nat} {e:TypeId} {size n:Nat} {v:Value} {xs:List Value} (h:w.ownsRow base e size v n xs) (hn:v≠ .slice none 0 0): ∃g cap,v= .slice (some ⟨g,0,none⟩) n cap/\n<=cap/\cap<=maxLen:=by
 obtain ⟨hl,h|⟨g1,cap,kT,rfl,_,hh,h1,h2,_⟩⟩:=h
 ·exact absurd h.1 hn
 exact ⟨g1,cap,rfl,h1,h2⟩
theorem afr {w w':World} {o:Obj} {row:Option Nat} {g:Nat} {x:Obj} (hg:(w.alloc o).grownBy w' row) (h:w.heap[g]?=some x) (gm:row≠some g):w'.heap[g]?=some x:=by
 have aI:g<w.heap.size:=(Array.getElem?_eq_some_iff.1 h).1;rw[hg.block g (by simp;omega) (λe=>gm e.symm)];have:(w.alloc o).heap[g]?=w.heap[g]?:=((Below.refl w.heap.size w).alloc (Nat.le_refl _) o).block g aI;rw[this,h]
theorem afs {w:World} {g j:Nat} {cs:Array Value} {e:TypeId} {u:Value} (h:w.heap[g]?=some (.cells cs e (0,0))) (hu:cs[j]?=some u):w.cell? ⟨g,j,none⟩=some u:=by
 simp[World.cell?,h,hu]
theorem ae5 {w w':World} {g:Nat} {x:Obj} (hb:Below w.heap.size w w') (h:w.heap[g]?=some x):w'.heap[g]?=some x:=by
 rw[hb.block g (Array.getElem?_eq_some_iff.1 h).1,h]
theorem ly (w:World) (o:Obj):(w.alloc o).heap[w.heap.size]?=some o:=heap_alloc_new w o
def Sx (l:List UInt8):List UInt8:=l.map λc=>if c=59 then 10 else c
structure aaG (B:Nat) (w:World):Prop where
 env:Env B w
 num: ∀w',Below B w w'-> ∀s:ByteArray,s.size<=65536->Calls prog 53 #[.string s,.int .i64 10,.int .i64 64] w' λe Nn=> ∃(n:Int) (ev:Value),e= .returned (.tuple #[.int .i64 n,ev])/\ -9223372036854775808<=n/\n<=9223372036854775807/\(ev= .nilIface\/ ∃t p,ev= .iface t p)/\(∀m,-9223372036854775808<=m->m<=9223372036854775807->itoa m=s.data.toList->ev= .nilIface/\n=m)/\Below w'.heap.size w' Nn
 cut: ∀w',Below B w w'-> ∀(s:ByteArray) (c:UInt8),s.size<=65536->Calls prog 56 #[.string s,.string ⟨#[c]⟩] w' λe Nn=> ∃ok,e= .returned (.tuple #[.string ⟨(sK c s.data.toList).1.toArray⟩,.string ⟨(sK c s.data.toList).2.toArray⟩,.bool ok])/\ ∃k,Nn=w'.drewN k
 spl: ∀w',Below B w w'-> ∀(s:ByteArray) (c:UInt8),s.size<=65536->Calls prog 52 #[.string s,.string ⟨#[c]⟩] w' λe Nn=>e= .returned (.slice (some ⟨w'.heap.size,0,none⟩) (sL c s.data.toList).length (sL c s.data.toList).length)/\ ∃cs,Nn=w'.alloc (.cells cs 9)/\ ∀(k:Nat) (p:List UInt8),(sL c s.data.toList)[k]?=some p->cs[k]?=some (.string ⟨p.toArray⟩)
 spn: ∀w',Below B w w'-> ∀s:ByteArray,s.size<=65536->Calls prog 23 #[.string s,.string ⟨#[32]⟩,.int .i64 7] w' λe Nn=> ∃c,e= .returned (.slice (some ⟨w'.heap.size,0,none⟩) (K8 32 6 s.data.toList).length c)/\Lb Nn (.slice (some ⟨w'.heap.size,0,none⟩) (K8 32 6 s.data.toList).length c) (K8 32 6 s.data.toList)/\Below w'.heap.size w' Nn
 rpb: ∀w',Below B w w'-> ∀l:List UInt8,l.length<=65536->Calls prog 22 #[.string ⟨l.toArray⟩,.string ⟨#[59]⟩,.string ⟨#[10]⟩] w' (bT (.string ⟨(Sx l).toArray⟩) w')
theorem aaG.on {B:Nat} {w w1:World} (h:aaG B w) (hb:Below B w w1):aaG B w1 where
 env:=h.env.on hb
 num:=λw' dF=>h.num w' (hb.trans dF)
 cut:=λw' dF=>h.cut w' (hb.trans dF)
 spl:=λw' dF=>h.spl w' (hb.trans dF)
 spn:=λw' dF=>h.spn w' (hb.trans dF)
 rpb:=λw' dF=>h.rpb w' (hb.trans dF)
theorem aaG.more {B B':Nat} {w:World} (h:aaG B w) (hB:B<=B'):aaG B' w where
 env:=aah h.env hB
 num:=λw' dF=>h.num w' (dF.mono hB)
 cut:=λw' dF=>h.cut w' (dF.mono hB)
 spl:=λw' dF=>h.spl w' (dF.mono hB)
 spn:=λw' dF=>h.spn w' (dF.mono hB)
 rpb:=λw' dF=>h.rpb w' (dF.mono hB)
theorem dj (n a b:Int) (w:World) (r:Bool) (h:dO n a b=r):Calls prog 54 #[.int .i64 n,.int .i64 a,.int .i64 b] w (f' (.bool r) w):=h▸lZ n a b w
theorem aak (s:ByteArray) (lo hi:Int) (w:World) (hs:s.size<=65536) (hl: -9223372036854775808<=lo) (hh:hi<=9223372036854775807) (hE:aaG w.heap.size w):
 Calls prog 26 #[.string s,.int .i64 lo,.int .i64 hi] w (bT (.tuple #[.int .i64 ((numOf lo hi s.data.toList).getD 0),.bool (numOf lo hi s.data.toList).isSome]) w):=by
 have E:=I hE;clear hE;go_enter func26,ntmps26;go_wp2_with (fail);refine (E.o.num w (Below.refl _ _) s hs).mono ?_;rintro e w1 ⟨n,ev,rfl,n1,n2,hev,hm,bw⟩;have HB:=I bw;clear bw;rcases hev with rfl|⟨t,p,rfl⟩
 ·have eC:ag (∀q,dO q lo hi=true->itoa q=s.data.toList->n=q):=I (λq hq e=>by
   rw[dS]at hq;exact (hm q (by omega) (by omega) e).2)
  clear hm;go_wp2_with (fail);refine (aag w.heap.size n _ (E.o.env.on HB.o) n1 n2).mono ?_;rintro e w2 ⟨rfl,cL⟩;have j7:=HB.o.trans (cL.mono HB.o.size);clear cL;by_cases heq:itoa n=s.data.toList
  ·have CB:(itoa n==s.toList)=true:=by rw[ByteArray.toList_eq,heq];simp
   have M2:=I heq;clear heq;go_wp2_with (fail);cases iq:dO n lo hi with
   |false=>
    refine (dj n lo hi _ false iq).mono ?_;rintro e w3 ⟨rfl,m3,rfl⟩;have HN:ag (numOf lo hi s.data.toList=none):=I (agu eC.o (by rw[iq];simp));clear iq;go_wp2;go_ret2;exact ⟨by rw[HN.o];rfl,below_drewN j7 m3⟩
   |true=>
    refine (dj n lo hi _ true iq).mono ?_;rintro e w3 ⟨rfl,m3,rfl⟩;have HN:ag (numOf lo hi s.data.toList=some n):=I (afU eC.o iq M2.o);clear iq;go_wp2;go_ret2;exact ⟨by rw[HN.o];rfl,below_drewN j7 m3⟩
  have CB:(itoa n==s.toList)=false:=by rw[ByteArray.toList_eq];simpa using heq
  have HN:ag (numOf lo hi s.data.toList=none):=I (agu eC.o (λh=>heq h.2));clear heq;go_wp2;go_ret2;exact ⟨by rw[HN.o];rfl,j7⟩
 have HN:ag (numOf lo hi s.data.toList=none):=I (afV (λq hq e=>by
  rw[dS]at hq;cases (hm q (by omega) (by omega) e).1))
 clear hm;go_wp2;go_ret2;exact ⟨by rw[HN.o];rfl,HB.o⟩
noncomputable def XP (lo hi:Int) (l:List UInt8):List Int:=if l=[]then []else if (sL 44 l).length<=101 then (Qm lo hi (sL 44 l)).getD []else []
def Qr (zs:List Int) (w:World) (e:Ending) (w':World):Prop:= ∃v ok,e= .returned (.tuple #[v,.bool ok])/\ay ak zs w.heap.size w' v/\Below w.heap.size w w'
theorem adA (c:UInt8): ∀l:List UInt8,(sL c l).length<=l.length+1
 |[]=>Nat.le_refl _
 |x::l=>by
  have ih:=adA c l;unfold sL
  split
  ·simp;omega
  split
  ·rename_i h;rw[h]at ih;simp at ih⊢;omega
  simp
theorem aaV (s:ByteArray) (lo hi:Int) (w:World) (hs:s.size<=65536) (hl: -9223372036854775808<=lo) (hh:hi<=9223372036854775807) (hE:aaG w.heap.size w):
 Calls prog 24 #[.string s,.string ⟨#[44]⟩,.int .i64 lo,.int .i64 hi] w (Qr (XP lo hi s.data.toList) w):=by
 have E:=I hE;clear hE;obtain ⟨i0,AN,dK,ez,ek⟩:=info_parts iD;have ja:s.data.toList.length=s.size:=by simp
 by_cases h0:s.data.toList=[]
 ·have h1:(s.toList==[])=true:=by rw[ByteArray.toList_eq,h0];rfl
  have HD:ag (XP lo hi s.data.toList=[]):=I (by unfold XP;rw[if_pos h0]);clear h0;go_enter func24,ntmps24;go_wp2;go_ret2;refine ⟨.slice (some ⟨w.heap.size,0,none⟩) 0 0,true,rfl,?_,(Below.refl _ _).alloc (Nat.le_refl _) _⟩;rw[HD.o];exact ⟨_,0,rfl,Nat.le_refl _,Nat.zero_le _,λh=>absurd rfl h⟩
 have h1:(s.toList==[])=false:=by rw[ByteArray.toList_eq];simpa using h0
 have HD:ag (XP lo hi s.data.toList=if (sL 44 s.data.toList).length<=101 then (Qm lo hi (sL 44 s.data.toList)).getD []else []):=I (by unfold XP;rw[if_neg h0]);have hpc:=adA 44 s.data.toList;have oz:ag (∀p∈sL 44 s.data.toList,p.length<=65536):=I (λp hp=>by have:=adz 44 s.data.toList p hp;omega);have amV:=I (E.o.spl);have bW:Below w.heap.size w (w.alloc (.cells #[] 2)):=(Below.refl _ _).alloc (Nat.le_refl _) _;have HS:=I (E.o.spl _ bW s 44 hs);clear h0 amV;generalize sL 44 s.data.toList=ps at*;generalize XP lo hi s.data.toList=R at*;go_enter func24,ntmps24;go_wp2_with (fail);refine (HS.o).mono ?_;rintro e w1 ⟨rfl,cs,CQ,og⟩;have bw:Below (w.alloc (.cells #[] 2)).heap.size (w.alloc (.cells #[] 2)) w1:=by rw[CQ];exact (Below.refl _ _).alloc (Nat.le_refl _) _
 have da:ag (Below w.heap.size w w1):=I (bW.trans (bw.mono bW.size));have cN:w1.ownsRow w.heap.size 2 1 (.slice (some ⟨w.heap.size,0,none⟩) 0 0) 0 []:=aT (by simpa using World.ownsRow_made w #[] 0 (Nat.le_refl _) (Nat.zero_le _) rfl) bw;have Ot:(w.alloc (.cells #[] 2)).heap.size=w.heap.size+1:=by simp
 have ta:w1.heap[w.heap.size+1]?=some (.cells cs 9 (0,0)):=by rw[CQ,<-Ot];exact ly _ _
 have abD:=I ta;have KR:=I og;have dY:=I cN;clear og ta CQ bw cN HS bW;go_wp2;go_loopw [10,23] (λo i wr=> ∃(k:Nat) (zs:List Int),k<=ps.length/\i= .int .i64 (k:Int)/\wr.ownsRow w.heap.size 2 1 o k (zs.flatMap ak)/\o≠ .slice none 0 0/\Qm lo hi (ps.take k)=some zs/\k<=101/\wr.heap[w.heap.size+1]?=some (.cells cs 9 (0,0))/\Below w.heap.size w wr) (λ_ i _=>ps.length-(RowKit.intOf i).toNat);case atStart=>exact ⟨0,[],Nat.zero_le _,rfl,dY.o,by simp,rfl,by omega,abD.o,da.o⟩
 case round=>
  obtain ⟨k,zs,hk,rfl,cr,nm,Ij,rc,hS,hb⟩:=hrel;have Xe:zs.length=k:=by have:=aeg _ Ij;rw[List.length_take]at this;omega
  obtain ⟨g,cap,rfl,SD,nj⟩:=bG cr nm;unfold maxLen at nj;clear nm;have eH:=I cr;have J2:=I Ij;have HB:=I hb;have Zy:=I hS;have sG:ps.length<=65537:=by omega
  by_cases aI:k<ps.length
  ·have x0:=afs hS (KR.o k _ (List.getElem?_eq_getElem aI));have H5:ps.take (k+1)=ps.take k++[ps[k]]:=List.take_succ_eq_append_getElem aI;have HT:=I H5;have hps:ps=ps.take (k+1)++ps.drop (k+1):=(List.take_append_drop _ _).symm;have HPS:=I hps;have XJ:=oz.o ps[k] (List.getElem_mem aI);have aaM:=I (λ(W:World) (eD:Below w.heap.size w W)=>aak ⟨ps[k].toArray⟩ lo hi W (by rw[ag'];exact XJ) hl hh ((E.o.on eD).more eD.size));rw[show (⟨ps[k].toArray⟩:ByteArray).data.toList=ps[k]from rfl]at aaM;clear cr Ij hb hS H5 hps;generalize ps[k]=p at*;cases hn:numOf lo hi p with
   |none=>
    rw[hn]at aaM
    have HR:ag (R=[]):=I (by
     rw[HD.o]
     split
     ·rw[HPS.o,aeF _ _ (by rw[HT.o,adX,J2.o,hn])];rfl
     rfl)
    clear hn;go_wp2_with (fail);refine (aaM.o _ HB.o).mono ?_;rintro e w2 ⟨rfl,cL⟩;have j7:=HB.o.trans (cL.mono HB.o.size);clear cL;go_wp2;go_ret2;exact ⟨.slice none 0 0,false,rfl,by rw[HR.o];exact ay.nil _ _ _,j7⟩
   |some z=>
    rw[hn]at aaM;have wq:ag (Qm lo hi (ps.take (k+1))=some (zs++[z])):=I (by rw[HT.o,adX,J2.o,hn]);clear hn;go_wp2_with (fail);refine (aaM.o _ HB.o).mono ?_;rintro e w2 ⟨rfl,cL⟩;have j7:=HB.o.trans (cL.mono HB.o.size);have cr:=aT eH.o cL;have F4:=j7.size;have Nr:=I (ae5 cL Zy.o);clear cL x0;by_cases anc:k<=100
    ·have HF:ag ((zs++[z]).flatMap ak=zs.flatMap ak++[.int .i64 z]):=I (by rw[cq];rfl);generalize zs.flatMap ak=L at*;have qg:k+1<=101:=by omega
     have amW: ¬(100:Int)<(k:Int):=by omega
     have amX: ¬100<k:=by omega
     go_wp2_with (at_builtin;refine wpList_append_own _ rfl _ _ 35 rfl w.heap.size 2 i0 (.int .i64 0) 1 8 underlying35 AN dK ez ek rfl (by decide) _ _ _ rfl (cr.alloc _) ⟨w2.heap.size,0,none⟩ 1 1 [.int .i64 z] rfl rfl ?c1 ?c2 ?c3 ?c4 ?c5 ?_)
     case c1=>
      intro j u hj
      match j,hj with
      |0,hj=>simp at hj;subst hj;simp[Addr.add]
     case c2=>intro u hu;simp at hu;subst hu;rfl
     case c3=>unfold maxLen;omega
     case c4=>omega
     case c5=>simp;omega
     intro v' w3 aG aA aU;have mF:v'≠ .slice none 0 0:=by simpa using aU
     have dB:=(j7.alloc F4 _).grown aA (by simp;omega) (λj hj=>(cr.lt j hj).1);have fL:=afr aA Nr.o (aho cr Nr.o (by decide));clear cr aA aU;go_wp2;go_roundw;case rel=>exact ⟨k+1,zs++[z],by omega,by go_num,by rw[HF.o];exact aG,mF,wq.o,qg,fL,dB⟩
     case measure=>simp[RowKit.intOf];omega
    have HR:ag (R=[]):=I (by rw[HD.o,if_neg (by omega)]);have amW:(100:Int)<(k:Int):=by omega
    have amX:100<k:=by omega
    go_wp2;go_ret2;exact ⟨.slice none 0 0,false,rfl,by rw[HR.o];exact ay.nil _ _ _,j7⟩
  have eA: ¬(k:Int)<(ps.length:Int):=by omega
  have di:k=ps.length:=by omega
  have HR:ag (R=zs):=I (by
   have h:=J2.o;rw[List.take_of_length_le (by omega)]at h;rw[HD.o,if_pos (by omega),h];rfl)
  have HO:ag (ay ak zs w.heap.size wr (.slice (some ⟨g,0,none⟩) k cap)):=I (by
   have h:=eH.o;rw[<-Xe]at h⊢;exact ay.bI ak (size:=1) (λ_=>rfl) h)
  clear di cr Ij hb hS;go_wp2;go_ret2;exact ⟨.slice (some ⟨g,0,none⟩) k cap,true,rfl,by rw[HR.o];exact HO.o,HB.o⟩
structure bE where
 id:Int
 text:ByteArray
def ai (a:bE):List Value:=[.int .i64 a.id,.string a.text]
def iT (w:World) (B:Nat) (v:Value) (s:List bE):Prop:=cz (Pl ai) 2 w B v s
def jf (a:bE):Bool:=dO a.id 1 99&&bP a.text.toList
def EH (s:List bE) (k:Nat):Int:=((s[k]?).map (·.id)).getD 0
def gR (s:List bE) (k:Nat):Bool:=((s[k]?).map jf).getD true&&(decide (k=0)||decide (EH s (k-1)<EH s k))
def cd (s:List bE):Bool:=cE s.length (gR s)&&decide (s.length<=8)
def Ld (a:bE):List UInt8:=itoa a.id++32::a.text.toList
def AD (s:List bE):List UInt8:=s.flatMap (λa=>Ld a++[10])
theorem ke {w:World} {B b off:Nat} {es:List bE} (h: ∀(k:Nat) (x:bE),es[k]?=some x-> ∃us,us.length=2/\Pl ai w B us x/\ ∀(j:Nat) (u:Value),us[j]?=some u->w.cell? ⟨b,off+k*2+j,none⟩=some u) {k:Nat} {e:bE} (hk:es[k]?=some e):
 w.cell? ⟨b,off+k*2,none⟩=some (.int .i64 e.id)/\w.cell? ⟨b,off+k*2+1,none⟩=some (.string e.text):=by
 obtain ⟨us,hl,hp,hc⟩:=h k e hk;have hp:us=ai e:=hp;subst hp;exact ⟨hc 0 _ rfl,hc 1 _ rfl⟩
theorem oL {p:List bE} {k:Nat} {e:bE} (hk:k=0) (h:p[k]?=some e) (ho:jf e=true):gR p k=true:=by
 subst hk;unfold gR;rw[h];simp[ho]
theorem oM {p:List bE} {m:Nat} {d e:bE} (hd:p[m]?=some d) (h:p[m+1]?=some e) (ho:jf e=true):gR p (m+1)=decide (d.id<e.id):=by
 unfold gR EH;rw[h];simp[ho,hd]
theorem acp {p:List bE} (h:cd p=true) {k:Nat} {e:bE} (hk:p[k]?=some e):jf e=true:=by
 unfold cd at h;rw[Bool.and_eq_true,eo]at h;have aI:k<p.length:=(List.getElem?_eq_some_iff.1 hk).1;have:=h.1 k aI;unfold gR at this;rw[hk,Bool.and_eq_true]at this;exact this.1
theorem Jt {p:List bE} (h:cd p=true) {e:bE} (he:e∈p):jf e=true:=by
 obtain ⟨k,hk⟩:=List.getElem?_of_mem he;exact acp h hk
theorem lz {p:List bE} (h:cd p=true):p.length<=8:=by
 unfold cd at h;rw[Bool.and_eq_true]at h;exact of_decide_eq_true h.2
theorem oN {e:bE} (h:jf e=true):1<=e.id/\e.id<=99/\bP e.text.toList=true/\e.text.toList.length<=24:=by
 unfold jf at h;rw[Bool.and_eq_true,dS]at h;exact ⟨h.1.1,h.1.2,h.2,lq h.2⟩
theorem ade {e:bE} (h:jf e=true):(Ld e).length<=60:=by
 obtain ⟨h1,h2,_,h4⟩:=oN h;have:=itoa_length_le e.id (by omega) (by omega);unfold Ld;simp only[List.length_append,List.length_cons];omega
theorem aeH {p:List bE} (h:cd p=true) (k:Nat):(AD (p.take k)).length<=61*k:=by
 induction k with
 |zero=>simp[AD]
 |succ k ih=>
  by_cases aI:k<p.length
  ·rw[List.take_succ_eq_append_getElem aI];unfold AD at*;rw[List.flatMap_append,List.length_append];have:=ade (acp h (List.getElem?_eq_getElem aI));simp only[List.flatMap_cons,List.flatMap_nil,List.append_nil,List.length_append,List.length_cons,List.length_nil];omega
  have e1:p.take k=p:=List.take_of_length_le (by omega);have e2:p.take (k+1)=p:=List.take_of_length_le (by omega);rw[e2];rw[e1]at ih;omega
theorem ac4 {e:bE} (h:jf e=true):(10:UInt8)∉Ld e:=by
 obtain ⟨_,_,hs,_⟩:=oN h;have hi:(10:UInt8)∉itoa e.id:=ack _ (.inl (by decide));have:=Hc hs (c:=10) (.inl (by decide));unfold Ld;simp[hi,this]
theorem ace {q:List bE} (h:cd q=true):sL 10 (AD q)=q.map Ld++[[]]:=by
 have e:AD q=q.flatMap (λx=>Ld x++[10])++[]:=by
  rw[List.append_nil];rfl
 rw[e,Jc 10 Ld q [] (λx hx=>ac4 (Jt h hx))];rfl
noncomputable def Wb (l:List UInt8):bE:=⟨(numOf 1 99 (sK 32 l).1).getD 0,⟨(sK 32 l).2.toArray⟩⟩
theorem aek {e:bE} (h:jf e=true):Wb (Ld e)=e:=by
 obtain ⟨i1,i2,_,_⟩:=oN h;have hi':(32:UInt8)∉itoa e.id:=ack _ (.inl (by decide));have hn:numOf 1 99 (itoa e.id)=some e.id:=acA (by omega) (by omega) (by omega) (by omega) rfl;obtain ⟨id,text⟩:=e;simp only at hi' hn;simp[Ld,Wb,C0 _ hi',hn,gO]
noncomputable def statOf (t:List UInt8):Option (List bE):=inv cd AD t
def Sy (s:List bE):List UInt8:=if cd s=true then AD s else []
theorem afw {s:List bE} (h:cd s=true):Sy s=AD s:=by unfold Sy;rw[if_pos h]
theorem ae6 {s:List bE} (h:cd s=true):statOf (AD s)=some s:=adv (λq hq e=>by
 have h1:q.map Ld=s.map Ld:=by
  have:=congrArg (sL 10) e;rw[ace hq,ace h]at this;exact (List.append_inj' this rfl).1
 have h2:=congrArg (List.map Wb) h1;rw[List.map_map,List.map_map]at h2
 have back: ∀p:List bE,cd p=true->p.map (Wb∘Ld)=p:=λp hp=>by
  conv=>rhs;rw[<-List.map_id p]
  apply List.map_congr_left;intro x hx;exact aek (Jt hp hx)
 rw[back _ hq,back _ h]at h2;exact h2.symm) h rfl
theorem AE {α:Type} (key:α->Int) (s:List α) (h: ∀(k:Nat) (a b:α),s[k]?=some a->s[k+1]?=some b->key a<key b):s.Pairwise (λa b=>key a<key b):=by
 rw[List.pairwise_iff_getElem];intro i j hi hj Ip;induction j with
 |zero=>omega
 |succ j ih=>
  have Qs:j<s.length:=by omega
  have h1:=h j s[j] s[j+1] (List.getElem?_eq_getElem Qs) (List.getElem?_eq_getElem hj);by_cases e:i=j
  ·subst e;exact h1
  have:=ih Qs (by omega);omega
theorem AF {α:Type} (key:α->Int) {s:List α} (h:s.Pairwise (λa b=>key a<key b)): ∀(k:Nat) (a b:α),s[k]?=some a->s[k+1]?=some b->key a<key b:=by
 intro k a b ha hb;obtain ⟨hk,rfl⟩:=List.getElem?_eq_some_iff.1 ha;obtain ⟨di,rfl⟩:=List.getElem?_eq_some_iff.1 hb;exact (List.pairwise_iff_getElem.1 h) k (k+1) hk di (by omega)
def iL (s:List bE):Prop:=s.Pairwise (λa b=>a.id<b.id)
def gV (p:List aV):Prop:=p.Pairwise (λa b=>a.id<b.id)
theorem lA (s:List bE):cd s=true↔(∀a∈s,jf a=true)/\iL s/\s.length<=8:=by
 unfold cd;rw[Bool.and_eq_true,eo,decide_eq_true_eq];constructor
 ·rintro ⟨h,hl⟩;refine ⟨λa ha=>?_,AE (λx:bE=>x.id) s (λk a b ha hb=>?_),hl⟩
  ·obtain ⟨k,hk⟩:=List.getElem?_of_mem ha;have:=h k (List.getElem?_eq_some_iff.1 hk).1;unfold gR at this;rw[hk,Bool.and_eq_true]at this;exact this.1
  have:=h (k+1) (List.getElem?_eq_some_iff.1 hb).1;unfold gR EH at this;rw[hb]at this;simp[ha]at this;exact this.2
 rintro ⟨h1,h2,hl⟩;refine ⟨λk hk=>?_,hl⟩;have hx:s[k]?=some s[k]:=List.getElem?_eq_getElem hk;rcases k with _|k
 ·exact oL rfl hx (h1 _ (List.getElem_mem hk))
 have hd:s[k]?=some s[k]:=List.getElem?_eq_getElem (by omega);rw[oM hd hx (h1 _ (List.getElem_mem hk)),decide_eq_true_eq];exact AF (λx:bE=>x.id) h2 k _ _ hd hx
theorem fO (s:List aV):bF s=true↔(∀a∈s,dE a=true)/\gV s/\s.length<=16:=by
 rw[lp,Bool.and_eq_true,eo,decide_eq_true_eq];constructor
 ·rintro ⟨h,hl⟩;refine ⟨λa ha=>?_,AE (λx:aV=>x.id) s (λk a b ha hb=>?_),hl⟩
  ·obtain ⟨k,hk⟩:=List.getElem?_of_mem ha;have:=h k (List.getElem?_eq_some_iff.1 hk).1;unfold fA at this;rw[hk,Bool.and_eq_true]at this;exact this.1
  have:=h (k+1) (List.getElem?_eq_some_iff.1 hb).1;unfold fA Fj at this;rw[hb]at this;simp[ha]at this;exact this.2
 rintro ⟨h1,h2,hl⟩;refine ⟨λk hk=>?_,hl⟩;have hx:s[k]?=some s[k]:=List.getElem?_eq_getElem hk;rcases k with _|k
 ·exact mZ rfl hx (h1 _ (List.getElem_mem hk))
 have hd:s[k]?=some s[k]:=List.getElem?_eq_getElem (by omega);rw[m9 hd hx (h1 _ (List.getElem_mem hk)),decide_eq_true_eq];exact AF (λx:aV=>x.id) h2 k _ _ hd hx
def bC:List bE->Int->ByteArray
 |[],_=>⟨#[]⟩
 |a::r,i=>if a.id=i then a.text else bC r i
def sX:aV:=⟨0,0,⟨#[]⟩,⟨#[]⟩⟩
def bQ:List aV->Int->aV
 |[],_=>sX
 |a::r,i=>if a.id=i then a else bQ r i
theorem iU {s:List bE} {i:Int} (h: ∀a∈s,a.id≠i):bC s i=⟨#[]⟩:=by
 induction s with
 |nil=>rfl
 |cons a r ih=>rw[bC,if_neg (h a (List.mem_cons_self)),ih (λx hx=>h x (List.mem_cons_of_mem _ hx))]
theorem tR {s:List aV} {i:Int} (h: ∀a∈s,a.id≠i):bQ s i=sX:=by
 induction s with
 |nil=>rfl
 |cons a r ih=>rw[bQ,if_neg (h a (List.mem_cons_self)),ih (λx hx=>h x (List.mem_cons_of_mem _ hx))]
theorem u9 {s:List aV} (hr:gV s) {a:aV} (h:a∈s):bQ s a.id=a:=by
 induction s with
 |nil=>cases h
 |cons b r ih=>
  rw[bQ];obtain ⟨hb,NB⟩:=List.pairwise_cons.1 hr;rcases List.mem_cons.1 h with rfl|h
  ·rw[if_pos rfl]
  rw[if_neg (by have:=hb a h;omega),ih NB h]
theorem rB (s:List aV) (i:Int):(bQ s i∈s/\(bQ s i).id=i)\/(bQ s i=sX/\ ∀a∈s,a.id≠i):=by
 induction s with
 |nil=>exact .inr ⟨rfl,λa ha=>by cases ha⟩
 |cons b r ih=>
  rw[bQ];by_cases h:b.id=i
  ·rw[if_pos h];exact .inl ⟨List.mem_cons_self,h⟩
  rw[if_neg h];rcases ih with ⟨h1,h2⟩|⟨h1,h2⟩
  ·exact .inl ⟨List.mem_cons_of_mem _ h1,h2⟩
  refine .inr ⟨h1,λa ha=>?_⟩;rcases List.mem_cons.1 ha with rfl|ha
  ·exact h
  exact h2 a ha
theorem tS (s:List bE) (i:Int):(∃a∈s,a.id=i/\bC s i=a.text)\/(bC s i=⟨#[]⟩/\ ∀a∈s,a.id≠i):=by
 induction s with
 |nil=>exact .inr ⟨rfl,λa ha=>by cases ha⟩
 |cons b r ih=>
  rw[bC];by_cases h:b.id=i
  ·rw[if_pos h];exact .inl ⟨b,List.mem_cons_self,h,rfl⟩
  rw[if_neg h];rcases ih with ⟨a,h1,h2,h3⟩|⟨h1,h2⟩
  ·exact .inl ⟨a,List.mem_cons_of_mem _ h1,h2,h3⟩
  refine .inr ⟨h1,λa ha=>?_⟩;rcases List.mem_cons.1 ha with rfl|ha
  ·exact h
  exact h2 a ha
theorem C3 {s:List bE} {i:Int} {k:Nat} {a:bE} (hk:s[k]?=some a) (hn:a.id≠i) (h:bC s i=bC (s.drop k) i):bC s i=bC (s.drop (k+1)) i:=by
 have aI:=(List.getElem?_eq_some_iff.1 hk).1
 have e:s.drop k=a::s.drop (k+1):=by
  rw[List.drop_eq_getElem_cons aI];rw[(List.getElem?_eq_some_iff.1 hk).2]
 rw[h,e,bC,if_neg hn]
theorem FE {s:List bE} {i:Int} {k:Nat} {a:bE} (hk:s[k]?=some a) (hn:a.id=i) (h:bC s i=bC (s.drop k) i):bC s i=a.text:=by
 have aI:=(List.getElem?_eq_some_iff.1 hk).1
 have e:s.drop k=a::s.drop (k+1):=by
  rw[List.drop_eq_getElem_cons aI];rw[(List.getElem?_eq_some_iff.1 hk).2]
 rw[h,e,bC,if_pos hn]
theorem FF {s:List bE} {i:Int} {k:Nat} (hk:s.length<=k) (h:bC s i=bC (s.drop k) i):bC s i=⟨#[]⟩:=by
 rw[h,List.drop_eq_nil_of_le hk];rfl
theorem AG {s:List aV} {i:Int} {k:Nat} {a:aV} (hk:s[k]?=some a) (hn:a.id≠i) (h:bQ s i=bQ (s.drop k) i):bQ s i=bQ (s.drop (k+1)) i:=by
 have aI:=(List.getElem?_eq_some_iff.1 hk).1
 have e:s.drop k=a::s.drop (k+1):=by
  rw[List.drop_eq_getElem_cons aI];rw[(List.getElem?_eq_some_iff.1 hk).2]
 rw[h,e,bQ,if_neg hn]
theorem C4 {s:List aV} {i:Int} {k:Nat} {a:aV} (hk:s[k]?=some a) (hn:a.id=i) (h:bQ s i=bQ (s.drop k) i):bQ s i=a:=by
 have aI:=(List.getElem?_eq_some_iff.1 hk).1
 have e:s.drop k=a::s.drop (k+1):=by
  rw[List.drop_eq_getElem_cons aI];rw[(List.getElem?_eq_some_iff.1 hk).2]
 rw[h,e,bQ,if_pos hn]
theorem C6 {s:List aV} {i:Int} {k:Nat} (hk:s.length<=k) (h:bQ s i=bQ (s.drop k) i):bQ s i=sX:=by
 rw[h,List.drop_eq_nil_of_le hk];rfl
def Wc (i:Int) (dA new:ByteArray):aV:=
 if dA.toList=new.toList then sX else if dA.toList=[]then ⟨1,i,dA,new⟩else if new.toList=[]then ⟨2,i,dA,new⟩else ⟨3,i,dA,new⟩
theorem jc {i:Int} {dA new:ByteArray} (h1:1<=i) (h2:i<=99) (ho:dA.toList=[]\/bP dA.toList=true) (hn:new.toList=[]\/bP new.toList=true):Wc i dA new=sX\/(dE (Wc i dA new)=true/\(Wc i dA new).id=i/\(Wc i dA new).kind≠0/\(Wc i dA new).dA=dA):=by
 unfold Wc;have hi:dO i 1 99=true:=ki h1 h2
 split
 ·exact .inl rfl
 rename_i gm
 right
 split
 ·rename_i h0;have N5:bP new.toList=true:=hn.resolve_left (λh=>gm (by rw[h0,h]));exact ⟨by simp[dE,hi,h0,N5],rfl,by simp,rfl⟩
 rename_i h0;have WE:=ho.resolve_left h0
 split
 ·rename_i h3;exact ⟨by simp[dE,hi,h3,WE],rfl,by simp,rfl⟩
 rename_i h3;have N5:=hn.resolve_left h3;exact ⟨by simp[dE,hi,WE,N5,gm],rfl,by simp,rfl⟩
theorem AH: ∀{s t:List bE},iL s->iL t->(∀a∈s,a.text≠⟨#[]⟩)->(∀a∈t,a.text≠⟨#[]⟩)->(∀i,bC s i=bC t i)->s=t
 |[],[],_,_,_,_,_=>rfl
 |[],b::t,_,ht,_,hb,h=>by
  have:=h b.id;rw[bC,bC,if_pos rfl]at this;exact absurd this.symm (hb b List.mem_cons_self)
 |a::s,[],_,_,ha,_,h=>by
  have:=h a.id;rw[bC,bC,if_pos rfl]at this;exact absurd this (ha a List.mem_cons_self)
 |a::s,b::t,hs,ht,ha,hb,h=>by
  obtain ⟨CB,wY⟩:=List.pairwise_cons.1 hs;obtain ⟨Wd,XQ⟩:=List.pairwise_cons.1 ht
  have hid:a.id=b.id:=by
   rcases Int.lt_trichotomy a.id b.id with aI|he|XR
   ·have e:=h a.id;rw[bC,if_pos rfl,bC,if_neg (by omega),iU (λx hx=>by have:=Wd x hx;omega)]at e;exact absurd e (ha a List.mem_cons_self)
   ·exact he
   have e:=h b.id;rw[bC,if_neg (by omega),iU (λx hx=>by have:=CB x hx;omega),bC,if_pos rfl]at e;exact absurd e.symm (hb b List.mem_cons_self)
  have We:a.text=b.text:=by
   have e:=h a.id;rw[bC,if_pos rfl,bC,if_pos hid.symm]at e;exact e
  have XS:a=b:=by
   obtain ⟨i,x⟩:=a;obtain ⟨j,y⟩:=b;simp only at hid We;rw[hid,We]
  rw[XS,AH wY XQ (λx hx=>ha x (List.mem_cons_of_mem _ hx)) (λx hx=>hb x (List.mem_cons_of_mem _ hx)) (λi=>by
   by_cases hi:i=a.id
   ·rw[iU (λx hx=>by have:=CB x hx;omega),iU (λx hx=>by have:=Wd x hx;omega)]
   have e:=h i;rw[bC,if_neg (by omega),bC,if_neg (by omega)]at e;exact e)]
theorem oO: ∀{A B:List bE} {a:bE},(∀c∈A,c.id<a.id)-> ∀q,bC (A++a::B) q=if q=a.id then a.text else bC (A++B) q
 |[],B,a,_,q=>by
  show bC (a::B) q=_
  rw[bC];by_cases h:a.id=q
  ·rw[if_pos h,if_pos h.symm]
  rw[if_neg h,if_neg (λe=>h e.symm)];rfl
 |x::A,B,a,hA,q=>by
  have hx:=hA x List.mem_cons_self;show bC (x::(A++a::B)) q=if q=a.id then a.text else bC (x::(A++B)) q
  rw[bC,bC,oO (λc hc=>hA c (List.mem_cons_of_mem _ hc)) q];by_cases h:x.id=q
  ·rw[if_pos h,if_pos h,if_neg (by omega)]
  rw[if_neg h,if_neg h]
theorem rC {A B:List bE} {a:bE} (h:iL (A++a::B)):(∀c∈A,c.id<a.id)/\(∀c∈B,a.id<c.id)/\iL (A++B):=by
 unfold iL at*;rw[List.pairwise_append,List.pairwise_cons]at h;refine ⟨λc hc=>h.2.2 c hc a List.mem_cons_self,h.2.1.1,?_⟩;rw[List.pairwise_append];exact ⟨h.1,h.2.1.2,λx hx y hy=>h.2.2 x hx y (List.mem_cons_of_mem _ hy)⟩
theorem AI {A B:List bE} {a:bE} (h:iL (A++B)) (hA: ∀c∈A,c.id<a.id) (hB: ∀c∈B,a.id<c.id):iL (A++a::B):=by
 unfold iL at*;rw[List.pairwise_append]at h⊢;rw[List.pairwise_cons];refine ⟨h.1,⟨hB,h.2.1⟩,λx hx y hy=>?_⟩;rcases List.mem_cons.1 hy with rfl|hy
 ·exact hA x hx
 exact h.2.2 x hx y hy
theorem FG {A B:List bE} {a:bE} (h:iL (A++a::B)) (q:Int):bC (A++B) q=if q=a.id then ⟨#[]⟩else bC (A++a::B) q:=by
 obtain ⟨hA,hB,_⟩:=rC h;by_cases e:q=a.id
 ·rw[if_pos e,iU];intro c hc;rcases List.mem_append.1 hc with hc|hc
  ·have:=hA c hc;omega
  have:=hB c hc;omega
 rw[if_neg e,oO hA q,if_neg e]
theorem AJ {A B:List bE} {a:bE} (x:ByteArray) (h:iL (A++a::B)) (q:Int):bC (A++⟨a.id,x⟩::B) q=if q=a.id then x else bC (A++a::B) q:=by
 obtain ⟨hA,hB,_⟩:=rC h;rw[oO (a:=⟨a.id,x⟩) hA q,oO hA q];by_cases e:q=a.id
 ·rw[if_pos e,if_pos e]
 rw[if_neg e,if_neg e,if_neg e]
theorem AK {A B:List bE} {a:bE} (x:ByteArray) (h:iL (A++a::B)):iL (A++⟨a.id,x⟩::B):=by
 obtain ⟨hA,hB,hr⟩:=rC h;exact AI (a:=⟨a.id,x⟩) hr hA hB
def target (S:List bE) (P:List aV) (i:Int):ByteArray:=if (bQ P i).kind=0 then bC S i else (bQ P i).new
def fits (S:List bE) (P:List aV):Bool:=P.all (λe=>bC S e.id==e.dA)
theorem rD {S:List bE} {P:List aV}:fits S P=true↔ ∀e∈P,bC S e.id=e.dA:=by
 unfold fits;rw[List.all_eq_true];constructor
 ·intro h e he;have:=h e he;rw[beq_toListBytes,beq_iff_eq]at this;rw[<-gO (bC S e.id),this,gO]
 intro h e he;rw[h e he,beq_toListBytes];simp
structure jD (S:List bE):Prop where
 lS:iL S
 all: ∀a∈S,jf a=true
theorem jD.of {S:List bE} (h:cd S=true):jD S:=⟨((lA S).1 h).2.1,((lA S).1 h).1⟩
theorem jD.ok {S:List bE} (h:jD S) (h8:S.length<=8):cd S=true:=(lA S).2 ⟨h.all,h.lS,h8⟩
theorem uH {t:ByteArray} (h:bP t.toList=true):t.toList≠[]:=by
 intro h0;rw[h0]at h;revert h;decide
theorem jD.text {S:List bE} (h:jD S) {a:bE} (ha:a∈S):a.text≠⟨#[]⟩:=by
 intro e;have:=(oN (h.all a ha)).2.2.1;rw[e]at this;exact uH this (by rw[ByteArray.toList_eq])
theorem jD.ext {S T:List bE} (hS:jD S) (hT:jD T) (h: ∀i,bC S i=bC T i):S=T:=
 AH hS.lS hT.lS (λ_ ha=>hS.text ha) (λ_ ha=>hT.text ha) h
structure cP (S:List bE) (P:List aV) (R:List bE):Prop where
 mC:jD R
 find: ∀i,bC R i=target S P i
theorem cP.Qt {S:List bE} {P:List aV} {R T:List bE} (h:cP S P R) (k:cP S P T):R=T:=
 h.mC.ext k.mC (λi=>(h.find i).trans (k.find i).symm)
theorem cP.nil {S:List bE} (h:jD S):cP S [] S:=⟨h,λ_=>rfl⟩
theorem vd: ∀{P Q:List aV} {i:Int},(∀a∈P,a.id≠i)->bQ (P++Q) i=bQ Q i
 |[],_,_,_=>rfl
 |a::P,Q,i,h=>by
  show bQ (a::(P++Q)) i=_
  rw[bQ,if_neg (h a List.mem_cons_self),vd (λx hx=>h x (List.mem_cons_of_mem _ hx))]
theorem tT: ∀{P Q:List aV} {i:Int},(∀a∈Q,a.id≠i)->bQ (P++Q) i=bQ P i
 |[],Q,i,h=>by
  show bQ Q i=sX
  exact tR h
 |a::P,Q,i,h=>by
  show bQ (a::(P++Q)) i=_
  rw[bQ,bQ,tT h]
theorem Le {e:aV} (h:dE e=true):e.kind≠0:=by
 obtain ⟨_,_,hk⟩:=gy h;omega
theorem oP {S:List bE} {P:List aV} {e:aV} (hP:gV (P++[e])) (he:dE e=true) (i:Int):target S (P++[e]) i=if i=e.id then e.new else target S P i:=by
 have gm: ∀a∈P,a.id≠e.id:=λa ha=>by
  unfold gV at hP;rw[List.pairwise_append]at hP;have:=hP.2.2 a ha e (by simp);omega
 by_cases h:i=e.id
 ·subst h;rw[if_pos rfl];unfold target;rw[vd gm,bQ,if_pos rfl,if_neg (Le he)]
 rw[if_neg h];unfold target;rw[tT (by simpa using λe'=>h e'.symm)]
theorem cP.drop {S A B:List bE} {P:List aV} {e:aV} {a:bE} (h:cP S P (A++a::B)) (hP:gV (P++[e])) (he:dE e=true) (hk:e.kind=2) (hi:a.id=e.id):cP S (P++[e]) (A++B) where
 mC:=⟨(rC h.mC.lS).2.2,λc hc=>h.mC.all c (by
  rcases List.mem_append.1 hc with hc|hc
  ·exact List.mem_append_left _ hc
  exact List.mem_append_right _ (List.mem_cons_of_mem _ hc))⟩
 find:=λi=>by
  have hn:e.new=⟨#[]⟩:=by
   obtain ⟨_,_,di⟩:=gy he;rcases di with ⟨k,_,_⟩|⟨_,_,hn⟩|⟨k,_,_⟩
   ·omega
   ·exact hn
   omega
  rw[FG h.mC.lS i,oP hP he i,h.find i,hn,hi]
theorem cP.turn {S A B:List bE} {P:List aV} {e:aV} {a:bE} (h:cP S P (A++a::B)) (hP:gV (P++[e])) (he:dE e=true) (hk:e.kind=3) (hi:a.id=e.id):cP S (P++[e]) (A++⟨a.id,e.new⟩::B) where
 mC:=⟨AK _ h.mC.lS,λc hc=>by
  rcases List.mem_append.1 hc with hc|hc
  ·exact h.mC.all c (List.mem_append_left _ hc)
  rcases List.mem_cons.1 hc with rfl|hc
  ·obtain ⟨h1,h2,di⟩:=gy he;rcases di with ⟨k,_,_⟩|⟨k,_,_⟩|⟨_,_,hn⟩
   ·omega
   ·omega
   unfold jf;rw[hn,ki (by show 1<=a.id;omega) (by show a.id<=99;omega)];rfl
  exact h.mC.all c (List.mem_append_right _ (List.mem_cons_of_mem _ hc))⟩
 find:=λi=>by rw[AJ _ h.mC.lS i,oP hP he i,h.find i,hi]
theorem cP.add {S A B:List bE} {P:List aV} {e:aV} (h:cP S P (A++B)) (hP:gV (P++[e])) (he:dE e=true) (hk:e.kind=1) (hA: ∀c∈A,c.id<e.id) (hB: ∀c∈B,e.id<c.id):cP S (P++[e]) (A++⟨e.id,e.new⟩::B) where
 mC:=⟨AI (a:=⟨e.id,e.new⟩) h.mC.lS hA hB,λc hc=>by
  rcases List.mem_append.1 hc with hc|hc
  ·exact h.mC.all c (List.mem_append_left _ hc)
  rcases List.mem_cons.1 hc with rfl|hc
  ·obtain ⟨h1,h2,di⟩:=gy he;rcases di with ⟨_,_,hn⟩|⟨k,_,_⟩|⟨k,_,_⟩
   ·unfold jf;rw[hn,ki h1 h2];rfl
   ·omega
   omega
  exact h.mC.all c (List.mem_append_right _ hc)⟩
 find:=λi=>by rw[oO (a:=⟨e.id,e.new⟩) hA i,oP hP he i,h.find i]
def ni (S:List bE) (P:List aV):List bE:=
 (List.range 99).filterMap (λj:Nat=>if (target S P ((j:Int)+1)).toList=[]then none else some ⟨(j:Int)+1,target S P ((j:Int)+1)⟩)
theorem ye {S:List bE} {P:List aV} (hS:jD S) (hP:bF P=true) (i:Int):(target S P i).toList=[]\/(bP (target S P i).toList=true/\1<=i/\i<=99):=by
 unfold target
 split
 ·rcases tS S i with ⟨a,ha,hi,h⟩|⟨h,_⟩
  ·obtain ⟨h1,h2,h3,_⟩:=oN (hS.all a ha);rw[h];exact .inr ⟨h3,by omega,by omega⟩
  rw[h];exact .inl (by rw[ByteArray.toList_eq])
 rename_i hk;rcases rB P i with ⟨hm,hi⟩|⟨h,_⟩
 ·obtain ⟨h1,h2,di⟩:=gy (((fO P).1 hP).1 _ hm);rcases di with ⟨_,_,hn⟩|⟨_,_,hn⟩|⟨_,_,hn⟩
  ·exact .inr ⟨hn,by omega,by omega⟩
  ·rw[hn];exact .inl (by rw[ByteArray.toList_eq])
  exact .inr ⟨hn,by omega,by omega⟩
 rw[h]at hk;exact absurd rfl hk
theorem C8 (f:Nat->ByteArray): ∀(n:Nat) (a:bE),a∈(List.range n).filterMap (λj=>if (f j).toList=[]then none else some (⟨(j:Int)+1,f j⟩:bE))-> ∃j,j<n/\a=⟨(j:Int)+1,f j⟩/\(f j).toList≠[]:=by
 intro n a h;obtain ⟨j,hj,h⟩:=List.mem_filterMap.1 h
 split at h
 ·cases h
 rename_i gm;injection h with h
 exact ⟨j,List.mem_range.1 hj,h.symm,gm⟩
theorem Lf (f:Nat->ByteArray) (n:Nat):iL ((List.range n).filterMap (λj=>if (f j).toList=[]then none else some (⟨(j:Int)+1,f j⟩:bE))):=by
 induction n with
 |zero=>exact List.Pairwise.nil
 |succ n ih=>
  unfold iL at*;rw[List.range_succ,List.filterMap_append,List.pairwise_append];refine ⟨ih,?_,λx hx y hy=>?_⟩
  ·rw[List.filterMap_cons,List.filterMap_nil]
   split<;>simp
  obtain ⟨j,hj,rfl,_⟩:=C8 f n x hx;obtain ⟨k,hk,h⟩:=List.mem_filterMap.1 hy;rw[List.mem_singleton]at hk;subst hk
  split at h
  ·cases h
  injection h with h
  rw[<-h];show (j:Int)+1<(k:Int)+1
  omega
theorem cP.ni {S:List bE} {P:List aV} (hS:jD S) (hP:bF P=true):cP S P (ni S P) where
 mC:=⟨Lf (λj:Nat=>target S P ((j:Int)+1)) 99,λa ha=>by
  obtain ⟨j,hj,rfl,gm⟩:=C8 (λj:Nat=>target S P ((j:Int)+1)) 99 a ha;rcases ye hS hP ((j:Int)+1)with h|⟨h1,h2,h3⟩
  ·exact absurd h gm
  unfold jf;rw[h1,ki h2 h3];rfl⟩
 find:=λi=>by
  have TG: ∀t:ByteArray,t.toList=[]->t=⟨#[]⟩:=λt h=>by rw[<-gO t,h]
  rcases tS (Go.Proofs.YtbcggaldkihcaaaGreatDoor.ni S P) i with ⟨a,ha,hi,h⟩|⟨h,rf⟩
  ·obtain ⟨j,hj,rfl,gm⟩:=C8 (λj:Nat=>target S P ((j:Int)+1)) 99 a ha;rw[h,<-hi]
  rw[h];rcases ye hS hP i with h0|⟨h1,h2,h3⟩
  ·exact (TG _ h0).symm
  exfalso
  refine rf ⟨i,target S P i⟩ (List.mem_filterMap.2 ⟨(i-1).toNat,List.mem_range.2 (by omega),?_⟩) rfl;have e:(((i-1).toNat:Nat):Int)+1=i:=by omega
  rw[e,if_neg (uH h1)]
def fT (S:List bE) (P:List aV):Option (List bE):=if fits S P=true/\(ni S P).length<=8 then some (ni S P)else none
theorem FH {S R:List bE} {P:List aV} (hS:jD S) (hP:bF P=true) (h:fT S P=some R):cd R=true/\cP S P R/\fits S P=true:=by
 unfold fT at h
 split at h
 ·rename_i hc;injection h with h
  subst h;exact ⟨(cP.ni hS hP).mC.ok hc.2,cP.ni hS hP,hc.1⟩
 cases h
theorem FI {S R:List bE} {P:List aV} (hS:jD S) (hP:bF P=true) (hf:fits S P=true) (hR:cP S P R):fT S P=if R.length<=8 then some R else none:=by
 have e:=(cP.ni hS hP).Qt hR;unfold fT;rw[e];by_cases h:R.length<=8
 ·rw[if_pos ⟨hf,h⟩,if_pos h]
 rw[if_neg (λk=>h k.2),if_neg h]
theorem yf {S:List bE} {P:List aV} (hf:fits S P=false):fT S P=none:=if_neg (λk=>by rw[hf]at k;cases k.1)
theorem oQ:(prog.info? 115).map (λi=>(i.zero,i.size,i.bytes))=some (some (.agg #[.int .i64 0,.string ⟨#[]⟩]),2,24):=by kernel_rfl
theorem eU {q:bE} {u:Value} (h:u∈ai q):u.oneCell'=true:=by
 unfold ai at h;rcases List.mem_cons.1 h with rfl|h
 ·rfl
 rcases List.mem_cons.1 h with rfl|h
 ·rfl
 cases h
def za (w:World) (B:Nat) (A:Option Addr) (n:Nat):Prop:=
 n<=maxLen/\(0<n-> ∃b off,A=some ⟨b,off,none⟩/\b<B/\ ∀i,i<n-> ∃x:Nat,x<=255/\w.cell? ⟨b,off+i,none⟩=some (.int .u8 x))
def Src (B:Nat) (w:World) (b:Nat) (k:Nat):Prop:=
 ∃(A:Option Addr) (n c p:Nat) (q:Int),w.heap[b]?=some (.cells #[.slice A n c,.int .i64 (p:Int),.int .u64 q] 79 (0,0))/\B<=b/\p<=k/\0<=q/\q<18446744073709551616/\za w B A n
def acC (B:Nat) (w:World) (b k:Nat) (e:Ending) (w':World):Prop:=
 ∃x:Nat,x<=255/\e= .returned (.int .i64 (x:Int))/\Src B w' b (k+1)/\iJ b w w'
theorem ab' {w w':World} {B:Nat} {A:Option Addr} {n:Nat} (h:za w B A n) (hb:Below B w w'):za w' B A n:=
 ⟨h.1,λhn=>by
  obtain ⟨b,off,rfl,aI,hc⟩:=h.2 hn
  exact ⟨b,off,rfl,aI,λi hi=>by
   obtain ⟨x,hx,Ih⟩:=hc i hi;exact ⟨x,hx,(hb.cell (p:=⟨b,off+i,none⟩) aI).trans Ih⟩⟩⟩
theorem adL {w:World} {b B k:Nat} {A:Option Addr} {n c p:Nat} (p':Nat) {pi q q':Int} (n1 n2:Nat) (SG:pi=(p':Int))
 (hb:w.heap[b]?=some (.cells #[.slice A n c,.int .i64 (p:Int),.int .u64 q] 79 (0,0))) (hB:B<=b) (hA:za w B A n) (hp:p'<=k) (hq:0<=q') (Im:q'<18446744073709551616):
 Src B ((((w.drewN n1).setCell ⟨b,1,none⟩ (.int .i64 pi)).setCell ⟨b,2,none⟩ (.int .u64 q')).drewN n2) b k/\iJ b w ((((w.drewN n1).setCell ⟨b,1,none⟩ (.int .i64 pi)).setCell ⟨b,2,none⟩ (.int .u64 q')).drewN n2):=by
 have aI:b<w.heap.size:=by
  rcases Nat.lt_or_ge b w.heap.size with h|h
  ·exact h
  rw[Array.getElem?_eq_none h]at hb;cases hb
 have ho:iJ b w ((((w.drewN n1).setCell ⟨b,1,none⟩ (.int .i64 pi)).setCell ⟨b,2,none⟩ (.int .u64 q')).drewN n2):=
  Jm (mX (mX (Jm (pI b w) n1) (.inl rfl) _) (.inl rfl) _) n2
 refine ⟨⟨A,n,c,p',q',?_,hB,hp,hq,Im,ab' hA (gx ho hB (by omega))⟩,ho⟩;show ((((w.drewN n1).setCell ⟨b,1,none⟩ (.int .i64 pi)).setCell ⟨b,2,none⟩ (.int .u64 q'))).heap[b]?=_
 simp[World.setCell,Array.getElem?_modify,hb,SG]
theorem q7 (x:Int):0<=IntKind.u64.wrap x/\IntKind.u64.wrap x<18446744073709551616:=by
 rw[IntKind.wrap_u64];omega
theorem acD (z:Int):IntKind.u64.wrap (IntKind.u64.wrap z)=IntKind.u64.wrap z:=by
 simp only[IntKind.wrap_u64];omega
theorem ael (z:Int) (hz:z=IntKind.u64.wrap z:=by first|rfl|exact (acD _).symm): ∃y:Nat,y<=255/\wrap64 (bits BinOp.and IntKind.u64 (z/1099511627776) 255)=(y:Int):=by
 have h:=q7 z;rw[<-hz]at h;have h2:(z/1099511627776).toNat&&&(255:Int).toNat<=255:=Nat.and_le_right;refine ⟨(z/1099511627776).toNat&&&(255:Int).toNat,h2,?_⟩;rw[u64_and _ _ (by omega) (by omega) (by omega) (by omega)];unfold wrap64;omega
theorem aeM (B b k p:Nat) (q:Int) (g off n c x:Nat) (w:World) (hb:w.heap[b]?=some (.cells #[.slice (some ⟨g,off,none⟩) n c,.int .i64 (p:Int),.int .u64 q] 79 (0,0)))
 (hB:B<=b) (XJ:p<=k) (hA:za w B (some ⟨g,off,none⟩) n)
 (hp:p<n) (hx:x<=255) (hc:w.cell? ⟨g,off+p,none⟩=some (.int .u8 (x:Int))):
 Calls prog 46 #[.pointer (some ⟨b,0,none⟩)] w (acC B w b k):=by
 have hn:=hA.1;unfold maxLen at hn;have c0:w.cell? ⟨b,0,none⟩=some (.slice (some ⟨g,off,none⟩) n c):=by simp[World.cell?,hb]
 have c1:w.cell? ⟨b,1,none⟩=some (.int .i64 (p:Int)):=by simp[World.cell?,hb]
 have c2:w.cell? ⟨b,2,none⟩=some (.int .u64 q):=by simp[World.cell?,hb]
 have f1:w.frozen? ⟨b,1,none⟩=false:=by simp[World.frozen?,hb]
 have f2:w.frozen? ⟨b,2,none⟩=false:=by simp[World.frozen?,hb]
 have hp0:(p:Int)<(n:Int):=by omega
 have hp1:(0:Int)<=(p:Int):=by omega
 have hp2:(p:Int)+1<=(n:Int):=by omega
 have Hb:=I hb;have HA:=I hA;clear hb hA;go_enter func46,ntmps46;go_wp2;go_quiet (fail);go_wp2;go_quiet (fail);go_wp2;go_quiet (fail);go_wp2;go_ret;exact ⟨x,hx,rfl,adL (p+1) _ _ (by omega) Hb.o hB HA.o (by omega) (q7 _).1 (q7 _).2⟩
theorem aem (B b k p:Nat) (q:Int) (A:Option Addr) (n c:Nat) (w:World) (hb:w.heap[b]?=some (.cells #[.slice A n c,.int .i64 (p:Int),.int .u64 q] 79 (0,0)))
 (hB:B<=b) (XJ:p<=k) (hk:k<=60000) (hA:za w B A n) (hp:n<=p):
 Calls prog 46 #[.pointer (some ⟨b,0,none⟩)] w (acC B w b k):=by
 have hn:=hA.1;unfold maxLen at hn;have c0:w.cell? ⟨b,0,none⟩=some (.slice A n c):=by simp[World.cell?,hb]
 have c1:w.cell? ⟨b,1,none⟩=some (.int .i64 (p:Int)):=by simp[World.cell?,hb]
 have c2:w.cell? ⟨b,2,none⟩=some (.int .u64 q):=by simp[World.cell?,hb]
 have f1:w.frozen? ⟨b,1,none⟩=false:=by simp[World.frozen?,hb]
 have f2:w.frozen? ⟨b,2,none⟩=false:=by simp[World.frozen?,hb]
 have hd:decide (p<n)=false:=by simp;omega
 have H1:ag (p<=60000/\n<=p/\p<=k):=⟨by omega,hp,XJ⟩
 have Hb:=I hb;have HA:=I hA;clear hb hA hp XJ hk;go_enter func46,ntmps46;go_wp2;go_quiet (fail);go_upto_region 4 with (fail)
 go_cut [3] (λs3 wx=> ∃x:Nat,x<=255/\s3= .int .i64 (x:Int)/\ ∃m,wx=(w.drewN m).setCell ⟨b,1,none⟩ (.int .i64 ((p:Int)+1)))
 case first=>
  have hp1:(0:Int)<=(p:Int):=by omega
  have hp2:(p:Int)<=60000:=by have:=H1.o;omega
  go_wp2_with (fail);go_meet;exact ⟨0,by omega,rfl,_,rfl⟩
 case rest=>
  obtain ⟨x,hx,rfl,m,rfl⟩:=hcut;clear hd;have hp1:(0:Int)<=(p:Int):=by omega
  have hp2:(p:Int)<=60000:=by have:=H1.o;omega
  have hd:decide ((p:Int)+1<=(n:Int))=false:=by have:=H1.o;simp;omega
  go_wp2;go_quiet (fail);go_wp2;go_ret;obtain ⟨y,hy,e⟩:=ael (IntKind.u64.wrap (IntKind.u64.wrap (IntKind.u64.wrap (q*6364136223846793005)+x)+1442695040888963407));exact ⟨y,hy,pJ e,adL (p+1) _ _ (by omega) Hb.o hB HA.o (by have:=H1.o;omega) (q7 _).1 (q7 _).2⟩
theorem acE (B b k:Nat) (w:World) (h:Src B w b k) (hk:k<=60000):
 Calls prog 46 #[.pointer (some ⟨b,0,none⟩)] w (acC B w b k):=by
 obtain ⟨A,n,c,p,q,hb,hB,hp,hq,Im,hA⟩:=h;rcases Nat.lt_or_ge p n with aI|eA
 ·obtain ⟨g,off,rfl,hg,hc⟩:=hA.2 (by omega);obtain ⟨x,hx,Ih⟩:=hc p aI;exact aeM B b k p q g off n c x w hb hB hp hA aI hx Ih
 exact aem B b k p q A n c w hb hB hp hk hA eA
theorem Src.more {B:Nat} {w:World} {b k k':Nat} (h:Src B w b k) (hk:k<=k'):Src B w b k':=by
 obtain ⟨A,n,c,p,q,h1,h2,h3,h4⟩:=h;exact ⟨A,n,c,p,q,h1,h2,by omega,h4⟩
def aen (B:Nat) (w:World) (b k:Nat) (n:Int) (e:Ending) (w':World):Prop:=
 ∃x:Int,0<=x/\(x=0\/x<n)/\e= .returned (.int .i64 x)/\Src B w' b (k+2)/\iJ b w w'
theorem adf (B b k:Nat) (n:Int) (w:World) (h:Src B w b k) (hk:k<=59000) (hn:n<=65536) (Hh: -65536<=n):
 Calls prog 17 #[.pointer (some ⟨b,0,none⟩),.int .i64 n] w (aen B w b k n):=by
 by_cases h1:n<=1
 ·go_enter func17,ntmps17;go_wp2;go_ret;exact ⟨0,by omega,.inl rfl,rfl,h.more (by omega),pI _ _⟩
 have h1:1<n:=by omega
 by_cases h2:n<=200
 ·have H:=I h;clear h;go_enter func17,ntmps17;go_wp2_with (fail);refine (acE B b k w H.o (by omega)).mono ?_;rintro e w1 ⟨x,hx,rfl,hs,ho⟩;have hH:=I hs;clear hs;go_wp2;go_ret;exact ⟨(x:Int)% n,Int.emod_nonneg _ (by omega),.inr (Int.emod_lt_of_pos _ (by omega)),rfl,hH.o.more (by omega),ho⟩
 have h2:200<n:=by omega
 have H:=I h;clear h;go_enter func17,ntmps17;go_wp2_with (fail);refine (acE B b k w H.o (by omega)).mono ?_;rintro e w1 ⟨x,hx,rfl,hs,ho⟩;have hH:=I hs;clear hs;go_wp2_with (fail);refine (acE B b (k+1) w1 hH.o (by omega)).mono ?_;rintro e w2 ⟨y,hy,rfl,wY,CD⟩;have Hs2:=I wY;clear wY;go_wp2;go_ret;exact ⟨((x:Int)*256+y)% n,Int.emod_nonneg _ (by omega),.inr (Int.emod_lt_of_pos _ (by omega)),rfl,Hs2.o.more (by omega),ll ho CD⟩
theorem tX (B b k:Nat) (n:Int) (w:World) (h:Src B w b k) (hk:k<=59000) (hn:n<=65536) (Hh:1<=n):
 Calls prog 17 #[.pointer (some ⟨b,0,none⟩),.int .i64 n] w λe w'=> ∃x:Nat,(x:Int)<n/\e= .returned (.int .i64 (x:Int))/\Src B w' b (k+2)/\iJ b w w':=
 (adf B b k n w h hk hn (by omega)).mono λe w' ⟨x,h0,hx,he,hs,ho⟩=>⟨x.toNat,by omega,by rw[he];exact pJ (by omega),hs,ho⟩
def aeN (B:Nat) (w:World) (b k:Nat) (e:Ending) (w':World):Prop:=
 ∃x:Bool,e= .returned (.bool x)/\Src B w' b (k+2)/\iJ b w w'
theorem jb (B b k:Nat) (n:Int) (w:World) (h:Src B w b k) (hk:k<=59000) (hn:n<=65536) (Hh: -65536<=n):
 Calls prog 38 #[.pointer (some ⟨b,0,none⟩),.int .i64 n] w (aeN B w b k):=by
 have H:=I h;clear h;go_enter func38,ntmps38;go_wp2_with (fail);refine (adf B b k n w H.o hk hn Hh).mono ?_;rintro e w1 ⟨x,hx,_,rfl,hs,ho⟩;have hH:=I hs;clear hs;go_wp2;go_ret;exact ⟨_,rfl,hH.o,ho⟩
def aeo (w:World) (e:Ending) (w':World):Prop:=
 e= .returned (.pointer (some ⟨w.heap.size,0,none⟩))/\Src w.heap.size w' w.heap.size 0/\Below w.heap.size w w'
theorem agz (A:Option Addr) (n c:Nat) (w:World) (h:za w w.heap.size A n):
 Calls prog 14 #[.slice A n c] w (aeo w):=by
 have H:=I h;clear h;go_enter func14,ntmps14;go_wp2;go_ret;have hb:=(Below.refl w.heap.size w).alloc (Nat.le_refl _) (.cells #[.slice A n c,.int .i64 0,.int .u64 0] 79);refine ⟨rfl,⟨A,n,c,0,0,?_,Nat.le_refl _,Nat.le_refl _,by omega,by omega,ab' H.o hb⟩,hb⟩;show (w.heap.push _)[w.heap.size]?=_
 simp
end Go.Proofs.YtbcggaldkihcaaaGreatDoor
