/- Decimal numerals: what is written is read back. No program here. -/
import Derived.Lib.ItoaLen
import Derived.Lib.ParseIntB
import Derived.Lib.IndexMore
import Derived.Lib.ItoaNum
import Derived.Lib.Replace
import Derived.Lib.CountLaws
import Derived.Lib.Join
import Derived.Test.YtbcggaldkihcaaaGreatDoorProg
import Derived.WalkKit
import Derived.WalkSpells
import Derived.WalkLawsBesides
import Derived.Deep.QuietTactic
import Derived.BigQuiet
import Derived.Lib.Hide
import Derived.Deep.DeepCutAuto
import Derived.Deep.RegionHeld3
import Derived.RegionCalls
import Derived.Test.YtbcggaldkihcaaaGreatDoorShelf
import Derived.Lib.AppendIntMem
import Derived.Lib.AtoiErrMem
set_option maxHeartbeats 4000000
set_option maxRecDepth 100000
namespace Go.Proofs.YtbcggaldkihcaaaGreatDoor
def ag (p:Prop):Prop:=p
theorem I {p:Prop} (h:p):ag p:=h
theorem ag.o {p:Prop} (h:ag p):p:=h
theorem aK:(∀{α:Type} (xs:List α) (i:Nat) (h:i<xs.toArray.size),xs.toArray[i]=xs[i]'(by simpa using h))/\(∀{α:Type} (x:α) (xs:List α) (h:0<(x::xs).length),(x::xs)[0]=x)/\(∀{α:Type} (x:α) (xs:List α) (i:Nat) (h:i+1<(x::xs).length),(x::xs)[i+1]=xs[i]'(Nat.lt_of_succ_lt_succ h)):=⟨λ_ _ _=>rfl,λ_ _ _=>rfl,λ_ _ _ _=>rfl⟩
theorem aM:(∀{α:Type} (xs:List α) (i:Nat) (a:α),xs.toArray.setIfInBounds i a=(xs.set i a).toArray)/\(∀{α:Type} (x a:α) (xs:List α),(x::xs).set 0 a=a::xs)/\(∀{α:Type} (x a:α) (xs:List α) (i:Nat),(x::xs).set (i+1) a=x::xs.set i a):=⟨λ_ _ _=>by simp,λ_ _ _=>rfl,λ_ _ _ _=>rfl⟩
open Tryz
open Go.Lib
def isDigit (c:UInt8):Prop:=48<=c.toNat/\c.toNat<=57
theorem Hv (d:Nat) (h:d<10):(UInt8.ofNat (48+d)).toNat=48+d:=by
 rw[UInt8.toNat_ofNat'];omega
theorem kn (u:Nat): ∀c∈decDigits u,isDigit c:=by
 induction u using Nat.strongRecOn with
 |_ u ih=>
  intro c hc;rw[decDigits]at hc
  split at hc
  ·rw[List.mem_singleton]at hc;subst hc;unfold isDigit;rw[Hv u (by omega)];omega
  rw[List.mem_append]at hc;rcases hc with hc|hc
  ·exact ih _ (by omega) c hc
  rw[List.mem_singleton]at hc;subst hc;unfold isDigit;rw[Hv (u% 10) (by omega)];omega
theorem Ht (u:Nat):decDigits u≠[]:=by
 rw[decDigits]
 split<;>simp
theorem acg (M:Nat): ∀(l r:List UInt8) (acc a:Nat),parseUintM M acc l= .ok a->parseUintM M acc (l++r)=parseUintM M a r
 |[],r,acc,a,h=>by
  simp only[parseUintM]at h;injection h with h
  subst h;rfl
 |c::l,r,acc,a,h=>by
  rw[List.cons_append];simp only[parseUintM]at h⊢;by_cases h1:48<=c.toNat/\c.toNat<=57
  ·rw[if_pos h1]at h⊢;by_cases h2:1844674407370955162<=acc
   ·rw[if_pos h2]at h;cases h
   rw[if_neg h2]at h⊢;by_cases h3:M<acc*10+(c.toNat-48)
   ·rw[if_pos h3]at h;cases h
   rw[if_neg h3]at h⊢;exact acg M l r _ a h
  rw[if_neg h1]at h;cases h
theorem ach (M:Nat) (hM:M<=18446744073709551615) (u:Nat) (hu:u<=M):parseUintM M 0 (decDigits u)= .ok u:=by
 induction u using Nat.strongRecOn with
 |_ u ih=>
  rw[decDigits]
  split
  ·rename_i h;unfold parseUintM;rw[Hv u h,if_pos (by omega),if_neg (by omega),if_neg (by omega)];simp[parseUintM]
  rename_i h;rw[acg M _ _ _ _ (ih (u/10) (by omega) (by omega))];unfold parseUintM;rw[Hv (u% 10) (by omega),if_pos (by omega),if_neg (by omega),if_neg (by omega)];simp only[parseUintM]
  congr 1
  omega
theorem acr (u:Nat): ∃c r,decDigits u=c::r/\isDigit c:=by
 cases h:decDigits u with
 |nil=>exact absurd h (Ht u)
 |cons c r=>exact ⟨c,r,rfl,kn u c (by rw[h];simp)⟩
theorem acy (n:Int) (h1: -9223372036854775808<=n) (h2:n<=9223372036854775807):parseIntB 64 (itoa n)= .ok n:=by
 unfold itoa
 split
 ·rename_i h;have hp:=ach 18446744073709551615 (by decide) n.natAbs (by omega)
  have hu:parseUintB 64 (decDigits n.natAbs)= .ok n.natAbs:=by
   unfold parseUintB;rw[if_neg (Ht _)];exact hp
  have e:(45:UInt8).toNat=45:=rfl;unfold parseIntB;simp only[e,or_true,if_true,hu];rw[if_neg (by simp),if_neg (by rintro ⟨_,h⟩;simp at h;omega)]
  congr 1
  omega
 rename_i h;obtain ⟨c,r,hd,hc⟩:=acr n.toNat;unfold isDigit at hc;have hp:=ach 18446744073709551615 (by decide) n.toNat (by omega);rw[hd]at hp⊢
 have hu:parseUintB 64 (c::r)= .ok n.toNat:=by
  unfold parseUintB;rw[if_neg (by simp)];exact hp
 have e1: ¬c.toNat=43:=by omega
 have e2: ¬c.toNat=45:=by omega
 unfold parseIntB;simp only[e1,e2,or_false,if_false];rw[hu];simp only[];rw[if_neg (by rintro ⟨_,h⟩;simp at h;omega),if_neg (by rintro ⟨h,_⟩;exact h)]
 congr 1
 omega
theorem ad9 {a b:Int} (h1: -9223372036854775808<=a) (h2:a<=9223372036854775807) (h3: -9223372036854775808<=b) (h4:b<=9223372036854775807) (h:itoa a=itoa b):a=b:=by
 have e:=acy a h1 h2;rw[h,acy b h3 h4]at e;injection e with e
 exact e.symm
theorem adu (n:Int): ∀c∈itoa n,isDigit c\/c=45:=by
 intro c hc;unfold itoa at hc
 split at hc
 ·simp at hc;rcases hc with rfl|hc
  ·exact .inr rfl
  exact .inl (kn _ c hc)
 exact .inl (kn _ c hc)
theorem ag1 (n:Int):itoa n≠[]:=by
 unfold itoa
 split
 ·simp
 exact Ht _
theorem index_one (l r:List UInt8) (c:UInt8) (h:c∉l):index (l++c::r) [c]=l.length:=by
 induction l with
 |nil=>simp[index]
 |cons b l ih=>
  have hb:b≠c:=λe=>h (by simp[e]);have hl:c∉l:=λe=>h (by simp[e]);rw[List.cons_append];unfold index;rw[ih hl]
  have hp:([c]:List UInt8).isPrefixOf (b::(l++c::r))=false:=by
   simp[List.isPrefixOf];exact λe=>hb e.symm
  rw[hp];have:((l.length:Int)== -1)=false:=by rw[beq_eq_false_iff_ne];omega
  simp[this]
theorem index_none (l:List UInt8) (c:UInt8) (h:c∉l):index l [c]= -1:=by
 induction l with
 |nil=>simp[index]
 |cons b l ih=>
  have hb:b≠c:=λe=>h (by simp[e]);have hl:c∉l:=λe=>h (by simp[e]);unfold index;rw[ih hl]
  have hp:([c]:List UInt8).isPrefixOf (b::l)=false:=by
   simp[List.isPrefixOf];exact λe=>hb e.symm
  rw[hp];simp
theorem afe (l r:List UInt8) (c:UInt8) (h:c∉l):cut (l++c::r) [c]=(l,r,true):=by
 unfold cut;rw[index_one l r c h,if_pos (by omega)];simp[List.drop_append]
theorem ad' (l:List UInt8) (c:UInt8) (h:c∉l):cut l [c]=(l,[],false):=by
 unfold cut;rw[index_none l c h,if_neg (by omega)]
theorem Ft (c:UInt8): ∀l:List UInt8,c∈l-> ∃a r,l=a++c::r/\c∉a
 |[],h=>by cases h
 |x::l,h=>by
  by_cases e:x=c
  ·exact ⟨[],l,by rw[e];rfl,by simp⟩
  obtain ⟨a,r,h1,h2⟩:=Ft c l (by rcases List.mem_cons.1 h with h|h;exact absurd h.symm e;exact h);exact ⟨x::a,r,by rw[h1];rfl,by rw[List.mem_cons];rintro (h|h);exact e h.symm;exact h2 h⟩
theorem acz (c d:UInt8) (l:List UInt8) (h:c∉l):l.map (λx=>if x=c then d else x)=l:=by
 conv=>rhs;rw[<-List.map_id l]
 apply List.map_congr_left;intro x hx;rw[if_neg (by rintro rfl;exact h hx)];rfl
theorem aci (c d:UInt8): ∀(n:Nat) (l:List UInt8),l.length<=n->replaceK [c] [d] (count l [c]) l=l.map (λx=>if x=c then d else x)
 |0,l,h=>by
  have:l=[]:=List.eq_nil_of_length_eq_zero (by omega);subst this;rw[count_miss (index_none [] c (by simp))];rfl
 |n+1,l,h=>by
  by_cases hc:c∈l
  ·obtain ⟨a,r,rfl,ha⟩:=Ft c l hc;have hi:=index_one a r c ha
   have aff:count (a++c::r) [c]=count r [c]+1:=by
    have:=count_hit (s:=a++c::r) (sub:=[c]) (i:=a.length) (by simp) hi;rw[this,Nat.add_comm]
    congr 2
    simp
   rw[aff,replaceK_hit _ _ _ _ _ hi];have hd:(a++c::r).drop (a.length+[c].length)=r:=by simp
   rw[hd,aci c d n r (by simp at h;omega),List.map_append,List.map_cons,if_pos rfl,acz c d a ha];simp
  rw[count_miss (index_none l c hc),acz c d l hc];rfl
theorem aea (c d:UInt8) (h:c≠d) (l:List UInt8):replaceAll l [c] [d]=l.map (λx=>if x=c then d else x):=by
 unfold replaceAll replace;have:([c]==[d])=false:=by simp[h]
 rw[this];have hn:replaceNum l [c] (-1)=count l [c]:=by unfold replaceNum;rw[if_pos (.inl (by omega))]
 rw[hn];exact aci c d l.length l (Nat.le_refl _)
def sK (c:UInt8) (l:List UInt8):List UInt8×List UInt8:=(l.takeWhile (·!=c),(l.dropWhile (·!=c)).drop 1)
theorem Fb {c:UInt8}: ∀{a:List UInt8},c∉a->a.takeWhile (·!=c)=a/\a.dropWhile (·!=c)=[]
 |[],_=>⟨rfl,rfl⟩
 |x::a,h=>by
  have hx:(x !=c)=true:=by simp;intro e;exact h (by simp[e])
  have ih:=Fb (c:=c) (a:=a) (λk=>h (List.mem_cons_of_mem _ k));rw[List.takeWhile_cons,List.dropWhile_cons,if_pos hx,if_pos hx,ih.1,ih.2];exact ⟨rfl,rfl⟩
theorem Jb {c:UInt8}: ∀{a:List UInt8} (r:List UInt8),c∉a->(a++c::r).takeWhile (·!=c)=a/\(a++c::r).dropWhile (·!=c)=c::r
 |[],r,_=>by simp
 |x::a,r,h=>by
  have hx:(x !=c)=true:=by simp;intro e;exact h (by simp[e])
  have ih:=Jb (c:=c) (a:=a) r (λk=>h (List.mem_cons_of_mem _ k));rw[List.cons_append,List.takeWhile_cons,List.dropWhile_cons,if_pos hx,if_pos hx,ih.1,ih.2];exact ⟨rfl,rfl⟩
theorem C0 {c:UInt8} {a:List UInt8} (r:List UInt8) (h:c∉a):sK c (a++c::r)=(a,r):=by
 unfold sK;rw[(Jb r h).1,(Jb r h).2];rfl
theorem adT {c:UInt8} {a:List UInt8} (h:c∉a):sK c a=(a,[]):=by
 unfold sK;rw[(Fb h).1,(Fb h).2];rfl
def sL (c:UInt8):List UInt8->List (List UInt8)
 |[]=>[[]]
 |x::l=>if x=c then []::sL c l else match sL c l with|s::r=>(x::s)::r|[]=>[[x]]
theorem adU (c:UInt8): ∀l:List UInt8,sL c l≠[]
 |[]=>by simp[sL]
 |x::l=>by
  unfold sL
  split
  ·simp
  split<;>simp
theorem r8 {c:UInt8}: ∀{a:List UInt8} (r:List UInt8),c∉a->sL c (a++c::r)=a::sL c r
 |[],r,_=>by simp[sL]
 |x::a,r,h=>by
  have hx:x≠c:=λe=>h (by simp[e]);rw[List.cons_append,sL,if_neg hx,r8 r (λk=>h (List.mem_cons_of_mem _ k))]
theorem p8 {c:UInt8}: ∀{a:List UInt8},c∉a->sL c a=[a]
 |[],_=>rfl
 |x::a,h=>by
  have hx:x≠c:=λe=>h (by simp[e]);rw[sL,if_neg hx,p8 (λk=>h (List.mem_cons_of_mem _ k))]
theorem Jc {α:Type} (c:UInt8) (f:α->List UInt8): ∀(xs:List α) (r:List UInt8),(∀x∈xs,c∉f x)->sL c (xs.flatMap (λx=>f x++[c])++r)=xs.map f++sL c r
 |[],r,_=>by simp
 |x::xs,r,h=>by
  rw[List.flatMap_cons,List.append_assoc,List.append_assoc,List.singleton_append,r8 _ (h x (by simp)),Jc c f xs r (λy hy=>h y (by simp[hy]))];simp
theorem ac9 {c:UInt8}: ∀(x:List UInt8) (xs:List (List UInt8)),(∀y∈x::xs,c∉y)->sL c (Lib.join (x::xs) [c])=x::xs
 |x,[],h=>by
  rw[Lib.join_cons];simp only[Lib.joinTail,List.map_nil,List.flatten_nil,List.append_nil];exact p8 (h x (by simp))
 |x,y::ys,h=>by
  have ih:=ac9 y ys (λz hz=>h z (by simp at hz⊢;exact .inr hz));rw[Lib.join_cons]at ih⊢;have e:Lib.joinTail [c] (y::ys)=c::(y++Lib.joinTail [c] ys):=by simp[Lib.joinTail]
  rw[e,r8 _ (h x (by simp)),ih]
open Go.RowKit
def iJ (b:Nat) (w w':World):Prop:=w.grownBy w' (some b)
theorem Jm {w w':World} {b:Nat} (h:iJ b w w') (n:Nat):iJ b w (w'.drewN n):=⟨h.os,h.tape,h.output,h.size,h.block⟩
theorem pI (b:Nat) (w:World):iJ b w w:=⟨rfl,rfl,rfl,Nat.le_refl _,λ_ _ _=>rfl⟩
theorem ll {a b c:World} {g:Nat} (h:iJ g a b) (k:iJ g b c):iJ g a c:=
 ⟨k.os.trans h.os,k.tape.trans h.tape,k.output.trans h.output,Nat.le_trans h.size k.size,λi hi hn=>(k.block i (Nat.lt_of_lt_of_le hi h.size) hn).trans (h.block i hi hn)⟩
theorem mX {a w:World} {g:Nat} (h:iJ g a w) {p:Addr} (hp:p.block=g\/a.heap.size<=p.block) (u:Value):iJ g a (w.setCell p u):=
 ⟨h.os,h.tape,h.output,by simpa [World.setCell]using h.size,λi hi gm=>(Below.heap_setCell w p u i (by
  rintro rfl;rcases hp with hp|hp
  ·exact gm (by rw[hp])
  omega)).trans (h.block i hi gm)⟩
theorem gx {a w:World} {g B:Nat} (h:iJ g a w) (hB:B<=g) (hs:B<=a.heap.size):Below B a w:=
 ⟨h.os,h.tape,h.output,h.size,λi hi=>h.block i (by omega) (λe=>by injection e;omega)⟩
theorem qy {b:Nat} {w w1:World} (h:iJ b w w1) (c o:Nat) (hc:c<w.heap.size) (gm:c≠b):w1.cell? ⟨c,o,none⟩=w.cell? ⟨c,o,none⟩/\w1.frozen? ⟨c,o,none⟩=w.frozen? ⟨c,o,none⟩:=by
 have e:w1.heap[c]?=w.heap[c]?:=h.block c hc (λe=>gm (by injection e));exact ⟨World.cell?_of_block e,World.frozen?_of_block e⟩
theorem pJ {a b:Int} (h:a=b):Ending.returned (.int .i64 a)= .returned (.int .i64 b):=by rw[h]
def TC (n:Int) (w:World) (e:Ending) (w':World):Prop:=e= .returned (.int .i64 n)/\w=w'
theorem below_drewN {B:Nat} {a w:World} (h:Below B a w) (n:Nat):Below B a (w.drewN n):=⟨h.os,h.tape,h.output,h.size,h.block⟩
def f' (v:Value) (w:World) (e:Ending) (w':World):Prop:=e= .returned v/\ ∃k,w'=w.drewN k
def bT (v:Value) (w:World) (e:Ending) (w':World):Prop:=e= .returned v/\Below w.heap.size w w'
structure ar (W:World) where
 val:World
 ok:Below W.heap.size W val
instance TD (W:World):Nonempty (ar W):=⟨⟨W,Below.refl _ _⟩⟩
theorem ar.cell {W:World} (x:ar W) {b o:Nat} {v:Value} (h:W.cell? ⟨b,o,none⟩=some v):x.val.cell? ⟨b,o,none⟩=some v:=by
 have hb:b<W.heap.size:=World.block_lt_of_cell? W ⟨b,o,none⟩ h;exact (x.ok.cell (p:=⟨b,o,none⟩) hb).trans h
theorem ar.frozen {W:World} (x:ar W) {b o:Nat} (hb:b<W.heap.size):x.val.frozen? ⟨b,o,none⟩=W.frozen? ⟨b,o,none⟩:=x.ok.frozen (p:=⟨b,o,none⟩) hb
theorem bj {P:Program} {id:Nat} {Q:Exit->Act->World->Prop} {a:Act} {W:World} {l:List Oper} (hm:P.follows .mixedOrders=true) (hB:Region.lexB .any l.toArray=true)
 (h:wpQuiet P l.toArray (λw'=> ∃x:ar W,w'=x.val) (λa'=> ∀w',(∃x:ar W,w'=x.val)->Q .normal a' w') l a):(Code.region id l.toArray true).wp P Q a W:=
 wp_region_quiet (C:=λw'=> ∃x:ar W,w'=x.val) hm hB ⟨⟨W.drew,(Below.refl _ _).drew⟩,rfl⟩ (by simpa using h)
theorem aq {P:Program} {f:FuncId} {args:Array Value} {W:World} {x:ar W} {v:Value} (h:Calls P f args x.val (bT v x.val)):
 Calls P f args x.val λe Nn=>e= .returned v/\ ∃y:ar W,Nn=y.val:=
 h.mono λ_ Nn ⟨he,hb⟩=>⟨he,⟨Nn,x.ok.trans (hb.mono x.ok.size)⟩,rfl⟩
theorem az {P:Program} {f:FuncId} {args:Array Value} {W:World} {x:ar W} {v:Value} (h:Calls P f args x.val (f' v x.val)):
 Calls P f args x.val λe Nn=>e= .returned v/\ ∃y:ar W,Nn=y.val:=
 h.mono λ_ Nn ⟨he,k,hk⟩=>⟨he,⟨Nn,by rw[hk];exact below_drewN x.ok k⟩,rfl⟩
def dO (n a b:Int):Bool:=decide (a<=n)&&decide (n<=b)
theorem ki {n a b:Int} (h1:a<=n) (h2:n<=b):dO n a b=true:=by unfold dO;simp[h1,h2]
theorem sM {n a b:Int} (h:n<a\/b<n):dO n a b=false:=by
 unfold dO;rcases h with h|h
 ·have: ¬a<=n:=by omega
  simp[this]
 have: ¬n<=b:=by omega
 simp[this]
theorem dS {n a b:Int}:dO n a b=true↔a<=n/\n<=b:=by unfold dO;simp
theorem K6 (n a b:Int) (w:World) (h1:a<=n) (h2:n<=b):
 Calls prog 70 #[.int .i64 n,.int .i64 a,.int .i64 b] w (f' (.bool true) w):=by
 go_enter func70,ntmps70;go_wp2;go_ret;exact ⟨rfl,0,rfl⟩
theorem Np (n a b:Int) (w:World) (h:n<a\/b<n):
 Calls prog 70 #[.int .i64 n,.int .i64 a,.int .i64 b] w (f' (.bool false) w):=by
 by_cases h1:a<=n
 ·have h2:decide (n<=b)=false:=by simp;omega
  clear h;go_enter func70,ntmps70;go_wp2;go_ret;exact ⟨rfl,0,rfl⟩
 have h2:n<a:=by omega
 clear h;go_enter func70,ntmps70;go_wp2;go_ret;exact ⟨rfl,0,rfl⟩
theorem rl (n a b:Int) (w:World):
 Calls prog 70 #[.int .i64 n,.int .i64 a,.int .i64 b] w (f' (.bool (dO n a b)) w):=by
 by_cases h:a<=n/\n<=b
 ·rw[ki h.1 h.2];exact K6 n a b w h.1 h.2
 have h':n<a\/b<n:=by omega
 rw[sM h'];exact Np n a b w h'
theorem jz (n a b:Int) (w:World) (h1:a<=n) (h2:n<=b):
 Calls prog 54 #[.int .i64 n,.int .i64 a,.int .i64 b] w (f' (.bool true) w):=by
 go_enter func54,ntmps54;go_wp2;go_ret;exact ⟨rfl,0,rfl⟩
theorem Hw (n a b:Int) (w:World) (h:n<a\/b<n):
 Calls prog 54 #[.int .i64 n,.int .i64 a,.int .i64 b] w (f' (.bool false) w):=by
 by_cases h1:a<=n
 ·have h2:decide (n<=b)=false:=by simp;omega
  clear h;go_enter func54,ntmps54;go_wp2;go_ret;exact ⟨rfl,0,rfl⟩
 have h2:n<a:=by omega
 clear h;go_enter func54,ntmps54;go_wp2;go_ret;exact ⟨rfl,0,rfl⟩
theorem lZ (n a b:Int) (w:World):
 Calls prog 54 #[.int .i64 n,.int .i64 a,.int .i64 b] w (f' (.bool (dO n a b)) w):=by
 by_cases h:a<=n/\n<=b
 ·rw[ki h.1 h.2];exact jz n a b w h.1 h.2
 have h':n<a\/b<n:=by omega
 rw[sM h'];exact Hw n a b w h'
def cz {α:Type} (R:World->Nat->List Value->α->Prop) (size:Nat) (w:World) (B:Nat) (v:Value) (xs:List α):Prop:=
 ∃(A:Option Addr) (c:Nat),v= .slice A xs.length c/\xs.length<=c/\c<=maxLen/\
  (0<xs.length-> ∃b off,A=some ⟨b,off,none⟩/\b<B/\
   ∀(k:Nat) (x:α),xs[k]?=some x-> ∃us,us.length=size/\R w B us x/\ ∀(j:Nat) (u:Value),us[j]?=some u->w.cell? ⟨b,off+k*size+j,none⟩=some u)
def Pl {α:Type} (f:α->List Value):World->Nat->List Value->α->Prop:=λ_ _ us x=>us=f x
def Hx {α:Type} (R:World->Nat->List Value->α->Prop):Prop:= ∀(w w':World) (B B':Nat) us x,R w B us x->Below B w w'->B<=B'->R w' B' us x
theorem Pl.stays {α:Type} (f:α->List Value):Hx (Pl f):=λ_ _ _ _ _ _ h _ _=>h
theorem cz.on {α:Type} {R:World->Nat->List Value->α->Prop} {size:Nat} {w w':World} {B B':Nat} {v:Value} {xs:List α} (h:cz R size w B v xs) (hR:Hx R) (hb:Below B w w') (hB:B<=B'):cz R size w' B' v xs:=by
 obtain ⟨A,c,rfl,h1,h2,h3⟩:=h;refine ⟨A,c,rfl,h1,h2,λh0=>?_⟩;obtain ⟨b,off,rfl,aI,hk⟩:=h3 h0;refine ⟨b,off,rfl,by omega,λk x hx=>?_⟩;obtain ⟨us,hl,hr,hc⟩:=hk k x hx;exact ⟨us,hl,hR _ _ _ _ _ _ hr hb hB,λj u hu=>(hb.cell (p:=⟨b,off+k*size+j,none⟩) aI).trans (hc j u hu)⟩
theorem cz.nil {α:Type} (R:World->Nat->List Value->α->Prop) (size:Nat) (w:World) (B:Nat) (A:Option Addr) (c:Nat) (hc:c<=maxLen):cz R size w B (.slice A 0 c) ([]:List α):=
 ⟨A,c,rfl,Nat.zero_le _,hc,λh=>absurd h (Nat.lt_irrefl 0)⟩
theorem l5 {α β:Type} (f:α->List β) {size:Nat} (hf: ∀x,(f x).length=size): ∀(xs:List α) (k:Nat) (x:α) (j:Nat) (u:β),xs[k]?=some x->(f x)[j]?=some u->j<size->(xs.flatMap f)[k*size+j]?=some u
 |[],k,x,j,u,hx,_,_=>by simp at hx
 |y::ys,0,x,j,u,hx,hu,hj=>by
  simp only[List.getElem?_cons_zero,Option.some.injEq]at hx;subst hx;rw[List.flatMap_cons,List.getElem?_append_left (by rw[hf];omega)];simpa using hu
 |y::ys,k+1,x,j,u,hx,hu,hj=>by
  rw[List.flatMap_cons,List.getElem?_append_right (by rw[hf,Nat.succ_mul];omega),hf,show (k+1)*size+j-size=k*size+j by rw[Nat.succ_mul];omega];exact l5 f hf ys k x j u (by simpa using hx) hu hj
theorem cz.bI {α:Type} (f:α->List Value) {size:Nat} {w:World} {base:Nat} {e:TypeId} {v:Value} {xs:List α} (hf: ∀x,(f x).length=size) (h:w.ownsRow base e size v xs.length (xs.flatMap f)):cz (Pl f) size w w.heap.size v xs:=by
 obtain ⟨hl,h|⟨g,cap,kT,rfl,hg,hh,h1,h2,h3,h4⟩⟩:=h
 ·obtain ⟨rfl,h0⟩:=h;have:xs=[]:=List.eq_nil_of_length_eq_zero h0;subst this;exact cz.nil _ _ _ _ _ _ (Nat.zero_le _)
 refine ⟨_,cap,rfl,h1,h2,λh0=>⟨g,0,rfl,?_,λk x hx=>⟨f x,hf x,rfl,λj u hu=>?_⟩⟩⟩
 ·rcases Nat.lt_or_ge g w.heap.size with aI|eA
  ·exact aI
  rw[Array.getElem?_eq_none eA]at hh;cases hh
 have hk:k<xs.length:=(List.getElem?_eq_some_iff.1 hx).1;have hj:j<size:=by rw[<-hf x];exact (List.getElem?_eq_some_iff.1 hu).1
 have Hy:=l5 f hf xs k x j u hx hu hj
 have aI:k*size+j<xs.length*size:=by
  have:(k+1)*size<=xs.length*size:=Nat.mul_le_mul_right _ hk;rw[Nat.succ_mul]at this;omega
 have Nq:kT[k*size+j]?=some u:=by
  rw[<-Array.getElem?_toList,<-Hy,<-h4,List.getElem?_take,if_pos aI]
 show w.cell? ⟨g,0+k*size+j,none⟩=some u
 rw[Nat.zero_add];simp[World.cell?,hh,Nq]
def cE (n:Nat) (f:Nat->Bool):Bool:=(List.range n).all f
theorem cR (n:Nat) (f:Nat->Bool):cE (n+1) f=(cE n f&&f n):=by
 unfold cE;rw[List.range_succ,List.all_append];simp
theorem eo {n:Nat} {f:Nat->Bool}:cE n f=true↔ ∀k,k<n->f k=true:=by
 unfold cE;simp
theorem fN {n k:Nat} {f:Nat->Bool} (hk:k<n) (h:f k=false):cE n f=false:=by
 rw[Bool.eq_false_iff];intro e;rw[eo]at e;rw[e k hk]at h;cases h
structure aV where
 kind:Int
 id:Int
 dA:ByteArray
 new:ByteArray
def ah (e:aV):List Value:=[.int .i64 e.kind,.int .i64 e.id,.string e.dA,.string e.new]
def Hz (e:aV):Value:= .agg #[.int .i64 e.kind,.int .i64 e.id,.string e.dA,.string e.new]
structure dr where
 kind:Int
 member:Int
 af:List Int
 al:ByteArray
 bO:Int
 patch:List aV
 start:Int
 aB:Int
 aj:Int
def fJ (c:Nat):Bool:=(decide (97<=c)&&decide (c<=122))||(decide (48<=c)&&decide (c<=57))||decide (c=32)
def dv (l:List UInt8) (k:Nat):Nat:=(l.getD k 0).toNat
def bP (l:List UInt8):Bool:=
 cE l.length (λk=>fJ (dv l k))&&decide (1<=l.length)&&decide (l.length<=24)&&decide (dv l 0≠32)&&decide (dv l (l.length-1)≠32)
def dU (l:List UInt8):Bool:=
 cE l.length (λk=>decide (97<=dv l k)&&decide (dv l k<=122))&&decide (1<=l.length)&&decide (l.length<=10)
def dE (e:aV):Bool:=
 dO e.id 1 99&&((decide (e.kind=1)&&decide (e.dA.toList=[])&&bP e.new.toList)||(decide (e.kind=2)&&bP e.dA.toList&&decide (e.new.toList=[]))||
  (decide (e.kind=3)&&bP e.dA.toList&&bP e.new.toList&&!(e.dA.toList==e.new.toList)))
def Fj (p:List aV) (k:Nat):Int:=((p[k]?).map (·.id)).getD 0
def bF (p:List aV):Bool:=
 cE p.length (λk=>((p[k]?).map dE).getD true&&(decide (k=0)||decide (Fj p (k-1)<Fj p k)))&&decide (p.length<=16)
def HU (e:aV):List UInt8:=
 if e.kind=1 then 43::(itoa e.id++32::(e.new.toList++[10]))else if e.kind=2 then 45::(itoa e.id++32::(e.dA.toList++[10]))else 126::(itoa e.id++32::(e.dA.toList++124::(e.new.toList++[10])))
def sN (p:List aV):List UInt8:=p.flatMap HU
def cF (l:List Int) (member n:Int):Bool:=
 cE l.length (λk=>dO (l.getD k 0) 0 (n-1)&&decide (l.getD k 0≠member)&&!((l.take k).contains (l.getD k 0)))&&decide (l.length<=4)
def iP (p:List aV) (aj start aB:Int):Bool:=
 !p.isEmpty&&bF p&&dO aj 1 999&&decide (aj<=start)&&decide (start<aB)&&decide (aB<=1000)
def cA (d:dr):Bool:=
 let plain:=d.patch.isEmpty&&decide (d.start=0)&&decide (d.aB=0)&&decide (d.aj=0)
 (decide (d.kind=1)&&dO d.member 0 11&&cF d.af d.member 12&&decide (d.al.toList=[])&&decide (d.bO=0)&&plain)||
 (decide (d.kind=2)&&dO d.member 0 11&&dU d.al.toList&&dO d.bO 0 3&&d.af.isEmpty&&plain)||
 (decide (d.kind=3)&&dO d.member 0 11&&dU d.al.toList&&iP d.patch d.aj d.start d.aB&&d.af.isEmpty&&decide (d.bO=0))||
 (decide (d.kind=4)&&decide (d.member=0)&&d.af.isEmpty&&decide (d.al.toList=[])&&decide (d.bO=0)&&plain)
theorem iZ (s:ByteArray) (k:Nat) (h:k<s.size):dv s.data.toList k=s[k].toNat:=by
 unfold dv;rw[List.getD_eq_getElem?_getD,List.getElem?_eq_getElem (by simpa using h)];rfl
theorem iQ (c:Nat):fJ c=true↔(97<=c/\c<=122)\/(48<=c/\c<=57)\/c=32:=by
 unfold fJ;simp[or_assoc]
theorem io {c:Nat} (h: ¬((97<=c/\c<=122)\/(48<=c/\c<=57)\/c=32)):fJ c=false:=by
 rw[Bool.eq_false_iff];exact λe=>h ((iQ c).1 e)
theorem jY (l:List UInt8) (k:Nat) (hk:k<l.length) (h:fJ (dv l k)=false):bP l=false:=by
 unfold bP;rw[fN hk h];rfl
theorem fM (s:ByteArray) (w:World) (hs:s.size<=maxLen):
 Calls prog 104 #[.string s] w (f' (.bool (bP s.toList)) w):=by
 rw[ByteArray.toList_eq];unfold maxLen at hs;go_enter func104,ntmps104;go_wp2;go_loop [3,6] (λ_ i=> ∃k:Nat,k<=s.size/\i= .int .i64 (k:Int)/\cE k (λj=>fJ (dv s.data.toList j))=true) (λ_ i=>s.size-(RowKit.intOf i).toNat);case atStart=>exact ⟨0,Nat.zero_le _,rfl,rfl⟩
 case round=>
  obtain ⟨k,hk,rfl,dn⟩:=hrel;have HA:=I dn;clear dn;by_cases aI:k<s.size
  ·have hc:=iZ s k aI;have HS:=cR k (λj=>fJ (dv s.data.toList j));rw[HA.o,Bool.true_and,hc]at HS;have HS:=I HS;have HC:=I hc;clear hc;have hh:(97<=s[k].toNat/\s[k].toNat<=122)\/(122<s[k].toNat)\/(48<=s[k].toNat/\s[k].toNat<=57)\/(57<s[k].toNat/\s[k].toNat<97)\/s[k].toNat=32\/(s[k].toNat<48/\s[k].toNat≠32):=by omega
   rcases hh with hh|hh|hh|hh|hh|hh
   ·have a1: ¬(s[k].toNat:Int)<97:=by omega
    have a2:decide ((122:Int)<(s[k].toNat:Int))=false:=by simp;omega
    have kj:fJ s[k].toNat=true:=(iQ _).2 (by omega);have sO:=I kj;clear kj hh;go_wp2;go_round;case rel=>exact ⟨k+1,by omega,by go_num,HS.o.trans sO.o⟩
    case measure=>simp[RowKit.intOf];omega
   ·have a1: ¬(s[k].toNat:Int)<97:=by omega
    have a2:(122:Int)<(s[k].toNat:Int):=by omega
    have a3: ¬(s[k].toNat:Int)<48:=by omega
    have a4:(57:Int)<(s[k].toNat:Int):=by omega
    have a5:((s[k].toNat:Int) !=32)=true:=by rw[bne_iff_ne];omega
    have a6:((s[k].toNat:Int)==32)=false:=by rw[beq_eq_false_iff_ne];omega
    have kj:fJ s[k].toNat=false:=io (by omega);have sO:=I kj;clear kj hh;go_wp2;go_ret;exact ⟨by rw[jY s.data.toList k (by simpa using aI) (by rw[HC.o];exact sO.o)];rfl,0,rfl⟩
   ·have a1:(s[k].toNat:Int)<97:=by omega
    have a3: ¬(s[k].toNat:Int)<48:=by omega
    have a4:decide ((57:Int)<(s[k].toNat:Int))=false:=by simp;omega
    have kj:fJ s[k].toNat=true:=(iQ _).2 (by omega);have sO:=I kj;clear kj hh;go_wp2;go_round;case rel=>exact ⟨k+1,by omega,by go_num,HS.o.trans sO.o⟩
    case measure=>simp[RowKit.intOf];omega
   ·have a1:(s[k].toNat:Int)<97:=by omega
    have a3: ¬(s[k].toNat:Int)<48:=by omega
    have a4:(57:Int)<(s[k].toNat:Int):=by omega
    have a5:((s[k].toNat:Int) !=32)=true:=by rw[bne_iff_ne];omega
    have a6:((s[k].toNat:Int)==32)=false:=by rw[beq_eq_false_iff_ne];omega
    have kj:fJ s[k].toNat=false:=io (by omega);have sO:=I kj;clear kj hh;go_wp2;go_ret;exact ⟨by rw[jY s.data.toList k (by simpa using aI) (by rw[HC.o];exact sO.o)];rfl,0,rfl⟩
   ·have a1:(s[k].toNat:Int)<97:=by omega
    have a3:(s[k].toNat:Int)<48:=by omega
    have a5:((s[k].toNat:Int) !=32)=false:=by simp;omega
    have a6:((s[k].toNat:Int)==32)=true:=by simp;omega
    have kj:fJ s[k].toNat=true:=(iQ _).2 (by omega);have sO:=I kj;clear kj hh;go_wp2;go_round;case rel=>exact ⟨k+1,by omega,by go_num,HS.o.trans sO.o⟩
    case measure=>simp[RowKit.intOf];omega
   have a1:(s[k].toNat:Int)<97:=by omega
   have a3:(s[k].toNat:Int)<48:=by omega
   have a5:((s[k].toNat:Int) !=32)=true:=by rw[bne_iff_ne];omega
   have a6:((s[k].toNat:Int)==32)=false:=by rw[beq_eq_false_iff_ne];omega
   have kj:fJ s[k].toNat=false:=io (by omega);have sO:=I kj;clear kj hh;go_wp2;go_ret;exact ⟨by rw[jY s.data.toList k (by simpa using aI) (by rw[HC.o];exact sO.o)];rfl,0,rfl⟩
  have di:k=s.size:=by omega
  have Ar:bP s.data.toList=(decide (1<=s.size)&&decide (s.size<=24)&&decide (dv s.data.toList 0≠32)&&decide (dv s.data.toList (s.size-1)≠32)):=by
   unfold bP;have e:s.data.toList.length=s.size:=by simp
   rw[e];have h:=HA.o;rw[di]at h;rw[h,Bool.true_and]
  have HD:=I Ar;clear Ar;have qc:decide ((k:Int)<(s.size:Int))=false:=by simp;omega
  by_cases h1:1<=s.size
  ·by_cases h2:s.size<=24
   ·have J:=iZ s 0 (by omega);have bU:=iZ s (s.size-1) (by omega);have B0:=I J;have B1:=I bU;have e1:(1:Int)<=(s.size:Int):=by omega
    have e2:decide ((s.size:Int)<=24)=true:=by simp;omega
    clear J bU di qc;have eA: ¬(k:Int)<(s.size:Int):=by omega
    by_cases h3:s[0].toNat=32
    ·have e3:((s[0].toNat:Int) !=32)=false:=by simp;omega
     go_wp2;go_ret;exact ⟨by rw[HD.o,B0.o];simp[h3],0,rfl⟩
    have e3:((s[0].toNat:Int) !=32)=true:=by simp;omega
    by_cases h4:s[s.size-1].toNat=32
    ·have e4:((s[s.size-1].toNat:Int) !=32)=false:=by simp;omega
     go_wp2;go_ret;exact ⟨by rw[HD.o,B1.o];simp[h4],0,rfl⟩
    have e4:((s[s.size-1].toNat:Int) !=32)=true:=by simp;omega
    go_wp2;go_ret;exact ⟨by rw[HD.o,B0.o,B1.o];simp[h1,h2,h3,h4],0,rfl⟩
   have e1:(1:Int)<=(s.size:Int):=by omega
   have e2:decide ((s.size:Int)<=24)=false:=by simp;omega
   have eA: ¬(k:Int)<(s.size:Int):=by omega
   clear di qc;have H2:=I h2;clear h2;go_wp2;go_ret;exact ⟨by rw[HD.o];simp[H2.o],0,rfl⟩
  have e1:decide ((1:Int)<=(s.size:Int))=false:=by simp;omega
  have eA: ¬(k:Int)<(s.size:Int):=by omega
  have H1:=I h1;clear di qc h1;go_wp2;go_ret;exact ⟨by rw[HD.o];simp[H1.o],0,rfl⟩
theorem CN {e:aV} (h:dO e.id 1 99=true) (hk:e.kind=1):dE e=(decide (e.dA.toList=[])&&bP e.new.toList):=by
 unfold dE;rw[h];simp[hk]
theorem Au {e:aV} (h:dO e.id 1 99=true) (hk:e.kind=2):dE e=(bP e.dA.toList&&decide (e.new.toList=[])):=by
 unfold dE;rw[h];simp[hk]
theorem xr {e:aV} (h:dO e.id 1 99=true) (hk:e.kind=3):dE e=(bP e.dA.toList&&bP e.new.toList&&!(e.dA.toList==e.new.toList)):=by
 unfold dE;rw[h];simp[hk]
theorem yW {e:aV} (h1:e.kind≠1) (h2:e.kind≠2) (h3:e.kind≠3):dE e=false:=by
 unfold dE;simp[h1,h2,h3]
theorem Fk {e:aV} (h:dO e.id 1 99=false):dE e=false:=by
 unfold dE;rw[h];rfl
def mY (e:aV):Prop:=e.dA.size<=maxLen/\e.new.size<=maxLen
theorem Fl (e:aV) (w:World) (hs:mY e):
 Calls prog 80 #[Hz e] w (bT (.bool (dE e)) w):=by
 obtain ⟨kind,id,dA,new⟩:=e;obtain ⟨CB,wY⟩:=hs;have CB:dA.size<=maxLen:=CB;have wY:new.size<=maxLen:=wY;have tN:=I CB;have Nr:=I wY;clear CB wY;show Calls prog 80 #[.agg #[.int .i64 kind,.int .i64 id,.string dA,.string new]] w _
 have xu: ∀k,Below w.heap.size w ((w.alloc (.cells #[.int .i64 kind,.int .i64 id,.string dA,.string new] 93)).drewN k):=λk=>below_drewN ((Below.refl _ _).alloc (Nat.le_refl _) _) k;by_cases hid:1<=id/\id<=99
 ·have iq:dO id 1 99=true:=ki hid.1 hid.2;have HI:=I iq;have bU:=hid.1;have b2:=hid.2;clear iq hid;rcases (show kind=1\/kind=2\/kind=3\/(kind≠1/\kind≠2/\kind≠3) by omega)with rfl|rfl|rfl|⟨n1,n2,n3⟩
  ·have HK:=I (CN (e:=⟨1,id,dA,new⟩) HI.o rfl);by_cases ho:dA.toList=[]
   ·go_enter func80,ntmps80;go_wp2_with (fail);refine (jz _ _ _ _ bU b2).mono ?_;rintro e w1 ⟨rfl,k,rfl⟩;go_wp2_with (fail);refine (fM new _ Nr.o).mono ?_;rintro e w2 ⟨rfl,k2,rfl⟩;go_wp2;go_ret;exact ⟨by rw[HK.o];simp[ho],xu _⟩
   go_enter func80,ntmps80;go_wp2_with (fail);refine (jz _ _ _ _ bU b2).mono ?_;rintro e w1 ⟨rfl,k,rfl⟩;go_wp2;go_ret;exact ⟨by rw[HK.o];simp[ho],xu _⟩
  ·have HK:=I (Au (e:=⟨2,id,dA,new⟩) HI.o rfl);cases ho:bP dA.toList with
   |true=>
    have HO:=I ho;clear ho;by_cases hn:new.toList=[]
    ·go_enter func80,ntmps80;go_wp2_with (fail);refine (jz _ _ _ _ bU b2).mono ?_;rintro e w1 ⟨rfl,k,rfl⟩;go_wp2_with (fail);refine (fM dA _ tN.o).mono ?_;rintro e w2 ⟨rfl,k2,rfl⟩;rw[HO.o];go_wp2;go_ret;exact ⟨by rw[HK.o];simp[HO.o,hn],xu _⟩
    go_enter func80,ntmps80;go_wp2_with (fail);refine (jz _ _ _ _ bU b2).mono ?_;rintro e w1 ⟨rfl,k,rfl⟩;go_wp2_with (fail);refine (fM dA _ tN.o).mono ?_;rintro e w2 ⟨rfl,k2,rfl⟩;rw[HO.o];go_wp2;go_ret;exact ⟨by rw[HK.o];simp[HO.o,hn],xu _⟩
   |false=>
    have HO:=I ho;clear ho;go_enter func80,ntmps80;go_wp2_with (fail);refine (jz _ _ _ _ bU b2).mono ?_;rintro e w1 ⟨rfl,k,rfl⟩;go_wp2_with (fail);refine (fM dA _ tN.o).mono ?_;rintro e w2 ⟨rfl,k2,rfl⟩;rw[HO.o];go_wp2;go_ret;exact ⟨by rw[HK.o];simp[HO.o],xu _⟩
  ·have HK:=I (xr (e:=⟨3,id,dA,new⟩) HI.o rfl);cases ho:bP dA.toList with
   |true=>
    have HO:=I ho;clear ho;cases hn:bP new.toList with
    |true=>
     have HN:=I hn;clear hn;cases he:(dA.toList==new.toList)with
     |true=>
      go_enter func80,ntmps80;go_wp2_with (fail);refine (jz _ _ _ _ bU b2).mono ?_;rintro e w1 ⟨rfl,k,rfl⟩;go_wp2_with (fail);refine (fM dA _ tN.o).mono ?_;rintro e w2 ⟨rfl,k2,rfl⟩;rw[HO.o];go_wp2_with (fail);refine (fM new _ Nr.o).mono ?_;rintro e w2 ⟨rfl,k3,rfl⟩;rw[HN.o];go_wp2;go_ret;exact ⟨by rw[HK.o];simp[HO.o,HN.o,he],xu _⟩
     |false=>
      go_enter func80,ntmps80;go_wp2_with (fail);refine (jz _ _ _ _ bU b2).mono ?_;rintro e w1 ⟨rfl,k,rfl⟩;go_wp2_with (fail);refine (fM dA _ tN.o).mono ?_;rintro e w2 ⟨rfl,k2,rfl⟩;rw[HO.o];go_wp2_with (fail);refine (fM new _ Nr.o).mono ?_;rintro e w2 ⟨rfl,k3,rfl⟩;rw[HN.o];go_wp2;go_ret;exact ⟨by rw[HK.o];simp[HO.o,HN.o,he],xu _⟩
    |false=>
     have HN:=I hn;clear hn;go_enter func80,ntmps80;go_wp2_with (fail);refine (jz _ _ _ _ bU b2).mono ?_;rintro e w1 ⟨rfl,k,rfl⟩;go_wp2_with (fail);refine (fM dA _ tN.o).mono ?_;rintro e w2 ⟨rfl,k2,rfl⟩;rw[HO.o];go_wp2_with (fail);refine (fM new _ Nr.o).mono ?_;rintro e w2 ⟨rfl,k3,rfl⟩;rw[HN.o];go_wp2;go_ret;exact ⟨by rw[HK.o];simp[HO.o,HN.o],xu _⟩
   |false=>
    have HO:=I ho;clear ho;go_enter func80,ntmps80;go_wp2_with (fail);refine (jz _ _ _ _ bU b2).mono ?_;rintro e w1 ⟨rfl,k,rfl⟩;go_wp2_with (fail);refine (fM dA _ tN.o).mono ?_;rintro e w2 ⟨rfl,k2,rfl⟩;rw[HO.o];go_wp2;go_ret;exact ⟨by rw[HK.o];simp[HO.o],xu _⟩
  have HK:=I (yW (e:=⟨kind,id,dA,new⟩) n1 n2 n3);have m1:(kind==1)=false:=by simp;omega
  have m2:(kind==2)=false:=by simp;omega
  have m3:(kind==3)=false:=by simp;omega
  clear n1 n2 n3;go_enter func80,ntmps80;go_wp2_with (fail);refine (jz _ _ _ _ bU b2).mono ?_;rintro e w1 ⟨rfl,k,rfl⟩;go_wp2;go_ret;exact ⟨by rw[HK.o];rfl,xu _⟩
 have h':id<1\/99<id:=by omega
 have HK:=I (Fk (e:=⟨kind,id,dA,new⟩) (sM h'));have HN:=I h';clear h' hid;go_enter func80,ntmps80;go_wp2_with (fail);refine (Hw _ _ _ _ HN.o).mono ?_;rintro e w1 ⟨rfl,k,rfl⟩;go_wp2;go_ret;exact ⟨by rw[HK.o];rfl,xu _⟩
def bg (w:World) (B:Nat) (v:Value) (es:List aV):Prop:=cz (Pl ah) 4 w B v es
def bS (es:List aV):Prop:= ∀e,e∈es->mY e
theorem ln {w:World} {B b off:Nat} {es:List aV} (h: ∀(k:Nat) (x:aV),es[k]?=some x-> ∃us,us.length=4/\Pl ah w B us x/\ ∀(j:Nat) (u:Value),us[j]?=some u->w.cell? ⟨b,off+k*4+j,none⟩=some u) {k:Nat} {e:aV} (hk:es[k]?=some e):
 w.cell? ⟨b,off+k*4,none⟩=some (.int .i64 e.kind)/\w.cell? ⟨b,off+k*4+1,none⟩=some (.int .i64 e.id)/\w.cell? ⟨b,off+k*4+2,none⟩=some (.string e.dA)/\w.cell? ⟨b,off+k*4+3,none⟩=some (.string e.new):=by
 obtain ⟨us,hl,hp,hc⟩:=h k e hk;have hp:us=ah e:=hp;subst hp;exact ⟨hc 0 _ rfl,hc 1 _ rfl,hc 2 _ rfl,hc 3 _ rfl⟩
def fA (p:List aV) (k:Nat):Bool:=((p[k]?).map dE).getD true&&(decide (k=0)||decide (Fj p (k-1)<Fj p k))
theorem lp (p:List aV):bF p=(cE p.length (fA p)&&decide (p.length<=16)):=rfl
theorem oC {p:List aV} {k:Nat} {e:aV} (h:p[k]?=some e) (ho:dE e=false):fA p k=false:=by
 unfold fA;rw[h];simp[ho]
theorem mZ {p:List aV} {k:Nat} {e:aV} (hk:k=0) (h:p[k]?=some e) (ho:dE e=true):fA p k=true:=by
 subst hk;unfold fA;rw[h];simp[ho]
theorem m9 {p:List aV} {m:Nat} {d e:aV} (hd:p[m]?=some d) (h:p[m+1]?=some e) (ho:dE e=true):fA p (m+1)=decide (d.id<e.id):=by
 unfold fA Fj;rw[h];simp[ho,hd]
theorem kl {p:List aV} {k:Nat} (hk:k<p.length) (h:fA p k=false):bF p=false:=by
 rw[lp,fN hk h];rfl
theorem pK (e:aV) (w:World) (hs:mY e) (r:Bool) (h:dE e=r):
 Calls prog 80 #[.agg #[.int .i64 e.kind,.int .i64 e.id,.string e.dA,.string e.new]] w (bT (.bool r) w):=by
 rw[<-h];exact Fl e w hs
theorem uS (es:List aV) (w:World) (v:Value) (h:bg w w.heap.size v es) (hs:bS es):
 Calls prog 49 #[v] w (bT (.bool (bF es)) w):=by
 obtain ⟨A,c,rfl,hc,hm,cn⟩:=h;unfold maxLen at hm;have rn:es.length<=9223372036854775807:=by omega
 have gH:=I cn;have HS:=I hs;clear cn hs;go_enter func49,ntmps49;go_wp2;go_loopw [3,4,7] (λ_ _ i wr=> ∃k:Nat,k<=es.length/\i= .int .i64 (k:Int)/\cE k (fA es)=true/\Below w.heap.size w wr) (λ_ _ i _=>es.length-(RowKit.intOf i).toNat);case atStart=>exact ⟨0,Nat.zero_le _,rfl,rfl,Below.refl _ _⟩
 case round=>
  obtain ⟨k,hk,rfl,dn,hb⟩:=hrel;have HA:=I dn;clear dn;by_cases aI:k<es.length
  ·obtain ⟨b,off,rfl,bD,aC⟩:=gH.o (by omega);have aH:es[k]?=some es[k]:=List.getElem?_eq_getElem aI;obtain ⟨c0,c1,c2,c3⟩:=ln aC aH;have x0:=(hb.cell (p:=⟨b,off+k*4,none⟩) bD).trans c0;have x1:=(hb.cell (p:=⟨b,off+k*4+1,none⟩) bD).trans c1;have x2:=(hb.cell (p:=⟨b,off+k*4+2,none⟩) bD).trans c2;have x3:=(hb.cell (p:=⟨b,off+k*4+3,none⟩) bD).trans c3;have HG:=I aH;have HC:=I aC;have gU:=HS.o es[k] (List.getElem_mem aI);clear aH aC c0 c1 c2 c3;generalize es[k]=e at*;cases cy:dE e with
   |false=>
    have HO:=I cy;have HB:=I (kl aI (oC HG.o cy));clear cy;go_upto_region 4 with (fail)
    obtain ⟨W,hW⟩: ∃W:World,W=wr.alloc (.cells (ah e).toArray 93):=⟨_,rfl⟩
    change Code.wp _ _ _ _ (wr.alloc (.cells (ah e).toArray 93));have bW:Below w.heap.size w W:=by rw[hW];exact hb.alloc hb.size _
    have y0:W.cell? ⟨wr.heap.size,0,none⟩=some (.int .i64 e.kind):=by rw[hW];simp[go_sem,ah]
    have y1:W.cell? ⟨wr.heap.size,1,none⟩=some (.int .i64 e.id):=by rw[hW];simp[go_sem,ah]
    have y2:W.cell? ⟨wr.heap.size,2,none⟩=some (.string e.dA):=by rw[hW];simp[go_sem,ah]
    have y3:W.cell? ⟨wr.heap.size,3,none⟩=some (.string e.new):=by rw[hW];simp[go_sem,ah]
    rw[<-hW];clear hW x0 x1 x2 x3;have z0:=λx:ar W=>x.cell y0;have z1:=λx:ar W=>x.cell y1;have z2:=λx:ar W=>x.cell y2;have z3:=λx:ar W=>x.cell y3;clear y0 y1 y2 y3;refine bj (by kernel_rfl) (by kernel_rfl) ?_
    repeat (go_big_quiet_step ((go_at_call 80;exact aq (pK e _ gU false HO.o))))
    refine wpQuiet_nil ?_;rintro _ ⟨y,rfl⟩;have bY:=bW.trans (y.ok.mono bW.size);go_wp2;go_ret;exact ⟨by rw[HB.o];rfl,bY⟩
   |true=>
    have HO:=I cy;clear cy;have gN:=cR k (fA es);rw[HA.o,Bool.true_and]at gN;have gN:=I gN;by_cases jA:k=0
    ·have HN:ag (cE (k+1) (fA es)=true):=gN.o.trans (mZ jA HG.o HO.o);have rc:decide ((0:Int)<(k:Int))=false:=by simp;omega
     have H0:decide (0<k)=false:=by simp;omega
     clear jA;go_upto_region 4 with (fail)
     obtain ⟨W,hW⟩: ∃W:World,W=wr.alloc (.cells (ah e).toArray 93):=⟨_,rfl⟩
     change Code.wp _ _ _ _ (wr.alloc (.cells (ah e).toArray 93));have bW:Below w.heap.size w W:=by rw[hW];exact hb.alloc hb.size _
     have y0:W.cell? ⟨wr.heap.size,0,none⟩=some (.int .i64 e.kind):=by rw[hW];simp[go_sem,ah]
     have y1:W.cell? ⟨wr.heap.size,1,none⟩=some (.int .i64 e.id):=by rw[hW];simp[go_sem,ah]
     have y2:W.cell? ⟨wr.heap.size,2,none⟩=some (.string e.dA):=by rw[hW];simp[go_sem,ah]
     have y3:W.cell? ⟨wr.heap.size,3,none⟩=some (.string e.new):=by rw[hW];simp[go_sem,ah]
     rw[<-hW];clear hW x0 x1 x2 x3;have z0:=λx:ar W=>x.cell y0;have z1:=λx:ar W=>x.cell y1;have z2:=λx:ar W=>x.cell y2;have z3:=λx:ar W=>x.cell y3;clear y0 y1 y2 y3;refine bj (by kernel_rfl) (by kernel_rfl) ?_
     repeat (go_big_quiet_step ((go_at_call 80;exact aq (pK e _ gU true HO.o))))
     refine wpQuiet_nil ?_;rintro _ ⟨y,rfl⟩;have bY:=bW.trans (y.ok.mono bW.size);go_wp2;go_roundw;case rel=>exact ⟨k+1,by omega,by go_num,HN.o,bY⟩
     case measure=>simp[RowKit.intOf];omega
    obtain ⟨m,rfl⟩: ∃m,k=m+1:=⟨k-1,by omega⟩
    have hd:es[m]?=some (es[m]'(by omega)):=List.getElem?_eq_getElem (by omega);obtain ⟨_,d1,_,_⟩:=ln HC.o hd;generalize (es[m]'(by omega))=d at*;have HP:=I (m9 hd HG.o HO.o);clear hd jA;by_cases hid:d.id<e.id
    ·have HN:ag (cE (m+1+1) (fA es)=true):=gN.o.trans (HP.o.trans (decide_eq_true hid));have uT: ¬(e.id<=d.id):=by omega
     go_upto_region 4 with (fail)
     obtain ⟨W,hW⟩: ∃W:World,W=wr.alloc (.cells (ah e).toArray 93):=⟨_,rfl⟩
     change Code.wp _ _ _ _ (wr.alloc (.cells (ah e).toArray 93));have bW:Below w.heap.size w W:=by rw[hW];exact hb.alloc hb.size _
     have y0:W.cell? ⟨wr.heap.size,0,none⟩=some (.int .i64 e.kind):=by rw[hW];simp[go_sem,ah]
     have y1:W.cell? ⟨wr.heap.size,1,none⟩=some (.int .i64 e.id):=by rw[hW];simp[go_sem,ah]
     have y2:W.cell? ⟨wr.heap.size,2,none⟩=some (.string e.dA):=by rw[hW];simp[go_sem,ah]
     have y3:W.cell? ⟨wr.heap.size,3,none⟩=some (.string e.new):=by rw[hW];simp[go_sem,ah]
     have y4:W.cell? ⟨b,off+m*4+1,none⟩=some (.int .i64 d.id):=(bW.cell (p:=⟨b,off+m*4+1,none⟩) bD).trans d1;have z4:=λx:ar W=>x.cell y4;clear d1 y4;rw[<-hW];clear hW x0 x1 x2 x3;have z0:=λx:ar W=>x.cell y0;have z1:=λx:ar W=>x.cell y1;have z2:=λx:ar W=>x.cell y2;have z3:=λx:ar W=>x.cell y3;clear y0 y1 y2 y3;refine bj (by kernel_rfl) (by kernel_rfl) ?_
     repeat (go_big_quiet_step ((go_at_call 80;exact aq (pK e _ gU true HO.o))))
     refine wpQuiet_nil ?_;rintro _ ⟨y,rfl⟩;have bY:=bW.trans (y.ok.mono bW.size);go_wp2;go_roundw;case rel=>exact ⟨(m+1)+1,by omega,by go_num,HN.o,bY⟩
     case measure=>simp[RowKit.intOf];omega
    have HB:=I (kl aI (HP.o.trans (decide_eq_false hid)));have uT:e.id<=d.id:=by omega
    go_upto_region 4 with (fail)
    obtain ⟨W,hW⟩: ∃W:World,W=wr.alloc (.cells (ah e).toArray 93):=⟨_,rfl⟩
    change Code.wp _ _ _ _ (wr.alloc (.cells (ah e).toArray 93));have bW:Below w.heap.size w W:=by rw[hW];exact hb.alloc hb.size _
    have y0:W.cell? ⟨wr.heap.size,0,none⟩=some (.int .i64 e.kind):=by rw[hW];simp[go_sem,ah]
    have y1:W.cell? ⟨wr.heap.size,1,none⟩=some (.int .i64 e.id):=by rw[hW];simp[go_sem,ah]
    have y2:W.cell? ⟨wr.heap.size,2,none⟩=some (.string e.dA):=by rw[hW];simp[go_sem,ah]
    have y3:W.cell? ⟨wr.heap.size,3,none⟩=some (.string e.new):=by rw[hW];simp[go_sem,ah]
    have y4:W.cell? ⟨b,off+m*4+1,none⟩=some (.int .i64 d.id):=(bW.cell (p:=⟨b,off+m*4+1,none⟩) bD).trans d1;have z4:=λx:ar W=>x.cell y4;clear d1 y4;rw[<-hW];clear hW x0 x1 x2 x3;have z0:=λx:ar W=>x.cell y0;have z1:=λx:ar W=>x.cell y1;have z2:=λx:ar W=>x.cell y2;have z3:=λx:ar W=>x.cell y3;clear y0 y1 y2 y3;refine bj (by kernel_rfl) (by kernel_rfl) ?_
    repeat (go_big_quiet_step ((go_at_call 80;exact aq (pK e _ gU true HO.o))))
    refine wpQuiet_nil ?_;rintro _ ⟨y,rfl⟩;have bY:=bW.trans (y.ok.mono bW.size);go_wp2;go_ret;exact ⟨by rw[HB.o];rfl,bY⟩
  have di:k=es.length:=by omega
  have hP:bF es=decide (es.length<=16):=by
   rw[lp,<-di,HA.o,Bool.true_and]
  have HP:=I hP;have eA: ¬(k:Int)<(es.length:Int):=by omega
  clear hP di aI;by_cases rp:es.length<=16
  ·have Hg:decide ((es.length:Int)<=16)=true:=by simp;omega
   have uU:=I rp;clear rp;go_wp2;go_ret;exact ⟨by rw[HP.o];simp[uU.o],hb⟩
  have Hg:decide ((es.length:Int)<=16)=false:=by simp;omega
  have uU:=I rp;clear rp;go_wp2;go_ret;exact ⟨by rw[HP.o];simp[uU.o],hb⟩
def ia (c:Nat):Bool:=decide (97<=c)&&decide (c<=122)
theorem m' (l:List UInt8) (k:Nat) (hk:k<l.length) (h:ia (dv l k)=false):dU l=false:=by
 unfold dU;have h':(decide (97<=dv l k)&&decide (dv l k<=122))=false:=h;rw[fN (f:=λk=>decide (97<=dv l k)&&decide (dv l k<=122)) hk h'];rfl
theorem sP (s:ByteArray) (w:World) (hs:s.size<=maxLen):
 Calls prog 32 #[.string s] w (f' (.bool (dU s.toList)) w):=by
 rw[ByteArray.toList_eq];unfold maxLen at hs;go_enter func32,ntmps32;go_wp2;go_loop [3,6] (λ_ i=> ∃k:Nat,k<=s.size/\i= .int .i64 (k:Int)/\cE k (λj=>ia (dv s.data.toList j))=true) (λ_ i=>s.size-(RowKit.intOf i).toNat);case atStart=>exact ⟨0,Nat.zero_le _,rfl,rfl⟩
 case round=>
  obtain ⟨k,hk,rfl,dn⟩:=hrel;have HA:=I dn;clear dn;by_cases aI:k<s.size
  ·have hc:=iZ s k aI;have HS:=cR k (λj=>ia (dv s.data.toList j));rw[HA.o,Bool.true_and,hc]at HS;have HS:=I HS;have HC:=I hc;clear hc;have hh:(97<=s[k].toNat/\s[k].toNat<=122)\/(122<s[k].toNat)\/s[k].toNat<97:=by omega
   rcases hh with hh|hh|hh
   ·have a1: ¬(s[k].toNat:Int)<97:=by omega
    have a2:decide ((122:Int)<(s[k].toNat:Int))=false:=by simp;omega
    have kj:ia s[k].toNat=true:=by unfold ia;simp[hh.1,hh.2]
    have sO:=I kj;clear kj hh;go_wp2;go_round;case rel=>exact ⟨k+1,by omega,by go_num,HS.o.trans sO.o⟩
    case measure=>simp[RowKit.intOf];omega
   ·have a1: ¬(s[k].toNat:Int)<97:=by omega
    have a2:decide ((122:Int)<(s[k].toNat:Int))=true:=by simp;omega
    have kj:ia s[k].toNat=false:=by unfold ia;simp;omega
    have HB:=I (m' s.data.toList k (by simpa using aI) (by rw[HC.o];exact kj));clear kj hh;go_wp2;go_ret;exact ⟨by rw[HB.o];rfl,0,rfl⟩
   have a1:(s[k].toNat:Int)<97:=by omega
   have kj:ia s[k].toNat=false:=by unfold ia;simp;omega
   have HB:=I (m' s.data.toList k (by simpa using aI) (by rw[HC.o];exact kj));clear kj hh;go_wp2;go_ret;exact ⟨by rw[HB.o];rfl,0,rfl⟩
  have di:k=s.size:=by omega
  have Ar:dU s.data.toList=(decide (1<=s.size)&&decide (s.size<=10)):=by
   unfold dU;have e:s.data.toList.length=s.size:=by simp
   rw[e];have h:=HA.o;rw[di]at h;have h':cE s.size (λk=>decide (97<=dv s.data.toList k)&&decide (dv s.data.toList k<=122))=true:=h;rw[h',Bool.true_and]
  have HD:=I Ar;have eA: ¬(k:Int)<(s.size:Int):=by omega
  clear Ar di aI;by_cases h1:1<=s.size
  ·have e1:decide ((1:Int)<=(s.size:Int))=true:=by simp;omega
   by_cases h2:s.size<=10
   ·have e2:decide ((s.size:Int)<=10)=true:=by simp;omega
    have H1:=I h1;have H2:=I h2;clear h1 h2;go_wp2;go_ret;exact ⟨by rw[HD.o];simp[H1.o,H2.o],0,rfl⟩
   have e2:decide ((s.size:Int)<=10)=false:=by simp;omega
   have H2:=I h2;clear h1 h2;go_wp2;go_ret;exact ⟨by rw[HD.o];simp[H2.o],0,rfl⟩
  have e1:decide ((1:Int)<=(s.size:Int))=false:=by simp;omega
  have H1:=I h1;clear h1;go_wp2;go_ret;exact ⟨by rw[HD.o];simp[H1.o],0,rfl⟩
theorem Fo (s:ByteArray) (w:World) (hs:s.size<=maxLen):
 Calls prog 73 #[.string s] w (f' (.bool (dU s.toList)) w):=by
 rw[ByteArray.toList_eq];unfold maxLen at hs;go_enter func73,ntmps73;go_wp2;go_loop [3] (λi=> ∃k:Nat,k<=s.size/\i= .int .i64 (k:Int)/\cE k (λj=>ia (dv s.data.toList j))=true) (λi=>s.size-(RowKit.intOf i).toNat);case atStart=>exact ⟨0,Nat.zero_le _,rfl,rfl⟩
 case round=>
  obtain ⟨k,hk,rfl,dn⟩:=hrel;have HA:=I dn;clear dn;by_cases aI:k<s.size
  ·have hc:=iZ s k aI;have HS:=cR k (λj=>ia (dv s.data.toList j));rw[HA.o,Bool.true_and,hc]at HS;have HS:=I HS;have HC:=I hc;clear hc;have hh:(97<=s[k].toNat/\s[k].toNat<=122)\/(122<s[k].toNat)\/s[k].toNat<97:=by omega
   rcases hh with hh|hh|hh
   ·have a1: ¬(s[k].toNat:Int)<97:=by omega
    have a2:decide ((122:Int)<(s[k].toNat:Int))=false:=by simp;omega
    have kj:ia s[k].toNat=true:=by unfold ia;simp[hh.1,hh.2]
    have sO:=I kj;clear kj hh;go_wp2;go_round;case rel=>exact ⟨k+1,by omega,by go_num,HS.o.trans sO.o⟩
    case measure=>simp[RowKit.intOf];omega
   ·have a1: ¬(s[k].toNat:Int)<97:=by omega
    have a2:decide ((122:Int)<(s[k].toNat:Int))=true:=by simp;omega
    have kj:ia s[k].toNat=false:=by unfold ia;simp;omega
    have HB:=I (m' s.data.toList k (by simpa using aI) (by rw[HC.o];exact kj));clear kj hh;go_wp2;go_ret;exact ⟨by rw[HB.o];rfl,0,rfl⟩
   have a1:(s[k].toNat:Int)<97:=by omega
   have kj:ia s[k].toNat=false:=by unfold ia;simp;omega
   have HB:=I (m' s.data.toList k (by simpa using aI) (by rw[HC.o];exact kj));clear kj hh;go_wp2;go_ret;exact ⟨by rw[HB.o];rfl,0,rfl⟩
  have di:k=s.size:=by omega
  have Ar:dU s.data.toList=(decide (1<=s.size)&&decide (s.size<=10)):=by
   unfold dU;have e:s.data.toList.length=s.size:=by simp
   rw[e];have h:=HA.o;rw[di]at h;have h':cE s.size (λk=>decide (97<=dv s.data.toList k)&&decide (dv s.data.toList k<=122))=true:=h;rw[h',Bool.true_and]
  have HD:=I Ar;have eA: ¬(k:Int)<(s.size:Int):=by omega
  clear Ar di aI;by_cases h1:1<=s.size
  ·have e1:decide ((1:Int)<=(s.size:Int))=true:=by simp;omega
   by_cases h2:s.size<=10
   ·have e2:decide ((s.size:Int)<=10)=true:=by simp;omega
    have H1:=I h1;have H2:=I h2;clear h1 h2;go_wp2;go_ret;exact ⟨by rw[HD.o];simp[H1.o,H2.o],0,rfl⟩
   have e2:decide ((s.size:Int)<=10)=false:=by simp;omega
   have H2:=I h2;clear h1 h2;go_wp2;go_ret;exact ⟨by rw[HD.o];simp[H2.o],0,rfl⟩
  have e1:decide ((1:Int)<=(s.size:Int))=false:=by simp;omega
  have H1:=I h1;clear h1;go_wp2;go_ret;exact ⟨by rw[HD.o];simp[H1.o],0,rfl⟩
theorem xV (n:Int) (w:World):Calls prog 33 #[.int .i64 n] w (f' (.bool (dO n 0 3)) w):=by
 have H:=I (lZ n 0 3 w);go_enter func33,ntmps33;go_wp2_with (fail);refine H.o.mono ?_;rintro e w1 ⟨rfl,k,rfl⟩;go_wp2;go_ret;exact ⟨rfl,k,rfl⟩
theorem uV (n:Int) (w:World):Calls prog 30 #[.int .i64 n] w (f' (.bool (dO n 0 11)) w):=by
 have H:=I (lZ n 0 11 w);go_enter func30,ntmps30;go_wp2_with (fail);refine H.o.mono ?_;rintro e w1 ⟨rfl,k,rfl⟩;go_wp2;go_ret;exact ⟨rfl,k,rfl⟩
theorem xW (es:List aV) (w:World) (v:Value) (aj start aB:Int) (h:bg w w.heap.size v es) (hs:bS es):
 Calls prog 34 #[v,.int .i64 aj,.int .i64 start,.int .i64 aB] w (bT (.bool (iP es aj start aB)) w):=by
 have HP:=I (uS es w v h hs)
 have hv: ∃A c,v= .slice A es.length c:=by
  obtain ⟨A,c,hv,_⟩:=h;exact ⟨A,c,hv⟩
 obtain ⟨A,c,rfl⟩:=hv;clear h hs;cases es with
 |nil=>
  go_enter func34,ntmps34;go_wp2;go_ret;exact ⟨rfl,Below.refl _ _⟩
 |cons d ds=>
  have hl:decide ((0:Int)<((d::ds).length:Int))=true:=by simp
  have tO:decide (0<(d::ds).length)=true:=by simp
  generalize PD:d::ds=es at*;have gm:es.isEmpty=false:=by rw[<-PD];rfl
  have CC:=I gm;clear gm PD;go_enter func34,ntmps34;go_wp2_with (fail);refine HP.o.mono ?_;rintro e w1 ⟨rfl,hb⟩;cases hp:bF es with
  |false=>
   have HQ:=I hp;clear hp;go_wp2;go_ret;have hf:iP es aj start aB=false:=by unfold iP;rw[HQ.o];simp
   exact ⟨by rw[hf];rfl,hb⟩
  |true=>
   have HQ:=I hp;clear hp;go_wp2_with (fail);refine (lZ aj 1 999 w1).mono ?_;rintro e w2 ⟨rfl,k,rfl⟩;cases hi:dO aj 1 999 with
   |false=>
    have HI:=I hi;clear hi;go_wp2;go_ret;have hf:iP es aj start aB=false:=by unfold iP;rw[HI.o];simp
    exact ⟨by rw[hf];rfl,below_drewN hb k⟩
   |true=>
    have HI:=I hi;clear hi
    have jQ:iP es aj start aB=(decide (aj<=start)&&decide (start<aB)&&decide (aB<=1000)):=by
     unfold iP;rw[HQ.o,HI.o,CC.o];rfl
    have HF:=I jQ;clear jQ;by_cases c1:aj<=start
    ·have d1:decide (aj<=start)=true:=by simp;omega
     by_cases c2:start<aB
     ·have d2:decide (start<aB)=true:=by simp;omega
      have K1:=I c1;have K2:=I c2;clear c1 c2;go_wp2;go_ret;exact ⟨by rw[HF.o,d1,d2];simp,below_drewN hb k⟩
     have d2:decide (start<aB)=false:=by simp;omega
     have K2:=I c2;clear c1 c2;go_wp2;go_ret;exact ⟨by rw[HF.o,d2];simp,below_drewN hb k⟩
    have d1:decide (aj<=start)=false:=by simp;omega
    have K1:=I c1;clear c1;go_wp2;go_ret;exact ⟨by rw[HF.o,d1];simp,below_drewN hb k⟩
def ak (z:Int):List Value:=[.int .i64 z]
def aae (w:World) (B:Nat) (v:Value) (zs:List Int):Prop:=cz (Pl ak) 1 w B v zs
theorem ints_at {w:World} {B b off:Nat} {zs:List Int} (h: ∀(k:Nat) (x:Int),zs[k]?=some x-> ∃us,us.length=1/\Pl ak w B us x/\ ∀(j:Nat) (u:Value),us[j]?=some u->w.cell? ⟨b,off+k*1+j,none⟩=some u) {k:Nat} {z:Int} (hk:zs[k]?=some z):
 w.cell? ⟨b,off+k,none⟩=some (.int .i64 z):=by
 obtain ⟨us,hl,hp,hc⟩:=h k z hk;have hp:us=ak z:=hp;subst hp;have:=hc 0 _ rfl;simpa using this
theorem cz.take {α:Type} {R:World->Nat->List Value->α->Prop} {size:Nat} {w:World} {B:Nat} {A:Option Addr} {n c:Nat} {xs:List α} (h:cz R size w B (.slice A n c) xs) (k:Nat) (hk:k<=xs.length):cz R size w B (.slice A k c) (xs.take k):=by
 obtain ⟨A',c',hv,h1,h2,h3⟩:=h;injection hv with e1 e2 e3
 subst e1 e3;have hl:(xs.take k).length=k:=by rw[List.length_take];omega
 refine ⟨A,c,by rw[hl],by omega,h2,λh0=>?_⟩;obtain ⟨b,off,hA,hb,hc⟩:=h3 (by omega);refine ⟨b,off,hA,hb,λj x hx=>hc j x ?_⟩;rw[List.getElem?_take]at hx
 split at hx
 ·exact hx
 cases hx
def Fp (w:World) (zs:List Int) (x:Int) (e:Ending) (w':World):Prop:=
 ∃n:Int,e= .returned (.int .i64 n)/\w'=w/\(0<=n↔x∈zs)/\ -1<=n/\n<=9223372036854775807/\(0<=n->zs[n.toNat]?=some x/\x∉zs.take n.toNat)
theorem Fq (zs:List Int) (x:Int) (w:World) (v:Value) (h:aae w w.heap.size v zs):
 Calls prog 88 #[v,.int .i64 x] w (Fp w zs x):=by
 obtain ⟨A,c,rfl,hc,hm,cn⟩:=h;unfold maxLen at hm;have rn:zs.length<=9223372036854775807:=by omega
 have gH:=I cn;clear cn;go_enter func88,ntmps88;go_wp2;go_loop [5,8] (λ_ i=> ∃k:Nat,k<=zs.length/\i= .int .i64 (k:Int)/\x∉zs.take k) (λ_ i=>zs.length-(RowKit.intOf i).toNat);case atStart=>exact ⟨0,Nat.zero_le _,rfl,by simp⟩
 case round=>
  obtain ⟨k,hk,rfl,rf⟩:=hrel;have HN:=I rf;clear rf;by_cases aI:k<zs.length
  ·obtain ⟨b,off,rfl,bD,aC⟩:=gH.o (by omega);have aH:zs[k]?=some zs[k]:=List.getElem?_eq_getElem aI;have x0:=ints_at aC aH;have H5:zs.take (k+1)=zs.take k++[zs[k]]:=by rw[List.take_succ_eq_append_getElem aI]
   have HG:=I aH;have HT:=I H5;clear aH aC H5;generalize zs[k]=z at*;by_cases hz:x=z
   ·have ez:(x==z)=true:=by simp[hz]
    have HZ:=I hz;clear hz;go_wp2;go_ret;refine ⟨k,rfl,rfl,⟨λ_=>?_,λ_=>by omega⟩,by omega,by omega,λ_=>?_⟩
    ·rw[HZ.o];exact List.mem_of_getElem? HG.o
    rw[show ((k:Int)).toNat=k by omega];exact ⟨by rw[HZ.o];exact HG.o,HN.o⟩
   have ez:(x==z)=false:=by simp[hz]
   have HZ:=I hz;clear hz;go_wp2;go_round;case rel=>exact ⟨k+1,by omega,by go_num,by rw[HT.o,List.mem_append,List.mem_singleton];rintro (h|h);exact HN.o h;exact HZ.o h⟩
   case measure=>simp[RowKit.intOf];omega
  have di:k=zs.length:=by omega
  have eA: ¬(k:Int)<(zs.length:Int):=by omega
  have HK:=I di;clear di aI;go_wp2;go_ret;refine ⟨-1,rfl,rfl,⟨λh=>by omega,λh=>?_⟩,by omega,by omega,λh=>by omega⟩;have:=HN.o;rw[HK.o,List.take_length]at this;exact absurd h this
theorem kL (zs:List Int) (x:Int) (w:World) (v:Value) (h:aae w w.heap.size v zs):
 Calls prog 57 #[v,.int .i64 x] w (f' (.bool (zs.contains x)) w):=by
 have H:=I (Fq zs x w v h);clear h;go_enter func57,ntmps57;go_wp2_with (fail);refine H.o.mono ?_;rintro e w1 ⟨n,rfl,rfl,aU,h1,h2,_⟩;by_cases hn:0<=n
 ·have hd:decide (0<=n)=true:=by simp;omega
  have hc:zs.contains x=true:=by rw[List.contains_iff_mem];exact aU.1 hn
  have HC:=I hc;clear aU hn hc;go_wp2;go_ret;exact ⟨by rw[HC.o];rfl,0,rfl⟩
 have hd:decide (0<=n)=false:=by simp;omega
 have hc:zs.contains x=false:=by rw[Bool.eq_false_iff,ne_eq,List.contains_iff_mem];exact λh=>hn (aU.2 h)
 have HC:=I hc;clear aU hn hc;go_wp2;go_ret;exact ⟨by rw[HC.o];rfl,0,rfl⟩
def kc (l:List Int) (member n:Int) (k:Nat):Bool:=dO (l.getD k 0) 0 (n-1)&&decide (l.getD k 0≠member)&&!((l.take k).contains (l.getD k 0))
theorem fo (l:List Int) (member n:Int):cF l member n=(cE l.length (kc l member n)&&decide (l.length<=4)):=rfl
theorem i' {l:List Int} {member n:Int} {k:Nat} (hk:k<l.length) (h:kc l member n k=false):cF l member n=false:=by
 rw[fo,fN hk h];rfl
theorem nb {l:List Int} {member n:Int} {k:Nat} {z:Int} (hz:l[k]?=some z):kc l member n k=(dO z 0 (n-1)&&decide (z≠member)&&!((l.take k).contains z)):=by
 have e:l.getD k 0=z:=by rw[List.getD_eq_getElem?_getD,hz];rfl
 unfold kc;rw[e]
theorem nc (zs:List Int) (member n:Int) (w:World) (v:Value) (h:aae w w.heap.size v zs) (kM: -1000<=n) (rq:n<=1000):
 Calls prog 31 #[v,.int .i64 member,.int .i64 n] w (f' (.bool (cF zs member n)) w):=by
 have HI:=I h;obtain ⟨A,c,rfl,hc,hm,cn⟩:=h;unfold maxLen at hm;have rn:zs.length<=9223372036854775807:=by omega
 have gH:=I cn;clear cn;go_enter func31,ntmps31;go_wp2;go_loopw [7,8,11] (λ_ _ i wr=> ∃k d:Nat,k<=zs.length/\i= .int .i64 (k:Int)/\cE k (kc zs member n)=true/\wr=w.drewN d) (λ_ _ i _=>zs.length-(RowKit.intOf i).toNat);case atStart=>exact ⟨0,0,Nat.zero_le _,rfl,rfl,rfl⟩
 case round=>
  obtain ⟨k,d,hk,rfl,dn,rfl⟩:=hrel;have HA:=I dn;clear dn;by_cases aI:k<zs.length
  ·obtain ⟨b,off,hA,bD,aC⟩:=gH.o (by omega);subst hA;have aH:zs[k]?=some zs[k]:=List.getElem?_eq_getElem aI;have x0:=ints_at aC aH;have HG:=I aH;have HT:=I (nb (member:=member) (n:=n) aH);have gN:=cR k (kc zs member n);rw[HA.o,Bool.true_and]at gN;have gN:=I gN;have HSub:ag (aae w w.heap.size (.slice (some ⟨b,off,none⟩) k c) (zs.take k)):=cz.take HI.o k hk;clear aH aC;generalize zs[k]=z at*;go_wp2_with (fail);refine (lZ z 0 (n-1) _).mono ?_;rintro e w1 ⟨rfl,d1,rfl⟩;cases h1:dO z 0 (n-1)with
   |false=>
    have HB:=I (i' aI (HT.o.trans (by rw[h1];rfl)));clear h1;go_wp2;go_ret;exact ⟨by rw[HB.o];rfl,_,rfl⟩
   |true=>
    have H1:=I h1;clear h1;by_cases hz:z=member
    ·have ez:(z==member)=true:=by simp[hz]
     have HB:=I (i' aI (HT.o.trans (by rw[H1.o];simp[hz])));clear hz;go_wp2;go_ret;exact ⟨by rw[HB.o];rfl,_,rfl⟩
    have ez:(z==member)=false:=by simp[hz]
    have HZ:=I hz;clear hz;have rc:(k:Int)<=(c:Int):=by omega
    have jA:(0:Int)<=(k:Int):=by omega
    go_wp2_with (fail);refine (kL (zs.take k) z _ _ (HSub.o.on (Pl.stays _) (below_drewN (Below.refl _ _) _) (Nat.le_refl _))).mono ?_;rintro e w2 ⟨rfl,d2,rfl⟩;cases h2:(zs.take k).contains z with
    |true=>
     have HB:=I (i' aI (HT.o.trans (by rw[h2];simp)));clear h2;go_wp2;go_ret;exact ⟨by rw[HB.o];rfl,_,rfl⟩
    |false=>
     have HN:ag (cE (k+1) (kc zs member n)=true):=gN.o.trans (HT.o.trans (by rw[H1.o,h2];simp[HZ.o]));clear h2;go_wp2;go_roundw;case rel=>exact ⟨k+1,_,by omega,by go_num,HN.o,rfl⟩
     case measure=>simp[RowKit.intOf];omega
  have di:k=zs.length:=by omega
  have hP:cF zs member n=decide (zs.length<=4):=by
   rw[fo,<-di,HA.o,Bool.true_and]
  have HP:=I hP;have eA: ¬(k:Int)<(zs.length:Int):=by omega
  clear hP di aI;by_cases h4:zs.length<=4
  ·have e4:decide ((zs.length:Int)<=4)=true:=by simp;omega
   have H4:=I h4;clear h4;go_wp2;go_ret;exact ⟨by rw[HP.o];simp[H4.o],_,rfl⟩
  have e4:decide ((zs.length:Int)<=4)=false:=by simp;omega
  have H4:=I h4;clear h4;go_wp2;go_ret;exact ⟨by rw[HP.o];simp[H4.o],_,rfl⟩
def ea (d:dr):Bool:=d.patch.isEmpty&&decide (d.start=0)&&decide (d.aB=0)&&decide (d.aj=0)
theorem Aw {d:dr} (hk:d.kind=1):cA d=(dO d.member 0 11&&cF d.af d.member 12&&decide (d.al.toList=[])&&decide (d.bO=0)&&ea d):=by
 unfold cA ea;simp[hk]
theorem Ax {d:dr} (hk:d.kind=2):cA d=(dO d.member 0 11&&dU d.al.toList&&dO d.bO 0 3&&d.af.isEmpty&&ea d):=by
 unfold cA ea;simp[hk]
theorem Ay {d:dr} (hk:d.kind=3):cA d=(dO d.member 0 11&&dU d.al.toList&&iP d.patch d.aj d.start d.aB&&d.af.isEmpty&&decide (d.bO=0)):=by
 unfold cA;simp[hk]
theorem Az {d:dr} (hk:d.kind=4):cA d=(decide (d.member=0)&&d.af.isEmpty&&decide (d.al.toList=[])&&decide (d.bO=0)&&ea d):=by
 unfold cA ea;simp[hk]
theorem AA {d:dr} (h1:d.kind≠1) (h2:d.kind≠2) (h3:d.kind≠3) (h4:d.kind≠4):cA d=false:=by
 unfold cA;simp[h1,h2,h3,h4]
theorem ib {α:Type} (l:List α):((l.length:Int)==0)=l.isEmpty:=by
 cases l with
 |nil=>rfl
 |cons a l=>simp;omega
theorem jB (n:Int):(n==0)=decide (n=0):=by
 by_cases h:n=0<;>simp[h]
theorem Fs (d:dr) (A1:Option Addr) (c1:Nat) (A2:Option Addr) (c2:Nat) (w:World) (hT:aae w w.heap.size (.slice A1 d.af.length c1) d.af) (hP:bg w w.heap.size (.slice A2 d.patch.length c2) d.patch) (hs:bS d.patch) (ht:d.al.size<=maxLen):
 Calls prog 10 #[.agg #[.int .i64 d.kind,.int .i64 d.member,.slice A1 d.af.length c1,.string d.al,.int .i64 d.bO,.slice A2 d.patch.length c2,.int .i64 d.start,.int .i64 d.aB,.int .i64 d.aj]] w (bT (.bool (cA d)) w):=by
 have HT:=I hT;have HP:=I hP;have HS:=I hs;have gQ:=I ht;clear hT hP hs ht;go_enter func10,ntmps10;go_wp2;go_quiet (fail);go_upto_region 2 with (fail)
 obtain ⟨W,hW⟩: ∃W:World,W=w.alloc (.cells #[.int .i64 d.kind,.int .i64 d.member,.slice A1 d.af.length c1,.string d.al,.int .i64 d.bO,.slice A2 d.patch.length c2,.int .i64 d.start,.int .i64 d.aB,.int .i64 d.aj] 38):=⟨_,rfl⟩
 have bW:Below w.heap.size w W:=by rw[hW];exact (Below.refl _ _).alloc (Nat.le_refl _) _
 have y0:W.cell? ⟨w.heap.size,0,none⟩=some (.int .i64 d.kind):=by rw[hW];simp[go_sem]
 have y1:W.cell? ⟨w.heap.size,1,none⟩=some (.int .i64 d.member):=by rw[hW];simp[go_sem]
 have y2:W.cell? ⟨w.heap.size,2,none⟩=some (.slice A1 d.af.length c1):=by rw[hW];simp[go_sem]
 have y3:W.cell? ⟨w.heap.size,3,none⟩=some (.string d.al):=by rw[hW];simp[go_sem]
 have y4:W.cell? ⟨w.heap.size,4,none⟩=some (.int .i64 d.bO):=by rw[hW];simp[go_sem]
 have y5:W.cell? ⟨w.heap.size,5,none⟩=some (.slice A2 d.patch.length c2):=by rw[hW];simp[go_sem]
 have y6:W.cell? ⟨w.heap.size,6,none⟩=some (.int .i64 d.start):=by rw[hW];simp[go_sem]
 have y7:W.cell? ⟨w.heap.size,7,none⟩=some (.int .i64 d.aB):=by rw[hW];simp[go_sem]
 have y8:W.cell? ⟨w.heap.size,8,none⟩=some (.int .i64 d.aj):=by rw[hW];simp[go_sem]
 rw[<-hW];clear hW;obtain ⟨G,hG⟩: ∃G:Nat,G=w.heap.size:=⟨_,rfl⟩
 rw[<-hG]at y0 y1 y2 y3 y4 y5 y6 y7 y8⊢;clear hG;go_cut [3,4,5,6] (λs3 s4 s5 s6 wx=>s3= .bool d.af.isEmpty/\s4= .bool d.al.toList.isEmpty/\s5= .bool (decide (d.bO=0))/\s6= .bool (ea d)/\ ∃k,wx=W.drewN k)
 case first=>
  have hp:=ib d.patch;cases e1:d.patch.isEmpty with
  |false=>
   rw[e1]at hp;have E1:=I e1;clear e1;go_wp2_with (fail);go_meet;exact ⟨by rw[ib],rfl,by rw[jB],by unfold ea;rw[E1.o];rfl,_,rfl⟩
  |true=>
   rw[e1]at hp;have E1:=I e1;clear e1;by_cases h1:d.start=0
   ·have bU:(d.start==0)=true:=by simp[h1]
    have H1:=I h1;clear h1;by_cases h2:d.aB=0
    ·have b2:(d.aB==0)=true:=by simp[h2]
     have H2:=I h2;clear h2;by_cases h3:d.aj=0
     ·have b3:(d.aj==0)=true:=by simp[h3]
      have H3:=I h3;clear h3;go_wp2_with (fail);go_meet;exact ⟨by rw[ib],rfl,by rw[jB],by unfold ea;rw[E1.o,H1.o,H2.o,H3.o];rfl,_,rfl⟩
     have b3:(d.aj==0)=false:=by simp[h3]
     have H3:=I h3;clear h3;go_wp2_with (fail);go_meet;exact ⟨by rw[ib],rfl,by rw[jB],by unfold ea;simp[H3.o],_,rfl⟩
    have b2:(d.aB==0)=false:=by simp[h2]
    have H2:=I h2;clear h2;go_wp2_with (fail);go_meet;exact ⟨by rw[ib],rfl,by rw[jB],by unfold ea;simp[H2.o],_,rfl⟩
   have bU:(d.start==0)=false:=by simp[h1]
   have H1:=I h1;clear h1;go_wp2_with (fail);go_meet;exact ⟨by rw[ib],rfl,by rw[jB],by unfold ea;simp[H1.o],_,rfl⟩
 case rest=>
  obtain ⟨rfl,rfl,rfl,rfl,k,rfl⟩:=hcut;have bb:=λn=>below_drewN bW n;by_cases k1:d.kind=1
  ·have bU:(d.kind==1)=true:=by simp[k1]
   have OK:=I (Aw k1);clear k1;go_wp2_with (fail);refine (uV d.member _).mono ?_;rintro e w1 ⟨rfl,n1,rfl⟩;cases e1:dO d.member 0 11 with
   |false=>
    have E1:=I e1;clear e1;go_wp2;go_ret;exact ⟨by rw[OK.o,E1.o];rfl,bb _⟩
   |true=>
    have E1:=I e1;clear e1;go_wp2_with (fail);refine (nc d.af d.member 12 _ _ (HT.o.on (Pl.stays _) (bb _) (bb _).size) (by omega) (by omega)).mono ?_;rintro e w2 ⟨rfl,n2,rfl⟩
    have jQ: ∀v:Bool,cF d.af d.member 12=v->cA d=(v&&decide (d.al.toList=[])&&decide (d.bO=0)&&ea d):=by
     intro v hv;rw[OK.o,E1.o,hv];rfl
    have HF:=I jQ;clear jQ;cases e2:cF d.af d.member 12 with
    |false=>
     have HF:=I (HF.o _ e2);clear e2;go_wp2;go_ret;exact ⟨by rw[HF.o];rfl,bb _⟩
    |true=>
     have HF:=I (HF.o _ e2);clear e2;go_wp2
     all_goals
      go_ret;exact ⟨by rw[HF.o];simp[*],bb _⟩
  by_cases k2:d.kind=2
  ·have bU:(d.kind==1)=false:=by simp[k1]
   have b2:(d.kind==2)=true:=by simp[k2]
   have OK:=I (Ax k2);clear k1 k2;go_wp2_with (fail);refine (uV d.member _).mono ?_;rintro e w1 ⟨rfl,n1,rfl⟩;cases e1:dO d.member 0 11 with
   |false=>
    have E1:=I e1;clear e1;go_wp2;go_ret;exact ⟨by rw[OK.o,E1.o];rfl,bb _⟩
   |true=>
    have E1:=I e1;clear e1;go_wp2_with (fail);refine (sP d.al _ gQ.o).mono ?_;rintro e w2 ⟨rfl,n2,rfl⟩;cases e2:dU d.al.toList with
    |false=>
     have E2:=I e2;clear e2;go_wp2;go_ret;exact ⟨by rw[OK.o,E1.o,E2.o];rfl,bb _⟩
    |true=>
     have E2:=I e2;clear e2;go_wp2_with (fail);refine (xV d.bO _).mono ?_;rintro e w3 ⟨rfl,n3,rfl⟩;cases e3:dO d.bO 0 3 with
     |false=>
      have E3:=I e3;clear e3;go_wp2;go_ret;exact ⟨by rw[OK.o,E1.o,E2.o,E3.o];rfl,bb _⟩
     |true=>
      have jQ:cA d=(d.af.isEmpty&&ea d):=by
       rw[OK.o,E1.o,E2.o,e3];rfl
      have HF:=I jQ;clear jQ e3;go_wp2
      all_goals
       go_ret;exact ⟨by rw[HF.o];simp[*],bb _⟩
  by_cases k3:d.kind=3
  ·have bU:(d.kind==1)=false:=by simp[k1]
   have b2:(d.kind==2)=false:=by simp[k2]
   have b3:(d.kind==3)=true:=by simp[k3]
   have OK:=I (Ay k3);clear k1 k2 k3;go_wp2_with (fail);refine (uV d.member _).mono ?_;rintro e w1 ⟨rfl,n1,rfl⟩;cases e1:dO d.member 0 11 with
   |false=>
    have E1:=I e1;clear e1;go_wp2;go_ret;exact ⟨by rw[OK.o,E1.o];rfl,bb _⟩
   |true=>
    have E1:=I e1;clear e1;go_wp2_with (fail);refine (sP d.al _ gQ.o).mono ?_;rintro e w2 ⟨rfl,n2,rfl⟩;cases e2:dU d.al.toList with
    |false=>
     have E2:=I e2;clear e2;go_wp2;go_ret;exact ⟨by rw[OK.o,E1.o,E2.o];rfl,bb _⟩
    |true=>
     have E2:=I e2;clear e2;go_wp2_with (fail);refine (xW d.patch _ _ d.aj d.start d.aB (HP.o.on (Pl.stays _) (bb _) (bb _).size) HS.o).mono ?_;rintro e w3 ⟨rfl,dB⟩;have lR:=(bb (k+n1+n2)).trans (dB.mono (bb (k+n1+n2)).size);cases e3:iP d.patch d.aj d.start d.aB with
     |false=>
      have E3:=I e3;clear e3;go_wp2;go_ret;exact ⟨by rw[OK.o,E1.o,E2.o,E3.o];rfl,lR⟩
     |true=>
      have jQ:cA d=(d.af.isEmpty&&decide (d.bO=0)):=by
       rw[OK.o,E1.o,E2.o,e3];rfl
      have HF:=I jQ;clear jQ e3;go_wp2
      all_goals
       go_ret;exact ⟨by rw[HF.o];simp[*],lR⟩
  by_cases k4:d.kind=4
  ·have bU:(d.kind==1)=false:=by simp[k1]
   have b2:(d.kind==2)=false:=by simp[k2]
   have b3:(d.kind==3)=false:=by simp[k3]
   have b4:(d.kind==4)=true:=by simp[k4]
   have OK:=I (Az k4);clear k1 k2 k3 k4;go_wp2
   all_goals
    go_ret;exact ⟨by rw[OK.o];simp[*],bb _⟩
  have bU:(d.kind==1)=false:=by simp[k1]
  have b2:(d.kind==2)=false:=by simp[k2]
  have b3:(d.kind==3)=false:=by simp[k3]
  have b4:(d.kind==4)=false:=by simp[k4]
  have OK:=I (AA k1 k2 k3 k4);clear k1 k2 k3 k4;go_wp2;go_ret;exact ⟨by rw[OK.o];rfl,bb _⟩
def Qi (l:List UInt8):List UInt8:=l.map λc=>if c=10 then 59 else c
structure Env (B:Nat) (w:World):Prop where
 dec: ∀w',Below B w w'-> ∀n:Int,-9223372036854775808<=n->n<=9223372036854775807->
  Calls prog 47 #[.int .i64 n,.int .i64 10] w' (bT (.string ⟨(itoa n).toArray⟩) w')
 rep: ∀w',Below B w w'-> ∀l:List UInt8,l.length<=65536->Calls prog 22 #[.string ⟨l.toArray⟩,.string ⟨#[10]⟩,.string ⟨#[59]⟩] w' (bT (.string ⟨(Qi l).toArray⟩) w')
theorem Env.on {B:Nat} {w w1:World} (h:Env B w) (hb:Below B w w1):Env B w1 where
 dec:=λw' dF=>h.dec w' (hb.trans dF)
 rep:=λw' dF=>h.rep w' (hb.trans dF)
theorem aah {B B':Nat} {w:World} (h:Env B w) (hB:B<=B'):Env B' w where
 dec:=λw' hb=>h.dec w' (hb.mono hB)
 rep:=λw' hb=>h.rep w' (hb.mono hB)
theorem aag (B:Nat) (n:Int) (w:World) (hE:Env B w) (h1: -9223372036854775808<=n) (h2:n<=9223372036854775807):
 Calls prog 18 #[.int .i64 n] w (bT (.string ⟨(itoa n).toArray⟩) w):=by
 have H:=hE.dec w (Below.refl _ _) n h1 h2;have H:=I H;clear hE;go_enter func18,ntmps18;go_wp2_with (fail);refine (H.o).mono ?_;rintro e w1 ⟨rfl,hb⟩;go_wp2;go_ret;exact ⟨rfl,hb⟩
theorem gO (b:ByteArray):(⟨b.toList.toArray⟩:ByteArray)=b:=by
 apply ByteArray.ext;rw[ByteArray.toList_eq]
theorem Ns {P:Program} (l r:List UInt8) (hl:l.length<=8388608) (hr:r.length<=8388608) (w:World):(Op.stringOp .add ⟨l.toArray⟩ ⟨r.toArray⟩).run P w= .ok (.string ⟨(l++r).toArray⟩) w:=
 run_string_add_lists w l r (by omega) (by omega)
theorem aeb {P:Program} (l:List UInt8) (b:ByteArray) (hl:l.length<=8388608) (hr:b.toList.length<=8388608) (w:World):(Op.stringOp .add ⟨l.toArray⟩ b).run P w= .ok (.string ⟨(l++b.toList).toArray⟩) w:=by
 have:=run_string_add_lists (P:=P) w l b.toList (by omega) (by omega)
 rwa [gO]at this
theorem ag4 {P:Program} (l r t:List UInt8) (h:l++r=t) (hl:l.length<=8388608) (hr:r.length<=8388608) (w:World):(Op.stringOp .add ⟨l.toArray⟩ ⟨r.toArray⟩).run P w= .ok (.string ⟨t.toArray⟩) w:=
 h▸Ns l r hl hr w
theorem ag5 {P:Program} (l:List UInt8) (b:ByteArray) (t:List UInt8) (h:l++b.toList=t) (hl:l.length<=8388608) (hr:b.toList.length<=8388608) (w:World):(Op.stringOp .add ⟨l.toArray⟩ b).run P w= .ok (.string ⟨t.toArray⟩) w:=
 h▸aeb l b hl hr w
theorem acb {p:List aV} (h:bF p=true) {k:Nat} {e:aV} (hk:p[k]?=some e):dE e=true:=by
 rw[lp,Bool.and_eq_true,eo]at h;have aI:k<p.length:=(List.getElem?_eq_some_iff.1 hk).1;have:=h.1 k aI;unfold fA at this;rw[hk,Bool.and_eq_true]at this;exact this.1
theorem eZ {p:List aV} (h:bF p=true):p.length<=16:=by
 rw[lp,Bool.and_eq_true]at h;exact of_decide_eq_true h.2
theorem lq {l:List UInt8} (h:bP l=true):l.length<=24:=by
 unfold bP at h;simp only[Bool.and_eq_true]at h;exact of_decide_eq_true h.1.1.2
theorem yX {e:aV} (h:dE e=true):1<=e.id/\e.id<=99/\e.dA.toList.length<=24/\e.new.toList.length<=24:=by
 unfold dE at h;rw[Bool.and_eq_true]at h;obtain ⟨h1,h2⟩:=h;rw[dS]at h1;refine ⟨h1.1,h1.2,?_⟩;simp only[Bool.or_eq_true,Bool.and_eq_true,decide_eq_true_eq]at h2;rcases h2 with (⟨⟨_,h⟩,hn⟩|⟨⟨_,ho⟩,h⟩)|⟨⟨⟨_,ho⟩,hn⟩,_⟩
 ·exact ⟨by rw[h];simp,lq hn⟩
 ·exact ⟨lq ho,by rw[h];simp⟩
 exact ⟨lq ho,lq hn⟩
theorem ac1 {e:aV} (h:dE e=true):(HU e).length<=80:=by
 obtain ⟨h1,h2,h3,h4⟩:=yX h;have:=itoa_length_le e.id (by omega) (by omega);unfold HU
 split
 ·simp;omega
 split
 ·simp;omega
 simp;omega
theorem aec {p:List aV} (h:bF p=true) (k:Nat):(sN (p.take k)).length<=80*k:=by
 induction k with
 |zero=>simp[sN]
 |succ k ih=>
  by_cases aI:k<p.length
  ·rw[List.take_succ_eq_append_getElem aI];unfold sN at*;rw[List.flatMap_append,List.length_append];have:=ac1 (acb h (List.getElem?_eq_getElem aI));simp only[List.flatMap_cons,List.flatMap_nil,List.append_nil];omega
  have e1:p.take k=p:=List.take_of_length_le (by omega);have e2:p.take (k+1)=p:=List.take_of_length_le (by omega);rw[e2];rw[e1]at ih;omega
theorem aed {p:List aV} {k:Nat} {e:aV} (hk:p[k]?=some e):sN (p.take (k+1))=sN (p.take k)++HU e:=by
 have aI:k<p.length:=(List.getElem?_eq_some_iff.1 hk).1;rw[List.take_succ_eq_append_getElem aI];have:p[k]=e:=by rw[List.getElem?_eq_getElem aI]at hk;exact Option.some.inj hk
 unfold sN;rw[List.flatMap_append,this];simp
def Qj (es:List aV):List UInt8:=if bF es=true then sN es else []
theorem ae1 {es:List aV} (h:bF es=false):Qj es=[]:=by unfold Qj;rw[if_neg (by rw[h];simp)]
theorem ae2 {es:List aV} (h:bF es=true):Qj es=sN es:=by unfold Qj;rw[if_pos h]
theorem aay (es:List aV) (w:World) (v:Value) (h:bg w w.heap.size v es) (hs:bS es) (hE:Env w.heap.size w):
 Calls prog 21 #[v] w (bT (.tuple #[.string ⟨(Qj es).toArray⟩,.bool (bF es)]) w):=by
 have HV:=I (uS es w v h hs);obtain ⟨A,c,rfl,hc,hm,cn⟩:=h;unfold maxLen at hm;have rn:es.length<=9223372036854775807:=by omega
 have gH:=I cn;have E:=I hE;clear cn hs hE;go_enter func21,ntmps21;go_wp2_with (fail);refine HV.o.mono ?_;rintro e w1 ⟨rfl,bw⟩;cases cy:bF es with
 |false=>
  have HO:=I cy;clear cy;go_wp2;go_ret2;exact ⟨by rw[ae1 HO.o,HO.o];rfl,bw⟩
 |true=>
  have HO:=I cy;clear cy;go_wp2;go_loopw [4,6,12] (λs _ i wr=> ∃k:Nat,k<=es.length/\i= .int .i64 (k:Int)/\s= .string ⟨(sN (es.take k)).toArray⟩/\Below w.heap.size w wr) (λ_ _ i _=>es.length-(RowKit.intOf i).toNat);case atStart=>exact ⟨0,Nat.zero_le _,rfl,by simp[sN],bw⟩
  case round=>
   obtain ⟨k,hk,rfl,rfl,hb⟩:=hrel;by_cases aI:k<es.length
   ·obtain ⟨b,off,hA,bD,aC⟩:=gH.o (by omega);subst hA;have aH:es[k]?=some es[k]:=List.getElem?_eq_getElem aI;obtain ⟨c0,c1,c2,c3⟩:=ln aC aH;have x0:=(hb.cell (p:=⟨b,off+k*4,none⟩) bD).trans c0;have x1:=(hb.cell (p:=⟨b,off+k*4+1,none⟩) bD).trans c1;have x2:=(hb.cell (p:=⟨b,off+k*4+2,none⟩) bD).trans c2;have x3:=(hb.cell (p:=⟨b,off+k*4+3,none⟩) bD).trans c3;have SK:=I (aed aH);have hoe:=acb HO.o aH;have hlen:=aec HO.o k;have amT:=eZ HO.o;clear aH aC c0 c1 c2 c3;generalize es[k]=e at*;have am9:(sN (es.take k)).length<=1280:=by omega
    generalize sN (es.take k)=out at*;obtain ⟨i1,i2,i3,i4⟩:=yX hoe;have b5:=itoa_length_le e.id (by omega) (by omega);clear hoe hlen amT;have BQ:=hb.alloc hb.size (.cells #[.int .i64 e.kind,.int .i64 e.id,.string e.dA,.string e.new] 93);by_cases k1:e.kind=1
    ·have bU:(e.kind==1)=true:=by simp[k1]
     have hed:HU e=43::(itoa e.id++32::(e.new.toList++[10])):=by unfold HU;rw[if_pos k1]
     have uJ:=I hed;clear k1 hed;go_upto_region 10 with (fail)
     obtain ⟨W,hW⟩: ∃W:World,W=wr.alloc (.cells #[.int .i64 e.kind,.int .i64 e.id,.string e.dA,.string e.new] 93):=⟨_,rfl⟩
     rw[<-hW]at BQ;have y1:W.cell? ⟨wr.heap.size,1,none⟩=some (.int .i64 e.id):=by rw[hW];simp[go_sem]
     have y2:W.cell? ⟨wr.heap.size,2,none⟩=some (.string e.dA):=by rw[hW];simp[go_sem]
     have y3:W.cell? ⟨wr.heap.size,3,none⟩=some (.string e.new):=by rw[hW];simp[go_sem]
     rw[<-hW];clear hW x0 x1 x2 x3;have z1:=λx:ar W=>x.cell y1;have z2:=λx:ar W=>x.cell y2;have z3:=λx:ar W=>x.cell y3;clear y1 y2 y3;have q0: ∀w,(Op.stringOp .add ⟨#[43]⟩ ⟨(itoa e.id).toArray⟩).run prog w= .ok (.string ⟨(43::itoa e.id).toArray⟩) w:=λw=>ag4 [43] (itoa e.id) _ (by simp) (by simp) (by omega) w;have q1: ∀w,(Op.stringOp .add ⟨(43::itoa e.id).toArray⟩ ⟨#[32]⟩).run prog w= .ok (.string ⟨(43::(itoa e.id++[32])).toArray⟩) w:=λw=>ag4 (43::itoa e.id) [32] _ (by simp) (by simp;omega) (by simp) w;have q2: ∀w,(Op.stringOp .add ⟨(43::(itoa e.id++[32])).toArray⟩ e.new).run prog w= .ok (.string ⟨(43::(itoa e.id++(32::e.new.toList))).toArray⟩) w:=λw=>ag5 (43::(itoa e.id++[32])) e.new _ (by simp) (by simp;omega) (by omega) w;have q3: ∀w,(Op.stringOp .add ⟨(43::(itoa e.id++(32::e.new.toList))).toArray⟩ ⟨#[10]⟩).run prog w= .ok (.string ⟨(43::(itoa e.id++(32::(e.new.toList++[10])))).toArray⟩) w:=λw=>ag4 (43::(itoa e.id++(32::e.new.toList))) [10] _ (by simp) (by simp;omega) (by simp) w;have q4: ∀w,(Op.stringOp .add ⟨out.toArray⟩ ⟨(43::(itoa e.id++(32::(e.new.toList++[10])))).toArray⟩).run prog w= .ok (.string ⟨(out++43::(itoa e.id++(32::(e.new.toList++[10])))).toArray⟩) w:=λw=>ag4 out (43::(itoa e.id++(32::(e.new.toList++[10])))) _ rfl (by omega) (by simp;omega) w;refine bj (by kernel_rfl) (by kernel_rfl) ?_
     repeat (go_big_quiet_step ((go_at_call 18;exact aq (aag w.heap.size _ _ (E.o.on (BQ.trans (Below.mono (ar.ok _) BQ.size))) (by omega) (by omega)))))
     refine wpQuiet_nil ?_;rintro _ ⟨y,rfl⟩;have bY:=BQ.trans (y.ok.mono BQ.size);go_wp2;go_roundw;case rel=>exact ⟨k+1,by omega,by go_num,by rw[SK.o,uJ.o],bY⟩
     case measure=>simp[RowKit.intOf];omega
    by_cases k2:e.kind=2
    ·have bU:(e.kind==1)=false:=by simp[k1]
     have b2:(e.kind==2)=true:=by simp[k2]
     have hed:HU e=45::(itoa e.id++32::(e.dA.toList++[10])):=by unfold HU;rw[if_neg k1,if_pos k2]
     have uJ:=I hed;clear k1 k2 hed;go_upto_region 12 with (fail)
     obtain ⟨W,hW⟩: ∃W:World,W=wr.alloc (.cells #[.int .i64 e.kind,.int .i64 e.id,.string e.dA,.string e.new] 93):=⟨_,rfl⟩
     rw[<-hW]at BQ;have y1:W.cell? ⟨wr.heap.size,1,none⟩=some (.int .i64 e.id):=by rw[hW];simp[go_sem]
     have y2:W.cell? ⟨wr.heap.size,2,none⟩=some (.string e.dA):=by rw[hW];simp[go_sem]
     have y3:W.cell? ⟨wr.heap.size,3,none⟩=some (.string e.new):=by rw[hW];simp[go_sem]
     rw[<-hW];clear hW x0 x1 x2 x3;have z1:=λx:ar W=>x.cell y1;have z2:=λx:ar W=>x.cell y2;have z3:=λx:ar W=>x.cell y3;clear y1 y2 y3;have q0: ∀w,(Op.stringOp .add ⟨#[45]⟩ ⟨(itoa e.id).toArray⟩).run prog w= .ok (.string ⟨(45::itoa e.id).toArray⟩) w:=λw=>ag4 [45] (itoa e.id) _ (by simp) (by simp) (by omega) w;have q1: ∀w,(Op.stringOp .add ⟨(45::itoa e.id).toArray⟩ ⟨#[32]⟩).run prog w= .ok (.string ⟨(45::(itoa e.id++[32])).toArray⟩) w:=λw=>ag4 (45::itoa e.id) [32] _ (by simp) (by simp;omega) (by simp) w;have q2: ∀w,(Op.stringOp .add ⟨(45::(itoa e.id++[32])).toArray⟩ e.dA).run prog w= .ok (.string ⟨(45::(itoa e.id++(32::e.dA.toList))).toArray⟩) w:=λw=>ag5 (45::(itoa e.id++[32])) e.dA _ (by simp) (by simp;omega) (by omega) w;have q3: ∀w,(Op.stringOp .add ⟨(45::(itoa e.id++(32::e.dA.toList))).toArray⟩ ⟨#[10]⟩).run prog w= .ok (.string ⟨(45::(itoa e.id++(32::(e.dA.toList++[10])))).toArray⟩) w:=λw=>ag4 (45::(itoa e.id++(32::e.dA.toList))) [10] _ (by simp) (by simp;omega) (by simp) w;have q4: ∀w,(Op.stringOp .add ⟨out.toArray⟩ ⟨(45::(itoa e.id++(32::(e.dA.toList++[10])))).toArray⟩).run prog w= .ok (.string ⟨(out++45::(itoa e.id++(32::(e.dA.toList++[10])))).toArray⟩) w:=λw=>ag4 out (45::(itoa e.id++(32::(e.dA.toList++[10])))) _ rfl (by omega) (by simp;omega) w;refine bj (by kernel_rfl) (by kernel_rfl) ?_
     repeat (go_big_quiet_step ((go_at_call 18;exact aq (aag w.heap.size _ _ (E.o.on (BQ.trans (Below.mono (ar.ok _) BQ.size))) (by omega) (by omega)))))
     refine wpQuiet_nil ?_;rintro _ ⟨y,rfl⟩;have bY:=BQ.trans (y.ok.mono BQ.size);go_wp2;go_roundw;case rel=>exact ⟨k+1,by omega,by go_num,by rw[SK.o,uJ.o],bY⟩
     case measure=>simp[RowKit.intOf];omega
    have bU:(e.kind==1)=false:=by simp[k1]
    have b2:(e.kind==2)=false:=by simp[k2]
    have hed:HU e=126::(itoa e.id++32::(e.dA.toList++124::(e.new.toList++[10]))):=by unfold HU;rw[if_neg k1,if_neg k2]
    have uJ:=I hed;clear k1 k2 hed;go_upto_region 8 with (fail)
    obtain ⟨W,hW⟩: ∃W:World,W=wr.alloc (.cells #[.int .i64 e.kind,.int .i64 e.id,.string e.dA,.string e.new] 93):=⟨_,rfl⟩
    rw[<-hW]at BQ;have y1:W.cell? ⟨wr.heap.size,1,none⟩=some (.int .i64 e.id):=by rw[hW];simp[go_sem]
    have y2:W.cell? ⟨wr.heap.size,2,none⟩=some (.string e.dA):=by rw[hW];simp[go_sem]
    have y3:W.cell? ⟨wr.heap.size,3,none⟩=some (.string e.new):=by rw[hW];simp[go_sem]
    rw[<-hW];clear hW x0 x1 x2 x3;have z1:=λx:ar W=>x.cell y1;have z2:=λx:ar W=>x.cell y2;have z3:=λx:ar W=>x.cell y3;clear y1 y2 y3;have q0: ∀w,(Op.stringOp .add ⟨#[126]⟩ ⟨(itoa e.id).toArray⟩).run prog w= .ok (.string ⟨(126::itoa e.id).toArray⟩) w:=λw=>ag4 [126] (itoa e.id) _ (by simp) (by simp) (by omega) w;have q1: ∀w,(Op.stringOp .add ⟨(126::itoa e.id).toArray⟩ ⟨#[32]⟩).run prog w= .ok (.string ⟨(126::(itoa e.id++[32])).toArray⟩) w:=λw=>ag4 (126::itoa e.id) [32] _ (by simp) (by simp;omega) (by simp) w;have q2: ∀w,(Op.stringOp .add ⟨(126::(itoa e.id++[32])).toArray⟩ e.dA).run prog w= .ok (.string ⟨(126::(itoa e.id++(32::e.dA.toList))).toArray⟩) w:=λw=>ag5 (126::(itoa e.id++[32])) e.dA _ (by simp) (by simp;omega) (by omega) w;have q3: ∀w,(Op.stringOp .add ⟨(126::(itoa e.id++(32::e.dA.toList))).toArray⟩ ⟨#[124]⟩).run prog w= .ok (.string ⟨(126::(itoa e.id++(32::(e.dA.toList++[124])))).toArray⟩) w:=λw=>ag4 (126::(itoa e.id++(32::e.dA.toList))) [124] _ (by simp) (by simp;omega) (by simp) w;have q4: ∀w,(Op.stringOp .add ⟨(126::(itoa e.id++(32::(e.dA.toList++[124])))).toArray⟩ e.new).run prog w= .ok (.string ⟨(126::(itoa e.id++(32::(e.dA.toList++(124::e.new.toList))))).toArray⟩) w:=λw=>ag5 (126::(itoa e.id++(32::(e.dA.toList++[124])))) e.new _ (by simp) (by simp;omega) (by omega) w;have q5: ∀w,(Op.stringOp .add ⟨(126::(itoa e.id++(32::(e.dA.toList++(124::e.new.toList))))).toArray⟩ ⟨#[10]⟩).run prog w= .ok (.string ⟨(126::(itoa e.id++(32::(e.dA.toList++(124::(e.new.toList++[10])))))).toArray⟩) w:=λw=>ag4 (126::(itoa e.id++(32::(e.dA.toList++(124::e.new.toList))))) [10] _ (by simp) (by simp;omega) (by simp) w;have q6: ∀w,(Op.stringOp .add ⟨out.toArray⟩ ⟨(126::(itoa e.id++(32::(e.dA.toList++(124::(e.new.toList++[10])))))).toArray⟩).run prog w= .ok (.string ⟨(out++126::(itoa e.id++(32::(e.dA.toList++(124::(e.new.toList++[10])))))).toArray⟩) w:=λw=>ag4 out (126::(itoa e.id++(32::(e.dA.toList++(124::(e.new.toList++[10])))))) _ rfl (by omega) (by simp;omega) w;refine bj (by kernel_rfl) (by kernel_rfl) ?_
    repeat (go_big_quiet_step ((go_at_call 18;exact aq (aag w.heap.size _ _ (E.o.on (BQ.trans (Below.mono (ar.ok _) BQ.size))) (by omega) (by omega)))))
    refine wpQuiet_nil ?_;rintro _ ⟨y,rfl⟩;have bY:=BQ.trans (y.ok.mono BQ.size);go_wp2;go_roundw;case rel=>exact ⟨k+1,by omega,by go_num,by rw[SK.o,uJ.o],bY⟩
    case measure=>simp[RowKit.intOf];omega
   have di:k=es.length:=by omega
   have eA: ¬(k:Int)<(es.length:Int):=by omega
   have jQ:es.take k=es:=List.take_of_length_le (by omega);rw[jQ];clear di aI jQ;go_wp2;go_ret2;exact ⟨by rw[ae2 HO.o,HO.o];rfl,hb⟩
def K7 (l:List UInt8):List Value:=[.string ⟨l.toArray⟩]
theorem abu (xs:List (List UInt8)) (sep:ByteArray) (w:World) (v:Value) (h:cz (Pl K7) 1 w w.heap.size v xs) (hn:xs.length<=140737488355328) (hl:(Lib.join xs sep.data.toList).length<=140737488355328):
 Calls prog 48 #[v,.string sep] w (bT (.string ⟨(Lib.join xs sep.data.toList).toArray⟩) w):=by
 obtain ⟨A,c,rfl,hc,hm,cn⟩:=h;by_cases h0:xs.length=0
 ·have:xs=[]:=List.eq_nil_of_length_eq_zero h0;subst this;exact (strings_Join_none A c sep w).mono λe w' ⟨he,hw⟩=>⟨he,by rw[hw];exact Below.refl _ _⟩
 obtain ⟨b,off,rfl,hb,aC⟩:=cn (by omega);have EZ:(xs.map (λl=>(⟨l.toArray⟩:ByteArray))).map (·.data.toList)=xs:=by simp[List.map_map,Function.comp_def]
 have H:=strings_Join b off c (xs.map (λl=>⟨l.toArray⟩)) sep w (λj x hx=>by
  rw[List.getElem?_map,Option.map_eq_some_iff]at hx;obtain ⟨l,mE,rfl⟩:=hx;obtain ⟨us,hu1,hu2,P'⟩:=aC j l mE;have:=P' 0 (.string ⟨l.toArray⟩) (by rw[hu2];rfl);simpa using this) hb (by rw[List.length_map];exact hn) (by rw[List.length_map];exact hc) (by rw[EZ];exact hl)
 rw[EZ,List.length_map]at H;exact H
def Qk (zs:List Int) (sep:List UInt8):List UInt8:=Lib.join (zs.map itoa) sep
theorem adV (zs:List Int) (hz: ∀z∈zs,-9223372036854775808<=z/\z<=9223372036854775807):Lib.lens (zs.map itoa)<=21*zs.length:=by
 induction zs with
 |nil=>simp[Lib.lens]
 |cons z r ih=>
  have:=itoa_length_le z (hz z (by simp)).1 (hz z (by simp)).2;have:=ih λx hx=>hz x (by simp[hx]);simp[Lib.lens]at*;omega
theorem agh (zs:List Int) (sep:List UInt8) (hs:sep.length<=16) (hz: ∀z∈zs,-9223372036854775808<=z/\z<=9223372036854775807):(Qk zs sep).length<=37*zs.length:=by
 cases zs with
 |nil=>simp[Qk,Lib.join_nil]
 |cons z r=>
  unfold Qk;have h1:=itoa_length_le z (hz z (by simp)).1 (hz z (by simp)).2;have h2:=adV r λx hx=>hz x (by simp[hx]);rw[List.map_cons,Lib.join_cons,List.length_append,Lib.joinTail_length,List.length_map,List.length_cons];have:sep.length*r.length<=16*r.length:=Nat.mul_le_mul_right _ hs;omega
theorem ahx:(prog.info? 9).map (λi=>(i.zero,i.size,i.bytes))=some (some (.string ⟨#[]⟩),1,16):=by kernel_rfl
theorem aT {w w':World} {base:Nat} {e:TypeId} {size:Nat} {v:Value} {n:Nat} {xs:List Value} (h:w.ownsRow base e size v n xs) (hb:Below w.heap.size w w'):w'.ownsRow base e size v n xs:=by
 obtain ⟨hl,h|⟨g,cap,kT,rfl,hg,hh,hr⟩⟩:=h
 ·exact ⟨hl,.inl h⟩
 refine ⟨hl,.inr ⟨g,cap,kT,rfl,hg,?_,hr⟩⟩
 have aI:g<w.heap.size:=by
  rcases Nat.lt_or_ge g w.heap.size with aI|eA
  ·exact aI
  rw[Array.getElem?_eq_none eA]at hh;cases hh
 rw[hb.block g aI];exact hh
theorem afh {zs:List Int} {k:Nat} {z:Int} (h:zs[k]?=some z):((zs.take (k+1)).map itoa).flatMap K7=((zs.take k).map itoa).flatMap K7++[.string ⟨(itoa z).toArray⟩]:=by
 obtain ⟨aI,rfl⟩:=List.getElem?_eq_some_iff.1 h;rw[List.take_succ_eq_append_getElem aI,List.map_append,List.flatMap_append];rfl
theorem aaE (zs:List Int) (sep:ByteArray) (w:World) (v:Value) (h:aae w w.heap.size v zs) (hn:zs.length<=64) (aj2:sep.data.toList.length<=16) (hz: ∀z∈zs,-9223372036854775808<=z/\z<=9223372036854775807) (hE:Env w.heap.size w):
 Calls prog 19 #[v,.string sep] w (bT (.string ⟨(Qk zs sep.data.toList).toArray⟩) w):=by
 obtain ⟨A,c,rfl,hc,hm,cn⟩:=h;unfold maxLen at hm;have rn:zs.length<=9223372036854775807:=by omega
 have gH:=I cn;have HZ:=I hz;have amU:=I aj2;have E:=I hE;obtain ⟨i0,hi,dK,ez,ek⟩:=info_parts ahx;clear cn hE hz aj2;go_enter func19,ntmps19;go_wp2;go_loopw [5,11] (λo i wr=> ∃k:Nat,k<=zs.length/\i= .int .i64 (k:Int)/\wr.ownsRow w.heap.size 9 1 o k (((zs.take k).map itoa).flatMap K7)/\Below w.heap.size w wr) (λ_ i _=>zs.length-(RowKit.intOf i).toNat);case atStart=>exact ⟨0,Nat.zero_le _,rfl,by simpa using World.ownsRow_made w #[] 0 (Nat.le_refl _) (Nat.zero_le _) rfl,(Below.refl _ _).alloc (Nat.le_refl _) _⟩
 case round=>
  obtain ⟨k,hk,rfl,cr,hb⟩:=hrel;by_cases aI:k<zs.length
  ·obtain ⟨b,off,hA,bD,aC⟩:=gH.o (by omega);subst hA;have aH:zs[k]?=some zs[k]:=List.getElem?_eq_getElem aI;have c0:=ints_at aC aH;have x0:=(hb.cell (p:=⟨b,off+k,none⟩) bD).trans c0;have OL:=HZ.o zs[k] (List.getElem_mem aI);have SK:=I (afh aH);clear aH aC c0;generalize zs[k]=z at*;obtain ⟨z1,z2⟩:=OL;have eH:=I cr;clear cr;generalize ((zs.take k).map itoa).flatMap K7=L at*;go_wp2_with (fail);refine (aag w.heap.size z _ (E.o.on hb) z1 z2).mono ?_;rintro e w1 ⟨rfl,bw⟩;have cr:=aT eH.o bw;have j7:=hb.trans (bw.mono hb.size);have ja:=j7.size;go_wp2_with (at_builtin;refine wpList_append_own _ rfl _ _ 55 rfl w.heap.size 9 i0 (.string ⟨#[]⟩) 1 16 underlying55 hi dK ez ek rfl (by decide) _ _ _ rfl (cr.alloc _) ⟨w1.heap.size,0,none⟩ 1 1 [.string ⟨(itoa z).toArray⟩] rfl rfl ?c1 ?c2 ?c3 ?c4 ?c5 ?_)
   case c1=>
    intro j u hj
    match j,hj with
    |0,hj=>simp at hj;subst hj;simp[Addr.add]
   case c2=>intro u hu;simp at hu;subst hu;rfl
   case c3=>unfold maxLen;omega
   case c4=>omega
   case c5=>simp;omega
   intro v' w2 aG aA _;have cL:=(j7.alloc j7.size _).grown aA (by simp;omega) (λj hj=>(cr.lt j hj).1);clear cr aA bw j7 ja x0;go_wp2;go_roundw;case rel=>exact ⟨k+1,by omega,by go_num,by rw[SK.o];exact aG,cL⟩
   case measure=>simp[RowKit.intOf];omega
  have di:k=zs.length:=by omega
  have eA: ¬(k:Int)<(zs.length:Int):=by omega
  have jQ:zs.take k=zs:=List.take_of_length_le (by omega);rw[jQ]at cr;have hS:cz (Pl K7) 1 wr wr.heap.size u5 (zs.map itoa):=cz.bI K7 (λ_=>rfl) (by rw[List.length_map,<-di];exact cr);have hl:=agh zs sep.data.toList amU.o HZ.o;have HJ:=I (abu (zs.map itoa) sep wr u5 hS (by rw[List.length_map];omega) (by unfold Qk at hl;omega));clear di aI jQ cr hS hl;go_wp2_with (fail);refine HJ.o.mono ?_;rintro e w1 ⟨rfl,bw⟩;go_wp2;go_ret;exact ⟨rfl,hb.trans (bw.mono hb.size)⟩
end Go.Proofs.YtbcggaldkihcaaaGreatDoor
