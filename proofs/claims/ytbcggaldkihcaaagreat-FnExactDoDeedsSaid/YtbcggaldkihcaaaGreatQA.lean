/- Decimal numerals: what is written is read back. No program here. -/
import Derived.Lib.ItoaLen
import Derived.Lib.ParseIntB
import Derived.Lib.IndexMore
import Derived.Lib.ItoaNum
import Derived.Lib.Replace
import Derived.Lib.CountLaws
import Derived.Lib.Join
import Derived.Test.YtbcggaldkihcaaaGreatProg
import Derived.WalkKit
import Derived.WalkSpells
import Derived.WalkLawsBesides
import Derived.Deep.QuietTactic
import Derived.BigQuiet
import Derived.Lib.Hide
import Derived.Deep.DeepCutAuto
import Derived.Deep.RegionHeld3
import Derived.RegionCalls
import Derived.Lib.AppendIntMem
import Derived.Lib.AtoiErrMem
import Derived.Lib.Split
set_option maxHeartbeats 8000000
set_option maxRecDepth 100000
namespace Go.Proofs.YtbcggaldkihcaaaGreat
def ag (p:Prop):Prop:=p
theorem I {p:Prop} (h:p):ag p:=h
theorem ag.o {p:Prop} (h:ag p):p:=h
theorem aad:type_of% @Nat.le_refl:=@Nat.le_refl
theorem aaB:type_of% @Nat.le_trans:=@Nat.le_trans
theorem aar:type_of% @Nat.lt_of_lt_of_le:=@Nat.lt_of_lt_of_le
theorem abW:type_of% @Go.World.cell?_of_block:=@Go.World.cell?_of_block
theorem aae:type_of% @Go.RowKit.Below.refl:=@Go.RowKit.Below.refl
theorem aaL:type_of% @Go.World.block_lt_of_cell?:=@Go.World.block_lt_of_cell?
theorem aaf:type_of% @Nat.zero_le:=@Nat.zero_le
theorem aa0:type_of% @List.flatMap_cons:=@List.flatMap_cons
theorem aaW:type_of% @List.getElem?_append_left:=@List.getElem?_append_left
theorem aaN:type_of% @List.getElem?_append_right:=@List.getElem?_append_right
theorem aaO:type_of% @Nat.succ_mul:=@Nat.succ_mul
theorem abO:type_of% @List.eq_nil_of_length_eq_zero:=@List.eq_nil_of_length_eq_zero
theorem abo:type_of% @Nat.lt_or_ge:=@Nat.lt_or_ge
theorem ab5:type_of% @Array.getElem?_eq_none:=@Array.getElem?_eq_none
theorem aal:type_of% @List.getElem?_eq_some_iff:=@List.getElem?_eq_some_iff
theorem abX:type_of% @Nat.mul_le_mul_right:=@Nat.mul_le_mul_right
theorem abP:type_of% @List.getElem?_take:=@List.getElem?_take
theorem aaj:type_of% @if_pos:=@if_pos
theorem aan:type_of% @Nat.zero_add:=@Nat.zero_add
theorem abF:type_of% @Bool.eq_false_iff:=@Bool.eq_false_iff
theorem abA:type_of% @List.getD_eq_getElem?_getD:=@List.getD_eq_getElem?_getD
theorem aag:type_of% @List.getElem?_eq_getElem:=@List.getElem?_eq_getElem
theorem abk:type_of% @Go.ByteArray.toList_eq:=@Go.ByteArray.toList_eq
theorem aaD:type_of% @Bool.true_and:=@Bool.true_and
theorem abY:type_of% @beq_eq_false_iff_ne:=@beq_eq_false_iff_ne
theorem aax:type_of% @List.getElem_mem:=@List.getElem_mem
theorem aai:type_of% @Go.wpQuiet_nil:=@Go.wpQuiet_nil
theorem abd:type_of% @decide_eq_true:=@decide_eq_true
theorem aba:type_of% @decide_eq_false:=@decide_eq_false
theorem aao:type_of% @List.length_take:=@List.length_take
theorem aaG:type_of% @List.take_succ_eq_append_getElem:=@List.take_succ_eq_append_getElem
theorem aaC:type_of% @List.mem_of_getElem?:=@List.mem_of_getElem?
theorem aau:type_of% @List.mem_append:=@List.mem_append
theorem aas:type_of% @List.mem_singleton:=@List.mem_singleton
theorem aa1:type_of% @List.take_length:=@List.take_length
theorem abe:type_of% @List.contains_iff_mem:=@List.contains_iff_mem
theorem aay:type_of% @Bool.and_eq_true:=@Bool.and_eq_true
theorem aa3:type_of% @of_decide_eq_true:=@of_decide_eq_true
theorem aaU:type_of% @decide_eq_true_eq:=@decide_eq_true_eq
theorem abZ:type_of% @decide_eq_decide:=@decide_eq_decide
theorem ajY:type_of% @Go.IntWalk.i64_in:=@Go.IntWalk.i64_in
theorem aah:type_of% @if_neg:=@if_neg
theorem aak:type_of% @List.length_append:=@List.length_append
theorem aK:(∀{α:Type} (xs:List α) (i:Nat) (h:i<xs.toArray.size),xs.toArray[i]=xs[i]'(by simpa using h))/\(∀{α:Type} (x:α) (xs:List α) (h:0<(x::xs).length),(x::xs)[0]=x)/\(∀{α:Type} (x:α) (xs:List α) (i:Nat) (h:i+1<(x::xs).length),(x::xs)[i+1]=xs[i]'(Nat.lt_of_succ_lt_succ h)):=⟨λ_ _ _=>rfl,λ_ _ _=>rfl,λ_ _ _ _=>rfl⟩
theorem aM:(∀{α:Type} (xs:List α) (i:Nat) (a:α),xs.toArray.setIfInBounds i a=(xs.set i a).toArray)/\(∀{α:Type} (x a:α) (xs:List α),(x::xs).set 0 a=a::xs)/\(∀{α:Type} (x a:α) (xs:List α) (i:Nat),(x::xs).set (i+1) a=x::xs.set i a):=⟨λ_ _ _=>by simp,λ_ _ _=>rfl,λ_ _ _ _=>rfl⟩
open Tryz
open Go.Lib
def isDigit (c:UInt8):Prop:=48<=c.toNat/\c.toNat<=57
theorem Hv (d:Nat) (h:d<10):(UInt8.ofNat (48+d)).toNat=48+d:=by
 rw[UInt8.toNat_ofNat'];omega
def sK (c:UInt8) (l:List UInt8):List UInt8×List UInt8:=(l.takeWhile (·!=c),(l.dropWhile (·!=c)).drop 1)
def sL (c:UInt8):List UInt8->List (List UInt8)
 |[]=>[[]]
 |x::l=>if x=c then []::sL c l else match sL c l with|s::r=>(x::s)::r|[]=>[[x]]
open Go.RowKit
def iJ (b:Nat) (w w':World):Prop:=w.grownBy w' (some b)
theorem pI (b:Nat) (w:World):iJ b w w:=⟨rfl,rfl,rfl,aad _,λ_ _ _=>rfl⟩
theorem ll {a b c:World} {g:Nat} (h:iJ g a b) (k:iJ g b c):iJ g a c:=
 ⟨k.os.trans h.os,k.tape.trans h.tape,k.output.trans h.output,aaB h.size k.size,λi hi hn=>(k.block i (aar hi h.size) hn).trans (h.block i hi hn)⟩
theorem mX {a w:World} {g:Nat} (h:iJ g a w) {p:Addr} (hp:p.block=g\/a.heap.size<=p.block) (u:Value):iJ g a (w.setCell p u):=
 ⟨h.os,h.tape,h.output,by simpa [World.setCell]using h.size,λi hi gm=>(Below.heap_setCell w p u i (by
  rintro rfl;rcases hp with hp|hp
  ·exact gm (by rw[hp])
  omega)).trans (h.block i hi gm)⟩
theorem gx {a w:World} {g B:Nat} (h:iJ g a w) (hB:B<=g) (hs:B<=a.heap.size):Below B a w:=
 ⟨h.os,h.tape,h.output,h.size,λi hi=>h.block i (by omega) (λe=>by injection e;omega)⟩
theorem qy {b:Nat} {w w1:World} (h:iJ b w w1) (c o:Nat) (hc:c<w.heap.size) (gm:c≠b):w1.cell? ⟨c,o,none⟩=w.cell? ⟨c,o,none⟩/\w1.frozen? ⟨c,o,none⟩=w.frozen? ⟨c,o,none⟩:=by
 have e:w1.heap[c]?=w.heap[c]?:=h.block c hc (λe=>gm (by injection e));exact ⟨abW e,World.frozen?_of_block e⟩
theorem pJ {a b:Int} (h:a=b):Ending.returned (.int .i64 a)= .returned (.int .i64 b):=by rw[h]
def TC (n:Int) (w:World) (e:Ending) (w':World):Prop:=e= .returned (.int .i64 n)/\w=w'
theorem below_drewN {B:Nat} {a w:World} (h:Below B a w) (n:Nat):Below B a (w.drewN n):=⟨h.os,h.tape,h.output,h.size,h.block⟩
def f' (v:Value) (w:World) (e:Ending) (w':World):Prop:=e= .returned v/\ ∃k,w'=w.drewN k
def bT (v:Value) (w:World) (e:Ending) (w':World):Prop:=e= .returned v/\Below w.heap.size w w'
structure ar (W:World) where
 val:World
 ok:Below W.heap.size W val
instance TD (W:World):Nonempty (ar W):=⟨⟨W,aae _ _⟩⟩
theorem ar.cell {W:World} (x:ar W) {b o:Nat} {v:Value} (h:W.cell? ⟨b,o,none⟩=some v):x.val.cell? ⟨b,o,none⟩=some v:=by
 have hb:b<W.heap.size:=aaL W ⟨b,o,none⟩ h;exact (x.ok.cell (p:=⟨b,o,none⟩) hb).trans h
theorem ar.frozen {W:World} (x:ar W) {b o:Nat} (hb:b<W.heap.size):x.val.frozen? ⟨b,o,none⟩=W.frozen? ⟨b,o,none⟩:=x.ok.frozen (p:=⟨b,o,none⟩) hb
theorem bj {P:Program} {id:Nat} {Q:Exit->Act->World->Prop} {a:Act} {W:World} {l:List Oper} (hm:P.follows .mixedOrders=true) (hB:Region.lexB .any l.toArray=true)
 (h:wpQuiet P l.toArray (λw'=> ∃x:ar W,w'=x.val) (λa'=> ∀w',(∃x:ar W,w'=x.val)->Q .normal a' w') l a):(Code.region id l.toArray true).wp P Q a W:=
 wp_region_quiet (C:=λw'=> ∃x:ar W,w'=x.val) hm hB ⟨⟨W.drew,(aae _ _).drew⟩,rfl⟩ (by simpa using h)
theorem aq {P:Program} {f:FuncId} {args:Array Value} {W:World} {x:ar W} {v:Value} (h:Calls P f args x.val (bT v x.val)):
 Calls P f args x.val λe Nn=>e= .returned v/\ ∃y:ar W,Nn=y.val:=
 h.mono λ_ Nn ⟨he,hb⟩=>⟨he,⟨Nn,x.ok.trans (hb.mono x.ok.size)⟩,rfl⟩
theorem az {P:Program} {f:FuncId} {args:Array Value} {W:World} {x:ar W} {v:Value} (h:Calls P f args x.val (f' v x.val)):
 Calls P f args x.val λe Nn=>e= .returned v/\ ∃y:ar W,Nn=y.val:=
 h.mono λ_ Nn ⟨he,k,hk⟩=>⟨he,⟨Nn,by rw[hk];exact below_drewN x.ok k⟩,rfl⟩
def dO (n a b:Int):Bool:=decide (a<=n)&&decide (n<=b)
theorem ki {n a b:Int} (h1:a<=n) (h2:n<=b):dO n a b=true:=by unfold dO;simp[h1,h2]
theorem sM {n a b:Int} (h:n<a\/b<n):dO n a b=false:=by
 unfold dO;rcases h with h|h
 ·have: ¬a<=n:=by omega
  simp[this]
 have: ¬n<=b:=by omega
 simp[this]
theorem dS {n a b:Int}:dO n a b=true↔a<=n/\n<=b:=by unfold dO;simp
theorem K6 (n a b:Int) (w:World) (h1:a<=n) (h2:n<=b):
 Calls prog 98 #[.int .i64 n,.int .i64 a,.int .i64 b] w (f' (.bool true) w):=by
 go_enter func98,ntmps98;go_wp2;go_ret;exact ⟨rfl,0,rfl⟩
theorem Np (n a b:Int) (w:World) (h:n<a\/b<n):
 Calls prog 98 #[.int .i64 n,.int .i64 a,.int .i64 b] w (f' (.bool false) w):=by
 by_cases h1:a<=n
 ·have h2:decide (n<=b)=false:=by simp;omega
  clear h;go_enter func98,ntmps98;go_wp2;go_ret;exact ⟨rfl,0,rfl⟩
 have h2:n<a:=by omega
 clear h;go_enter func98,ntmps98;go_wp2;go_ret;exact ⟨rfl,0,rfl⟩
theorem rl (n a b:Int) (w:World):
 Calls prog 98 #[.int .i64 n,.int .i64 a,.int .i64 b] w (f' (.bool (dO n a b)) w):=by
 by_cases h:a<=n/\n<=b
 ·rw[ki h.1 h.2];exact K6 n a b w h.1 h.2
 have h':n<a\/b<n:=by omega
 rw[sM h'];exact Np n a b w h'
theorem jz (n a b:Int) (w:World) (h1:a<=n) (h2:n<=b):
 Calls prog 40 #[.int .i64 n,.int .i64 a,.int .i64 b] w (f' (.bool true) w):=by
 go_enter func40,ntmps40;go_wp2;go_ret;exact ⟨rfl,0,rfl⟩
theorem Hw (n a b:Int) (w:World) (h:n<a\/b<n):
 Calls prog 40 #[.int .i64 n,.int .i64 a,.int .i64 b] w (f' (.bool false) w):=by
 by_cases h1:a<=n
 ·have h2:decide (n<=b)=false:=by simp;omega
  clear h;go_enter func40,ntmps40;go_wp2;go_ret;exact ⟨rfl,0,rfl⟩
 have h2:n<a:=by omega
 clear h;go_enter func40,ntmps40;go_wp2;go_ret;exact ⟨rfl,0,rfl⟩
theorem lZ (n a b:Int) (w:World):
 Calls prog 40 #[.int .i64 n,.int .i64 a,.int .i64 b] w (f' (.bool (dO n a b)) w):=by
 by_cases h:a<=n/\n<=b
 ·rw[ki h.1 h.2];exact jz n a b w h.1 h.2
 have h':n<a\/b<n:=by omega
 rw[sM h'];exact Hw n a b w h'
def cz {α:Type} (R:World->Nat->List Value->α->Prop) (size:Nat) (w:World) (B:Nat) (v:Value) (xs:List α):Prop:=
 ∃(A:Option Addr) (c:Nat),v= .slice A xs.length c/\xs.length<=c/\c<=maxLen/\
  (0<xs.length-> ∃b off,A=some ⟨b,off,none⟩/\b<B/\
   ∀(k:Nat) (x:α),xs[k]?=some x-> ∃us,us.length=size/\R w B us x/\ ∀(j:Nat) (u:Value),us[j]?=some u->w.cell? ⟨b,off+k*size+j,none⟩=some u)
def Pl {α:Type} (f:α->List Value):World->Nat->List Value->α->Prop:=λ_ _ us x=>us=f x
def Hx {α:Type} (R:World->Nat->List Value->α->Prop):Prop:= ∀(w w':World) (B B':Nat) us x,R w B us x->Below B w w'->B<=B'->R w' B' us x
theorem Pl.stays {α:Type} (f:α->List Value):Hx (Pl f):=λ_ _ _ _ _ _ h _ _=>h
theorem cz.on {α:Type} {R:World->Nat->List Value->α->Prop} {size:Nat} {w w':World} {B B':Nat} {v:Value} {xs:List α} (h:cz R size w B v xs) (hR:Hx R) (hb:Below B w w') (hB:B<=B'):cz R size w' B' v xs:=by
 obtain ⟨A,c,rfl,h1,h2,h3⟩:=h;refine ⟨A,c,rfl,h1,h2,λh0=>?_⟩;obtain ⟨b,off,rfl,aI,hk⟩:=h3 h0;refine ⟨b,off,rfl,by omega,λk x hx=>?_⟩;obtain ⟨us,hl,hr,hc⟩:=hk k x hx;exact ⟨us,hl,hR _ _ _ _ _ _ hr hb hB,λj u hu=>(hb.cell (p:=⟨b,off+k*size+j,none⟩) aI).trans (hc j u hu)⟩
theorem cz.nil {α:Type} (R:World->Nat->List Value->α->Prop) (size:Nat) (w:World) (B:Nat) (A:Option Addr) (c:Nat) (hc:c<=maxLen):cz R size w B (.slice A 0 c) ([]:List α):=
 ⟨A,c,rfl,aaf _,hc,λh=>absurd h (Nat.lt_irrefl 0)⟩
theorem l5 {α β:Type} (f:α->List β) {size:Nat} (hf: ∀x,(f x).length=size): ∀(xs:List α) (k:Nat) (x:α) (j:Nat) (u:β),xs[k]?=some x->(f x)[j]?=some u->j<size->(xs.flatMap f)[k*size+j]?=some u
 |[],k,x,j,u,hx,_,_=>by simp at hx
 |y::ys,0,x,j,u,hx,hu,hj=>by
  simp only[List.getElem?_cons_zero,Option.some.injEq]at hx;subst hx;rw[aa0,aaW (by rw[hf];omega)];simpa using hu
 |y::ys,k+1,x,j,u,hx,hu,hj=>by
  rw[aa0,aaN (by rw[hf,aaO];omega),hf,show (k+1)*size+j-size=k*size+j by rw[aaO];omega];exact l5 f hf ys k x j u (by simpa using hx) hu hj
theorem cz.bI {α:Type} (f:α->List Value) {size:Nat} {w:World} {base:Nat} {e:TypeId} {v:Value} {xs:List α} (hf: ∀x,(f x).length=size) (h:w.ownsRow base e size v xs.length (xs.flatMap f)):cz (Pl f) size w w.heap.size v xs:=by
 obtain ⟨hl,h|⟨g,cap,kT,rfl,hg,hh,h1,h2,h3,h4⟩⟩:=h
 ·obtain ⟨rfl,h0⟩:=h;have:xs=[]:=abO h0;subst this;exact cz.nil _ _ _ _ _ _ (aaf _)
 refine ⟨_,cap,rfl,h1,h2,λh0=>⟨g,0,rfl,?_,λk x hx=>⟨f x,hf x,rfl,λj u hu=>?_⟩⟩⟩
 ·rcases abo g w.heap.size with aI|eA
  ·exact aI
  rw[ab5 eA]at hh;cases hh
 have hk:k<xs.length:=(aal.1 hx).1;have hj:j<size:=by rw[<-hf x];exact (aal.1 hu).1
 have Hy:=l5 f hf xs k x j u hx hu hj
 have aI:k*size+j<xs.length*size:=by
  have:(k+1)*size<=xs.length*size:=abX _ hk;rw[aaO]at this;omega
 have Nq:kT[k*size+j]?=some u:=by
  rw[<-Array.getElem?_toList,<-Hy,<-h4,abP,aaj aI]
 show w.cell? ⟨g,0+k*size+j,none⟩=some u
 rw[aan];simp[World.cell?,hh,Nq]
def cE (n:Nat) (f:Nat->Bool):Bool:=(List.range n).all f
theorem cR (n:Nat) (f:Nat->Bool):cE (n+1) f=(cE n f&&f n):=by
 unfold cE;rw[List.range_succ,List.all_append];simp
theorem eo {n:Nat} {f:Nat->Bool}:cE n f=true↔ ∀k,k<n->f k=true:=by
 unfold cE;simp
theorem fN {n k:Nat} {f:Nat->Bool} (hk:k<n) (h:f k=false):cE n f=false:=by
 rw[abF];intro e;rw[eo]at e;rw[e k hk]at h;cases h
structure aV where
 kind:Int
 id:Int
 dA:ByteArray
 new:ByteArray
def ah (e:aV):List Value:=[.int .i64 e.kind,.int .i64 e.id,.string e.dA,.string e.new]
def Hz (e:aV):Value:= .agg #[.int .i64 e.kind,.int .i64 e.id,.string e.dA,.string e.new]
structure dr where
 kind:Int
 member:Int
 af:List Int
 al:ByteArray
 bO:Int
 patch:List aV
 start:Int
 aB:Int
 aj:Int
def fJ (c:Nat):Bool:=(decide (97<=c)&&decide (c<=122))||(decide (48<=c)&&decide (c<=57))||decide (c=32)
def dv (l:List UInt8) (k:Nat):Nat:=(l.getD k 0).toNat
def bP (l:List UInt8):Bool:=
 cE l.length (λk=>fJ (dv l k))&&decide (1<=l.length)&&decide (l.length<=24)&&decide (dv l 0≠32)&&decide (dv l (l.length-1)≠32)
def dU (l:List UInt8):Bool:=
 cE l.length (λk=>decide (97<=dv l k)&&decide (dv l k<=122))&&decide (1<=l.length)&&decide (l.length<=10)
def dE (e:aV):Bool:=
 dO e.id 1 99&&((decide (e.kind=1)&&decide (e.dA.toList=[])&&bP e.new.toList)||(decide (e.kind=2)&&bP e.dA.toList&&decide (e.new.toList=[]))||
  (decide (e.kind=3)&&bP e.dA.toList&&bP e.new.toList&&!(e.dA.toList==e.new.toList)))
def Fj (p:List aV) (k:Nat):Int:=((p[k]?).map (·.id)).getD 0
def bF (p:List aV):Bool:=
 cE p.length (λk=>((p[k]?).map dE).getD true&&(decide (k=0)||decide (Fj p (k-1)<Fj p k)))&&decide (p.length<=16)
def HU (e:aV):List UInt8:=
 if e.kind=1 then 43::(itoa e.id++32::(e.new.toList++[10]))else if e.kind=2 then 45::(itoa e.id++32::(e.dA.toList++[10]))else 126::(itoa e.id++32::(e.dA.toList++124::(e.new.toList++[10])))
def sN (p:List aV):List UInt8:=p.flatMap HU
def cF (l:List Int) (member n:Int):Bool:=
 cE l.length (λk=>dO (l.getD k 0) 0 (n-1)&&decide (l.getD k 0≠member)&&!((l.take k).contains (l.getD k 0)))&&decide (l.length<=4)
def iP (p:List aV) (aj start aB:Int):Bool:=
 !p.isEmpty&&bF p&&dO aj 1 999&&decide (aj<=start)&&decide (start<aB)&&decide (aB<=1000)
def cA (d:dr):Bool:=
 let plain:=d.patch.isEmpty&&decide (d.start=0)&&decide (d.aB=0)&&decide (d.aj=0)
 (decide (d.kind=1)&&dO d.member 0 11&&cF d.af d.member 12&&decide (d.al.toList=[])&&decide (d.bO=0)&&plain)||
 (decide (d.kind=2)&&dO d.member 0 11&&dU d.al.toList&&dO d.bO 0 3&&d.af.isEmpty&&plain)||
 (decide (d.kind=3)&&dO d.member 0 11&&dU d.al.toList&&iP d.patch d.aj d.start d.aB&&d.af.isEmpty&&decide (d.bO=0))||
 (decide (d.kind=4)&&decide (d.member=0)&&d.af.isEmpty&&decide (d.al.toList=[])&&decide (d.bO=0)&&plain)
theorem iZ (s:ByteArray) (k:Nat) (h:k<s.size):dv s.data.toList k=s[k].toNat:=by
 unfold dv;rw[abA,aag (by simpa using h)];rfl
theorem iQ (c:Nat):fJ c=true↔(97<=c/\c<=122)\/(48<=c/\c<=57)\/c=32:=by
 unfold fJ;simp[or_assoc]
theorem io {c:Nat} (h: ¬((97<=c/\c<=122)\/(48<=c/\c<=57)\/c=32)):fJ c=false:=by
 rw[abF];exact λe=>h ((iQ c).1 e)
theorem jY (l:List UInt8) (k:Nat) (hk:k<l.length) (h:fJ (dv l k)=false):bP l=false:=by
 unfold bP;rw[fN hk h];rfl
theorem fM (s:ByteArray) (w:World) (hs:s.size<=maxLen):
 Calls prog 109 #[.string s] w (f' (.bool (bP s.toList)) w):=by
 rw[abk];unfold maxLen at hs;go_enter func109,ntmps109;go_wp2;go_loop [3,6] (λ_ i=> ∃k:Nat,k<=s.size/\i= .int .i64 (k:Int)/\cE k (λj=>fJ (dv s.data.toList j))=true) (λ_ i=>s.size-(intOf i).toNat);case atStart=>exact ⟨0,aaf _,rfl,rfl⟩
 case round=>
  obtain ⟨k,hk,rfl,dn⟩:=hrel;have HA:=I dn;clear dn;by_cases aI:k<s.size
  ·have hc:=iZ s k aI;have HS:=cR k (λj=>fJ (dv s.data.toList j));rw[HA.o,aaD,hc]at HS;have HS:=I HS;have HC:=I hc;clear hc;have hh:(97<=s[k].toNat/\s[k].toNat<=122)\/(122<s[k].toNat)\/(48<=s[k].toNat/\s[k].toNat<=57)\/(57<s[k].toNat/\s[k].toNat<97)\/s[k].toNat=32\/(s[k].toNat<48/\s[k].toNat≠32):=by omega
   rcases hh with hh|hh|hh|hh|hh|hh
   ·have a1: ¬(s[k].toNat:Int)<97:=by omega
    have a2:decide ((122:Int)<(s[k].toNat:Int))=false:=by simp;omega
    have kj:fJ s[k].toNat=true:=(iQ _).2 (by omega);have sO:=I kj;clear kj hh;go_wp2;go_round;case rel=>exact ⟨k+1,by omega,by go_num,HS.o.trans sO.o⟩
    case measure=>simp[intOf];omega
   ·have a1: ¬(s[k].toNat:Int)<97:=by omega
    have a2:(122:Int)<(s[k].toNat:Int):=by omega
    have a3: ¬(s[k].toNat:Int)<48:=by omega
    have a4:(57:Int)<(s[k].toNat:Int):=by omega
    have a5:((s[k].toNat:Int) !=32)=true:=by rw[bne_iff_ne];omega
    have a6:((s[k].toNat:Int)==32)=false:=by rw[abY];omega
    have kj:fJ s[k].toNat=false:=io (by omega);have sO:=I kj;clear kj hh;go_wp2;go_ret;exact ⟨by rw[jY s.data.toList k (by simpa using aI) (by rw[HC.o];exact sO.o)];rfl,0,rfl⟩
   ·have a1:(s[k].toNat:Int)<97:=by omega
    have a3: ¬(s[k].toNat:Int)<48:=by omega
    have a4:decide ((57:Int)<(s[k].toNat:Int))=false:=by simp;omega
    have kj:fJ s[k].toNat=true:=(iQ _).2 (by omega);have sO:=I kj;clear kj hh;go_wp2;go_round;case rel=>exact ⟨k+1,by omega,by go_num,HS.o.trans sO.o⟩
    case measure=>simp[intOf];omega
   ·have a1:(s[k].toNat:Int)<97:=by omega
    have a3: ¬(s[k].toNat:Int)<48:=by omega
    have a4:(57:Int)<(s[k].toNat:Int):=by omega
    have a5:((s[k].toNat:Int) !=32)=true:=by rw[bne_iff_ne];omega
    have a6:((s[k].toNat:Int)==32)=false:=by rw[abY];omega
    have kj:fJ s[k].toNat=false:=io (by omega);have sO:=I kj;clear kj hh;go_wp2;go_ret;exact ⟨by rw[jY s.data.toList k (by simpa using aI) (by rw[HC.o];exact sO.o)];rfl,0,rfl⟩
   ·have a1:(s[k].toNat:Int)<97:=by omega
    have a3:(s[k].toNat:Int)<48:=by omega
    have a5:((s[k].toNat:Int) !=32)=false:=by simp;omega
    have a6:((s[k].toNat:Int)==32)=true:=by simp;omega
    have kj:fJ s[k].toNat=true:=(iQ _).2 (by omega);have sO:=I kj;clear kj hh;go_wp2;go_round;case rel=>exact ⟨k+1,by omega,by go_num,HS.o.trans sO.o⟩
    case measure=>simp[intOf];omega
   have a1:(s[k].toNat:Int)<97:=by omega
   have a3:(s[k].toNat:Int)<48:=by omega
   have a5:((s[k].toNat:Int) !=32)=true:=by rw[bne_iff_ne];omega
   have a6:((s[k].toNat:Int)==32)=false:=by rw[abY];omega
   have kj:fJ s[k].toNat=false:=io (by omega);have sO:=I kj;clear kj hh;go_wp2;go_ret;exact ⟨by rw[jY s.data.toList k (by simpa using aI) (by rw[HC.o];exact sO.o)];rfl,0,rfl⟩
  have di:k=s.size:=by omega
  have Ar:bP s.data.toList=(decide (1<=s.size)&&decide (s.size<=24)&&decide (dv s.data.toList 0≠32)&&decide (dv s.data.toList (s.size-1)≠32)):=by
   unfold bP;have e:s.data.toList.length=s.size:=by simp
   rw[e];have h:=HA.o;rw[di]at h;rw[h,aaD]
  have HD:=I Ar;clear Ar;have qc:decide ((k:Int)<(s.size:Int))=false:=by simp;omega
  by_cases h1:1<=s.size
  ·by_cases h2:s.size<=24
   ·have b0:=iZ s 0 (by omega);have b1:=iZ s (s.size-1) (by omega);have B0:=I b0;have B1:=I b1;have e1:(1:Int)<=(s.size:Int):=by omega
    have e2:decide ((s.size:Int)<=24)=true:=by simp;omega
    clear b0 b1 di qc;have eA: ¬(k:Int)<(s.size:Int):=by omega
    by_cases h3:s[0].toNat=32
    ·have e3:((s[0].toNat:Int) !=32)=false:=by simp;omega
     go_wp2;go_ret;exact ⟨by rw[HD.o,B0.o];simp[h3],0,rfl⟩
    have e3:((s[0].toNat:Int) !=32)=true:=by simp;omega
    by_cases h4:s[s.size-1].toNat=32
    ·have e4:((s[s.size-1].toNat:Int) !=32)=false:=by simp;omega
     go_wp2;go_ret;exact ⟨by rw[HD.o,B1.o];simp[h4],0,rfl⟩
    have e4:((s[s.size-1].toNat:Int) !=32)=true:=by simp;omega
    go_wp2;go_ret;exact ⟨by rw[HD.o,B0.o,B1.o];simp[h1,h2,h3,h4],0,rfl⟩
   have e1:(1:Int)<=(s.size:Int):=by omega
   have e2:decide ((s.size:Int)<=24)=false:=by simp;omega
   have eA: ¬(k:Int)<(s.size:Int):=by omega
   clear di qc;have H2:=I h2;clear h2;go_wp2;go_ret;exact ⟨by rw[HD.o];simp[H2.o],0,rfl⟩
  have e1:decide ((1:Int)<=(s.size:Int))=false:=by simp;omega
  have eA: ¬(k:Int)<(s.size:Int):=by omega
  have H1:=I h1;clear di qc h1;go_wp2;go_ret;exact ⟨by rw[HD.o];simp[H1.o],0,rfl⟩
theorem CN {e:aV} (h:dO e.id 1 99=true) (hk:e.kind=1):dE e=(decide (e.dA.toList=[])&&bP e.new.toList):=by
 unfold dE;rw[h];simp[hk]
theorem Au {e:aV} (h:dO e.id 1 99=true) (hk:e.kind=2):dE e=(bP e.dA.toList&&decide (e.new.toList=[])):=by
 unfold dE;rw[h];simp[hk]
theorem xr {e:aV} (h:dO e.id 1 99=true) (hk:e.kind=3):dE e=(bP e.dA.toList&&bP e.new.toList&&!(e.dA.toList==e.new.toList)):=by
 unfold dE;rw[h];simp[hk]
theorem yW {e:aV} (h1:e.kind≠1) (h2:e.kind≠2) (h3:e.kind≠3):dE e=false:=by
 unfold dE;simp[h1,h2,h3]
theorem Fk {e:aV} (h:dO e.id 1 99=false):dE e=false:=by
 unfold dE;rw[h];rfl
def mY (e:aV):Prop:=e.dA.size<=maxLen/\e.new.size<=maxLen
theorem Fl (e:aV) (w:World) (hs:mY e):
 Calls prog 161 #[Hz e] w (bT (.bool (dE e)) w):=by
 obtain ⟨kind,id,dA,new⟩:=e;obtain ⟨CB,wY⟩:=hs;have CB:dA.size<=maxLen:=CB;have wY:new.size<=maxLen:=wY;have tN:=I CB;have Nr:=I wY;clear CB wY;show Calls prog 161 #[.agg #[.int .i64 kind,.int .i64 id,.string dA,.string new]] w _
 have xu: ∀k,Below w.heap.size w ((w.alloc (.cells #[.int .i64 kind,.int .i64 id,.string dA,.string new] 174)).drewN k):=λk=>below_drewN ((aae _ _).alloc (aad _) _) k;by_cases hid:1<=id/\id<=99
 ·have iq:dO id 1 99=true:=ki hid.1 hid.2;have HI:=I iq;have b1:=hid.1;have b2:=hid.2;clear iq hid;rcases (show kind=1\/kind=2\/kind=3\/(kind≠1/\kind≠2/\kind≠3) by omega)with rfl|rfl|rfl|⟨n1,n2,n3⟩
  ·have HK:=I (CN (e:=⟨1,id,dA,new⟩) HI.o rfl);by_cases ho:dA.toList=[]
   ·go_enter func161,ntmps161;go_wp2_with (fail);refine (jz _ _ _ _ b1 b2).mono ?_;rintro e w1 ⟨rfl,k,rfl⟩;go_wp2_with (fail);refine (fM new _ Nr.o).mono ?_;rintro e w2 ⟨rfl,k2,rfl⟩;go_wp2;go_ret;exact ⟨by rw[HK.o];simp[ho],xu _⟩
   go_enter func161,ntmps161;go_wp2_with (fail);refine (jz _ _ _ _ b1 b2).mono ?_;rintro e w1 ⟨rfl,k,rfl⟩;go_wp2;go_ret;exact ⟨by rw[HK.o];simp[ho],xu _⟩
  ·have HK:=I (Au (e:=⟨2,id,dA,new⟩) HI.o rfl);cases ho:bP dA.toList with
   |true=>
    have HO:=I ho;clear ho;by_cases hn:new.toList=[]
    ·go_enter func161,ntmps161;go_wp2_with (fail);refine (jz _ _ _ _ b1 b2).mono ?_;rintro e w1 ⟨rfl,k,rfl⟩;go_wp2_with (fail);refine (fM dA _ tN.o).mono ?_;rintro e w2 ⟨rfl,k2,rfl⟩;rw[HO.o];go_wp2;go_ret;exact ⟨by rw[HK.o];simp[HO.o,hn],xu _⟩
    go_enter func161,ntmps161;go_wp2_with (fail);refine (jz _ _ _ _ b1 b2).mono ?_;rintro e w1 ⟨rfl,k,rfl⟩;go_wp2_with (fail);refine (fM dA _ tN.o).mono ?_;rintro e w2 ⟨rfl,k2,rfl⟩;rw[HO.o];go_wp2;go_ret;exact ⟨by rw[HK.o];simp[HO.o,hn],xu _⟩
   |false=>
    have HO:=I ho;clear ho;go_enter func161,ntmps161;go_wp2_with (fail);refine (jz _ _ _ _ b1 b2).mono ?_;rintro e w1 ⟨rfl,k,rfl⟩;go_wp2_with (fail);refine (fM dA _ tN.o).mono ?_;rintro e w2 ⟨rfl,k2,rfl⟩;rw[HO.o];go_wp2;go_ret;exact ⟨by rw[HK.o];simp[HO.o],xu _⟩
  ·have HK:=I (xr (e:=⟨3,id,dA,new⟩) HI.o rfl);cases ho:bP dA.toList with
   |true=>
    have HO:=I ho;clear ho;cases hn:bP new.toList with
    |true=>
     have HN:=I hn;clear hn;cases he:(dA.toList==new.toList)with
     |true=>
      go_enter func161,ntmps161;go_wp2_with (fail);refine (jz _ _ _ _ b1 b2).mono ?_;rintro e w1 ⟨rfl,k,rfl⟩;go_wp2_with (fail);refine (fM dA _ tN.o).mono ?_;rintro e w2 ⟨rfl,k2,rfl⟩;rw[HO.o];go_wp2_with (fail);refine (fM new _ Nr.o).mono ?_;rintro e w2 ⟨rfl,k3,rfl⟩;rw[HN.o];go_wp2;go_ret;exact ⟨by rw[HK.o];simp[HO.o,HN.o,he],xu _⟩
     |false=>
      go_enter func161,ntmps161;go_wp2_with (fail);refine (jz _ _ _ _ b1 b2).mono ?_;rintro e w1 ⟨rfl,k,rfl⟩;go_wp2_with (fail);refine (fM dA _ tN.o).mono ?_;rintro e w2 ⟨rfl,k2,rfl⟩;rw[HO.o];go_wp2_with (fail);refine (fM new _ Nr.o).mono ?_;rintro e w2 ⟨rfl,k3,rfl⟩;rw[HN.o];go_wp2;go_ret;exact ⟨by rw[HK.o];simp[HO.o,HN.o,he],xu _⟩
    |false=>
     have HN:=I hn;clear hn;go_enter func161,ntmps161;go_wp2_with (fail);refine (jz _ _ _ _ b1 b2).mono ?_;rintro e w1 ⟨rfl,k,rfl⟩;go_wp2_with (fail);refine (fM dA _ tN.o).mono ?_;rintro e w2 ⟨rfl,k2,rfl⟩;rw[HO.o];go_wp2_with (fail);refine (fM new _ Nr.o).mono ?_;rintro e w2 ⟨rfl,k3,rfl⟩;rw[HN.o];go_wp2;go_ret;exact ⟨by rw[HK.o];simp[HO.o,HN.o],xu _⟩
   |false=>
    have HO:=I ho;clear ho;go_enter func161,ntmps161;go_wp2_with (fail);refine (jz _ _ _ _ b1 b2).mono ?_;rintro e w1 ⟨rfl,k,rfl⟩;go_wp2_with (fail);refine (fM dA _ tN.o).mono ?_;rintro e w2 ⟨rfl,k2,rfl⟩;rw[HO.o];go_wp2;go_ret;exact ⟨by rw[HK.o];simp[HO.o],xu _⟩
  have HK:=I (yW (e:=⟨kind,id,dA,new⟩) n1 n2 n3);have m1:(kind==1)=false:=by simp;omega
  have m2:(kind==2)=false:=by simp;omega
  have m3:(kind==3)=false:=by simp;omega
  clear n1 n2 n3;go_enter func161,ntmps161;go_wp2_with (fail);refine (jz _ _ _ _ b1 b2).mono ?_;rintro e w1 ⟨rfl,k,rfl⟩;go_wp2;go_ret;exact ⟨by rw[HK.o];rfl,xu _⟩
 have h':id<1\/99<id:=by omega
 have HK:=I (Fk (e:=⟨kind,id,dA,new⟩) (sM h'));have HN:=I h';clear h' hid;go_enter func161,ntmps161;go_wp2_with (fail);refine (Hw _ _ _ _ HN.o).mono ?_;rintro e w1 ⟨rfl,k,rfl⟩;go_wp2;go_ret;exact ⟨by rw[HK.o];rfl,xu _⟩
def bg (w:World) (B:Nat) (v:Value) (es:List aV):Prop:=cz (Pl ah) 4 w B v es
def bS (es:List aV):Prop:= ∀e,e∈es->mY e
theorem ln {w:World} {B b off:Nat} {es:List aV} (h: ∀(k:Nat) (x:aV),es[k]?=some x-> ∃us,us.length=4/\Pl ah w B us x/\ ∀(j:Nat) (u:Value),us[j]?=some u->w.cell? ⟨b,off+k*4+j,none⟩=some u) {k:Nat} {e:aV} (hk:es[k]?=some e):
 w.cell? ⟨b,off+k*4,none⟩=some (.int .i64 e.kind)/\w.cell? ⟨b,off+k*4+1,none⟩=some (.int .i64 e.id)/\w.cell? ⟨b,off+k*4+2,none⟩=some (.string e.dA)/\w.cell? ⟨b,off+k*4+3,none⟩=some (.string e.new):=by
 obtain ⟨us,hl,hp,hc⟩:=h k e hk;have hp:us=ah e:=hp;subst hp;exact ⟨hc 0 _ rfl,hc 1 _ rfl,hc 2 _ rfl,hc 3 _ rfl⟩
def fA (p:List aV) (k:Nat):Bool:=((p[k]?).map dE).getD true&&(decide (k=0)||decide (Fj p (k-1)<Fj p k))
theorem lp (p:List aV):bF p=(cE p.length (fA p)&&decide (p.length<=16)):=rfl
theorem oC {p:List aV} {k:Nat} {e:aV} (h:p[k]?=some e) (ho:dE e=false):fA p k=false:=by
 unfold fA;rw[h];simp[ho]
theorem mZ {p:List aV} {k:Nat} {e:aV} (hk:k=0) (h:p[k]?=some e) (ho:dE e=true):fA p k=true:=by
 subst hk;unfold fA;rw[h];simp[ho]
theorem m9 {p:List aV} {m:Nat} {d e:aV} (hd:p[m]?=some d) (h:p[m+1]?=some e) (ho:dE e=true):fA p (m+1)=decide (d.id<e.id):=by
 unfold fA Fj;rw[h];simp[ho,hd]
theorem kl {p:List aV} {k:Nat} (hk:k<p.length) (h:fA p k=false):bF p=false:=by
 rw[lp,fN hk h];rfl
theorem pK (e:aV) (w:World) (hs:mY e) (r:Bool) (h:dE e=r):
 Calls prog 161 #[.agg #[.int .i64 e.kind,.int .i64 e.id,.string e.dA,.string e.new]] w (bT (.bool r) w):=by
 rw[<-h];exact Fl e w hs
theorem uS (es:List aV) (w:World) (v:Value) (h:bg w w.heap.size v es) (hs:bS es):
 Calls prog 110 #[v] w (bT (.bool (bF es)) w):=by
 obtain ⟨A,c,rfl,hc,hm,cn⟩:=h;unfold maxLen at hm;have rn:es.length<=9223372036854775807:=by omega
 have gH:=I cn;have HS:=I hs;clear cn hs;go_enter func110,ntmps110;go_wp2;go_loopw [3,4,7] (λ_ _ i wr=> ∃k:Nat,k<=es.length/\i= .int .i64 (k:Int)/\cE k (fA es)=true/\Below w.heap.size w wr) (λ_ _ i _=>es.length-(intOf i).toNat);case atStart=>exact ⟨0,aaf _,rfl,rfl,aae _ _⟩
 case round=>
  obtain ⟨k,hk,rfl,dn,hb⟩:=hrel;have HA:=I dn;clear dn;by_cases aI:k<es.length
  ·obtain ⟨b,off,rfl,bD,aC⟩:=gH.o (by omega);have aH:es[k]?=some es[k]:=aag aI;obtain ⟨c0,c1,c2,c3⟩:=ln aC aH;have x0:=(hb.cell (p:=⟨b,off+k*4,none⟩) bD).trans c0;have x1:=(hb.cell (p:=⟨b,off+k*4+1,none⟩) bD).trans c1;have x2:=(hb.cell (p:=⟨b,off+k*4+2,none⟩) bD).trans c2;have x3:=(hb.cell (p:=⟨b,off+k*4+3,none⟩) bD).trans c3;have HG:=I aH;have HC:=I aC;have gU:=HS.o es[k] (aax aI);clear aH aC c0 c1 c2 c3;generalize es[k]=e at*;cases cy:dE e with
   |false=>
    have HO:=I cy;have HB:=I (kl aI (oC HG.o cy));clear cy;go_upto_region 4 with (fail)
    obtain ⟨W,hW⟩: ∃W:World,W=wr.alloc (.cells (ah e).toArray 174):=⟨_,rfl⟩
    change Code.wp _ _ _ _ (wr.alloc (.cells (ah e).toArray 174));have bW:Below w.heap.size w W:=by rw[hW];exact hb.alloc hb.size _
    have y0:W.cell? ⟨wr.heap.size,0,none⟩=some (.int .i64 e.kind):=by rw[hW];simp[go_sem,ah]
    have y1:W.cell? ⟨wr.heap.size,1,none⟩=some (.int .i64 e.id):=by rw[hW];simp[go_sem,ah]
    have y2:W.cell? ⟨wr.heap.size,2,none⟩=some (.string e.dA):=by rw[hW];simp[go_sem,ah]
    have y3:W.cell? ⟨wr.heap.size,3,none⟩=some (.string e.new):=by rw[hW];simp[go_sem,ah]
    rw[<-hW];clear hW x0 x1 x2 x3;have z0:=λx:ar W=>x.cell y0;have z1:=λx:ar W=>x.cell y1;have z2:=λx:ar W=>x.cell y2;have z3:=λx:ar W=>x.cell y3;clear y0 y1 y2 y3;refine bj (by kernel_rfl) (by kernel_rfl) ?_
    repeat (go_big_quiet_step ((go_at_call 161;exact aq (pK e _ gU false HO.o))))
    refine aai ?_;rintro _ ⟨y,rfl⟩;have bY:=bW.trans (y.ok.mono bW.size);go_wp2;go_ret;exact ⟨by rw[HB.o];rfl,bY⟩
   |true=>
    have HO:=I cy;clear cy;have gN:=cR k (fA es);rw[HA.o,aaD]at gN;have gN:=I gN;by_cases jA:k=0
    ·have HN:ag (cE (k+1) (fA es)=true):=gN.o.trans (mZ jA HG.o HO.o);have rc:decide ((0:Int)<(k:Int))=false:=by simp;omega
     have H0:decide (0<k)=false:=by simp;omega
     clear jA;go_upto_region 4 with (fail)
     obtain ⟨W,hW⟩: ∃W:World,W=wr.alloc (.cells (ah e).toArray 174):=⟨_,rfl⟩
     change Code.wp _ _ _ _ (wr.alloc (.cells (ah e).toArray 174));have bW:Below w.heap.size w W:=by rw[hW];exact hb.alloc hb.size _
     have y0:W.cell? ⟨wr.heap.size,0,none⟩=some (.int .i64 e.kind):=by rw[hW];simp[go_sem,ah]
     have y1:W.cell? ⟨wr.heap.size,1,none⟩=some (.int .i64 e.id):=by rw[hW];simp[go_sem,ah]
     have y2:W.cell? ⟨wr.heap.size,2,none⟩=some (.string e.dA):=by rw[hW];simp[go_sem,ah]
     have y3:W.cell? ⟨wr.heap.size,3,none⟩=some (.string e.new):=by rw[hW];simp[go_sem,ah]
     rw[<-hW];clear hW x0 x1 x2 x3;have z0:=λx:ar W=>x.cell y0;have z1:=λx:ar W=>x.cell y1;have z2:=λx:ar W=>x.cell y2;have z3:=λx:ar W=>x.cell y3;clear y0 y1 y2 y3;refine bj (by kernel_rfl) (by kernel_rfl) ?_
     repeat (go_big_quiet_step ((go_at_call 161;exact aq (pK e _ gU true HO.o))))
     refine aai ?_;rintro _ ⟨y,rfl⟩;have bY:=bW.trans (y.ok.mono bW.size);go_wp2;go_roundw;case rel=>exact ⟨k+1,by omega,by go_num,HN.o,bY⟩
     case measure=>simp[intOf];omega
    obtain ⟨m,rfl⟩: ∃m,k=m+1:=⟨k-1,by omega⟩
    have hd:es[m]?=some (es[m]'(by omega)):=aag (by omega);obtain ⟨_,d1,_,_⟩:=ln HC.o hd;generalize (es[m]'(by omega))=d at*;have HP:=I (m9 hd HG.o HO.o);clear hd jA;by_cases hid:d.id<e.id
    ·have HN:ag (cE (m+1+1) (fA es)=true):=gN.o.trans (HP.o.trans (abd hid));have uT: ¬(e.id<=d.id):=by omega
     go_upto_region 4 with (fail)
     obtain ⟨W,hW⟩: ∃W:World,W=wr.alloc (.cells (ah e).toArray 174):=⟨_,rfl⟩
     change Code.wp _ _ _ _ (wr.alloc (.cells (ah e).toArray 174));have bW:Below w.heap.size w W:=by rw[hW];exact hb.alloc hb.size _
     have y0:W.cell? ⟨wr.heap.size,0,none⟩=some (.int .i64 e.kind):=by rw[hW];simp[go_sem,ah]
     have y1:W.cell? ⟨wr.heap.size,1,none⟩=some (.int .i64 e.id):=by rw[hW];simp[go_sem,ah]
     have y2:W.cell? ⟨wr.heap.size,2,none⟩=some (.string e.dA):=by rw[hW];simp[go_sem,ah]
     have y3:W.cell? ⟨wr.heap.size,3,none⟩=some (.string e.new):=by rw[hW];simp[go_sem,ah]
     have y4:W.cell? ⟨b,off+m*4+1,none⟩=some (.int .i64 d.id):=(bW.cell (p:=⟨b,off+m*4+1,none⟩) bD).trans d1;have z4:=λx:ar W=>x.cell y4;clear d1 y4;rw[<-hW];clear hW x0 x1 x2 x3;have z0:=λx:ar W=>x.cell y0;have z1:=λx:ar W=>x.cell y1;have z2:=λx:ar W=>x.cell y2;have z3:=λx:ar W=>x.cell y3;clear y0 y1 y2 y3;refine bj (by kernel_rfl) (by kernel_rfl) ?_
     repeat (go_big_quiet_step ((go_at_call 161;exact aq (pK e _ gU true HO.o))))
     refine aai ?_;rintro _ ⟨y,rfl⟩;have bY:=bW.trans (y.ok.mono bW.size);go_wp2;go_roundw;case rel=>exact ⟨(m+1)+1,by omega,by go_num,HN.o,bY⟩
     case measure=>simp[intOf];omega
    have HB:=I (kl aI (HP.o.trans (aba hid)));have uT:e.id<=d.id:=by omega
    go_upto_region 4 with (fail)
    obtain ⟨W,hW⟩: ∃W:World,W=wr.alloc (.cells (ah e).toArray 174):=⟨_,rfl⟩
    change Code.wp _ _ _ _ (wr.alloc (.cells (ah e).toArray 174));have bW:Below w.heap.size w W:=by rw[hW];exact hb.alloc hb.size _
    have y0:W.cell? ⟨wr.heap.size,0,none⟩=some (.int .i64 e.kind):=by rw[hW];simp[go_sem,ah]
    have y1:W.cell? ⟨wr.heap.size,1,none⟩=some (.int .i64 e.id):=by rw[hW];simp[go_sem,ah]
    have y2:W.cell? ⟨wr.heap.size,2,none⟩=some (.string e.dA):=by rw[hW];simp[go_sem,ah]
    have y3:W.cell? ⟨wr.heap.size,3,none⟩=some (.string e.new):=by rw[hW];simp[go_sem,ah]
    have y4:W.cell? ⟨b,off+m*4+1,none⟩=some (.int .i64 d.id):=(bW.cell (p:=⟨b,off+m*4+1,none⟩) bD).trans d1;have z4:=λx:ar W=>x.cell y4;clear d1 y4;rw[<-hW];clear hW x0 x1 x2 x3;have z0:=λx:ar W=>x.cell y0;have z1:=λx:ar W=>x.cell y1;have z2:=λx:ar W=>x.cell y2;have z3:=λx:ar W=>x.cell y3;clear y0 y1 y2 y3;refine bj (by kernel_rfl) (by kernel_rfl) ?_
    repeat (go_big_quiet_step ((go_at_call 161;exact aq (pK e _ gU true HO.o))))
    refine aai ?_;rintro _ ⟨y,rfl⟩;have bY:=bW.trans (y.ok.mono bW.size);go_wp2;go_ret;exact ⟨by rw[HB.o];rfl,bY⟩
  have di:k=es.length:=by omega
  have hP:bF es=decide (es.length<=16):=by
   rw[lp,<-di,HA.o,aaD]
  have HP:=I hP;have eA: ¬(k:Int)<(es.length:Int):=by omega
  clear hP di aI;by_cases rp:es.length<=16
  ·have Hg:decide ((es.length:Int)<=16)=true:=by simp;omega
   have uU:=I rp;clear rp;go_wp2;go_ret;exact ⟨by rw[HP.o];simp[uU.o],hb⟩
  have Hg:decide ((es.length:Int)<=16)=false:=by simp;omega
  have uU:=I rp;clear rp;go_wp2;go_ret;exact ⟨by rw[HP.o];simp[uU.o],hb⟩
def ia (c:Nat):Bool:=decide (97<=c)&&decide (c<=122)
theorem m' (l:List UInt8) (k:Nat) (hk:k<l.length) (h:ia (dv l k)=false):dU l=false:=by
 unfold dU;have h':(decide (97<=dv l k)&&decide (dv l k<=122))=false:=h;rw[fN (f:=λk=>decide (97<=dv l k)&&decide (dv l k<=122)) hk h'];rfl
theorem sP (s:ByteArray) (w:World) (hs:s.size<=maxLen):
 Calls prog 104 #[.string s] w (f' (.bool (dU s.toList)) w):=by
 rw[abk];unfold maxLen at hs;go_enter func104,ntmps104;go_wp2;go_loop [3,6] (λ_ i=> ∃k:Nat,k<=s.size/\i= .int .i64 (k:Int)/\cE k (λj=>ia (dv s.data.toList j))=true) (λ_ i=>s.size-(intOf i).toNat);case atStart=>exact ⟨0,aaf _,rfl,rfl⟩
 case round=>
  obtain ⟨k,hk,rfl,dn⟩:=hrel;have HA:=I dn;clear dn;by_cases aI:k<s.size
  ·have hc:=iZ s k aI;have HS:=cR k (λj=>ia (dv s.data.toList j));rw[HA.o,aaD,hc]at HS;have HS:=I HS;have HC:=I hc;clear hc;have hh:(97<=s[k].toNat/\s[k].toNat<=122)\/(122<s[k].toNat)\/s[k].toNat<97:=by omega
   rcases hh with hh|hh|hh
   ·have a1: ¬(s[k].toNat:Int)<97:=by omega
    have a2:decide ((122:Int)<(s[k].toNat:Int))=false:=by simp;omega
    have kj:ia s[k].toNat=true:=by unfold ia;simp[hh.1,hh.2]
    have sO:=I kj;clear kj hh;go_wp2;go_round;case rel=>exact ⟨k+1,by omega,by go_num,HS.o.trans sO.o⟩
    case measure=>simp[intOf];omega
   ·have a1: ¬(s[k].toNat:Int)<97:=by omega
    have a2:decide ((122:Int)<(s[k].toNat:Int))=true:=by simp;omega
    have kj:ia s[k].toNat=false:=by unfold ia;simp;omega
    have HB:=I (m' s.data.toList k (by simpa using aI) (by rw[HC.o];exact kj));clear kj hh;go_wp2;go_ret;exact ⟨by rw[HB.o];rfl,0,rfl⟩
   have a1:(s[k].toNat:Int)<97:=by omega
   have kj:ia s[k].toNat=false:=by unfold ia;simp;omega
   have HB:=I (m' s.data.toList k (by simpa using aI) (by rw[HC.o];exact kj));clear kj hh;go_wp2;go_ret;exact ⟨by rw[HB.o];rfl,0,rfl⟩
  have di:k=s.size:=by omega
  have Ar:dU s.data.toList=(decide (1<=s.size)&&decide (s.size<=10)):=by
   unfold dU;have e:s.data.toList.length=s.size:=by simp
   rw[e];have h:=HA.o;rw[di]at h;have h':cE s.size (λk=>decide (97<=dv s.data.toList k)&&decide (dv s.data.toList k<=122))=true:=h;rw[h',aaD]
  have HD:=I Ar;have eA: ¬(k:Int)<(s.size:Int):=by omega
  clear Ar di aI;by_cases h1:1<=s.size
  ·have e1:decide ((1:Int)<=(s.size:Int))=true:=by simp;omega
   by_cases h2:s.size<=10
   ·have e2:decide ((s.size:Int)<=10)=true:=by simp;omega
    have H1:=I h1;have H2:=I h2;clear h1 h2;go_wp2;go_ret;exact ⟨by rw[HD.o];simp[H1.o,H2.o],0,rfl⟩
   have e2:decide ((s.size:Int)<=10)=false:=by simp;omega
   have H2:=I h2;clear h1 h2;go_wp2;go_ret;exact ⟨by rw[HD.o];simp[H2.o],0,rfl⟩
  have e1:decide ((1:Int)<=(s.size:Int))=false:=by simp;omega
  have H1:=I h1;clear h1;go_wp2;go_ret;exact ⟨by rw[HD.o];simp[H1.o],0,rfl⟩
theorem Fo (s:ByteArray) (w:World) (hs:s.size<=maxLen):
 Calls prog 150 #[.string s] w (f' (.bool (dU s.toList)) w):=by
 rw[abk];unfold maxLen at hs;go_enter func150,ntmps150;go_wp2;go_loop [3] (λi=> ∃k:Nat,k<=s.size/\i= .int .i64 (k:Int)/\cE k (λj=>ia (dv s.data.toList j))=true) (λi=>s.size-(intOf i).toNat);case atStart=>exact ⟨0,aaf _,rfl,rfl⟩
 case round=>
  obtain ⟨k,hk,rfl,dn⟩:=hrel;have HA:=I dn;clear dn;by_cases aI:k<s.size
  ·have hc:=iZ s k aI;have HS:=cR k (λj=>ia (dv s.data.toList j));rw[HA.o,aaD,hc]at HS;have HS:=I HS;have HC:=I hc;clear hc;have hh:(97<=s[k].toNat/\s[k].toNat<=122)\/(122<s[k].toNat)\/s[k].toNat<97:=by omega
   rcases hh with hh|hh|hh
   ·have a1: ¬(s[k].toNat:Int)<97:=by omega
    have a2:decide ((122:Int)<(s[k].toNat:Int))=false:=by simp;omega
    have kj:ia s[k].toNat=true:=by unfold ia;simp[hh.1,hh.2]
    have sO:=I kj;clear kj hh;go_wp2;go_round;case rel=>exact ⟨k+1,by omega,by go_num,HS.o.trans sO.o⟩
    case measure=>simp[intOf];omega
   ·have a1: ¬(s[k].toNat:Int)<97:=by omega
    have a2:decide ((122:Int)<(s[k].toNat:Int))=true:=by simp;omega
    have kj:ia s[k].toNat=false:=by unfold ia;simp;omega
    have HB:=I (m' s.data.toList k (by simpa using aI) (by rw[HC.o];exact kj));clear kj hh;go_wp2;go_ret;exact ⟨by rw[HB.o];rfl,0,rfl⟩
   have a1:(s[k].toNat:Int)<97:=by omega
   have kj:ia s[k].toNat=false:=by unfold ia;simp;omega
   have HB:=I (m' s.data.toList k (by simpa using aI) (by rw[HC.o];exact kj));clear kj hh;go_wp2;go_ret;exact ⟨by rw[HB.o];rfl,0,rfl⟩
  have di:k=s.size:=by omega
  have Ar:dU s.data.toList=(decide (1<=s.size)&&decide (s.size<=10)):=by
   unfold dU;have e:s.data.toList.length=s.size:=by simp
   rw[e];have h:=HA.o;rw[di]at h;have h':cE s.size (λk=>decide (97<=dv s.data.toList k)&&decide (dv s.data.toList k<=122))=true:=h;rw[h',aaD]
  have HD:=I Ar;have eA: ¬(k:Int)<(s.size:Int):=by omega
  clear Ar di aI;by_cases h1:1<=s.size
  ·have e1:decide ((1:Int)<=(s.size:Int))=true:=by simp;omega
   by_cases h2:s.size<=10
   ·have e2:decide ((s.size:Int)<=10)=true:=by simp;omega
    have H1:=I h1;have H2:=I h2;clear h1 h2;go_wp2;go_ret;exact ⟨by rw[HD.o];simp[H1.o,H2.o],0,rfl⟩
   have e2:decide ((s.size:Int)<=10)=false:=by simp;omega
   have H2:=I h2;clear h1 h2;go_wp2;go_ret;exact ⟨by rw[HD.o];simp[H2.o],0,rfl⟩
  have e1:decide ((1:Int)<=(s.size:Int))=false:=by simp;omega
  have H1:=I h1;clear h1;go_wp2;go_ret;exact ⟨by rw[HD.o];simp[H1.o],0,rfl⟩
theorem xV (n:Int) (w:World):Calls prog 107 #[.int .i64 n] w (f' (.bool (dO n 0 3)) w):=by
 have H:=I (lZ n 0 3 w);go_enter func107,ntmps107;go_wp2_with (fail);refine H.o.mono ?_;rintro e w1 ⟨rfl,k,rfl⟩;go_wp2;go_ret;exact ⟨rfl,k,rfl⟩
theorem uV (n:Int) (w:World):Calls prog 116 #[.int .i64 n] w (f' (.bool (dO n 0 11)) w):=by
 have H:=I (lZ n 0 11 w);go_enter func116,ntmps116;go_wp2_with (fail);refine H.o.mono ?_;rintro e w1 ⟨rfl,k,rfl⟩;go_wp2;go_ret;exact ⟨rfl,k,rfl⟩
theorem xW (es:List aV) (w:World) (v:Value) (aj start aB:Int) (h:bg w w.heap.size v es) (hs:bS es):
 Calls prog 105 #[v,.int .i64 aj,.int .i64 start,.int .i64 aB] w (bT (.bool (iP es aj start aB)) w):=by
 have HP:=I (uS es w v h hs)
 have hv: ∃A c,v= .slice A es.length c:=by
  obtain ⟨A,c,hv,_⟩:=h;exact ⟨A,c,hv⟩
 obtain ⟨A,c,rfl⟩:=hv;clear h hs;cases es with
 |nil=>
  go_enter func105,ntmps105;go_wp2;go_ret;exact ⟨rfl,aae _ _⟩
 |cons d ds=>
  have hl:decide ((0:Int)<((d::ds).length:Int))=true:=by simp
  have tO:decide (0<(d::ds).length)=true:=by simp
  generalize PD:d::ds=es at*;have gm:es.isEmpty=false:=by rw[<-PD];rfl
  have CC:=I gm;clear gm PD;go_enter func105,ntmps105;go_wp2_with (fail);refine HP.o.mono ?_;rintro e w1 ⟨rfl,hb⟩;cases hp:bF es with
  |false=>
   have HQ:=I hp;clear hp;go_wp2;go_ret;have hf:iP es aj start aB=false:=by unfold iP;rw[HQ.o];simp
   exact ⟨by rw[hf];rfl,hb⟩
  |true=>
   have HQ:=I hp;clear hp;go_wp2_with (fail);refine (lZ aj 1 999 w1).mono ?_;rintro e w2 ⟨rfl,k,rfl⟩;cases hi:dO aj 1 999 with
   |false=>
    have HI:=I hi;clear hi;go_wp2;go_ret;have hf:iP es aj start aB=false:=by unfold iP;rw[HI.o];simp
    exact ⟨by rw[hf];rfl,below_drewN hb k⟩
   |true=>
    have HI:=I hi;clear hi
    have jQ:iP es aj start aB=(decide (aj<=start)&&decide (start<aB)&&decide (aB<=1000)):=by
     unfold iP;rw[HQ.o,HI.o,CC.o];rfl
    have HF:=I jQ;clear jQ;by_cases c1:aj<=start
    ·have d1:decide (aj<=start)=true:=by simp;omega
     by_cases c2:start<aB
     ·have d2:decide (start<aB)=true:=by simp;omega
      have K1:=I c1;have K2:=I c2;clear c1 c2;go_wp2;go_ret;exact ⟨by rw[HF.o,d1,d2];simp,below_drewN hb k⟩
     have d2:decide (start<aB)=false:=by simp;omega
     have K2:=I c2;clear c1 c2;go_wp2;go_ret;exact ⟨by rw[HF.o,d2];simp,below_drewN hb k⟩
    have d1:decide (aj<=start)=false:=by simp;omega
    have K1:=I c1;clear c1;go_wp2;go_ret;exact ⟨by rw[HF.o,d1];simp,below_drewN hb k⟩
def ak (z:Int):List Value:=[.int .i64 z]
def Ints (w:World) (B:Nat) (v:Value) (zs:List Int):Prop:=cz (Pl ak) 1 w B v zs
theorem ints_at {w:World} {B b off:Nat} {zs:List Int} (h: ∀(k:Nat) (x:Int),zs[k]?=some x-> ∃us,us.length=1/\Pl ak w B us x/\ ∀(j:Nat) (u:Value),us[j]?=some u->w.cell? ⟨b,off+k*1+j,none⟩=some u) {k:Nat} {z:Int} (hk:zs[k]?=some z):
 w.cell? ⟨b,off+k,none⟩=some (.int .i64 z):=by
 obtain ⟨us,hl,hp,hc⟩:=h k z hk;have hp:us=ak z:=hp;subst hp;have:=hc 0 _ rfl;simpa using this
theorem cz.take {α:Type} {R:World->Nat->List Value->α->Prop} {size:Nat} {w:World} {B:Nat} {A:Option Addr} {n c:Nat} {xs:List α} (h:cz R size w B (.slice A n c) xs) (k:Nat) (hk:k<=xs.length):cz R size w B (.slice A k c) (xs.take k):=by
 obtain ⟨A',c',hv,h1,h2,h3⟩:=h;injection hv with e1 e2 e3
 subst e1 e3;have hl:(xs.take k).length=k:=by rw[aao];omega
 refine ⟨A,c,by rw[hl],by omega,h2,λh0=>?_⟩;obtain ⟨b,off,hA,hb,hc⟩:=h3 (by omega);refine ⟨b,off,hA,hb,λj x hx=>hc j x ?_⟩;rw[abP]at hx
 split at hx
 ·exact hx
 cases hx
def Fp (w:World) (zs:List Int) (x:Int) (e:Ending) (w':World):Prop:=
 ∃n:Int,e= .returned (.int .i64 n)/\w'=w/\(0<=n↔x∈zs)/\ -1<=n/\n<=9223372036854775807/\(0<=n->zs[n.toNat]?=some x/\x∉zs.take n.toNat)
theorem Fq (zs:List Int) (x:Int) (w:World) (v:Value) (h:Ints w w.heap.size v zs):
 Calls prog 158 #[v,.int .i64 x] w (Fp w zs x):=by
 obtain ⟨A,c,rfl,hc,hm,cn⟩:=h;unfold maxLen at hm;have rn:zs.length<=9223372036854775807:=by omega
 have gH:=I cn;clear cn;go_enter func158,ntmps158;go_wp2;go_loop [5,8] (λ_ i=> ∃k:Nat,k<=zs.length/\i= .int .i64 (k:Int)/\x∉zs.take k) (λ_ i=>zs.length-(intOf i).toNat);case atStart=>exact ⟨0,aaf _,rfl,by simp⟩
 case round=>
  obtain ⟨k,hk,rfl,rf⟩:=hrel;have HN:=I rf;clear rf;by_cases aI:k<zs.length
  ·obtain ⟨b,off,rfl,bD,aC⟩:=gH.o (by omega);have aH:zs[k]?=some zs[k]:=aag aI;have x0:=ints_at aC aH;have H5:zs.take (k+1)=zs.take k++[zs[k]]:=by rw[aaG aI]
   have HG:=I aH;have HT:=I H5;clear aH aC H5;generalize zs[k]=z at*;by_cases hz:x=z
   ·have ez:(x==z)=true:=by simp[hz]
    have HZ:=I hz;clear hz;go_wp2;go_ret;refine ⟨k,rfl,rfl,⟨λ_=>?_,λ_=>by omega⟩,by omega,by omega,λ_=>?_⟩
    ·rw[HZ.o];exact aaC HG.o
    rw[show ((k:Int)).toNat=k by omega];exact ⟨by rw[HZ.o];exact HG.o,HN.o⟩
   have ez:(x==z)=false:=by simp[hz]
   have HZ:=I hz;clear hz;go_wp2;go_round;case rel=>exact ⟨k+1,by omega,by go_num,by rw[HT.o,aau,aas];rintro (h|h);exact HN.o h;exact HZ.o h⟩
   case measure=>simp[intOf];omega
  have di:k=zs.length:=by omega
  have eA: ¬(k:Int)<(zs.length:Int):=by omega
  have HK:=I di;clear di aI;go_wp2;go_ret;refine ⟨-1,rfl,rfl,⟨λh=>by omega,λh=>?_⟩,by omega,by omega,λh=>by omega⟩;have:=HN.o;rw[HK.o,aa1]at this;exact absurd h this
theorem kL (zs:List Int) (x:Int) (w:World) (v:Value) (h:Ints w w.heap.size v zs):
 Calls prog 103 #[v,.int .i64 x] w (f' (.bool (zs.contains x)) w):=by
 have H:=I (Fq zs x w v h);clear h;go_enter func103,ntmps103;go_wp2_with (fail);refine H.o.mono ?_;rintro e w1 ⟨n,rfl,rfl,aU,h1,h2,_⟩;by_cases hn:0<=n
 ·have hd:decide (0<=n)=true:=by simp;omega
  have hc:zs.contains x=true:=by rw[abe];exact aU.1 hn
  have HC:=I hc;clear aU hn hc;go_wp2;go_ret;exact ⟨by rw[HC.o];rfl,0,rfl⟩
 have hd:decide (0<=n)=false:=by simp;omega
 have hc:zs.contains x=false:=by rw[abF,ne_eq,abe];exact λh=>hn (aU.2 h)
 have HC:=I hc;clear aU hn hc;go_wp2;go_ret;exact ⟨by rw[HC.o];rfl,0,rfl⟩
def kc (l:List Int) (member n:Int) (k:Nat):Bool:=dO (l.getD k 0) 0 (n-1)&&decide (l.getD k 0≠member)&&!((l.take k).contains (l.getD k 0))
theorem fo (l:List Int) (member n:Int):cF l member n=(cE l.length (kc l member n)&&decide (l.length<=4)):=rfl
theorem i' {l:List Int} {member n:Int} {k:Nat} (hk:k<l.length) (h:kc l member n k=false):cF l member n=false:=by
 rw[fo,fN hk h];rfl
theorem nb {l:List Int} {member n:Int} {k:Nat} {z:Int} (hz:l[k]?=some z):kc l member n k=(dO z 0 (n-1)&&decide (z≠member)&&!((l.take k).contains z)):=by
 have e:l.getD k 0=z:=by rw[abA,hz];rfl
 unfold kc;rw[e]
theorem nc (zs:List Int) (member n:Int) (w:World) (v:Value) (h:Ints w w.heap.size v zs) (kM: -1000<=n) (rq:n<=1000):
 Calls prog 41 #[v,.int .i64 member,.int .i64 n] w (f' (.bool (cF zs member n)) w):=by
 have HI:=I h;obtain ⟨A,c,rfl,hc,hm,cn⟩:=h;unfold maxLen at hm;have rn:zs.length<=9223372036854775807:=by omega
 have gH:=I cn;clear cn;go_enter func41,ntmps41;go_wp2;go_loopw [7,8,11] (λ_ _ i wr=> ∃k d:Nat,k<=zs.length/\i= .int .i64 (k:Int)/\cE k (kc zs member n)=true/\wr=w.drewN d) (λ_ _ i _=>zs.length-(intOf i).toNat);case atStart=>exact ⟨0,0,aaf _,rfl,rfl,rfl⟩
 case round=>
  obtain ⟨k,d,hk,rfl,dn,rfl⟩:=hrel;have HA:=I dn;clear dn;by_cases aI:k<zs.length
  ·obtain ⟨b,off,hA,bD,aC⟩:=gH.o (by omega);subst hA;have aH:zs[k]?=some zs[k]:=aag aI;have x0:=ints_at aC aH;have HG:=I aH;have HT:=I (nb (member:=member) (n:=n) aH);have gN:=cR k (kc zs member n);rw[HA.o,aaD]at gN;have gN:=I gN;have HSub:ag (Ints w w.heap.size (.slice (some ⟨b,off,none⟩) k c) (zs.take k)):=cz.take HI.o k hk;clear aH aC;generalize zs[k]=z at*;go_wp2_with (fail);refine (lZ z 0 (n-1) _).mono ?_;rintro e w1 ⟨rfl,d1,rfl⟩;cases h1:dO z 0 (n-1)with
   |false=>
    have HB:=I (i' aI (HT.o.trans (by rw[h1];rfl)));clear h1;go_wp2;go_ret;exact ⟨by rw[HB.o];rfl,_,rfl⟩
   |true=>
    have H1:=I h1;clear h1;by_cases hz:z=member
    ·have ez:(z==member)=true:=by simp[hz]
     have HB:=I (i' aI (HT.o.trans (by rw[H1.o];simp[hz])));clear hz;go_wp2;go_ret;exact ⟨by rw[HB.o];rfl,_,rfl⟩
    have ez:(z==member)=false:=by simp[hz]
    have HZ:=I hz;clear hz;have rc:(k:Int)<=(c:Int):=by omega
    have jA:(0:Int)<=(k:Int):=by omega
    go_wp2_with (fail);refine (kL (zs.take k) z _ _ (HSub.o.on (Pl.stays _) (below_drewN (aae _ _) _) (aad _))).mono ?_;rintro e w2 ⟨rfl,d2,rfl⟩;cases h2:(zs.take k).contains z with
    |true=>
     have HB:=I (i' aI (HT.o.trans (by rw[h2];simp)));clear h2;go_wp2;go_ret;exact ⟨by rw[HB.o];rfl,_,rfl⟩
    |false=>
     have HN:ag (cE (k+1) (kc zs member n)=true):=gN.o.trans (HT.o.trans (by rw[H1.o,h2];simp[HZ.o]));clear h2;go_wp2;go_roundw;case rel=>exact ⟨k+1,_,by omega,by go_num,HN.o,rfl⟩
     case measure=>simp[intOf];omega
  have di:k=zs.length:=by omega
  have hP:cF zs member n=decide (zs.length<=4):=by
   rw[fo,<-di,HA.o,aaD]
  have HP:=I hP;have eA: ¬(k:Int)<(zs.length:Int):=by omega
  clear hP di aI;by_cases h4:zs.length<=4
  ·have e4:decide ((zs.length:Int)<=4)=true:=by simp;omega
   have H4:=I h4;clear h4;go_wp2;go_ret;exact ⟨by rw[HP.o];simp[H4.o],_,rfl⟩
  have e4:decide ((zs.length:Int)<=4)=false:=by simp;omega
  have H4:=I h4;clear h4;go_wp2;go_ret;exact ⟨by rw[HP.o];simp[H4.o],_,rfl⟩
def ea (d:dr):Bool:=d.patch.isEmpty&&decide (d.start=0)&&decide (d.aB=0)&&decide (d.aj=0)
theorem Aw {d:dr} (hk:d.kind=1):cA d=(dO d.member 0 11&&cF d.af d.member 12&&decide (d.al.toList=[])&&decide (d.bO=0)&&ea d):=by
 unfold cA ea;simp[hk]
theorem Ax {d:dr} (hk:d.kind=2):cA d=(dO d.member 0 11&&dU d.al.toList&&dO d.bO 0 3&&d.af.isEmpty&&ea d):=by
 unfold cA ea;simp[hk]
theorem Ay {d:dr} (hk:d.kind=3):cA d=(dO d.member 0 11&&dU d.al.toList&&iP d.patch d.aj d.start d.aB&&d.af.isEmpty&&decide (d.bO=0)):=by
 unfold cA;simp[hk]
theorem Az {d:dr} (hk:d.kind=4):cA d=(decide (d.member=0)&&d.af.isEmpty&&decide (d.al.toList=[])&&decide (d.bO=0)&&ea d):=by
 unfold cA ea;simp[hk]
theorem AA {d:dr} (h1:d.kind≠1) (h2:d.kind≠2) (h3:d.kind≠3) (h4:d.kind≠4):cA d=false:=by
 unfold cA;simp[h1,h2,h3,h4]
theorem ib {α:Type} (l:List α):((l.length:Int)==0)=l.isEmpty:=by
 cases l with
 |nil=>rfl
 |cons a l=>simp;omega
theorem jB (n:Int):(n==0)=decide (n=0):=by
 by_cases h:n=0<;>simp[h]
theorem Fs (d:dr) (A1:Option Addr) (c1:Nat) (A2:Option Addr) (c2:Nat) (w:World) (hT:Ints w w.heap.size (.slice A1 d.af.length c1) d.af) (hP:bg w w.heap.size (.slice A2 d.patch.length c2) d.patch) (hs:bS d.patch) (ht:d.al.size<=maxLen):
 Calls prog 53 #[.agg #[.int .i64 d.kind,.int .i64 d.member,.slice A1 d.af.length c1,.string d.al,.int .i64 d.bO,.slice A2 d.patch.length c2,.int .i64 d.start,.int .i64 d.aB,.int .i64 d.aj]] w (bT (.bool (cA d)) w):=by
 have HT:=I hT;have HP:=I hP;have HS:=I hs;have gQ:=I ht;clear hT hP hs ht;go_enter func53,ntmps53;go_wp2;go_quiet (fail);go_upto_region 2 with (fail)
 obtain ⟨W,hW⟩: ∃W:World,W=w.alloc (.cells #[.int .i64 d.kind,.int .i64 d.member,.slice A1 d.af.length c1,.string d.al,.int .i64 d.bO,.slice A2 d.patch.length c2,.int .i64 d.start,.int .i64 d.aB,.int .i64 d.aj] 48):=⟨_,rfl⟩
 have bW:Below w.heap.size w W:=by rw[hW];exact (aae _ _).alloc (aad _) _
 have y0:W.cell? ⟨w.heap.size,0,none⟩=some (.int .i64 d.kind):=by rw[hW];simp[go_sem]
 have y1:W.cell? ⟨w.heap.size,1,none⟩=some (.int .i64 d.member):=by rw[hW];simp[go_sem]
 have y2:W.cell? ⟨w.heap.size,2,none⟩=some (.slice A1 d.af.length c1):=by rw[hW];simp[go_sem]
 have y3:W.cell? ⟨w.heap.size,3,none⟩=some (.string d.al):=by rw[hW];simp[go_sem]
 have y4:W.cell? ⟨w.heap.size,4,none⟩=some (.int .i64 d.bO):=by rw[hW];simp[go_sem]
 have y5:W.cell? ⟨w.heap.size,5,none⟩=some (.slice A2 d.patch.length c2):=by rw[hW];simp[go_sem]
 have y6:W.cell? ⟨w.heap.size,6,none⟩=some (.int .i64 d.start):=by rw[hW];simp[go_sem]
 have y7:W.cell? ⟨w.heap.size,7,none⟩=some (.int .i64 d.aB):=by rw[hW];simp[go_sem]
 have y8:W.cell? ⟨w.heap.size,8,none⟩=some (.int .i64 d.aj):=by rw[hW];simp[go_sem]
 rw[<-hW];clear hW;obtain ⟨G,hG⟩: ∃G:Nat,G=w.heap.size:=⟨_,rfl⟩
 rw[<-hG]at y0 y1 y2 y3 y4 y5 y6 y7 y8⊢;clear hG;go_cut [3,4,5,6] (λs3 s4 s5 s6 wx=>s3= .bool d.af.isEmpty/\s4= .bool d.al.toList.isEmpty/\s5= .bool (decide (d.bO=0))/\s6= .bool (ea d)/\ ∃k,wx=W.drewN k)
 case first=>
  have hp:=ib d.patch;cases e1:d.patch.isEmpty with
  |false=>
   rw[e1]at hp;have E1:=I e1;clear e1;go_wp2_with (fail);go_meet;exact ⟨by rw[ib],rfl,by rw[jB],by unfold ea;rw[E1.o];rfl,_,rfl⟩
  |true=>
   rw[e1]at hp;have E1:=I e1;clear e1;by_cases h1:d.start=0
   ·have b1:(d.start==0)=true:=by simp[h1]
    have H1:=I h1;clear h1;by_cases h2:d.aB=0
    ·have b2:(d.aB==0)=true:=by simp[h2]
     have H2:=I h2;clear h2;by_cases h3:d.aj=0
     ·have b3:(d.aj==0)=true:=by simp[h3]
      have H3:=I h3;clear h3;go_wp2_with (fail);go_meet;exact ⟨by rw[ib],rfl,by rw[jB],by unfold ea;rw[E1.o,H1.o,H2.o,H3.o];rfl,_,rfl⟩
     have b3:(d.aj==0)=false:=by simp[h3]
     have H3:=I h3;clear h3;go_wp2_with (fail);go_meet;exact ⟨by rw[ib],rfl,by rw[jB],by unfold ea;simp[H3.o],_,rfl⟩
    have b2:(d.aB==0)=false:=by simp[h2]
    have H2:=I h2;clear h2;go_wp2_with (fail);go_meet;exact ⟨by rw[ib],rfl,by rw[jB],by unfold ea;simp[H2.o],_,rfl⟩
   have b1:(d.start==0)=false:=by simp[h1]
   have H1:=I h1;clear h1;go_wp2_with (fail);go_meet;exact ⟨by rw[ib],rfl,by rw[jB],by unfold ea;simp[H1.o],_,rfl⟩
 case rest=>
  obtain ⟨rfl,rfl,rfl,rfl,k,rfl⟩:=hcut;have bb:=λn=>below_drewN bW n;by_cases k1:d.kind=1
  ·have b1:(d.kind==1)=true:=by simp[k1]
   have OK:=I (Aw k1);clear k1;go_wp2_with (fail);refine (uV d.member _).mono ?_;rintro e w1 ⟨rfl,n1,rfl⟩;cases e1:dO d.member 0 11 with
   |false=>
    have E1:=I e1;clear e1;go_wp2;go_ret;exact ⟨by rw[OK.o,E1.o];rfl,bb _⟩
   |true=>
    have E1:=I e1;clear e1;go_wp2_with (fail);refine (nc d.af d.member 12 _ _ (HT.o.on (Pl.stays _) (bb _) (bb _).size) (by omega) (by omega)).mono ?_;rintro e w2 ⟨rfl,n2,rfl⟩
    have jQ: ∀v:Bool,cF d.af d.member 12=v->cA d=(v&&decide (d.al.toList=[])&&decide (d.bO=0)&&ea d):=by
     intro v hv;rw[OK.o,E1.o,hv];rfl
    have HF:=I jQ;clear jQ;cases e2:cF d.af d.member 12 with
    |false=>
     have HF:=I (HF.o _ e2);clear e2;go_wp2;go_ret;exact ⟨by rw[HF.o];rfl,bb _⟩
    |true=>
     have HF:=I (HF.o _ e2);clear e2;go_wp2
     all_goals
      go_ret;exact ⟨by rw[HF.o];simp[*],bb _⟩
  by_cases k2:d.kind=2
  ·have b1:(d.kind==1)=false:=by simp[k1]
   have b2:(d.kind==2)=true:=by simp[k2]
   have OK:=I (Ax k2);clear k1 k2;go_wp2_with (fail);refine (uV d.member _).mono ?_;rintro e w1 ⟨rfl,n1,rfl⟩;cases e1:dO d.member 0 11 with
   |false=>
    have E1:=I e1;clear e1;go_wp2;go_ret;exact ⟨by rw[OK.o,E1.o];rfl,bb _⟩
   |true=>
    have E1:=I e1;clear e1;go_wp2_with (fail);refine (sP d.al _ gQ.o).mono ?_;rintro e w2 ⟨rfl,n2,rfl⟩;cases e2:dU d.al.toList with
    |false=>
     have E2:=I e2;clear e2;go_wp2;go_ret;exact ⟨by rw[OK.o,E1.o,E2.o];rfl,bb _⟩
    |true=>
     have E2:=I e2;clear e2;go_wp2_with (fail);refine (xV d.bO _).mono ?_;rintro e w3 ⟨rfl,n3,rfl⟩;cases e3:dO d.bO 0 3 with
     |false=>
      have E3:=I e3;clear e3;go_wp2;go_ret;exact ⟨by rw[OK.o,E1.o,E2.o,E3.o];rfl,bb _⟩
     |true=>
      have jQ:cA d=(d.af.isEmpty&&ea d):=by
       rw[OK.o,E1.o,E2.o,e3];rfl
      have HF:=I jQ;clear jQ e3;go_wp2
      all_goals
       go_ret;exact ⟨by rw[HF.o];simp[*],bb _⟩
  by_cases k3:d.kind=3
  ·have b1:(d.kind==1)=false:=by simp[k1]
   have b2:(d.kind==2)=false:=by simp[k2]
   have b3:(d.kind==3)=true:=by simp[k3]
   have OK:=I (Ay k3);clear k1 k2 k3;go_wp2_with (fail);refine (uV d.member _).mono ?_;rintro e w1 ⟨rfl,n1,rfl⟩;cases e1:dO d.member 0 11 with
   |false=>
    have E1:=I e1;clear e1;go_wp2;go_ret;exact ⟨by rw[OK.o,E1.o];rfl,bb _⟩
   |true=>
    have E1:=I e1;clear e1;go_wp2_with (fail);refine (sP d.al _ gQ.o).mono ?_;rintro e w2 ⟨rfl,n2,rfl⟩;cases e2:dU d.al.toList with
    |false=>
     have E2:=I e2;clear e2;go_wp2;go_ret;exact ⟨by rw[OK.o,E1.o,E2.o];rfl,bb _⟩
    |true=>
     have E2:=I e2;clear e2;go_wp2_with (fail);refine (xW d.patch _ _ d.aj d.start d.aB (HP.o.on (Pl.stays _) (bb _) (bb _).size) HS.o).mono ?_;rintro e w3 ⟨rfl,dB⟩;have lR:=(bb (k+n1+n2)).trans (dB.mono (bb (k+n1+n2)).size);cases e3:iP d.patch d.aj d.start d.aB with
     |false=>
      have E3:=I e3;clear e3;go_wp2;go_ret;exact ⟨by rw[OK.o,E1.o,E2.o,E3.o];rfl,lR⟩
     |true=>
      have jQ:cA d=(d.af.isEmpty&&decide (d.bO=0)):=by
       rw[OK.o,E1.o,E2.o,e3];rfl
      have HF:=I jQ;clear jQ e3;go_wp2
      all_goals
       go_ret;exact ⟨by rw[HF.o];simp[*],lR⟩
  by_cases k4:d.kind=4
  ·have b1:(d.kind==1)=false:=by simp[k1]
   have b2:(d.kind==2)=false:=by simp[k2]
   have b3:(d.kind==3)=false:=by simp[k3]
   have b4:(d.kind==4)=true:=by simp[k4]
   have OK:=I (Az k4);clear k1 k2 k3 k4;go_wp2
   all_goals
    go_ret;exact ⟨by rw[OK.o];simp[*],bb _⟩
  have b1:(d.kind==1)=false:=by simp[k1]
  have b2:(d.kind==2)=false:=by simp[k2]
  have b3:(d.kind==3)=false:=by simp[k3]
  have b4:(d.kind==4)=false:=by simp[k4]
  have OK:=I (AA k1 k2 k3 k4);clear k1 k2 k3 k4;go_wp2;go_ret;exact ⟨by rw[OK.o];rfl,bb _⟩
def Qi (l:List UInt8):List UInt8:=l.map λc=>if c=10 then 59 else c
theorem gO (b:ByteArray):(⟨b.toList.toArray⟩:ByteArray)=b:=by
 apply ByteArray.ext;rw[abk]
theorem Ns {P:Program} (l r:List UInt8) (hl:l.length<=8388608) (hr:r.length<=8388608) (w:World):(Op.stringOp .add ⟨l.toArray⟩ ⟨r.toArray⟩).run P w= .ok (.string ⟨(l++r).toArray⟩) w:=
 run_string_add_lists w l r (by omega) (by omega)
theorem eZ {p:List aV} (h:bF p=true):p.length<=16:=by
 rw[lp,aay]at h;exact aa3 h.2
theorem lq {l:List UInt8} (h:bP l=true):l.length<=24:=by
 unfold bP at h;simp only[aay]at h;exact aa3 h.1.1.2
theorem yX {e:aV} (h:dE e=true):1<=e.id/\e.id<=99/\e.dA.toList.length<=24/\e.new.toList.length<=24:=by
 unfold dE at h;rw[aay]at h;obtain ⟨h1,h2⟩:=h;rw[dS]at h1;refine ⟨h1.1,h1.2,?_⟩;simp only[Bool.or_eq_true,aay,aaU]at h2;rcases h2 with (⟨⟨_,h⟩,hn⟩|⟨⟨_,ho⟩,h⟩)|⟨⟨⟨_,ho⟩,hn⟩,_⟩
 ·exact ⟨by rw[h];simp,lq hn⟩
 ·exact ⟨lq ho,by rw[h];simp⟩
 exact ⟨lq ho,lq hn⟩
def Qj (es:List aV):List UInt8:=if bF es=true then sN es else []
def K7 (l:List UInt8):List Value:=[.string ⟨l.toArray⟩]
def Qk (zs:List Int) (sep:List UInt8):List UInt8:=Lib.join (zs.map itoa) sep
theorem aT {w w':World} {base:Nat} {e:TypeId} {size:Nat} {v:Value} {n:Nat} {xs:List Value} (h:w.ownsRow base e size v n xs) (hb:Below w.heap.size w w'):w'.ownsRow base e size v n xs:=by
 obtain ⟨hl,h|⟨g,cap,kT,rfl,hg,hh,hr⟩⟩:=h
 ·exact ⟨hl,.inl h⟩
 refine ⟨hl,.inr ⟨g,cap,kT,rfl,hg,?_,hr⟩⟩
 have aI:g<w.heap.size:=by
  rcases abo g w.heap.size with aI|eA
  ·exact aI
  rw[ab5 eA]at hh;cases hh
 rw[hb.block g aI];exact hh
def Ql (n:Int):List UInt8:=if n=0 then [110,111,110,101]else if n=1 then [121,101,115]else if n=2 then [110,111]else [98,108,97,110,107]
def H6 (d:dr):List UInt8:=
 if d.kind=1 then (if d.af=[]then [116,114,117,115,116,32]++itoa d.member else [116,114,117,115,116,32]++itoa d.member++[32]++Qk d.af [44])
 else if d.kind=2 then [118,111,116,101,32]++itoa d.member++[32]++d.al.toList++[32]++Ql d.bO
 else if d.kind=3 then [112,114,111,112,111,115,101,32]++itoa d.member++[32]++d.al.toList++[32]++Qk [d.aj,d.start,d.aB] [32]++[32]++Qi (sN d.patch)
 else [110,101,120,116]
def Su (d:dr):List UInt8:=if cA d=true then H6 d else []
theorem H7 {P:Program} (l r:List UInt8) (hl:l.length<=8388608) (hr:r.length<=8388608): ∃T:List UInt8,T=l++r/\T.length<=l.length+r.length/\ ∀w,(Op.stringOp .add ⟨l.toArray⟩ ⟨r.toArray⟩).run P w= .ok (.string ⟨T.toArray⟩) w:=
 ⟨_,rfl,by simp,λw=>Ns l r hl hr w⟩
noncomputable def inv {α:Type} (ok:α->Bool) (f:α->List UInt8) (t:List UInt8):Option α:=
 open Classical in if h: ∃x,ok x=true/\f x=t then some (Classical.choose h)else none
noncomputable def numOf (lo hi:Int) (t:List UInt8):Option Int:=inv (λz=>dO z lo hi) itoa t
def K8 (c:UInt8):Nat->List UInt8->List (List UInt8)
 |0,l=>[l]
 |k+1,l=>if c∈l then (sK c l).1::K8 c k (sK c l).2 else [l]
noncomputable def Qm (lo hi:Int):List (List UInt8)->Option (List Int)
 |[]=>some []
 |p::ps=>match numOf lo hi p,Qm lo hi ps with|some n,some ns=>some (n::ns)|_,_=>none
def Qn (e:aV):List UInt8:=
 if e.kind=1 then 43::(itoa e.id++32::e.new.toList)else if e.kind=2 then 45::(itoa e.id++32::e.dA.toList)else 126::(itoa e.id++32::(e.dA.toList++124::e.new.toList))
theorem gy {e:aV} (h:dE e=true):1<=e.id/\e.id<=99/\((e.kind=1/\e.dA=⟨#[]⟩/\bP e.new.toList=true)\/(e.kind=2/\bP e.dA.toList=true/\e.new=⟨#[]⟩)\/(e.kind=3/\bP e.dA.toList=true/\bP e.new.toList=true)):=by
 unfold dE at h;simp only[aay,Bool.or_eq_true,aaU,dS]at h;obtain ⟨⟨h1,h2⟩,h⟩:=h;refine ⟨h1,h2,?_⟩
 have nil: ∀b:ByteArray,b.toList=[]->b=⟨#[]⟩:=λb hb=>by
  rw[<-gO b,hb]
 rcases h with (⟨⟨h,ho⟩,hn⟩|⟨⟨h,ho⟩,hn⟩)|⟨⟨⟨h,ho⟩,hn⟩,_⟩
 ·exact .inl ⟨h,nil _ ho,hn⟩
 ·exact .inr (.inl ⟨h,ho,nil _ hn⟩)
 exact .inr (.inr ⟨h,ho,hn⟩)
noncomputable def V' (d:Bool) (lo hi:Int):List UInt8->aV
 |[]=>⟨0,0,⟨#[]⟩,⟨#[]⟩⟩
 |h::r=>
  if h=43 then ⟨1,(numOf lo hi (sK 32 r).1).getD 0,⟨#[]⟩,⟨(sK 32 r).2.toArray⟩⟩
  else if h=45 then ⟨2,(numOf lo hi (sK 32 r).1).getD 0,⟨(sK 32 r).2.toArray⟩,⟨#[]⟩⟩
  else if (d||h==126)=true then ⟨3,(numOf lo hi (sK 32 r).1).getD 0,⟨(sK 124 (sK 32 r).2).1.toArray⟩,⟨(sK 124 (sK 32 r).2).2.toArray⟩⟩
  else ⟨0,0,⟨#[]⟩,⟨#[]⟩⟩
noncomputable def EG (t:List UInt8):Option (List aV):=inv bF sN t
theorem l6 {l:List UInt8} (h:l.length<1\/24<l.length\/dv l 0=32\/dv l (l.length-1)=32):bP l=false:=by
 unfold bP;rcases h with h|h|h|h
 ·have:decide (1<=l.length)=false:=aba (by omega);rw[this];simp
 ·have:decide (l.length<=24)=false:=aba (by omega);rw[this];simp
 ·simp[h]
 simp[h]
theorem CO {l:List UInt8} (h1:1<=l.length) (h2:l.length<=24) (h3:dv l 0≠32) (h4:dv l (l.length-1)≠32) (h:cE l.length (λj=>fJ (dv l j))=true):bP l=true:=by
 unfold bP;rw[h];simp[h1,h2,h3,h4]
theorem pL (s:ByteArray) (w:World) (hs:s.size<=maxLen):
 Calls prog 185 #[.string s] w (f' (.bool (bP s.toList)) w):=by
 rw[abk];unfold maxLen at hs;have ja:s.data.toList.length=s.size:=by simp
 by_cases c1:s.size<1
 ·have HB:=I (l6 (l:=s.data.toList) (.inl (by omega)));have b1:decide ((s.size:Int)<1)=true:=by simp;omega
  clear ja c1;go_enter func185,ntmps185;go_wp2;go_ret;exact ⟨by rw[HB.o];rfl,0,rfl⟩
 by_cases c2:24<s.size
 ·have HB:=I (l6 (l:=s.data.toList) (.inr (.inl (by omega))));have b1:decide ((s.size:Int)<1)=false:=by simp;omega
  have b2:decide ((24:Int)<(s.size:Int))=true:=by simp;omega
  clear ja c1 c2;go_enter func185,ntmps185;go_wp2;go_ret;exact ⟨by rw[HB.o];rfl,0,rfl⟩
 have Sv:0<s.size:=by omega
 have Sw:s.size-1<s.size:=by omega
 have d0:=iZ s 0 Sv;have d1:=iZ s (s.size-1) Sw;have b1:decide ((s.size:Int)<1)=false:=by simp;omega
 have b2:decide ((24:Int)<(s.size:Int))=false:=by simp;omega
 have p0:(0:Int)<(s.size:Int):=by omega
 have e1:(1:Int)<=(s.size:Int):=by omega
 by_cases c3:(s[0]'Sv).toNat=32
 ·have HB:=I (l6 (l:=s.data.toList) (.inr (.inr (.inl (by rw[d0];exact c3)))));have b3:(((s[0]'Sv).toNat:Int)==32)=true:=by simp;omega
  clear ja c1 c2 c3 d0 d1;go_enter func185,ntmps185;go_wp2;go_ret;exact ⟨by rw[HB.o];rfl,0,rfl⟩
 have b3:(((s[0]'Sv).toNat:Int)==32)=false:=by simp;omega
 by_cases c4:(s[s.size-1]'Sw).toNat=32
 ·have HB:=I (l6 (l:=s.data.toList) (.inr (.inr (.inr (by rw[ja,d1];exact c4)))));have b4:(((s[s.size-1]'Sw).toNat:Int)==32)=true:=by simp;omega
  clear ja c1 c2 c3 c4 d0 d1;go_enter func185,ntmps185;go_wp2;go_ret;exact ⟨by rw[HB.o];rfl,0,rfl⟩
 have b4:(((s[s.size-1]'Sw).toNat:Int)==32)=false:=by simp;omega
 have H8:=I (λh=>CO (l:=s.data.toList) (by omega) (by omega) (by rw[d0];exact c3) (by rw[ja,d1];exact c4) h);clear c1 c2 c3 c4 d0 d1;go_enter func185,ntmps185;go_wp2;go_loop [3] (λi=> ∃k:Nat,k<=s.size/\i= .int .i64 (k:Int)/\cE k (λj=>fJ (dv s.data.toList j))=true) (λi=>s.size-(intOf i).toNat);case atStart=>exact ⟨0,aaf _,rfl,rfl⟩
 case round=>
  obtain ⟨k,hk,rfl,dn⟩:=hrel;have HA:=I dn;clear dn;by_cases aI:k<s.size
  ·have hc:=iZ s k aI;have HS:=cR k (λj=>fJ (dv s.data.toList j));rw[HA.o,aaD,hc]at HS;have HS:=I HS;have HC:=I hc;clear hc b1 b2 b3 b4;have hh:(97<=s[k].toNat/\s[k].toNat<=122)\/(122<s[k].toNat)\/(48<=s[k].toNat/\s[k].toNat<=57)\/(57<s[k].toNat/\s[k].toNat<97)\/s[k].toNat=32\/(s[k].toNat<48/\s[k].toNat≠32):=by omega
   rcases hh with hh|hh|hh|hh|hh|hh
   ·have aa:decide ((97:Int)<=(s[k].toNat:Int))=true:=by simp;omega
    have ab:decide ((s[k].toNat:Int)<=122)=true:=by simp;omega
    have ae:((s[k].toNat:Int)==32)=false:=by simp;omega
    have kj:fJ s[k].toNat=true:=(iQ _).2 (by omega);have sO:=I kj;clear kj hh;go_wp2;go_round;case rel=>exact ⟨k+1,by omega,by go_num,HS.o.trans sO.o⟩
    case measure=>simp[intOf];omega
   ·have aa:decide ((97:Int)<=(s[k].toNat:Int))=true:=by simp;omega
    have ab:decide ((s[k].toNat:Int)<=122)=false:=by simp;omega
    have ac:decide ((48:Int)<=(s[k].toNat:Int))=true:=by simp;omega
    have ad:decide ((s[k].toNat:Int)<=57)=false:=by simp;omega
    have ae:((s[k].toNat:Int)==32)=false:=by simp;omega
    have kj:fJ s[k].toNat=false:=io (by omega);have sO:=I kj;clear kj hh;go_wp2;go_ret;exact ⟨by rw[jY s.data.toList k (by simpa using aI) (by rw[HC.o];exact sO.o)];rfl,0,rfl⟩
   ·have aa:decide ((97:Int)<=(s[k].toNat:Int))=false:=by simp;omega
    have ab:decide ((s[k].toNat:Int)<=122)=true:=by simp;omega
    have ac:decide ((48:Int)<=(s[k].toNat:Int))=true:=by simp;omega
    have ad:decide ((s[k].toNat:Int)<=57)=true:=by simp;omega
    have ae:((s[k].toNat:Int)==32)=false:=by simp;omega
    have kj:fJ s[k].toNat=true:=(iQ _).2 (by omega);have sO:=I kj;clear kj hh;go_wp2;go_round;case rel=>exact ⟨k+1,by omega,by go_num,HS.o.trans sO.o⟩
    case measure=>simp[intOf];omega
   ·have aa:decide ((97:Int)<=(s[k].toNat:Int))=false:=by simp;omega
    have ab:decide ((s[k].toNat:Int)<=122)=true:=by simp;omega
    have ac:decide ((48:Int)<=(s[k].toNat:Int))=true:=by simp;omega
    have ad:decide ((s[k].toNat:Int)<=57)=false:=by simp;omega
    have ae:((s[k].toNat:Int)==32)=false:=by simp;omega
    have kj:fJ s[k].toNat=false:=io (by omega);have sO:=I kj;clear kj hh;go_wp2;go_ret;exact ⟨by rw[jY s.data.toList k (by simpa using aI) (by rw[HC.o];exact sO.o)];rfl,0,rfl⟩
   ·have aa:decide ((97:Int)<=(s[k].toNat:Int))=false:=by simp;omega
    have ab:decide ((s[k].toNat:Int)<=122)=true:=by simp;omega
    have ac:decide ((48:Int)<=(s[k].toNat:Int))=false:=by simp;omega
    have ad:decide ((s[k].toNat:Int)<=57)=true:=by simp;omega
    have ae:((s[k].toNat:Int)==32)=true:=by simp;omega
    have kj:fJ s[k].toNat=true:=(iQ _).2 (by omega);have sO:=I kj;clear kj hh;go_wp2;go_round;case rel=>exact ⟨k+1,by omega,by go_num,HS.o.trans sO.o⟩
    case measure=>simp[intOf];omega
   have aa:decide ((97:Int)<=(s[k].toNat:Int))=false:=by simp;omega
   have ab:decide ((s[k].toNat:Int)<=122)=true:=by simp;omega
   have ac:decide ((48:Int)<=(s[k].toNat:Int))=false:=by simp;omega
   have ad:decide ((s[k].toNat:Int)<=57)=true:=by simp;omega
   have ae:((s[k].toNat:Int)==32)=false:=by simp;omega
   have kj:fJ s[k].toNat=false:=io (by omega);have sO:=I kj;clear kj hh;go_wp2;go_ret;exact ⟨by rw[jY s.data.toList k (by simpa using aI) (by rw[HC.o];exact sO.o)];rfl,0,rfl⟩
  have di:k=s.size:=by omega
  have HK:=I (H8.o (by rw[ja,<-di];exact HA.o));have eA: ¬(k:Int)<(s.size:Int):=by omega
  clear di aI ja;go_wp2;go_ret;exact ⟨by rw[HK.o];rfl,0,rfl⟩
def ky (e:aV):Bool:=
 (decide (e.kind=1)&&decide (e.dA.toList=[])&&bP e.new.toList)||(decide (e.kind=2)&&bP e.dA.toList&&decide (e.new.toList=[]))||
  (decide (e.kind=3)&&bP e.dA.toList&&bP e.new.toList&&!(e.dA.toList==e.new.toList))
theorem oD (e:aV):dE e=(dO e.id 1 99&&ky e):=rfl
theorem ir (s:ByteArray) (w:World) (r:Bool) (hs:s.size<=maxLen) (h:bP s.toList=r):
 Calls prog 185 #[.string s] w (f' (.bool r) w):=h▸pL s w hs
theorem Fu (e:aV) (b o:Nat) (w:World) (hs:mY e) (c0:w.cell? ⟨b,o,none⟩=some (.int .i64 e.kind)) (c2:w.cell? ⟨b,o+2,none⟩=some (.string e.dA)) (c3:w.cell? ⟨b,o+3,none⟩=some (.string e.new)):
 Calls prog 182 #[.pointer (some ⟨b,o,none⟩)] w (bT (.bool (ky e)) w):=by
 obtain ⟨kind,id,dA,new⟩:=e;have c0:w.cell? ⟨b,o,none⟩=some (.int .i64 kind):=c0;have c2:w.cell? ⟨b,o+2,none⟩=some (.string dA):=c2;have c3:w.cell? ⟨b,o+3,none⟩=some (.string new):=c3;have tN:ag (dA.size<=maxLen):=I hs.1;have Nr:ag (new.size<=maxLen):=I hs.2;clear hs;rcases (show kind=1\/kind=2\/kind=3\/(kind≠1/\kind≠2/\kind≠3) by omega)with rfl|rfl|rfl|⟨n1,n2,n3⟩
 ·have HK:ag (ky ⟨1,id,dA,new⟩=(decide (dA.toList=[])&&bP new.toList)):=I (by simp[ky]);by_cases ho:dA.toList=[]
  ·go_enter func182,ntmps182;go_wp2_with (fail);refine (pL new _ Nr.o).mono ?_;rintro e w2 ⟨rfl,k2,rfl⟩;go_wp2;go_ret;exact ⟨by rw[HK.o];simp[ho],below_drewN (aae _ _) _⟩
  go_enter func182,ntmps182;go_wp2;go_ret;exact ⟨by rw[HK.o];simp[ho],aae _ _⟩
 ·have HK:ag (ky ⟨2,id,dA,new⟩=(bP dA.toList&&decide (new.toList=[]))):=I (by simp[ky]);cases ho:bP dA.toList with
  |true=>
   have HO:=I ho;clear ho;by_cases hn:new.toList=[]
   all_goals
    go_enter func182,ntmps182;go_wp2_with (fail);refine (pL dA _ tN.o).mono ?_;rintro e w2 ⟨rfl,k2,rfl⟩;rw[HO.o];go_wp2;go_ret;exact ⟨by rw[HK.o];simp[HO.o,hn],below_drewN (aae _ _) _⟩
  |false=>
   have HO:=I ho;clear ho;go_enter func182,ntmps182;go_wp2_with (fail);refine (pL dA _ tN.o).mono ?_;rintro e w2 ⟨rfl,k2,rfl⟩;rw[HO.o];go_wp2;go_ret;exact ⟨by rw[HK.o];simp[HO.o],below_drewN (aae _ _) _⟩
 ·have HK:ag (ky ⟨3,id,dA,new⟩=(bP dA.toList&&bP new.toList&&!(dA.toList==new.toList))):=I (by simp[ky]);have z2:=λx:ar w=>x.cell c2;have z3:=λx:ar w=>x.cell c3;have CB:=tN.o;have wY:=Nr.o;cases ho:bP dA.toList with
  |true=>
   cases hn:bP new.toList with
   |true=>
    cases he:(dA.toList==new.toList)with
    |true=>
     go_enter func182,ntmps182;go_wp2;refine bj (by kernel_rfl) (by kernel_rfl) ?_
     repeat (go_big_quiet_step ((go_at_call 185;exact az (ir _ _ _ ‹_› ‹_›))))
     refine aai ?_;rintro _ ⟨y,rfl⟩;go_wp2;go_ret;exact ⟨by rw[HK.o];simp[ho,hn,he],y.ok⟩
    |false=>
     go_enter func182,ntmps182;go_wp2;refine bj (by kernel_rfl) (by kernel_rfl) ?_
     repeat (go_big_quiet_step ((go_at_call 185;exact az (ir _ _ _ ‹_› ‹_›))))
     refine aai ?_;rintro _ ⟨y,rfl⟩;go_wp2;go_ret;exact ⟨by rw[HK.o];simp[ho,hn,he],y.ok⟩
   |false=>
    go_enter func182,ntmps182;go_wp2;refine bj (by kernel_rfl) (by kernel_rfl) ?_
    repeat (go_big_quiet_step ((go_at_call 185;exact az (ir _ _ _ ‹_› ‹_›))))
    refine aai ?_;rintro _ ⟨y,rfl⟩;go_wp2;go_ret;exact ⟨by rw[HK.o];simp[ho,hn],y.ok⟩
  |false=>
   go_enter func182,ntmps182;go_wp2;refine bj (by kernel_rfl) (by kernel_rfl) ?_
   repeat (go_big_quiet_step ((go_at_call 185;exact az (ir _ _ _ ‹_› ‹_›))))
   refine aai ?_;rintro _ ⟨y,rfl⟩;go_wp2;go_ret;exact ⟨by rw[HK.o];simp[ho],y.ok⟩
 have HK:ag (ky ⟨kind,id,dA,new⟩=false):=I (by simp[ky,n1,n2,n3]);have m1:(kind==1)=false:=by simp;omega
 have m2:(kind==2)=false:=by simp;omega
 have m3:(kind==3)=false:=by simp;omega
 clear n1 n2 n3;go_enter func182,ntmps182;go_wp2;go_ret;exact ⟨by rw[HK.o];rfl,aae _ _⟩
theorem aL {P:Program} {f:FuncId} {args:Array Value} {w:World} {R:Ending->World->Prop} (h: ∀x:ar w,Calls P f args x.val R):Calls P f args w R:=
 h ⟨w,aae _ _⟩
theorem yY {P:Program} {c:Code} {Q:Exit->Act->World->Prop} {a:Act} {W:World} (h: ∀x:ar W,c.wp P Q a x.val):c.wp P Q a W:=
 h ⟨W,aae _ _⟩
theorem ap {P:Program} {id:Nat} {Q:Exit->Act->World->Prop} {a:Act} {W:World} {x:ar W} {l:List Oper} (hm:P.follows .mixedOrders=true) (hB:Region.lexB .any l.toArray=true)
 (h:wpQuiet P l.toArray (λw'=> ∃x:ar W,w'=x.val) (λa'=> ∀w',(∃x:ar W,w'=x.val)->Q .normal a' w') l a):(Code.region id l.toArray true).wp P Q a x.val:=
 wp_region_quiet (C:=λw'=> ∃x:ar W,w'=x.val) hm hB ⟨⟨x.val.drew,x.ok.drew⟩,rfl⟩ (by simpa using h)
def ar.dA {w:World} {o:Obj} (y:ar (w.alloc o)):ar w:=⟨y.val,((aae w.heap.size w).alloc (aad _) o).trans (y.ok.mono (by simp))⟩
def ar.of {w:World} (x:ar w) (y:ar x.val):ar w:=⟨y.val,x.ok.trans (y.ok.mono x.ok.size)⟩
theorem aJ {w W:World} (h:Below w.heap.size w W) (x:ar W):Below w.heap.size w x.val:=h.trans (x.ok.mono h.size)
theorem cz.km {α:Type} {R:World->Nat->List Value->α->Prop} {size:Nat} {W:World} {B:Nat} {v:Value} {xs:List α} (h:cz R size W B v xs) (hR:Hx R) (hB:B<=W.heap.size): ∀x:ar W,cz R size x.val x.val.heap.size v xs:=
 λx=>h.on hR (x.ok.mono hB) (aaB hB x.ok.size)
theorem Nt {P:Program} {f:FuncId} {args:Array Value} {w:World} {v:Value} (h:Calls P f args w (f' v w)):Calls P f args w (bT v w):=
 h.mono λ_ _ ⟨he,k,hk⟩=>⟨he,hk▸below_drewN (aae _ _) k⟩
theorem aP (n a b:Int) (w:World) (r:Bool) (h:dO n a b=r):Calls prog 98 #[.int .i64 n,.int .i64 a,.int .i64 b] w (f' (.bool r) w):=h▸rl n a b w
theorem pM (e:aV) (b o:Nat) (w:World) (r:Bool) (hs:mY e) (c0:w.cell? ⟨b,o,none⟩=some (.int .i64 e.kind)) (c2:w.cell? ⟨b,o+2,none⟩=some (.string e.dA)) (c3:w.cell? ⟨b,o+3,none⟩=some (.string e.new)) (h:ky e=r):
 Calls prog 182 #[.pointer (some ⟨b,o,none⟩)] w (bT (.bool r) w):=h▸Fu e b o w hs c0 c2 c3
theorem CP (es:List aV) (w:World) (v:Value) (h:bg w w.heap.size v es) (hs:bS es):
 Calls prog 151 #[v] w (bT (.bool (bF es)) w):=by
 obtain ⟨A,c,rfl,hc,hm,cn⟩:=h;unfold maxLen at hm;have rn:es.length<=9223372036854775807:=by omega
 have gH:=I cn;have HS:=I hs;clear cn hs;refine aL λx0=>?_;go_enter func151,ntmps151;go_wp2;go_loopw [3] (λi wr=> ∃(k:Nat) (x:ar w),k<=es.length/\i= .int .i64 (k:Int)/\cE k (fA es)=true/\wr=x.val) (λi _=>es.length-(intOf i).toNat);case atStart=>exact ⟨0,x0,aaf _,rfl,rfl,rfl⟩
 case round=>
  obtain ⟨k,x,hk,rfl,dn,rfl⟩:=hrel;have HA:=I dn;clear dn;by_cases aI:k<es.length
  ·obtain ⟨b,off,rfl,bD,aC⟩:=gH.o (by omega);have aH:es[k]?=some es[k]:=aag aI;obtain ⟨c0,c1,c2,c3⟩:=ln aC aH;have z0:=λy:ar w=>y.cell c0;have z1:=λy:ar w=>y.cell c1;have z2:=λy:ar w=>y.cell c2;have z3:=λy:ar w=>y.cell c3;have HG:=I aH;have HC:=I aC;have gU:=HS.o es[k] (aax aI);clear aH aC c0 c1 c2 c3;generalize es[k]=e at*;cases h1:dO e.id 1 99 with
   |false=>
    have H1:=I h1;have HB:=I (kl aI (oC HG.o (by rw[oD,h1];rfl)));clear h1;go_wp2_with (fail);refine ap (by kernel_rfl) (by kernel_rfl) ?_
    repeat (go_big_quiet_step ((first|(go_at_call 98;exact az (aP _ _ _ _ _ H1.o)))))
    refine aai ?_;rintro _ ⟨y,rfl⟩;go_wp2;go_ret;exact ⟨by rw[HB.o];rfl,y.ok⟩
   |true=>
    have H1:=I h1;clear h1;cases h2:ky e with
    |false=>
     have H2:=I h2;have HB:=I (kl aI (oC HG.o (by rw[oD,h2];simp)));clear h2;go_wp2_with (fail);refine ap (by kernel_rfl) (by kernel_rfl) ?_
     repeat (go_big_quiet_step ((first|(go_at_call 98;exact az (aP _ _ _ _ _ H1.o))|(go_at_call 182;exact aq (pM e _ _ _ _ gU (z0 _) (z2 _) (z3 _) H2.o)))))
     refine aai ?_;rintro _ ⟨y,rfl⟩;go_wp2;go_ret;exact ⟨by rw[HB.o];rfl,y.ok⟩
    |true=>
     have H2:=I h2;have HO:ag (dE e=true):=I (by rw[oD,H1.o,h2];rfl);clear h2;have gN:=cR k (fA es);rw[HA.o,aaD]at gN;have gN:=I gN;by_cases jA:k=0
     ·have HN:ag (cE (k+1) (fA es)=true):=gN.o.trans (mZ jA HG.o HO.o);have rc:decide ((0:Int)<(k:Int))=false:=by simp;omega
      have H0:decide (0<k)=false:=by simp;omega
      clear jA;go_wp2_with (fail);refine ap (by kernel_rfl) (by kernel_rfl) ?_
      repeat (go_big_quiet_step ((first|(go_at_call 98;exact az (aP _ _ _ _ _ H1.o))|(go_at_call 182;exact aq (pM e _ _ _ _ gU (z0 _) (z2 _) (z3 _) H2.o)))))
      refine aai ?_;rintro _ ⟨y,rfl⟩;go_wp2;go_roundw;case rel=>exact ⟨k+1,y,by omega,by go_num,HN.o,rfl⟩
      case measure=>simp[intOf];omega
     obtain ⟨m,rfl⟩: ∃m,k=m+1:=⟨k-1,by omega⟩
     have hd:es[m]?=some (es[m]'(by omega)):=aag (by omega);obtain ⟨_,d1,_,_⟩:=ln HC.o hd;generalize (es[m]'(by omega))=d at*;have HP:=I (m9 hd HG.o HO.o);have z4:=λy:ar w=>y.cell d1;clear hd jA d1;by_cases hid:d.id<e.id
     ·have HN:ag (cE (m+1+1) (fA es)=true):=gN.o.trans (HP.o.trans (abd hid));have uT: ¬(e.id<=d.id):=by omega
      go_wp2_with (fail);refine ap (by kernel_rfl) (by kernel_rfl) ?_
      repeat (go_big_quiet_step ((first|(go_at_call 98;exact az (aP _ _ _ _ _ H1.o))|(go_at_call 182;exact aq (pM e _ _ _ _ gU (z0 _) (z2 _) (z3 _) H2.o)))))
      refine aai ?_;rintro _ ⟨y,rfl⟩;go_wp2;go_roundw;case rel=>exact ⟨(m+1)+1,y,by omega,by go_num,HN.o,rfl⟩
      case measure=>simp[intOf];omega
     have HB:=I (kl aI (HP.o.trans (aba hid)));have uT:e.id<=d.id:=by omega
     go_wp2_with (fail);refine ap (by kernel_rfl) (by kernel_rfl) ?_
     repeat (go_big_quiet_step ((first|(go_at_call 98;exact az (aP _ _ _ _ _ H1.o))|(go_at_call 182;exact aq (pM e _ _ _ _ gU (z0 _) (z2 _) (z3 _) H2.o)))))
     refine aai ?_;rintro _ ⟨y,rfl⟩;go_wp2;go_ret;exact ⟨by rw[HB.o];rfl,y.ok⟩
  have di:k=es.length:=by omega
  have hP:bF es=decide (es.length<=16):=by
   rw[lp,<-di,HA.o,aaD]
  have HP:=I hP;have eA: ¬(k:Int)<(es.length:Int):=by omega
  clear hP di aI;by_cases rp:es.length<=16
  all_goals
   have uU:=I rp;have Hg:decide ((es.length:Int)<=16)=decide (es.length<=16):=abZ.2 (by omega);first|rw[abd uU.o]at Hg|rw[aba uU.o]at Hg
   clear rp;go_wp2;go_ret;exact ⟨by rw[HP.o];simp[uU.o],x.ok⟩
theorem H9 (zs:List Int) (z:Int) (w:World) (v:Value) (h:Ints w w.heap.size v zs):
 Calls prog 143 #[v,.int .i64 z] w (bT (.bool (zs.contains z)) w):=by
 obtain ⟨A,c,rfl,hc,hm,cn⟩:=h;unfold maxLen at hm;have rn:zs.length<=9223372036854775807:=by omega
 have gH:=I cn;obtain ⟨r,hr⟩: ∃r,zs.contains z=r:=⟨_,rfl⟩
 rw[hr];have HR:=I hr;clear cn hr;go_enter func143,ntmps143;go_wp2;go_loop [5] (λi=> ∃k:Nat,k<=zs.length/\i= .int .i64 (k:Int)/\z∉zs.take k) (λi=>zs.length-(intOf i).toNat);case atStart=>exact ⟨0,aaf _,rfl,by simp⟩
 case round=>
  obtain ⟨k,hk,rfl,rf⟩:=hrel;have HN:=I rf;clear rf;by_cases aI:k<zs.length
  ·obtain ⟨b,off,rfl,bD,aC⟩:=gH.o (by omega);have aH:zs[k]?=some zs[k]:=aag aI;have x0:=ints_at aC aH;have H5:zs.take (k+1)=zs.take k++[zs[k]]:=by rw[aaG aI]
   have HG:=I aH;have HT:=I H5;clear aH aC H5;generalize zs[k]=u at*;by_cases hz:u=z
   ·have ez:(u==z)=true:=by simp[hz]
    have HC:ag (r=true):=I (by rw[<-HR.o,abe,<-hz];exact aaC HG.o);clear hz;go_wp2;go_ret;exact ⟨by rw[HC.o];rfl,aae _ _⟩
   have ez:(u==z)=false:=by simp[hz]
   have HZ:=I hz;clear hz;go_wp2;go_round;case rel=>exact ⟨k+1,by omega,by go_num,by rw[HT.o,aau,aas];rintro (h|h);exact HN.o h;exact HZ.o h.symm⟩
   case measure=>simp[intOf];omega
  have di:k=zs.length:=by omega
  have eA: ¬(k:Int)<(zs.length:Int):=by omega
  have HC:ag (r=false):=I (by
   rw[<-HR.o,abF,ne_eq,abe];have:=HN.o
   rwa [di,aa1]at this)
  clear di aI;go_wp2;go_ret;exact ⟨by rw[HC.o];rfl,aae _ _⟩
theorem mA (zs:List Int) (z:Int) (w:World) (v:Value) (r:Bool) (h:Ints w w.heap.size v zs) (hr:zs.contains z=r):
 Calls prog 143 #[v,.int .i64 z] w (bT (.bool r) w):=hr▸H9 zs z w v h
theorem uW (zs:List Int) (member n:Int) (w:World) (v:Value) (h:Ints w w.heap.size v zs) (kM: -1000<=n) (rq:n<=1000):
 Calls prog 100 #[v,.int .i64 member,.int .i64 n] w (bT (.bool (cF zs member n)) w):=by
 have HI:=I h;obtain ⟨A,c,rfl,hc,hm,cn⟩:=h;unfold maxLen at hm;have rn:zs.length<=9223372036854775807:=by omega
 have gH:=I cn;clear cn;have CQ:IntKind.i64.wrap (n-1)=n-1:=ajY _ (by omega);have HW:=I CQ;clear CQ;refine aL λx0=>?_;go_enter func100,ntmps100;go_wp2;go_loopw [7] (λi wr=> ∃(k:Nat) (x:ar w),k<=zs.length/\i= .int .i64 (k:Int)/\cE k (kc zs member n)=true/\wr=x.val) (λi _=>zs.length-(intOf i).toNat);case atStart=>exact ⟨0,x0,aaf _,rfl,rfl,rfl⟩
 case round=>
  obtain ⟨k,x,hk,rfl,dn,rfl⟩:=hrel;have HA:=I dn;clear dn;by_cases aI:k<zs.length
  ·obtain ⟨b,off,hA,bD,aC⟩:=gH.o (by omega);subst hA;have aH:zs[k]?=some zs[k]:=aag aI;have c0:=ints_at aC aH;have z0:=λy:ar w=>y.cell c0;have HG:=I aH;have HT:=I (nb (member:=member) (n:=n) aH);have gN:=cR k (kc zs member n);rw[HA.o,aaD]at gN;have gN:=I gN;have HSub:ag (∀y:ar w,Ints y.val y.val.heap.size (.slice (some ⟨b,off,none⟩) k c) (zs.take k)):=I (cz.km (cz.take HI.o k hk) (Pl.stays _) (aad _));clear aH aC c0;generalize zs[k]=z at*;have rc:(k:Int)<=(c:Int):=by omega
   have jA:(0:Int)<=(k:Int):=by omega
   cases h1:dO z 0 (n-1)with
   |false=>
    have HB:=I (i' aI (HT.o.trans (by rw[h1];rfl)));have CQ:=HW.o;go_wp2_with (fail);refine ap (by kernel_rfl) (by kernel_rfl) ?_
    repeat (go_big_quiet_step ((first|(go_at_call 98;exact az (aP _ _ _ _ _ h1)))))
    refine aai ?_;rintro _ ⟨y,rfl⟩;go_wp2;go_ret;exact ⟨by rw[HB.o];rfl,y.ok⟩
   |true=>
    by_cases hz:z=member
    ·have ez:(z==member)=true:=by simp[hz]
     have HB:=I (i' aI (HT.o.trans (by rw[h1];simp[hz])));have CQ:=HW.o;clear hz;go_wp2_with (fail);refine ap (by kernel_rfl) (by kernel_rfl) ?_
     repeat (go_big_quiet_step ((first|(go_at_call 98;exact az (aP _ _ _ _ _ h1)))))
     refine aai ?_;rintro _ ⟨y,rfl⟩;go_wp2;go_ret;exact ⟨by rw[HB.o];rfl,y.ok⟩
    have ez:(z==member)=false:=by simp[hz]
    have HZ:=I hz;clear hz;cases h2:(zs.take k).contains z with
    |true=>
     have H2:=I h2;have HB:=I (i' aI (HT.o.trans (by rw[h2];simp)));clear h2;have CQ:=HW.o;go_wp2_with (fail);refine ap (by kernel_rfl) (by kernel_rfl) ?_
     repeat (go_big_quiet_step ((first|(go_at_call 98;exact az (aP _ _ _ _ _ h1))|(go_at_call 143;exact aq (mA _ _ _ _ _ (HSub.o _) H2.o)))))
     refine aai ?_;rintro _ ⟨y,rfl⟩;go_wp2;go_ret;exact ⟨by rw[HB.o];rfl,y.ok⟩
    |false=>
     have H2:=I h2;have HN:ag (cE (k+1) (kc zs member n)=true):=gN.o.trans (HT.o.trans (by rw[h1,h2];simp[HZ.o]));clear h2;have CQ:=HW.o;go_wp2_with (fail);refine ap (by kernel_rfl) (by kernel_rfl) ?_
     repeat (go_big_quiet_step ((first|(go_at_call 98;exact az (aP _ _ _ _ _ h1))|(go_at_call 143;exact aq (mA _ _ _ _ _ (HSub.o _) H2.o)))))
     refine aai ?_;rintro _ ⟨y,rfl⟩;go_wp2;go_roundw;case rel=>exact ⟨k+1,y,by omega,by go_num,HN.o,rfl⟩
     case measure=>simp[intOf];omega
  have di:k=zs.length:=by omega
  have hP:cF zs member n=decide (zs.length<=4):=by
   rw[fo,<-di,HA.o,aaD]
  have HP:=I hP;have eA: ¬(k:Int)<(zs.length:Int):=by omega
  clear hP di aI;by_cases h4:zs.length<=4
  all_goals
   have H4:=I h4;have e4:decide ((zs.length:Int)<=4)=decide (zs.length<=4):=abZ.2 (by omega);first|rw[abd H4.o]at e4|rw[aba H4.o]at e4
   clear h4;go_wp2;go_ret;exact ⟨by rw[HP.o];simp[H4.o],x.ok⟩
theorem bh (zs:List Int) (member n:Int) (w:World) (v:Value) (r:Bool) (h:Ints w w.heap.size v zs) (kM: -1000<=n) (rq:n<=1000) (hr:cF zs member n=r):
 Calls prog 100 #[v,.int .i64 member,.int .i64 n] w (bT (.bool r) w):=hr▸uW zs member n w v h kM rq
structure fp (w:World) (b o:Nat) (d:dr) (A1:Option Addr) (c1:Nat) (A2:Option Addr) (c2:Nat):Prop where
 k0:w.cell? ⟨b,o,none⟩=some (.int .i64 d.kind)
 k1:w.cell? ⟨b,o+1,none⟩=some (.int .i64 d.member)
 k2:w.cell? ⟨b,o+2,none⟩=some (.slice A1 d.af.length c1)
 k3:w.cell? ⟨b,o+3,none⟩=some (.string d.al)
 k4:w.cell? ⟨b,o+4,none⟩=some (.int .i64 d.bO)
 k5:w.cell? ⟨b,o+5,none⟩=some (.slice A2 d.patch.length c2)
 k6:w.cell? ⟨b,o+6,none⟩=some (.int .i64 d.start)
 k7:w.cell? ⟨b,o+7,none⟩=some (.int .i64 d.aB)
 k8:w.cell? ⟨b,o+8,none⟩=some (.int .i64 d.aj)
 ints:Ints w w.heap.size (.slice A1 d.af.length c1) d.af
 fF:bg w w.heap.size (.slice A2 d.patch.length c2) d.patch
 sizes:bS d.patch
 al:d.al.size<=maxLen
theorem fp.km {w:World} {b o:Nat} {d:dr} {A1:Option Addr} {c1:Nat} {A2:Option Addr} {c2:Nat} (h:fp w b o d A1 c1 A2 c2) (x:ar w):fp x.val b o d A1 c1 A2 c2:=
 ⟨x.cell h.k0,x.cell h.k1,x.cell h.k2,x.cell h.k3,x.cell h.k4,x.cell h.k5,x.cell h.k6,x.cell h.k7,x.cell h.k8,h.ints.km (Pl.stays _) (aad _) x,h.fF.km (Pl.stays _) (aad _) x,h.sizes,h.al⟩
theorem CR (d:dr) (b o:Nat) (A1:Option Addr) (c1:Nat) (A2:Option Addr) (c2:Nat) (w:World) (h:fp w b o d A1 c1 A2 c2):
 Calls prog 149 #[.pointer (some ⟨b,o,none⟩)] w (bT (.bool (ea d)) w):=by
 have z5:=h.k5;have z6:=h.k6;have z7:=h.k7;have z8:=h.k8;have hp:=ib d.patch;clear h;cases e1:d.patch.isEmpty with
 |false=>
  rw[e1]at hp;have E1:=I e1;clear e1;go_enter func149,ntmps149;go_wp2;go_ret;exact ⟨by unfold ea;rw[E1.o];rfl,aae _ _⟩
 |true=>
  rw[e1]at hp;have E1:=I e1;clear e1;by_cases h1:d.start=0
  ·have b1:(d.start==0)=true:=by simp[h1]
   have H1:=I h1;clear h1;by_cases h2:d.aB=0
   ·have b2:(d.aB==0)=true:=by simp[h2]
    have H2:=I h2;clear h2;by_cases h3:d.aj=0
    ·have b3:(d.aj==0)=true:=by simp[h3]
     have H3:=I h3;clear h3;go_enter func149,ntmps149;go_wp2;go_ret;exact ⟨by unfold ea;rw[E1.o,H1.o,H2.o,H3.o];rfl,aae _ _⟩
    have b3:(d.aj==0)=false:=by simp[h3]
    have H3:=I h3;clear h3;go_enter func149,ntmps149;go_wp2;go_ret;exact ⟨by unfold ea;simp[H3.o],aae _ _⟩
   have b2:(d.aB==0)=false:=by simp[h2]
   have H2:=I h2;clear h2;go_enter func149,ntmps149;go_wp2;go_ret;exact ⟨by unfold ea;simp[H2.o],aae _ _⟩
  have b1:(d.start==0)=false:=by simp[h1]
  have H1:=I h1;clear h1;go_enter func149,ntmps149;go_wp2;go_ret;exact ⟨by unfold ea;simp[H1.o],aae _ _⟩
theorem bq (d:dr) (b o:Nat) (A1:Option Addr) (c1:Nat) (A2:Option Addr) (c2:Nat) (w:World) (r:Bool) (h:fp w b o d A1 c1 A2 c2) (hr:ea d=r):
 Calls prog 149 #[.pointer (some ⟨b,o,none⟩)] w (bT (.bool r) w):=hr▸CR d b o A1 c1 A2 c2 w h
def jd (start aB aj:Int):Bool:=dO aj 1 999&&dO aB 1 1000&&dO start aj (aB-1)
theorem Fv (start aB aj:Int) (w:World):
 Calls prog 152 #[.int .i64 start,.int .i64 aB,.int .i64 aj] w (bT (.bool (jd start aB aj)) w):=by
 cases h1:dO aj 1 999 with
 |false=>
  have HB:ag (jd start aB aj=false):=I (by unfold jd;rw[h1];rfl);go_enter func152,ntmps152;go_wp2_with ((go_at_call 98;refine (aP _ _ _ _ _ h1).mono ?_;rintro e _ ⟨rfl,k,rfl⟩));go_ret;exact ⟨by rw[HB.o];rfl,below_drewN (aae _ _) _⟩
 |true=>
  cases h2:dO aB 1 1000 with
  |false=>
   have HB:ag (jd start aB aj=false):=I (by unfold jd;rw[h1,h2];rfl);go_enter func152,ntmps152;go_wp2_with ((go_at_call 98;refine (aP _ _ _ _ _ ‹_›).mono ?_;rintro e _ ⟨rfl,k,rfl⟩));go_ret;exact ⟨by rw[HB.o];rfl,below_drewN (aae _ _) _⟩
  |true=>
   have hu:=dS.1 h2;obtain ⟨u1,u2⟩:=hu;have HB:ag (jd start aB aj=dO start aj (aB-1)):=I (by unfold jd;rw[h1,h2];rfl);go_enter func152,ntmps152;go_wp2_with (fail);refine (aP _ _ _ _ _ h1).mono ?_;rintro e _ ⟨rfl,k1,rfl⟩;go_wp2_with (fail);refine (aP _ _ _ _ _ h2).mono ?_;rintro e _ ⟨rfl,k2,rfl⟩;go_wp2_with (fail);refine (rl _ _ _ _).mono ?_;rintro e _ ⟨rfl,k3,rfl⟩;go_wp2;go_ret;exact ⟨by rw[HB.o];rfl,below_drewN (aae _ _) _⟩
theorem bl (start aB aj:Int) (w:World) (r:Bool) (hr:jd start aB aj=r):
 Calls prog 152 #[.int .i64 start,.int .i64 aB,.int .i64 aj] w (bT (.bool r) w):=hr▸Fv start aB aj w
theorem bn (s:ByteArray) (w:World) (r:Bool) (hs:s.size<=maxLen) (hr:dU s.toList=r):
 Calls prog 150 #[.string s] w (f' (.bool r) w):=hr▸Fo s w hs
theorem aO (es:List aV) (w:World) (v:Value) (r:Bool) (h:bg w w.heap.size v es) (hs:bS es) (hr:bF es=r):
 Calls prog 151 #[v] w (bT (.bool r) w):=hr▸CP es w v h hs
theorem tP (p:List aV) (aj start aB:Int):iP p aj start aB=(!p.isEmpty&&bF p&&jd start aB aj):=by
 have:(dO aj 1 999&&decide (aj<=start)&&decide (start<aB)&&decide (aB<=1000))=jd start aB aj:=by
  rw[Bool.eq_iff_iff];unfold jd;simp only[aay,dS,aaU];omega
 rw[<-this];unfold iP;simp only[Bool.and_assoc]
theorem K9 {α:Type} (l:List α):decide ((0:Int)<(l.length:Int))=!l.isEmpty:=by
 cases l with
 |nil=>rfl
 |cons a l=>simp
theorem Fw {d:dr} (hk:d.kind=1):cA d=(dO d.member 0 11&&cF d.af d.member 12&&d.al.toList.isEmpty&&(d.bO==0)&&ea d):=by
 have:decide (d.al.toList=[])=d.al.toList.isEmpty:=by cases d.al.toList<;>simp
 rw[Aw hk,jB,this]
theorem xX {d:dr} (hk:d.kind=2):cA d=(dO d.member 0 11&&((d.af.length:Int)==0)&&dU d.al.toList&&dO d.bO 0 3&&ea d):=by
 rw[Ax hk,ib];cases dO d.member 0 11<;>cases dU d.al.toList<;>cases dO d.bO 0 3<;>cases d.af.isEmpty<;>cases ea d<;>rfl
theorem xY {d:dr} (hk:d.kind=3):cA d=(dO d.member 0 11&&((d.af.length:Int)==0)&&dU d.al.toList&&(d.bO==0)&&decide ((0:Int)<(d.patch.length:Int))&&bF d.patch&&jd d.start d.aB d.aj):=by
 rw[Ay hk,ib,K9,jB,tP];cases dO d.member 0 11<;>cases dU d.al.toList<;>cases d.af.isEmpty<;>cases decide (d.bO=0)<;>cases d.patch.isEmpty<;>cases bF d.patch<;>cases jd d.start d.aB d.aj<;>rfl
theorem Fx {d:dr} (hk:d.kind=4):cA d=((d.member==0)&&((d.af.length:Int)==0)&&d.al.toList.isEmpty&&(d.bO==0)&&ea d):=by
 have:decide (d.al.toList=[])=d.al.toList.isEmpty:=by cases d.al.toList<;>simp
 rw[Az hk,ib,jB,jB,this]
theorem H' (d:dr) (b o:Nat) (A1:Option Addr) (c1:Nat) (A2:Option Addr) (c2:Nat) (w:World) (h:fp w b o d A1 c1 A2 c2) (hk:d.kind=1):
 Calls prog 94 #[.pointer (some ⟨b,o,none⟩)] w (bT (.bool (cA d)) w):=by
 have z0:=λy:ar w=>y.cell h.k0;have z1:=λy:ar w=>y.cell h.k1;have z2:=λy:ar w=>y.cell h.k2;have z3:=λy:ar w=>y.cell h.k3;have z4:=λy:ar w=>y.cell h.k4;have z5:=λy:ar w=>y.cell h.k5;have z6:=λy:ar w=>y.cell h.k6;have z7:=λy:ar w=>y.cell h.k7;have z8:=λy:ar w=>y.cell h.k8;have HT:=I (λy:ar w=>(h.km y).ints);have HE:=I (λy:ar w=>(h.km y).fF);have HP:=I (λy:ar w=>h.km y);have lr:=I h.sizes;have gQ:=I h.al;have OK:=I (Fw hk);have b1:(d.kind==1)=true:=by simp[hk]
 clear h hk;cases h0:dO d.member 0 11 with
 |false=>
  refine aL λx0=>?_;go_enter func94,ntmps94;go_wp2_with (first|(go_at_call 98;refine (az (aP _ _ _ _ _ ‹_›)).mono ?_;rintro e _ ⟨rfl,y,rfl⟩)|(go_at_call 100;refine (aq (bh _ _ _ _ _ _ (HT.o _) (by omega) (by omega) ‹_›)).mono ?_;rintro e _ ⟨rfl,y,rfl⟩)|(go_at_call 149;refine (aq (bq d _ _ _ _ _ _ _ _ (HP.o _) ‹_›)).mono ?_;rintro e _ ⟨rfl,y,rfl⟩)|(go_at_call 150;refine (az (bn _ _ _ gQ.o ‹_›)).mono ?_;rintro e _ ⟨rfl,y,rfl⟩)|(go_at_call 151;refine (aq (aO _ _ _ _ (HE.o _) lr.o ‹_›)).mono ?_;rintro e _ ⟨rfl,y,rfl⟩)|(go_at_call 152;refine (aq (bl _ _ _ _ _ ‹_›)).mono ?_;rintro e _ ⟨rfl,y,rfl⟩));refine ap (by kernel_rfl) (by kernel_rfl) ?_
  repeat (go_big_quiet_step ((first|(go_at_call 98;exact az (aP _ _ _ _ _ ‹_›))|(go_at_call 100;exact aq (bh _ _ _ _ _ _ (HT.o _) (by omega) (by omega) ‹_›))|(go_at_call 149;exact aq (bq d _ _ _ _ _ _ _ _ (HP.o _) ‹_›))|(go_at_call 150;exact az (bn _ _ _ gQ.o ‹_›))|(go_at_call 151;exact aq (aO _ _ _ _ (HE.o _) lr.o ‹_›))|(go_at_call 152;exact aq (bl _ _ _ _ _ ‹_›)))))
  refine aai ?_;rintro _ ⟨y,rfl⟩;go_wp2;go_ret;exact ⟨by rw[OK.o,h0];rfl,y.ok⟩
 |true=>
  cases h1:cF d.af d.member 12 with
  |false=>
   refine aL λx0=>?_;go_enter func94,ntmps94;go_wp2_with (first|(go_at_call 98;refine (az (aP _ _ _ _ _ ‹_›)).mono ?_;rintro e _ ⟨rfl,y,rfl⟩)|(go_at_call 100;refine (aq (bh _ _ _ _ _ _ (HT.o _) (by omega) (by omega) ‹_›)).mono ?_;rintro e _ ⟨rfl,y,rfl⟩)|(go_at_call 149;refine (aq (bq d _ _ _ _ _ _ _ _ (HP.o _) ‹_›)).mono ?_;rintro e _ ⟨rfl,y,rfl⟩)|(go_at_call 150;refine (az (bn _ _ _ gQ.o ‹_›)).mono ?_;rintro e _ ⟨rfl,y,rfl⟩)|(go_at_call 151;refine (aq (aO _ _ _ _ (HE.o _) lr.o ‹_›)).mono ?_;rintro e _ ⟨rfl,y,rfl⟩)|(go_at_call 152;refine (aq (bl _ _ _ _ _ ‹_›)).mono ?_;rintro e _ ⟨rfl,y,rfl⟩));refine ap (by kernel_rfl) (by kernel_rfl) ?_
   repeat (go_big_quiet_step ((first|(go_at_call 98;exact az (aP _ _ _ _ _ ‹_›))|(go_at_call 100;exact aq (bh _ _ _ _ _ _ (HT.o _) (by omega) (by omega) ‹_›))|(go_at_call 149;exact aq (bq d _ _ _ _ _ _ _ _ (HP.o _) ‹_›))|(go_at_call 150;exact az (bn _ _ _ gQ.o ‹_›))|(go_at_call 151;exact aq (aO _ _ _ _ (HE.o _) lr.o ‹_›))|(go_at_call 152;exact aq (bl _ _ _ _ _ ‹_›)))))
   refine aai ?_;rintro _ ⟨y,rfl⟩;go_wp2;go_ret;exact ⟨by rw[OK.o,h0,h1];rfl,y.ok⟩
  |true=>
   cases h2:d.al.toList.isEmpty with
   |false=>
    refine aL λx0=>?_;go_enter func94,ntmps94;go_wp2_with (first|(go_at_call 98;refine (az (aP _ _ _ _ _ ‹_›)).mono ?_;rintro e _ ⟨rfl,y,rfl⟩)|(go_at_call 100;refine (aq (bh _ _ _ _ _ _ (HT.o _) (by omega) (by omega) ‹_›)).mono ?_;rintro e _ ⟨rfl,y,rfl⟩)|(go_at_call 149;refine (aq (bq d _ _ _ _ _ _ _ _ (HP.o _) ‹_›)).mono ?_;rintro e _ ⟨rfl,y,rfl⟩)|(go_at_call 150;refine (az (bn _ _ _ gQ.o ‹_›)).mono ?_;rintro e _ ⟨rfl,y,rfl⟩)|(go_at_call 151;refine (aq (aO _ _ _ _ (HE.o _) lr.o ‹_›)).mono ?_;rintro e _ ⟨rfl,y,rfl⟩)|(go_at_call 152;refine (aq (bl _ _ _ _ _ ‹_›)).mono ?_;rintro e _ ⟨rfl,y,rfl⟩));refine ap (by kernel_rfl) (by kernel_rfl) ?_
    repeat (go_big_quiet_step ((first|(go_at_call 98;exact az (aP _ _ _ _ _ ‹_›))|(go_at_call 100;exact aq (bh _ _ _ _ _ _ (HT.o _) (by omega) (by omega) ‹_›))|(go_at_call 149;exact aq (bq d _ _ _ _ _ _ _ _ (HP.o _) ‹_›))|(go_at_call 150;exact az (bn _ _ _ gQ.o ‹_›))|(go_at_call 151;exact aq (aO _ _ _ _ (HE.o _) lr.o ‹_›))|(go_at_call 152;exact aq (bl _ _ _ _ _ ‹_›)))))
    refine aai ?_;rintro _ ⟨y,rfl⟩;go_wp2;go_ret;exact ⟨by rw[OK.o,h0,h1,h2];rfl,y.ok⟩
   |true=>
    cases h3:(d.bO==0)with
    |false=>
     refine aL λx0=>?_;go_enter func94,ntmps94;go_wp2_with (first|(go_at_call 98;refine (az (aP _ _ _ _ _ ‹_›)).mono ?_;rintro e _ ⟨rfl,y,rfl⟩)|(go_at_call 100;refine (aq (bh _ _ _ _ _ _ (HT.o _) (by omega) (by omega) ‹_›)).mono ?_;rintro e _ ⟨rfl,y,rfl⟩)|(go_at_call 149;refine (aq (bq d _ _ _ _ _ _ _ _ (HP.o _) ‹_›)).mono ?_;rintro e _ ⟨rfl,y,rfl⟩)|(go_at_call 150;refine (az (bn _ _ _ gQ.o ‹_›)).mono ?_;rintro e _ ⟨rfl,y,rfl⟩)|(go_at_call 151;refine (aq (aO _ _ _ _ (HE.o _) lr.o ‹_›)).mono ?_;rintro e _ ⟨rfl,y,rfl⟩)|(go_at_call 152;refine (aq (bl _ _ _ _ _ ‹_›)).mono ?_;rintro e _ ⟨rfl,y,rfl⟩));refine ap (by kernel_rfl) (by kernel_rfl) ?_
     repeat (go_big_quiet_step ((first|(go_at_call 98;exact az (aP _ _ _ _ _ ‹_›))|(go_at_call 100;exact aq (bh _ _ _ _ _ _ (HT.o _) (by omega) (by omega) ‹_›))|(go_at_call 149;exact aq (bq d _ _ _ _ _ _ _ _ (HP.o _) ‹_›))|(go_at_call 150;exact az (bn _ _ _ gQ.o ‹_›))|(go_at_call 151;exact aq (aO _ _ _ _ (HE.o _) lr.o ‹_›))|(go_at_call 152;exact aq (bl _ _ _ _ _ ‹_›)))))
     refine aai ?_;rintro _ ⟨y,rfl⟩;go_wp2;go_ret;exact ⟨by rw[OK.o,h0,h1,h2,h3];rfl,y.ok⟩
    |true=>
     cases h4:ea d with
     |false=>
      refine aL λx0=>?_;go_enter func94,ntmps94;go_wp2_with (first|(go_at_call 98;refine (az (aP _ _ _ _ _ ‹_›)).mono ?_;rintro e _ ⟨rfl,y,rfl⟩)|(go_at_call 100;refine (aq (bh _ _ _ _ _ _ (HT.o _) (by omega) (by omega) ‹_›)).mono ?_;rintro e _ ⟨rfl,y,rfl⟩)|(go_at_call 149;refine (aq (bq d _ _ _ _ _ _ _ _ (HP.o _) ‹_›)).mono ?_;rintro e _ ⟨rfl,y,rfl⟩)|(go_at_call 150;refine (az (bn _ _ _ gQ.o ‹_›)).mono ?_;rintro e _ ⟨rfl,y,rfl⟩)|(go_at_call 151;refine (aq (aO _ _ _ _ (HE.o _) lr.o ‹_›)).mono ?_;rintro e _ ⟨rfl,y,rfl⟩)|(go_at_call 152;refine (aq (bl _ _ _ _ _ ‹_›)).mono ?_;rintro e _ ⟨rfl,y,rfl⟩));refine ap (by kernel_rfl) (by kernel_rfl) ?_
      repeat (go_big_quiet_step ((first|(go_at_call 98;exact az (aP _ _ _ _ _ ‹_›))|(go_at_call 100;exact aq (bh _ _ _ _ _ _ (HT.o _) (by omega) (by omega) ‹_›))|(go_at_call 149;exact aq (bq d _ _ _ _ _ _ _ _ (HP.o _) ‹_›))|(go_at_call 150;exact az (bn _ _ _ gQ.o ‹_›))|(go_at_call 151;exact aq (aO _ _ _ _ (HE.o _) lr.o ‹_›))|(go_at_call 152;exact aq (bl _ _ _ _ _ ‹_›)))))
      refine aai ?_;rintro _ ⟨y,rfl⟩;go_wp2;go_ret;exact ⟨by rw[OK.o,h0,h1,h2,h3,h4];rfl,y.ok⟩
     |true=>
      refine aL λx0=>?_;go_enter func94,ntmps94;go_wp2_with (first|(go_at_call 98;refine (az (aP _ _ _ _ _ ‹_›)).mono ?_;rintro e _ ⟨rfl,y,rfl⟩)|(go_at_call 100;refine (aq (bh _ _ _ _ _ _ (HT.o _) (by omega) (by omega) ‹_›)).mono ?_;rintro e _ ⟨rfl,y,rfl⟩)|(go_at_call 149;refine (aq (bq d _ _ _ _ _ _ _ _ (HP.o _) ‹_›)).mono ?_;rintro e _ ⟨rfl,y,rfl⟩)|(go_at_call 150;refine (az (bn _ _ _ gQ.o ‹_›)).mono ?_;rintro e _ ⟨rfl,y,rfl⟩)|(go_at_call 151;refine (aq (aO _ _ _ _ (HE.o _) lr.o ‹_›)).mono ?_;rintro e _ ⟨rfl,y,rfl⟩)|(go_at_call 152;refine (aq (bl _ _ _ _ _ ‹_›)).mono ?_;rintro e _ ⟨rfl,y,rfl⟩));refine ap (by kernel_rfl) (by kernel_rfl) ?_
      repeat (go_big_quiet_step ((first|(go_at_call 98;exact az (aP _ _ _ _ _ ‹_›))|(go_at_call 100;exact aq (bh _ _ _ _ _ _ (HT.o _) (by omega) (by omega) ‹_›))|(go_at_call 149;exact aq (bq d _ _ _ _ _ _ _ _ (HP.o _) ‹_›))|(go_at_call 150;exact az (bn _ _ _ gQ.o ‹_›))|(go_at_call 151;exact aq (aO _ _ _ _ (HE.o _) lr.o ‹_›))|(go_at_call 152;exact aq (bl _ _ _ _ _ ‹_›)))))
      refine aai ?_;rintro _ ⟨y,rfl⟩;go_wp2;go_ret;exact ⟨by rw[OK.o,h0,h1,h2,h3,h4];rfl,y.ok⟩
theorem Ia (d:dr) (b o:Nat) (A1:Option Addr) (c1:Nat) (A2:Option Addr) (c2:Nat) (w:World) (h:fp w b o d A1 c1 A2 c2) (hk:d.kind=2):
 Calls prog 94 #[.pointer (some ⟨b,o,none⟩)] w (bT (.bool (cA d)) w):=by
 have z0:=λy:ar w=>y.cell h.k0;have z1:=λy:ar w=>y.cell h.k1;have z2:=λy:ar w=>y.cell h.k2;have z3:=λy:ar w=>y.cell h.k3;have z4:=λy:ar w=>y.cell h.k4;have z5:=λy:ar w=>y.cell h.k5;have z6:=λy:ar w=>y.cell h.k6;have z7:=λy:ar w=>y.cell h.k7;have z8:=λy:ar w=>y.cell h.k8;have HT:=I (λy:ar w=>(h.km y).ints);have HE:=I (λy:ar w=>(h.km y).fF);have HP:=I (λy:ar w=>h.km y);have lr:=I h.sizes;have gQ:=I h.al;have OK:=I (xX hk);have b1:(d.kind==1)=false:=by simp[hk]
 have b2:(d.kind==2)=true:=by simp[hk]
 clear h hk;cases h0:dO d.member 0 11 with
 |false=>
  refine aL λx0=>?_;go_enter func94,ntmps94;go_wp2_with (first|(go_at_call 98;refine (az (aP _ _ _ _ _ ‹_›)).mono ?_;rintro e _ ⟨rfl,y,rfl⟩)|(go_at_call 100;refine (aq (bh _ _ _ _ _ _ (HT.o _) (by omega) (by omega) ‹_›)).mono ?_;rintro e _ ⟨rfl,y,rfl⟩)|(go_at_call 149;refine (aq (bq d _ _ _ _ _ _ _ _ (HP.o _) ‹_›)).mono ?_;rintro e _ ⟨rfl,y,rfl⟩)|(go_at_call 150;refine (az (bn _ _ _ gQ.o ‹_›)).mono ?_;rintro e _ ⟨rfl,y,rfl⟩)|(go_at_call 151;refine (aq (aO _ _ _ _ (HE.o _) lr.o ‹_›)).mono ?_;rintro e _ ⟨rfl,y,rfl⟩)|(go_at_call 152;refine (aq (bl _ _ _ _ _ ‹_›)).mono ?_;rintro e _ ⟨rfl,y,rfl⟩));go_ret;exact ⟨by rw[OK.o,h0];rfl,y.ok⟩
 |true=>
  cases h1:((d.af.length:Int)==0)with
  |false=>
   refine aL λx0=>?_;go_enter func94,ntmps94;go_wp2_with (first|(go_at_call 98;refine (az (aP _ _ _ _ _ ‹_›)).mono ?_;rintro e _ ⟨rfl,y,rfl⟩)|(go_at_call 100;refine (aq (bh _ _ _ _ _ _ (HT.o _) (by omega) (by omega) ‹_›)).mono ?_;rintro e _ ⟨rfl,y,rfl⟩)|(go_at_call 149;refine (aq (bq d _ _ _ _ _ _ _ _ (HP.o _) ‹_›)).mono ?_;rintro e _ ⟨rfl,y,rfl⟩)|(go_at_call 150;refine (az (bn _ _ _ gQ.o ‹_›)).mono ?_;rintro e _ ⟨rfl,y,rfl⟩)|(go_at_call 151;refine (aq (aO _ _ _ _ (HE.o _) lr.o ‹_›)).mono ?_;rintro e _ ⟨rfl,y,rfl⟩)|(go_at_call 152;refine (aq (bl _ _ _ _ _ ‹_›)).mono ?_;rintro e _ ⟨rfl,y,rfl⟩));go_ret;exact ⟨by rw[OK.o,h0,h1];rfl,y.ok⟩
  |true=>
   cases h2:dU d.al.toList with
   |false=>
    refine aL λx0=>?_;go_enter func94,ntmps94;go_wp2_with (first|(go_at_call 98;refine (az (aP _ _ _ _ _ ‹_›)).mono ?_;rintro e _ ⟨rfl,y,rfl⟩)|(go_at_call 100;refine (aq (bh _ _ _ _ _ _ (HT.o _) (by omega) (by omega) ‹_›)).mono ?_;rintro e _ ⟨rfl,y,rfl⟩)|(go_at_call 149;refine (aq (bq d _ _ _ _ _ _ _ _ (HP.o _) ‹_›)).mono ?_;rintro e _ ⟨rfl,y,rfl⟩)|(go_at_call 150;refine (az (bn _ _ _ gQ.o ‹_›)).mono ?_;rintro e _ ⟨rfl,y,rfl⟩)|(go_at_call 151;refine (aq (aO _ _ _ _ (HE.o _) lr.o ‹_›)).mono ?_;rintro e _ ⟨rfl,y,rfl⟩)|(go_at_call 152;refine (aq (bl _ _ _ _ _ ‹_›)).mono ?_;rintro e _ ⟨rfl,y,rfl⟩));go_ret;exact ⟨by rw[OK.o,h0,h1,h2];rfl,y.ok⟩
   |true=>
    cases h3:dO d.bO 0 3 with
    |false=>
     refine aL λx0=>?_;go_enter func94,ntmps94;go_wp2_with (first|(go_at_call 98;refine (az (aP _ _ _ _ _ ‹_›)).mono ?_;rintro e _ ⟨rfl,y,rfl⟩)|(go_at_call 100;refine (aq (bh _ _ _ _ _ _ (HT.o _) (by omega) (by omega) ‹_›)).mono ?_;rintro e _ ⟨rfl,y,rfl⟩)|(go_at_call 149;refine (aq (bq d _ _ _ _ _ _ _ _ (HP.o _) ‹_›)).mono ?_;rintro e _ ⟨rfl,y,rfl⟩)|(go_at_call 150;refine (az (bn _ _ _ gQ.o ‹_›)).mono ?_;rintro e _ ⟨rfl,y,rfl⟩)|(go_at_call 151;refine (aq (aO _ _ _ _ (HE.o _) lr.o ‹_›)).mono ?_;rintro e _ ⟨rfl,y,rfl⟩)|(go_at_call 152;refine (aq (bl _ _ _ _ _ ‹_›)).mono ?_;rintro e _ ⟨rfl,y,rfl⟩));go_ret;exact ⟨by rw[OK.o,h0,h1,h2,h3];rfl,y.ok⟩
    |true=>
     cases h4:ea d with
     |false=>
      refine aL λx0=>?_;go_enter func94,ntmps94;go_wp2_with (first|(go_at_call 98;refine (az (aP _ _ _ _ _ ‹_›)).mono ?_;rintro e _ ⟨rfl,y,rfl⟩)|(go_at_call 100;refine (aq (bh _ _ _ _ _ _ (HT.o _) (by omega) (by omega) ‹_›)).mono ?_;rintro e _ ⟨rfl,y,rfl⟩)|(go_at_call 149;refine (aq (bq d _ _ _ _ _ _ _ _ (HP.o _) ‹_›)).mono ?_;rintro e _ ⟨rfl,y,rfl⟩)|(go_at_call 150;refine (az (bn _ _ _ gQ.o ‹_›)).mono ?_;rintro e _ ⟨rfl,y,rfl⟩)|(go_at_call 151;refine (aq (aO _ _ _ _ (HE.o _) lr.o ‹_›)).mono ?_;rintro e _ ⟨rfl,y,rfl⟩)|(go_at_call 152;refine (aq (bl _ _ _ _ _ ‹_›)).mono ?_;rintro e _ ⟨rfl,y,rfl⟩));go_ret;exact ⟨by rw[OK.o,h0,h1,h2,h3,h4];rfl,y.ok⟩
     |true=>
      refine aL λx0=>?_;go_enter func94,ntmps94;go_wp2_with (first|(go_at_call 98;refine (az (aP _ _ _ _ _ ‹_›)).mono ?_;rintro e _ ⟨rfl,y,rfl⟩)|(go_at_call 100;refine (aq (bh _ _ _ _ _ _ (HT.o _) (by omega) (by omega) ‹_›)).mono ?_;rintro e _ ⟨rfl,y,rfl⟩)|(go_at_call 149;refine (aq (bq d _ _ _ _ _ _ _ _ (HP.o _) ‹_›)).mono ?_;rintro e _ ⟨rfl,y,rfl⟩)|(go_at_call 150;refine (az (bn _ _ _ gQ.o ‹_›)).mono ?_;rintro e _ ⟨rfl,y,rfl⟩)|(go_at_call 151;refine (aq (aO _ _ _ _ (HE.o _) lr.o ‹_›)).mono ?_;rintro e _ ⟨rfl,y,rfl⟩)|(go_at_call 152;refine (aq (bl _ _ _ _ _ ‹_›)).mono ?_;rintro e _ ⟨rfl,y,rfl⟩));go_ret;exact ⟨by rw[OK.o,h0,h1,h2,h3,h4];rfl,y.ok⟩
theorem Ib (d:dr) (b o:Nat) (A1:Option Addr) (c1:Nat) (A2:Option Addr) (c2:Nat) (w:World) (h:fp w b o d A1 c1 A2 c2) (hk:d.kind=3):
 Calls prog 94 #[.pointer (some ⟨b,o,none⟩)] w (bT (.bool (cA d)) w):=by
 have z0:=λy:ar w=>y.cell h.k0;have z1:=λy:ar w=>y.cell h.k1;have z2:=λy:ar w=>y.cell h.k2;have z3:=λy:ar w=>y.cell h.k3;have z4:=λy:ar w=>y.cell h.k4;have z5:=λy:ar w=>y.cell h.k5;have z6:=λy:ar w=>y.cell h.k6;have z7:=λy:ar w=>y.cell h.k7;have z8:=λy:ar w=>y.cell h.k8;have HT:=I (λy:ar w=>(h.km y).ints);have HE:=I (λy:ar w=>(h.km y).fF);have HP:=I (λy:ar w=>h.km y);have lr:=I h.sizes;have gQ:=I h.al;have OK:=I (xY hk);have b1:(d.kind==1)=false:=by simp[hk]
 have b2:(d.kind==2)=false:=by simp[hk]
 have b3:(d.kind==3)=true:=by simp[hk]
 clear h hk;cases h0:dO d.member 0 11 with
 |false=>
  refine aL λx0=>?_;go_enter func94,ntmps94;go_wp2_with (first|(go_at_call 98;refine (az (aP _ _ _ _ _ ‹_›)).mono ?_;rintro e _ ⟨rfl,y,rfl⟩)|(go_at_call 100;refine (aq (bh _ _ _ _ _ _ (HT.o _) (by omega) (by omega) ‹_›)).mono ?_;rintro e _ ⟨rfl,y,rfl⟩)|(go_at_call 149;refine (aq (bq d _ _ _ _ _ _ _ _ (HP.o _) ‹_›)).mono ?_;rintro e _ ⟨rfl,y,rfl⟩)|(go_at_call 150;refine (az (bn _ _ _ gQ.o ‹_›)).mono ?_;rintro e _ ⟨rfl,y,rfl⟩)|(go_at_call 151;refine (aq (aO _ _ _ _ (HE.o _) lr.o ‹_›)).mono ?_;rintro e _ ⟨rfl,y,rfl⟩)|(go_at_call 152;refine (aq (bl _ _ _ _ _ ‹_›)).mono ?_;rintro e _ ⟨rfl,y,rfl⟩));refine ap (by kernel_rfl) (by kernel_rfl) ?_
  repeat (go_big_quiet_step ((first|(go_at_call 98;exact az (aP _ _ _ _ _ ‹_›))|(go_at_call 100;exact aq (bh _ _ _ _ _ _ (HT.o _) (by omega) (by omega) ‹_›))|(go_at_call 149;exact aq (bq d _ _ _ _ _ _ _ _ (HP.o _) ‹_›))|(go_at_call 150;exact az (bn _ _ _ gQ.o ‹_›))|(go_at_call 151;exact aq (aO _ _ _ _ (HE.o _) lr.o ‹_›))|(go_at_call 152;exact aq (bl _ _ _ _ _ ‹_›)))))
  refine aai ?_;rintro _ ⟨y,rfl⟩;go_wp2;go_ret;exact ⟨by rw[OK.o,h0];rfl,y.ok⟩
 |true=>
  cases h1:((d.af.length:Int)==0)with
  |false=>
   refine aL λx0=>?_;go_enter func94,ntmps94;go_wp2_with (first|(go_at_call 98;refine (az (aP _ _ _ _ _ ‹_›)).mono ?_;rintro e _ ⟨rfl,y,rfl⟩)|(go_at_call 100;refine (aq (bh _ _ _ _ _ _ (HT.o _) (by omega) (by omega) ‹_›)).mono ?_;rintro e _ ⟨rfl,y,rfl⟩)|(go_at_call 149;refine (aq (bq d _ _ _ _ _ _ _ _ (HP.o _) ‹_›)).mono ?_;rintro e _ ⟨rfl,y,rfl⟩)|(go_at_call 150;refine (az (bn _ _ _ gQ.o ‹_›)).mono ?_;rintro e _ ⟨rfl,y,rfl⟩)|(go_at_call 151;refine (aq (aO _ _ _ _ (HE.o _) lr.o ‹_›)).mono ?_;rintro e _ ⟨rfl,y,rfl⟩)|(go_at_call 152;refine (aq (bl _ _ _ _ _ ‹_›)).mono ?_;rintro e _ ⟨rfl,y,rfl⟩));refine ap (by kernel_rfl) (by kernel_rfl) ?_
   repeat (go_big_quiet_step ((first|(go_at_call 98;exact az (aP _ _ _ _ _ ‹_›))|(go_at_call 100;exact aq (bh _ _ _ _ _ _ (HT.o _) (by omega) (by omega) ‹_›))|(go_at_call 149;exact aq (bq d _ _ _ _ _ _ _ _ (HP.o _) ‹_›))|(go_at_call 150;exact az (bn _ _ _ gQ.o ‹_›))|(go_at_call 151;exact aq (aO _ _ _ _ (HE.o _) lr.o ‹_›))|(go_at_call 152;exact aq (bl _ _ _ _ _ ‹_›)))))
   refine aai ?_;rintro _ ⟨y,rfl⟩;go_wp2;go_ret;exact ⟨by rw[OK.o,h0,h1];rfl,y.ok⟩
  |true=>
   cases h2:dU d.al.toList with
   |false=>
    refine aL λx0=>?_;go_enter func94,ntmps94;go_wp2_with (first|(go_at_call 98;refine (az (aP _ _ _ _ _ ‹_›)).mono ?_;rintro e _ ⟨rfl,y,rfl⟩)|(go_at_call 100;refine (aq (bh _ _ _ _ _ _ (HT.o _) (by omega) (by omega) ‹_›)).mono ?_;rintro e _ ⟨rfl,y,rfl⟩)|(go_at_call 149;refine (aq (bq d _ _ _ _ _ _ _ _ (HP.o _) ‹_›)).mono ?_;rintro e _ ⟨rfl,y,rfl⟩)|(go_at_call 150;refine (az (bn _ _ _ gQ.o ‹_›)).mono ?_;rintro e _ ⟨rfl,y,rfl⟩)|(go_at_call 151;refine (aq (aO _ _ _ _ (HE.o _) lr.o ‹_›)).mono ?_;rintro e _ ⟨rfl,y,rfl⟩)|(go_at_call 152;refine (aq (bl _ _ _ _ _ ‹_›)).mono ?_;rintro e _ ⟨rfl,y,rfl⟩));refine ap (by kernel_rfl) (by kernel_rfl) ?_
    repeat (go_big_quiet_step ((first|(go_at_call 98;exact az (aP _ _ _ _ _ ‹_›))|(go_at_call 100;exact aq (bh _ _ _ _ _ _ (HT.o _) (by omega) (by omega) ‹_›))|(go_at_call 149;exact aq (bq d _ _ _ _ _ _ _ _ (HP.o _) ‹_›))|(go_at_call 150;exact az (bn _ _ _ gQ.o ‹_›))|(go_at_call 151;exact aq (aO _ _ _ _ (HE.o _) lr.o ‹_›))|(go_at_call 152;exact aq (bl _ _ _ _ _ ‹_›)))))
    refine aai ?_;rintro _ ⟨y,rfl⟩;go_wp2;go_ret;exact ⟨by rw[OK.o,h0,h1,h2];rfl,y.ok⟩
   |true=>
    cases h3:(d.bO==0)with
    |false=>
     refine aL λx0=>?_;go_enter func94,ntmps94;go_wp2_with (first|(go_at_call 98;refine (az (aP _ _ _ _ _ ‹_›)).mono ?_;rintro e _ ⟨rfl,y,rfl⟩)|(go_at_call 100;refine (aq (bh _ _ _ _ _ _ (HT.o _) (by omega) (by omega) ‹_›)).mono ?_;rintro e _ ⟨rfl,y,rfl⟩)|(go_at_call 149;refine (aq (bq d _ _ _ _ _ _ _ _ (HP.o _) ‹_›)).mono ?_;rintro e _ ⟨rfl,y,rfl⟩)|(go_at_call 150;refine (az (bn _ _ _ gQ.o ‹_›)).mono ?_;rintro e _ ⟨rfl,y,rfl⟩)|(go_at_call 151;refine (aq (aO _ _ _ _ (HE.o _) lr.o ‹_›)).mono ?_;rintro e _ ⟨rfl,y,rfl⟩)|(go_at_call 152;refine (aq (bl _ _ _ _ _ ‹_›)).mono ?_;rintro e _ ⟨rfl,y,rfl⟩));refine ap (by kernel_rfl) (by kernel_rfl) ?_
     repeat (go_big_quiet_step ((first|(go_at_call 98;exact az (aP _ _ _ _ _ ‹_›))|(go_at_call 100;exact aq (bh _ _ _ _ _ _ (HT.o _) (by omega) (by omega) ‹_›))|(go_at_call 149;exact aq (bq d _ _ _ _ _ _ _ _ (HP.o _) ‹_›))|(go_at_call 150;exact az (bn _ _ _ gQ.o ‹_›))|(go_at_call 151;exact aq (aO _ _ _ _ (HE.o _) lr.o ‹_›))|(go_at_call 152;exact aq (bl _ _ _ _ _ ‹_›)))))
     refine aai ?_;rintro _ ⟨y,rfl⟩;go_wp2;go_ret;exact ⟨by rw[OK.o,h0,h1,h2,h3];rfl,y.ok⟩
    |true=>
     cases h4:decide ((0:Int)<(d.patch.length:Int))with
     |false=>
      have e4:decide (0<d.patch.length)=false:=by rw[<-h4];exact abZ.2 (by omega)
      refine aL λx0=>?_;go_enter func94,ntmps94;go_wp2_with (first|(go_at_call 98;refine (az (aP _ _ _ _ _ ‹_›)).mono ?_;rintro e _ ⟨rfl,y,rfl⟩)|(go_at_call 100;refine (aq (bh _ _ _ _ _ _ (HT.o _) (by omega) (by omega) ‹_›)).mono ?_;rintro e _ ⟨rfl,y,rfl⟩)|(go_at_call 149;refine (aq (bq d _ _ _ _ _ _ _ _ (HP.o _) ‹_›)).mono ?_;rintro e _ ⟨rfl,y,rfl⟩)|(go_at_call 150;refine (az (bn _ _ _ gQ.o ‹_›)).mono ?_;rintro e _ ⟨rfl,y,rfl⟩)|(go_at_call 151;refine (aq (aO _ _ _ _ (HE.o _) lr.o ‹_›)).mono ?_;rintro e _ ⟨rfl,y,rfl⟩)|(go_at_call 152;refine (aq (bl _ _ _ _ _ ‹_›)).mono ?_;rintro e _ ⟨rfl,y,rfl⟩));refine ap (by kernel_rfl) (by kernel_rfl) ?_
      repeat (go_big_quiet_step ((first|(go_at_call 98;exact az (aP _ _ _ _ _ ‹_›))|(go_at_call 100;exact aq (bh _ _ _ _ _ _ (HT.o _) (by omega) (by omega) ‹_›))|(go_at_call 149;exact aq (bq d _ _ _ _ _ _ _ _ (HP.o _) ‹_›))|(go_at_call 150;exact az (bn _ _ _ gQ.o ‹_›))|(go_at_call 151;exact aq (aO _ _ _ _ (HE.o _) lr.o ‹_›))|(go_at_call 152;exact aq (bl _ _ _ _ _ ‹_›)))))
      refine aai ?_;rintro _ ⟨y,rfl⟩;go_wp2;go_ret;exact ⟨by rw[OK.o,h0,h1,h2,h3,h4];rfl,y.ok⟩
     |true=>
      have e4:decide (0<d.patch.length)=true:=by rw[<-h4];exact abZ.2 (by omega)
      cases h5:bF d.patch with
      |false=>
       refine aL λx0=>?_;go_enter func94,ntmps94;go_wp2_with (first|(go_at_call 98;refine (az (aP _ _ _ _ _ ‹_›)).mono ?_;rintro e _ ⟨rfl,y,rfl⟩)|(go_at_call 100;refine (aq (bh _ _ _ _ _ _ (HT.o _) (by omega) (by omega) ‹_›)).mono ?_;rintro e _ ⟨rfl,y,rfl⟩)|(go_at_call 149;refine (aq (bq d _ _ _ _ _ _ _ _ (HP.o _) ‹_›)).mono ?_;rintro e _ ⟨rfl,y,rfl⟩)|(go_at_call 150;refine (az (bn _ _ _ gQ.o ‹_›)).mono ?_;rintro e _ ⟨rfl,y,rfl⟩)|(go_at_call 151;refine (aq (aO _ _ _ _ (HE.o _) lr.o ‹_›)).mono ?_;rintro e _ ⟨rfl,y,rfl⟩)|(go_at_call 152;refine (aq (bl _ _ _ _ _ ‹_›)).mono ?_;rintro e _ ⟨rfl,y,rfl⟩));refine ap (by kernel_rfl) (by kernel_rfl) ?_
       repeat (go_big_quiet_step ((first|(go_at_call 98;exact az (aP _ _ _ _ _ ‹_›))|(go_at_call 100;exact aq (bh _ _ _ _ _ _ (HT.o _) (by omega) (by omega) ‹_›))|(go_at_call 149;exact aq (bq d _ _ _ _ _ _ _ _ (HP.o _) ‹_›))|(go_at_call 150;exact az (bn _ _ _ gQ.o ‹_›))|(go_at_call 151;exact aq (aO _ _ _ _ (HE.o _) lr.o ‹_›))|(go_at_call 152;exact aq (bl _ _ _ _ _ ‹_›)))))
       refine aai ?_;rintro _ ⟨y,rfl⟩;go_wp2;go_ret;exact ⟨by rw[OK.o,h0,h1,h2,h3,h4,h5];rfl,y.ok⟩
      |true=>
       cases h6:jd d.start d.aB d.aj with
       |false=>
        refine aL λx0=>?_;go_enter func94,ntmps94;go_wp2_with (first|(go_at_call 98;refine (az (aP _ _ _ _ _ ‹_›)).mono ?_;rintro e _ ⟨rfl,y,rfl⟩)|(go_at_call 100;refine (aq (bh _ _ _ _ _ _ (HT.o _) (by omega) (by omega) ‹_›)).mono ?_;rintro e _ ⟨rfl,y,rfl⟩)|(go_at_call 149;refine (aq (bq d _ _ _ _ _ _ _ _ (HP.o _) ‹_›)).mono ?_;rintro e _ ⟨rfl,y,rfl⟩)|(go_at_call 150;refine (az (bn _ _ _ gQ.o ‹_›)).mono ?_;rintro e _ ⟨rfl,y,rfl⟩)|(go_at_call 151;refine (aq (aO _ _ _ _ (HE.o _) lr.o ‹_›)).mono ?_;rintro e _ ⟨rfl,y,rfl⟩)|(go_at_call 152;refine (aq (bl _ _ _ _ _ ‹_›)).mono ?_;rintro e _ ⟨rfl,y,rfl⟩));refine ap (by kernel_rfl) (by kernel_rfl) ?_
        repeat (go_big_quiet_step ((first|(go_at_call 98;exact az (aP _ _ _ _ _ ‹_›))|(go_at_call 100;exact aq (bh _ _ _ _ _ _ (HT.o _) (by omega) (by omega) ‹_›))|(go_at_call 149;exact aq (bq d _ _ _ _ _ _ _ _ (HP.o _) ‹_›))|(go_at_call 150;exact az (bn _ _ _ gQ.o ‹_›))|(go_at_call 151;exact aq (aO _ _ _ _ (HE.o _) lr.o ‹_›))|(go_at_call 152;exact aq (bl _ _ _ _ _ ‹_›)))))
        refine aai ?_;rintro _ ⟨y,rfl⟩;go_wp2;go_ret;exact ⟨by rw[OK.o,h0,h1,h2,h3,h4,h5,h6];rfl,y.ok⟩
       |true=>
        refine aL λx0=>?_;go_enter func94,ntmps94;go_wp2_with (first|(go_at_call 98;refine (az (aP _ _ _ _ _ ‹_›)).mono ?_;rintro e _ ⟨rfl,y,rfl⟩)|(go_at_call 100;refine (aq (bh _ _ _ _ _ _ (HT.o _) (by omega) (by omega) ‹_›)).mono ?_;rintro e _ ⟨rfl,y,rfl⟩)|(go_at_call 149;refine (aq (bq d _ _ _ _ _ _ _ _ (HP.o _) ‹_›)).mono ?_;rintro e _ ⟨rfl,y,rfl⟩)|(go_at_call 150;refine (az (bn _ _ _ gQ.o ‹_›)).mono ?_;rintro e _ ⟨rfl,y,rfl⟩)|(go_at_call 151;refine (aq (aO _ _ _ _ (HE.o _) lr.o ‹_›)).mono ?_;rintro e _ ⟨rfl,y,rfl⟩)|(go_at_call 152;refine (aq (bl _ _ _ _ _ ‹_›)).mono ?_;rintro e _ ⟨rfl,y,rfl⟩));refine ap (by kernel_rfl) (by kernel_rfl) ?_
        repeat (go_big_quiet_step ((first|(go_at_call 98;exact az (aP _ _ _ _ _ ‹_›))|(go_at_call 100;exact aq (bh _ _ _ _ _ _ (HT.o _) (by omega) (by omega) ‹_›))|(go_at_call 149;exact aq (bq d _ _ _ _ _ _ _ _ (HP.o _) ‹_›))|(go_at_call 150;exact az (bn _ _ _ gQ.o ‹_›))|(go_at_call 151;exact aq (aO _ _ _ _ (HE.o _) lr.o ‹_›))|(go_at_call 152;exact aq (bl _ _ _ _ _ ‹_›)))))
        refine aai ?_;rintro _ ⟨y,rfl⟩;go_wp2;go_ret;exact ⟨by rw[OK.o,h0,h1,h2,h3,h4,h5,h6];rfl,y.ok⟩
theorem Ic (d:dr) (b o:Nat) (A1:Option Addr) (c1:Nat) (A2:Option Addr) (c2:Nat) (w:World) (h:fp w b o d A1 c1 A2 c2) (hk:d.kind=4):
 Calls prog 94 #[.pointer (some ⟨b,o,none⟩)] w (bT (.bool (cA d)) w):=by
 have z0:=λy:ar w=>y.cell h.k0;have z1:=λy:ar w=>y.cell h.k1;have z2:=λy:ar w=>y.cell h.k2;have z3:=λy:ar w=>y.cell h.k3;have z4:=λy:ar w=>y.cell h.k4;have z5:=λy:ar w=>y.cell h.k5;have z6:=λy:ar w=>y.cell h.k6;have z7:=λy:ar w=>y.cell h.k7;have z8:=λy:ar w=>y.cell h.k8;have HT:=I (λy:ar w=>(h.km y).ints);have HE:=I (λy:ar w=>(h.km y).fF);have HP:=I (λy:ar w=>h.km y);have lr:=I h.sizes;have gQ:=I h.al;have OK:=I (Fx hk);have b1:(d.kind==1)=false:=by simp[hk]
 have b2:(d.kind==2)=false:=by simp[hk]
 have b3:(d.kind==3)=false:=by simp[hk]
 have b4:(d.kind==4)=true:=by simp[hk]
 clear h hk;obtain ⟨rm,hm⟩: ∃r,dO d.member 0 11=r:=⟨_,rfl⟩
 cases h0:(d.member==0)with
 |false=>
  refine aL λx0=>?_;go_enter func94,ntmps94;go_wp2_with (first|(go_at_call 98;refine (az (aP _ _ _ _ _ ‹_›)).mono ?_;rintro e _ ⟨rfl,y,rfl⟩)|(go_at_call 100;refine (aq (bh _ _ _ _ _ _ (HT.o _) (by omega) (by omega) ‹_›)).mono ?_;rintro e _ ⟨rfl,y,rfl⟩)|(go_at_call 149;refine (aq (bq d _ _ _ _ _ _ _ _ (HP.o _) ‹_›)).mono ?_;rintro e _ ⟨rfl,y,rfl⟩)|(go_at_call 150;refine (az (bn _ _ _ gQ.o ‹_›)).mono ?_;rintro e _ ⟨rfl,y,rfl⟩)|(go_at_call 151;refine (aq (aO _ _ _ _ (HE.o _) lr.o ‹_›)).mono ?_;rintro e _ ⟨rfl,y,rfl⟩)|(go_at_call 152;refine (aq (bl _ _ _ _ _ ‹_›)).mono ?_;rintro e _ ⟨rfl,y,rfl⟩));go_ret;exact ⟨by rw[OK.o,h0];rfl,y.ok⟩
 |true=>
  cases h1:((d.af.length:Int)==0)with
  |false=>
   refine aL λx0=>?_;go_enter func94,ntmps94;go_wp2_with (first|(go_at_call 98;refine (az (aP _ _ _ _ _ ‹_›)).mono ?_;rintro e _ ⟨rfl,y,rfl⟩)|(go_at_call 100;refine (aq (bh _ _ _ _ _ _ (HT.o _) (by omega) (by omega) ‹_›)).mono ?_;rintro e _ ⟨rfl,y,rfl⟩)|(go_at_call 149;refine (aq (bq d _ _ _ _ _ _ _ _ (HP.o _) ‹_›)).mono ?_;rintro e _ ⟨rfl,y,rfl⟩)|(go_at_call 150;refine (az (bn _ _ _ gQ.o ‹_›)).mono ?_;rintro e _ ⟨rfl,y,rfl⟩)|(go_at_call 151;refine (aq (aO _ _ _ _ (HE.o _) lr.o ‹_›)).mono ?_;rintro e _ ⟨rfl,y,rfl⟩)|(go_at_call 152;refine (aq (bl _ _ _ _ _ ‹_›)).mono ?_;rintro e _ ⟨rfl,y,rfl⟩));go_ret;exact ⟨by rw[OK.o,h0,h1];rfl,y.ok⟩
  |true=>
   cases h2:d.al.toList.isEmpty with
   |false=>
    refine aL λx0=>?_;go_enter func94,ntmps94;go_wp2_with (first|(go_at_call 98;refine (az (aP _ _ _ _ _ ‹_›)).mono ?_;rintro e _ ⟨rfl,y,rfl⟩)|(go_at_call 100;refine (aq (bh _ _ _ _ _ _ (HT.o _) (by omega) (by omega) ‹_›)).mono ?_;rintro e _ ⟨rfl,y,rfl⟩)|(go_at_call 149;refine (aq (bq d _ _ _ _ _ _ _ _ (HP.o _) ‹_›)).mono ?_;rintro e _ ⟨rfl,y,rfl⟩)|(go_at_call 150;refine (az (bn _ _ _ gQ.o ‹_›)).mono ?_;rintro e _ ⟨rfl,y,rfl⟩)|(go_at_call 151;refine (aq (aO _ _ _ _ (HE.o _) lr.o ‹_›)).mono ?_;rintro e _ ⟨rfl,y,rfl⟩)|(go_at_call 152;refine (aq (bl _ _ _ _ _ ‹_›)).mono ?_;rintro e _ ⟨rfl,y,rfl⟩));go_ret;exact ⟨by rw[OK.o,h0,h1,h2];rfl,y.ok⟩
   |true=>
    cases h3:(d.bO==0)with
    |false=>
     refine aL λx0=>?_;go_enter func94,ntmps94;go_wp2_with (first|(go_at_call 98;refine (az (aP _ _ _ _ _ ‹_›)).mono ?_;rintro e _ ⟨rfl,y,rfl⟩)|(go_at_call 100;refine (aq (bh _ _ _ _ _ _ (HT.o _) (by omega) (by omega) ‹_›)).mono ?_;rintro e _ ⟨rfl,y,rfl⟩)|(go_at_call 149;refine (aq (bq d _ _ _ _ _ _ _ _ (HP.o _) ‹_›)).mono ?_;rintro e _ ⟨rfl,y,rfl⟩)|(go_at_call 150;refine (az (bn _ _ _ gQ.o ‹_›)).mono ?_;rintro e _ ⟨rfl,y,rfl⟩)|(go_at_call 151;refine (aq (aO _ _ _ _ (HE.o _) lr.o ‹_›)).mono ?_;rintro e _ ⟨rfl,y,rfl⟩)|(go_at_call 152;refine (aq (bl _ _ _ _ _ ‹_›)).mono ?_;rintro e _ ⟨rfl,y,rfl⟩));go_ret;exact ⟨by rw[OK.o,h0,h1,h2,h3];rfl,y.ok⟩
    |true=>
     cases h4:ea d with
     |false=>
      refine aL λx0=>?_;go_enter func94,ntmps94;go_wp2_with (first|(go_at_call 98;refine (az (aP _ _ _ _ _ ‹_›)).mono ?_;rintro e _ ⟨rfl,y,rfl⟩)|(go_at_call 100;refine (aq (bh _ _ _ _ _ _ (HT.o _) (by omega) (by omega) ‹_›)).mono ?_;rintro e _ ⟨rfl,y,rfl⟩)|(go_at_call 149;refine (aq (bq d _ _ _ _ _ _ _ _ (HP.o _) ‹_›)).mono ?_;rintro e _ ⟨rfl,y,rfl⟩)|(go_at_call 150;refine (az (bn _ _ _ gQ.o ‹_›)).mono ?_;rintro e _ ⟨rfl,y,rfl⟩)|(go_at_call 151;refine (aq (aO _ _ _ _ (HE.o _) lr.o ‹_›)).mono ?_;rintro e _ ⟨rfl,y,rfl⟩)|(go_at_call 152;refine (aq (bl _ _ _ _ _ ‹_›)).mono ?_;rintro e _ ⟨rfl,y,rfl⟩));go_ret;exact ⟨by rw[OK.o,h0,h1,h2,h3,h4];rfl,y.ok⟩
     |true=>
      refine aL λx0=>?_;go_enter func94,ntmps94;go_wp2_with (first|(go_at_call 98;refine (az (aP _ _ _ _ _ ‹_›)).mono ?_;rintro e _ ⟨rfl,y,rfl⟩)|(go_at_call 100;refine (aq (bh _ _ _ _ _ _ (HT.o _) (by omega) (by omega) ‹_›)).mono ?_;rintro e _ ⟨rfl,y,rfl⟩)|(go_at_call 149;refine (aq (bq d _ _ _ _ _ _ _ _ (HP.o _) ‹_›)).mono ?_;rintro e _ ⟨rfl,y,rfl⟩)|(go_at_call 150;refine (az (bn _ _ _ gQ.o ‹_›)).mono ?_;rintro e _ ⟨rfl,y,rfl⟩)|(go_at_call 151;refine (aq (aO _ _ _ _ (HE.o _) lr.o ‹_›)).mono ?_;rintro e _ ⟨rfl,y,rfl⟩)|(go_at_call 152;refine (aq (bl _ _ _ _ _ ‹_›)).mono ?_;rintro e _ ⟨rfl,y,rfl⟩));go_ret;exact ⟨by rw[OK.o,h0,h1,h2,h3,h4];rfl,y.ok⟩
def dg (u:Nat):List UInt8:=if u=0 then []else decDigits u
theorem La (u:Nat) (h: ¬u=0):dg u=dg (u/10)++[UInt8.ofNat (48+u% 10)]:=by
 unfold dg;rw[aah h];by_cases Ie:u<10
 ·rw[aaj (by omega),decDigits,dif_pos Ie,Nat.mod_eq_of_lt Ie];rfl
 rw[aah (by omega),decDigits,dif_neg Ie]
theorem Qo (a b:List UInt8) (n:Int) (h:a++b=itoa n) (h1: -9223372036854775808<=n) (h2:n<=9223372036854775807):b.length<=21:=by
 have:=itoa_length_le n h1 h2;rw[<-h,aak]at this;omega
theorem Nu (n:Int) (h:0<n):dg n.toNat=itoa n:=by
 unfold dg itoa;rw[aah (by omega),aah (by omega)]
end Go.Proofs.YtbcggaldkihcaaaGreat
