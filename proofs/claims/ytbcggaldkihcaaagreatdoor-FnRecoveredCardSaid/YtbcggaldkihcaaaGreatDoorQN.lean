/- Sentences, walked: the reference's. Edits, walked: the reference's. -/
import Derived.Test.YtbcggaldkihcaaaGreatDoorQA
set_option maxHeartbeats 8000000
set_option maxRecDepth 100000
namespace Go.Proofs.YtbcggaldkihcaaaGreatDoor
open Tryz
open Go.RowKit
theorem l6 {l:List UInt8} (h:l.length<1\/24<l.length\/dv l 0=32\/dv l (l.length-1)=32):bP l=false:=by
 unfold bP;rcases h with h|h|h|h
 ·have:decide (1<=l.length)=false:=decide_eq_false (by omega);rw[this];simp
 ·have:decide (l.length<=24)=false:=decide_eq_false (by omega);rw[this];simp
 ·simp[h]
 simp[h]
theorem CO {l:List UInt8} (h1:1<=l.length) (h2:l.length<=24) (h3:dv l 0≠32) (h4:dv l (l.length-1)≠32) (h:cE l.length (λj=>fJ (dv l j))=true):bP l=true:=by
 unfold bP;rw[h];simp[h1,h2,h3,h4]
theorem pL (s:ByteArray) (w:World) (hs:s.size<=maxLen):
 Calls prog 116 #[.string s] w (f' (.bool (bP s.toList)) w):=by
 rw[ByteArray.toList_eq];unfold maxLen at hs;have ja:s.data.toList.length=s.size:=by simp
 by_cases c1:s.size<1
 ·have HB:=I (l6 (l:=s.data.toList) (.inl (by omega)));have bU:decide ((s.size:Int)<1)=true:=by simp;omega
  clear ja c1;go_enter func116,ntmps116;go_wp2;go_ret;exact ⟨by rw[HB.o];rfl,0,rfl⟩
 by_cases c2:24<s.size
 ·have HB:=I (l6 (l:=s.data.toList) (.inr (.inl (by omega))));have bU:decide ((s.size:Int)<1)=false:=by simp;omega
  have b2:decide ((24:Int)<(s.size:Int))=true:=by simp;omega
  clear ja c1 c2;go_enter func116,ntmps116;go_wp2;go_ret;exact ⟨by rw[HB.o];rfl,0,rfl⟩
 have Sv:0<s.size:=by omega
 have Sw:s.size-1<s.size:=by omega
 have d0:=iZ s 0 Sv;have d1:=iZ s (s.size-1) Sw;have bU:decide ((s.size:Int)<1)=false:=by simp;omega
 have b2:decide ((24:Int)<(s.size:Int))=false:=by simp;omega
 have p0:(0:Int)<(s.size:Int):=by omega
 have e1:(1:Int)<=(s.size:Int):=by omega
 by_cases c3:(s[0]'Sv).toNat=32
 ·have HB:=I (l6 (l:=s.data.toList) (.inr (.inr (.inl (by rw[d0];exact c3)))));have b3:(((s[0]'Sv).toNat:Int)==32)=true:=by simp;omega
  clear ja c1 c2 c3 d0 d1;go_enter func116,ntmps116;go_wp2;go_ret;exact ⟨by rw[HB.o];rfl,0,rfl⟩
 have b3:(((s[0]'Sv).toNat:Int)==32)=false:=by simp;omega
 by_cases c4:(s[s.size-1]'Sw).toNat=32
 ·have HB:=I (l6 (l:=s.data.toList) (.inr (.inr (.inr (by rw[ja,d1];exact c4)))));have b4:(((s[s.size-1]'Sw).toNat:Int)==32)=true:=by simp;omega
  clear ja c1 c2 c3 c4 d0 d1;go_enter func116,ntmps116;go_wp2;go_ret;exact ⟨by rw[HB.o];rfl,0,rfl⟩
 have b4:(((s[s.size-1]'Sw).toNat:Int)==32)=false:=by simp;omega
 have H8:=I (λh=>CO (l:=s.data.toList) (by omega) (by omega) (by rw[d0];exact c3) (by rw[ja,d1];exact c4) h);clear c1 c2 c3 c4 d0 d1;go_enter func116,ntmps116;go_wp2;go_loop [3] (λi=> ∃k:Nat,k<=s.size/\i= .int .i64 (k:Int)/\cE k (λj=>fJ (dv s.data.toList j))=true) (λi=>s.size-(RowKit.intOf i).toNat);case atStart=>exact ⟨0,Nat.zero_le _,rfl,rfl⟩
 case round=>
  obtain ⟨k,hk,rfl,dn⟩:=hrel;have HA:=I dn;clear dn;by_cases aI:k<s.size
  ·have hc:=iZ s k aI;have HS:=cR k (λj=>fJ (dv s.data.toList j));rw[HA.o,Bool.true_and,hc]at HS;have HS:=I HS;have HC:=I hc;clear hc bU b2 b3 b4;have hh:(97<=s[k].toNat/\s[k].toNat<=122)\/(122<s[k].toNat)\/(48<=s[k].toNat/\s[k].toNat<=57)\/(57<s[k].toNat/\s[k].toNat<97)\/s[k].toNat=32\/(s[k].toNat<48/\s[k].toNat≠32):=by omega
   rcases hh with hh|hh|hh|hh|hh|hh
   ·have aa:decide ((97:Int)<=(s[k].toNat:Int))=true:=by simp;omega
    have ab:decide ((s[k].toNat:Int)<=122)=true:=by simp;omega
    have ae:((s[k].toNat:Int)==32)=false:=by simp;omega
    have kj:fJ s[k].toNat=true:=(iQ _).2 (by omega);have sO:=I kj;clear kj hh;go_wp2;go_round;case rel=>exact ⟨k+1,by omega,by go_num,HS.o.trans sO.o⟩
    case measure=>simp[RowKit.intOf];omega
   ·have aa:decide ((97:Int)<=(s[k].toNat:Int))=true:=by simp;omega
    have ab:decide ((s[k].toNat:Int)<=122)=false:=by simp;omega
    have ac:decide ((48:Int)<=(s[k].toNat:Int))=true:=by simp;omega
    have ad:decide ((s[k].toNat:Int)<=57)=false:=by simp;omega
    have ae:((s[k].toNat:Int)==32)=false:=by simp;omega
    have kj:fJ s[k].toNat=false:=io (by omega);have sO:=I kj;clear kj hh;go_wp2;go_ret;exact ⟨by rw[jY s.data.toList k (by simpa using aI) (by rw[HC.o];exact sO.o)];rfl,0,rfl⟩
   ·have aa:decide ((97:Int)<=(s[k].toNat:Int))=false:=by simp;omega
    have ab:decide ((s[k].toNat:Int)<=122)=true:=by simp;omega
    have ac:decide ((48:Int)<=(s[k].toNat:Int))=true:=by simp;omega
    have ad:decide ((s[k].toNat:Int)<=57)=true:=by simp;omega
    have ae:((s[k].toNat:Int)==32)=false:=by simp;omega
    have kj:fJ s[k].toNat=true:=(iQ _).2 (by omega);have sO:=I kj;clear kj hh;go_wp2;go_round;case rel=>exact ⟨k+1,by omega,by go_num,HS.o.trans sO.o⟩
    case measure=>simp[RowKit.intOf];omega
   ·have aa:decide ((97:Int)<=(s[k].toNat:Int))=false:=by simp;omega
    have ab:decide ((s[k].toNat:Int)<=122)=true:=by simp;omega
    have ac:decide ((48:Int)<=(s[k].toNat:Int))=true:=by simp;omega
    have ad:decide ((s[k].toNat:Int)<=57)=false:=by simp;omega
    have ae:((s[k].toNat:Int)==32)=false:=by simp;omega
    have kj:fJ s[k].toNat=false:=io (by omega);have sO:=I kj;clear kj hh;go_wp2;go_ret;exact ⟨by rw[jY s.data.toList k (by simpa using aI) (by rw[HC.o];exact sO.o)];rfl,0,rfl⟩
   ·have aa:decide ((97:Int)<=(s[k].toNat:Int))=false:=by simp;omega
    have ab:decide ((s[k].toNat:Int)<=122)=true:=by simp;omega
    have ac:decide ((48:Int)<=(s[k].toNat:Int))=false:=by simp;omega
    have ad:decide ((s[k].toNat:Int)<=57)=true:=by simp;omega
    have ae:((s[k].toNat:Int)==32)=true:=by simp;omega
    have kj:fJ s[k].toNat=true:=(iQ _).2 (by omega);have sO:=I kj;clear kj hh;go_wp2;go_round;case rel=>exact ⟨k+1,by omega,by go_num,HS.o.trans sO.o⟩
    case measure=>simp[RowKit.intOf];omega
   have aa:decide ((97:Int)<=(s[k].toNat:Int))=false:=by simp;omega
   have ab:decide ((s[k].toNat:Int)<=122)=true:=by simp;omega
   have ac:decide ((48:Int)<=(s[k].toNat:Int))=false:=by simp;omega
   have ad:decide ((s[k].toNat:Int)<=57)=true:=by simp;omega
   have ae:((s[k].toNat:Int)==32)=false:=by simp;omega
   have kj:fJ s[k].toNat=false:=io (by omega);have sO:=I kj;clear kj hh;go_wp2;go_ret;exact ⟨by rw[jY s.data.toList k (by simpa using aI) (by rw[HC.o];exact sO.o)];rfl,0,rfl⟩
  have di:k=s.size:=by omega
  have HK:=I (H8.o (by rw[ja,<-di];exact HA.o));have eA: ¬(k:Int)<(s.size:Int):=by omega
  clear di aI ja;go_wp2;go_ret;exact ⟨by rw[HK.o];rfl,0,rfl⟩
def ky (e:aV):Bool:=
 (decide (e.kind=1)&&decide (e.dA.toList=[])&&bP e.new.toList)||(decide (e.kind=2)&&bP e.dA.toList&&decide (e.new.toList=[]))||
  (decide (e.kind=3)&&bP e.dA.toList&&bP e.new.toList&&!(e.dA.toList==e.new.toList))
theorem oD (e:aV):dE e=(dO e.id 1 99&&ky e):=rfl
theorem ir (s:ByteArray) (w:World) (r:Bool) (hs:s.size<=maxLen) (h:bP s.toList=r):
 Calls prog 116 #[.string s] w (f' (.bool r) w):=h▸pL s w hs
theorem Fu (e:aV) (b o:Nat) (w:World) (hs:mY e) (c0:w.cell? ⟨b,o,none⟩=some (.int .i64 e.kind)) (c2:w.cell? ⟨b,o+2,none⟩=some (.string e.dA)) (c3:w.cell? ⟨b,o+3,none⟩=some (.string e.new)):
 Calls prog 96 #[.pointer (some ⟨b,o,none⟩)] w (bT (.bool (ky e)) w):=by
 obtain ⟨kind,id,dA,new⟩:=e;have c0:w.cell? ⟨b,o,none⟩=some (.int .i64 kind):=c0;have c2:w.cell? ⟨b,o+2,none⟩=some (.string dA):=c2;have c3:w.cell? ⟨b,o+3,none⟩=some (.string new):=c3;have tN:ag (dA.size<=maxLen):=I hs.1;have Nr:ag (new.size<=maxLen):=I hs.2;clear hs;rcases (show kind=1\/kind=2\/kind=3\/(kind≠1/\kind≠2/\kind≠3) by omega)with rfl|rfl|rfl|⟨n1,n2,n3⟩
 ·have HK:ag (ky ⟨1,id,dA,new⟩=(decide (dA.toList=[])&&bP new.toList)):=I (by simp[ky]);by_cases ho:dA.toList=[]
  ·go_enter func96,ntmps96;go_wp2_with (fail);refine (pL new _ Nr.o).mono ?_;rintro e w2 ⟨rfl,k2,rfl⟩;go_wp2;go_ret;exact ⟨by rw[HK.o];simp[ho],below_drewN (Below.refl _ _) _⟩
  go_enter func96,ntmps96;go_wp2;go_ret;exact ⟨by rw[HK.o];simp[ho],Below.refl _ _⟩
 ·have HK:ag (ky ⟨2,id,dA,new⟩=(bP dA.toList&&decide (new.toList=[]))):=I (by simp[ky]);cases ho:bP dA.toList with
  |true=>
   have HO:=I ho;clear ho;by_cases hn:new.toList=[]
   all_goals
    go_enter func96,ntmps96;go_wp2_with (fail);refine (pL dA _ tN.o).mono ?_;rintro e w2 ⟨rfl,k2,rfl⟩;rw[HO.o];go_wp2;go_ret;exact ⟨by rw[HK.o];simp[HO.o,hn],below_drewN (Below.refl _ _) _⟩
  |false=>
   have HO:=I ho;clear ho;go_enter func96,ntmps96;go_wp2_with (fail);refine (pL dA _ tN.o).mono ?_;rintro e w2 ⟨rfl,k2,rfl⟩;rw[HO.o];go_wp2;go_ret;exact ⟨by rw[HK.o];simp[HO.o],below_drewN (Below.refl _ _) _⟩
 ·have HK:ag (ky ⟨3,id,dA,new⟩=(bP dA.toList&&bP new.toList&&!(dA.toList==new.toList))):=I (by simp[ky]);have z2:=λx:ar w=>x.cell c2;have z3:=λx:ar w=>x.cell c3;have CB:=tN.o;have wY:=Nr.o;cases ho:bP dA.toList with
  |true=>
   cases hn:bP new.toList with
   |true=>
    cases he:(dA.toList==new.toList)with
    |true=>
     go_enter func96,ntmps96;go_wp2;refine bj (by kernel_rfl) (by kernel_rfl) ?_
     repeat (go_big_quiet_step ((go_at_call 116;exact az (ir _ _ _ ‹_› ‹_›))))
     refine wpQuiet_nil ?_;rintro _ ⟨y,rfl⟩;go_wp2;go_ret;exact ⟨by rw[HK.o];simp[ho,hn,he],y.ok⟩
    |false=>
     go_enter func96,ntmps96;go_wp2;refine bj (by kernel_rfl) (by kernel_rfl) ?_
     repeat (go_big_quiet_step ((go_at_call 116;exact az (ir _ _ _ ‹_› ‹_›))))
     refine wpQuiet_nil ?_;rintro _ ⟨y,rfl⟩;go_wp2;go_ret;exact ⟨by rw[HK.o];simp[ho,hn,he],y.ok⟩
   |false=>
    go_enter func96,ntmps96;go_wp2;refine bj (by kernel_rfl) (by kernel_rfl) ?_
    repeat (go_big_quiet_step ((go_at_call 116;exact az (ir _ _ _ ‹_› ‹_›))))
    refine wpQuiet_nil ?_;rintro _ ⟨y,rfl⟩;go_wp2;go_ret;exact ⟨by rw[HK.o];simp[ho,hn],y.ok⟩
  |false=>
   go_enter func96,ntmps96;go_wp2;refine bj (by kernel_rfl) (by kernel_rfl) ?_
   repeat (go_big_quiet_step ((go_at_call 116;exact az (ir _ _ _ ‹_› ‹_›))))
   refine wpQuiet_nil ?_;rintro _ ⟨y,rfl⟩;go_wp2;go_ret;exact ⟨by rw[HK.o];simp[ho],y.ok⟩
 have HK:ag (ky ⟨kind,id,dA,new⟩=false):=I (by simp[ky,n1,n2,n3]);have m1:(kind==1)=false:=by simp;omega
 have m2:(kind==2)=false:=by simp;omega
 have m3:(kind==3)=false:=by simp;omega
 clear n1 n2 n3;go_enter func96,ntmps96;go_wp2;go_ret;exact ⟨by rw[HK.o];rfl,Below.refl _ _⟩
theorem aL {P:Program} {f:FuncId} {args:Array Value} {w:World} {R:Ending->World->Prop} (h: ∀x:ar w,Calls P f args x.val R):Calls P f args w R:=
 h ⟨w,Below.refl _ _⟩
theorem yY {P:Program} {c:Code} {Q:Exit->Act->World->Prop} {a:Act} {W:World} (h: ∀x:ar W,c.wp P Q a x.val):c.wp P Q a W:=
 h ⟨W,Below.refl _ _⟩
theorem ap {P:Program} {id:Nat} {Q:Exit->Act->World->Prop} {a:Act} {W:World} {x:ar W} {l:List Oper} (hm:P.follows .mixedOrders=true) (hB:Region.lexB .any l.toArray=true)
 (h:wpQuiet P l.toArray (λw'=> ∃x:ar W,w'=x.val) (λa'=> ∀w',(∃x:ar W,w'=x.val)->Q .normal a' w') l a):(Code.region id l.toArray true).wp P Q a x.val:=
 wp_region_quiet (C:=λw'=> ∃x:ar W,w'=x.val) hm hB ⟨⟨x.val.drew,x.ok.drew⟩,rfl⟩ (by simpa using h)
def ar.dA {w:World} {o:Obj} (y:ar (w.alloc o)):ar w:=⟨y.val,((Below.refl w.heap.size w).alloc (Nat.le_refl _) o).trans (y.ok.mono (by simp))⟩
def ar.of {w:World} (x:ar w) (y:ar x.val):ar w:=⟨y.val,x.ok.trans (y.ok.mono x.ok.size)⟩
theorem aJ {w W:World} (h:Below w.heap.size w W) (x:ar W):Below w.heap.size w x.val:=h.trans (x.ok.mono h.size)
theorem cz.km {α:Type} {R:World->Nat->List Value->α->Prop} {size:Nat} {W:World} {B:Nat} {v:Value} {xs:List α} (h:cz R size W B v xs) (hR:Hx R) (hB:B<=W.heap.size): ∀x:ar W,cz R size x.val x.val.heap.size v xs:=
 λx=>h.on hR (x.ok.mono hB) (Nat.le_trans hB x.ok.size)
theorem aP (n a b:Int) (w:World) (r:Bool) (h:dO n a b=r):Calls prog 70 #[.int .i64 n,.int .i64 a,.int .i64 b] w (f' (.bool r) w):=h▸rl n a b w
theorem pM (e:aV) (b o:Nat) (w:World) (r:Bool) (hs:mY e) (c0:w.cell? ⟨b,o,none⟩=some (.int .i64 e.kind)) (c2:w.cell? ⟨b,o+2,none⟩=some (.string e.dA)) (c3:w.cell? ⟨b,o+3,none⟩=some (.string e.new)) (h:ky e=r):
 Calls prog 96 #[.pointer (some ⟨b,o,none⟩)] w (bT (.bool r) w):=h▸Fu e b o w hs c0 c2 c3
theorem CP (es:List aV) (w:World) (v:Value) (h:bg w w.heap.size v es) (hs:bS es):
 Calls prog 74 #[v] w (bT (.bool (bF es)) w):=by
 obtain ⟨A,c,rfl,hc,hm,cn⟩:=h;unfold maxLen at hm;have rn:es.length<=9223372036854775807:=by omega
 have gH:=I cn;have HS:=I hs;clear cn hs;refine aL λx0=>?_;go_enter func74,ntmps74;go_wp2;go_loopw [3] (λi wr=> ∃(k:Nat) (x:ar w),k<=es.length/\i= .int .i64 (k:Int)/\cE k (fA es)=true/\wr=x.val) (λi _=>es.length-(RowKit.intOf i).toNat);case atStart=>exact ⟨0,x0,Nat.zero_le _,rfl,rfl,rfl⟩
 case round=>
  obtain ⟨k,x,hk,rfl,dn,rfl⟩:=hrel;have HA:=I dn;clear dn;by_cases aI:k<es.length
  ·obtain ⟨b,off,rfl,bD,aC⟩:=gH.o (by omega);have aH:es[k]?=some es[k]:=List.getElem?_eq_getElem aI;obtain ⟨c0,c1,c2,c3⟩:=ln aC aH;have z0:=λy:ar w=>y.cell c0;have z1:=λy:ar w=>y.cell c1;have z2:=λy:ar w=>y.cell c2;have z3:=λy:ar w=>y.cell c3;have HG:=I aH;have HC:=I aC;have gU:=HS.o es[k] (List.getElem_mem aI);clear aH aC c0 c1 c2 c3;generalize es[k]=e at*;cases h1:dO e.id 1 99 with
   |false=>
    have H1:=I h1;have HB:=I (kl aI (oC HG.o (by rw[oD,h1];rfl)));clear h1;go_wp2_with (fail);refine ap (by kernel_rfl) (by kernel_rfl) ?_
    repeat (go_big_quiet_step ((first|(go_at_call 70;exact az (aP _ _ _ _ _ H1.o)))))
    refine wpQuiet_nil ?_;rintro _ ⟨y,rfl⟩;go_wp2;go_ret;exact ⟨by rw[HB.o];rfl,y.ok⟩
   |true=>
    have H1:=I h1;clear h1;cases h2:ky e with
    |false=>
     have H2:=I h2;have HB:=I (kl aI (oC HG.o (by rw[oD,h2];simp)));clear h2;go_wp2_with (fail);refine ap (by kernel_rfl) (by kernel_rfl) ?_
     repeat (go_big_quiet_step ((first|(go_at_call 70;exact az (aP _ _ _ _ _ H1.o))|(go_at_call 96;exact aq (pM e _ _ _ _ gU (z0 _) (z2 _) (z3 _) H2.o)))))
     refine wpQuiet_nil ?_;rintro _ ⟨y,rfl⟩;go_wp2;go_ret;exact ⟨by rw[HB.o];rfl,y.ok⟩
    |true=>
     have H2:=I h2;have HO:ag (dE e=true):=I (by rw[oD,H1.o,h2];rfl);clear h2;have gN:=cR k (fA es);rw[HA.o,Bool.true_and]at gN;have gN:=I gN;by_cases jA:k=0
     ·have HN:ag (cE (k+1) (fA es)=true):=gN.o.trans (mZ jA HG.o HO.o);have rc:decide ((0:Int)<(k:Int))=false:=by simp;omega
      have H0:decide (0<k)=false:=by simp;omega
      clear jA;go_wp2_with (fail);refine ap (by kernel_rfl) (by kernel_rfl) ?_
      repeat (go_big_quiet_step ((first|(go_at_call 70;exact az (aP _ _ _ _ _ H1.o))|(go_at_call 96;exact aq (pM e _ _ _ _ gU (z0 _) (z2 _) (z3 _) H2.o)))))
      refine wpQuiet_nil ?_;rintro _ ⟨y,rfl⟩;go_wp2;go_roundw;case rel=>exact ⟨k+1,y,by omega,by go_num,HN.o,rfl⟩
      case measure=>simp[RowKit.intOf];omega
     obtain ⟨m,rfl⟩: ∃m,k=m+1:=⟨k-1,by omega⟩
     have hd:es[m]?=some (es[m]'(by omega)):=List.getElem?_eq_getElem (by omega);obtain ⟨_,d1,_,_⟩:=ln HC.o hd;generalize (es[m]'(by omega))=d at*;have HP:=I (m9 hd HG.o HO.o);have z4:=λy:ar w=>y.cell d1;clear hd jA d1;by_cases hid:d.id<e.id
     ·have HN:ag (cE (m+1+1) (fA es)=true):=gN.o.trans (HP.o.trans (decide_eq_true hid));have uT: ¬(e.id<=d.id):=by omega
      go_wp2_with (fail);refine ap (by kernel_rfl) (by kernel_rfl) ?_
      repeat (go_big_quiet_step ((first|(go_at_call 70;exact az (aP _ _ _ _ _ H1.o))|(go_at_call 96;exact aq (pM e _ _ _ _ gU (z0 _) (z2 _) (z3 _) H2.o)))))
      refine wpQuiet_nil ?_;rintro _ ⟨y,rfl⟩;go_wp2;go_roundw;case rel=>exact ⟨(m+1)+1,y,by omega,by go_num,HN.o,rfl⟩
      case measure=>simp[RowKit.intOf];omega
     have HB:=I (kl aI (HP.o.trans (decide_eq_false hid)));have uT:e.id<=d.id:=by omega
     go_wp2_with (fail);refine ap (by kernel_rfl) (by kernel_rfl) ?_
     repeat (go_big_quiet_step ((first|(go_at_call 70;exact az (aP _ _ _ _ _ H1.o))|(go_at_call 96;exact aq (pM e _ _ _ _ gU (z0 _) (z2 _) (z3 _) H2.o)))))
     refine wpQuiet_nil ?_;rintro _ ⟨y,rfl⟩;go_wp2;go_ret;exact ⟨by rw[HB.o];rfl,y.ok⟩
  have di:k=es.length:=by omega
  have hP:bF es=decide (es.length<=16):=by
   rw[lp,<-di,HA.o,Bool.true_and]
  have HP:=I hP;have eA: ¬(k:Int)<(es.length:Int):=by omega
  clear hP di aI;by_cases rp:es.length<=16
  all_goals
   have uU:=I rp;have Hg:decide ((es.length:Int)<=16)=decide (es.length<=16):=decide_eq_decide.2 (by omega);first|rw[decide_eq_true uU.o]at Hg|rw[decide_eq_false uU.o]at Hg
   clear rp;go_wp2;go_ret;exact ⟨by rw[HP.o];simp[uU.o],x.ok⟩
theorem H9 (zs:List Int) (z:Int) (w:World) (v:Value) (h:aae w w.heap.size v zs):
 Calls prog 41 #[v,.int .i64 z] w (bT (.bool (zs.contains z)) w):=by
 obtain ⟨A,c,rfl,hc,hm,cn⟩:=h;unfold maxLen at hm;have rn:zs.length<=9223372036854775807:=by omega
 have gH:=I cn;obtain ⟨r,hr⟩: ∃r,zs.contains z=r:=⟨_,rfl⟩
 rw[hr];have HR:=I hr;clear cn hr;go_enter func41,ntmps41;go_wp2;go_loop [5] (λi=> ∃k:Nat,k<=zs.length/\i= .int .i64 (k:Int)/\z∉zs.take k) (λi=>zs.length-(RowKit.intOf i).toNat);case atStart=>exact ⟨0,Nat.zero_le _,rfl,by simp⟩
 case round=>
  obtain ⟨k,hk,rfl,rf⟩:=hrel;have HN:=I rf;clear rf;by_cases aI:k<zs.length
  ·obtain ⟨b,off,rfl,bD,aC⟩:=gH.o (by omega);have aH:zs[k]?=some zs[k]:=List.getElem?_eq_getElem aI;have x0:=ints_at aC aH;have H5:zs.take (k+1)=zs.take k++[zs[k]]:=by rw[List.take_succ_eq_append_getElem aI]
   have HG:=I aH;have HT:=I H5;clear aH aC H5;generalize zs[k]=u at*;by_cases hz:u=z
   ·have ez:(u==z)=true:=by simp[hz]
    have HC:ag (r=true):=I (by rw[<-HR.o,List.contains_iff_mem,<-hz];exact List.mem_of_getElem? HG.o);clear hz;go_wp2;go_ret;exact ⟨by rw[HC.o];rfl,Below.refl _ _⟩
   have ez:(u==z)=false:=by simp[hz]
   have HZ:=I hz;clear hz;go_wp2;go_round;case rel=>exact ⟨k+1,by omega,by go_num,by rw[HT.o,List.mem_append,List.mem_singleton];rintro (h|h);exact HN.o h;exact HZ.o h.symm⟩
   case measure=>simp[RowKit.intOf];omega
  have di:k=zs.length:=by omega
  have eA: ¬(k:Int)<(zs.length:Int):=by omega
  have HC:ag (r=false):=I (by
   rw[<-HR.o,Bool.eq_false_iff,ne_eq,List.contains_iff_mem];have:=HN.o
   rwa [di,List.take_length]at this)
  clear di aI;go_wp2;go_ret;exact ⟨by rw[HC.o];rfl,Below.refl _ _⟩
theorem mA (zs:List Int) (z:Int) (w:World) (v:Value) (r:Bool) (h:aae w w.heap.size v zs) (hr:zs.contains z=r):
 Calls prog 41 #[v,.int .i64 z] w (bT (.bool r) w):=hr▸H9 zs z w v h
theorem uW (zs:List Int) (member n:Int) (w:World) (v:Value) (h:aae w w.heap.size v zs) (kM: -1000<=n) (rq:n<=1000):
 Calls prog 71 #[v,.int .i64 member,.int .i64 n] w (bT (.bool (cF zs member n)) w):=by
 have HI:=I h;obtain ⟨A,c,rfl,hc,hm,cn⟩:=h;unfold maxLen at hm;have rn:zs.length<=9223372036854775807:=by omega
 have gH:=I cn;clear cn;have CQ:IntKind.i64.wrap (n-1)=n-1:=IntWalk.i64_in _ (by omega);have HW:=I CQ;clear CQ;refine aL λx0=>?_;go_enter func71,ntmps71;go_wp2;go_loopw [7] (λi wr=> ∃(k:Nat) (x:ar w),k<=zs.length/\i= .int .i64 (k:Int)/\cE k (kc zs member n)=true/\wr=x.val) (λi _=>zs.length-(RowKit.intOf i).toNat);case atStart=>exact ⟨0,x0,Nat.zero_le _,rfl,rfl,rfl⟩
 case round=>
  obtain ⟨k,x,hk,rfl,dn,rfl⟩:=hrel;have HA:=I dn;clear dn;by_cases aI:k<zs.length
  ·obtain ⟨b,off,hA,bD,aC⟩:=gH.o (by omega);subst hA;have aH:zs[k]?=some zs[k]:=List.getElem?_eq_getElem aI;have c0:=ints_at aC aH;have z0:=λy:ar w=>y.cell c0;have HG:=I aH;have HT:=I (nb (member:=member) (n:=n) aH);have gN:=cR k (kc zs member n);rw[HA.o,Bool.true_and]at gN;have gN:=I gN;have HSub:ag (∀y:ar w,aae y.val y.val.heap.size (.slice (some ⟨b,off,none⟩) k c) (zs.take k)):=I (cz.km (cz.take HI.o k hk) (Pl.stays _) (Nat.le_refl _));clear aH aC c0;generalize zs[k]=z at*;have rc:(k:Int)<=(c:Int):=by omega
   have jA:(0:Int)<=(k:Int):=by omega
   cases h1:dO z 0 (n-1)with
   |false=>
    have HB:=I (i' aI (HT.o.trans (by rw[h1];rfl)));have CQ:=HW.o;go_wp2_with (fail);refine ap (by kernel_rfl) (by kernel_rfl) ?_
    repeat (go_big_quiet_step ((first|(go_at_call 70;exact az (aP _ _ _ _ _ h1)))))
    refine wpQuiet_nil ?_;rintro _ ⟨y,rfl⟩;go_wp2;go_ret;exact ⟨by rw[HB.o];rfl,y.ok⟩
   |true=>
    by_cases hz:z=member
    ·have ez:(z==member)=true:=by simp[hz]
     have HB:=I (i' aI (HT.o.trans (by rw[h1];simp[hz])));have CQ:=HW.o;clear hz;go_wp2_with (fail);refine ap (by kernel_rfl) (by kernel_rfl) ?_
     repeat (go_big_quiet_step ((first|(go_at_call 70;exact az (aP _ _ _ _ _ h1)))))
     refine wpQuiet_nil ?_;rintro _ ⟨y,rfl⟩;go_wp2;go_ret;exact ⟨by rw[HB.o];rfl,y.ok⟩
    have ez:(z==member)=false:=by simp[hz]
    have HZ:=I hz;clear hz;cases h2:(zs.take k).contains z with
    |true=>
     have H2:=I h2;have HB:=I (i' aI (HT.o.trans (by rw[h2];simp)));clear h2;have CQ:=HW.o;go_wp2_with (fail);refine ap (by kernel_rfl) (by kernel_rfl) ?_
     repeat (go_big_quiet_step ((first|(go_at_call 70;exact az (aP _ _ _ _ _ h1))|(go_at_call 41;exact aq (mA _ _ _ _ _ (HSub.o _) H2.o)))))
     refine wpQuiet_nil ?_;rintro _ ⟨y,rfl⟩;go_wp2;go_ret;exact ⟨by rw[HB.o];rfl,y.ok⟩
    |false=>
     have H2:=I h2;have HN:ag (cE (k+1) (kc zs member n)=true):=gN.o.trans (HT.o.trans (by rw[h1,h2];simp[HZ.o]));clear h2;have CQ:=HW.o;go_wp2_with (fail);refine ap (by kernel_rfl) (by kernel_rfl) ?_
     repeat (go_big_quiet_step ((first|(go_at_call 70;exact az (aP _ _ _ _ _ h1))|(go_at_call 41;exact aq (mA _ _ _ _ _ (HSub.o _) H2.o)))))
     refine wpQuiet_nil ?_;rintro _ ⟨y,rfl⟩;go_wp2;go_roundw;case rel=>exact ⟨k+1,y,by omega,by go_num,HN.o,rfl⟩
     case measure=>simp[RowKit.intOf];omega
  have di:k=zs.length:=by omega
  have hP:cF zs member n=decide (zs.length<=4):=by
   rw[fo,<-di,HA.o,Bool.true_and]
  have HP:=I hP;have eA: ¬(k:Int)<(zs.length:Int):=by omega
  clear hP di aI;by_cases h4:zs.length<=4
  all_goals
   have H4:=I h4;have e4:decide ((zs.length:Int)<=4)=decide (zs.length<=4):=decide_eq_decide.2 (by omega);first|rw[decide_eq_true H4.o]at e4|rw[decide_eq_false H4.o]at e4
   clear h4;go_wp2;go_ret;exact ⟨by rw[HP.o];simp[H4.o],x.ok⟩
theorem bh (zs:List Int) (member n:Int) (w:World) (v:Value) (r:Bool) (h:aae w w.heap.size v zs) (kM: -1000<=n) (rq:n<=1000) (hr:cF zs member n=r):
 Calls prog 71 #[v,.int .i64 member,.int .i64 n] w (bT (.bool r) w):=hr▸uW zs member n w v h kM rq
structure fp (w:World) (b o:Nat) (d:dr) (A1:Option Addr) (c1:Nat) (A2:Option Addr) (c2:Nat):Prop where
 k0:w.cell? ⟨b,o,none⟩=some (.int .i64 d.kind)
 k1:w.cell? ⟨b,o+1,none⟩=some (.int .i64 d.member)
 k2:w.cell? ⟨b,o+2,none⟩=some (.slice A1 d.af.length c1)
 k3:w.cell? ⟨b,o+3,none⟩=some (.string d.al)
 k4:w.cell? ⟨b,o+4,none⟩=some (.int .i64 d.bO)
 k5:w.cell? ⟨b,o+5,none⟩=some (.slice A2 d.patch.length c2)
 k6:w.cell? ⟨b,o+6,none⟩=some (.int .i64 d.start)
 k7:w.cell? ⟨b,o+7,none⟩=some (.int .i64 d.aB)
 k8:w.cell? ⟨b,o+8,none⟩=some (.int .i64 d.aj)
 ints:aae w w.heap.size (.slice A1 d.af.length c1) d.af
 fF:bg w w.heap.size (.slice A2 d.patch.length c2) d.patch
 sizes:bS d.patch
 al:d.al.size<=maxLen
theorem fp.km {w:World} {b o:Nat} {d:dr} {A1:Option Addr} {c1:Nat} {A2:Option Addr} {c2:Nat} (h:fp w b o d A1 c1 A2 c2) (x:ar w):fp x.val b o d A1 c1 A2 c2:=
 ⟨x.cell h.k0,x.cell h.k1,x.cell h.k2,x.cell h.k3,x.cell h.k4,x.cell h.k5,x.cell h.k6,x.cell h.k7,x.cell h.k8,h.ints.km (Pl.stays _) (Nat.le_refl _) x,h.fF.km (Pl.stays _) (Nat.le_refl _) x,h.sizes,h.al⟩
theorem CR (d:dr) (b o:Nat) (A1:Option Addr) (c1:Nat) (A2:Option Addr) (c2:Nat) (w:World) (h:fp w b o d A1 c1 A2 c2):
 Calls prog 72 #[.pointer (some ⟨b,o,none⟩)] w (bT (.bool (ea d)) w):=by
 have z5:=h.k5;have z6:=h.k6;have z7:=h.k7;have z8:=h.k8;have hp:=ib d.patch;clear h;cases e1:d.patch.isEmpty with
 |false=>
  rw[e1]at hp;have E1:=I e1;clear e1;go_enter func72,ntmps72;go_wp2;go_ret;exact ⟨by unfold ea;rw[E1.o];rfl,Below.refl _ _⟩
 |true=>
  rw[e1]at hp;have E1:=I e1;clear e1;by_cases h1:d.start=0
  ·have bU:(d.start==0)=true:=by simp[h1]
   have H1:=I h1;clear h1;by_cases h2:d.aB=0
   ·have b2:(d.aB==0)=true:=by simp[h2]
    have H2:=I h2;clear h2;by_cases h3:d.aj=0
    ·have b3:(d.aj==0)=true:=by simp[h3]
     have H3:=I h3;clear h3;go_enter func72,ntmps72;go_wp2;go_ret;exact ⟨by unfold ea;rw[E1.o,H1.o,H2.o,H3.o];rfl,Below.refl _ _⟩
    have b3:(d.aj==0)=false:=by simp[h3]
    have H3:=I h3;clear h3;go_enter func72,ntmps72;go_wp2;go_ret;exact ⟨by unfold ea;simp[H3.o],Below.refl _ _⟩
   have b2:(d.aB==0)=false:=by simp[h2]
   have H2:=I h2;clear h2;go_enter func72,ntmps72;go_wp2;go_ret;exact ⟨by unfold ea;simp[H2.o],Below.refl _ _⟩
  have bU:(d.start==0)=false:=by simp[h1]
  have H1:=I h1;clear h1;go_enter func72,ntmps72;go_wp2;go_ret;exact ⟨by unfold ea;simp[H1.o],Below.refl _ _⟩
theorem bq (d:dr) (b o:Nat) (A1:Option Addr) (c1:Nat) (A2:Option Addr) (c2:Nat) (w:World) (r:Bool) (h:fp w b o d A1 c1 A2 c2) (hr:ea d=r):
 Calls prog 72 #[.pointer (some ⟨b,o,none⟩)] w (bT (.bool r) w):=hr▸CR d b o A1 c1 A2 c2 w h
def jd (start aB aj:Int):Bool:=dO aj 1 999&&dO aB 1 1000&&dO start aj (aB-1)
theorem Fv (start aB aj:Int) (w:World):
 Calls prog 75 #[.int .i64 start,.int .i64 aB,.int .i64 aj] w (bT (.bool (jd start aB aj)) w):=by
 cases h1:dO aj 1 999 with
 |false=>
  have HB:ag (jd start aB aj=false):=I (by unfold jd;rw[h1];rfl);go_enter func75,ntmps75;go_wp2_with ((go_at_call 70;refine (aP _ _ _ _ _ h1).mono ?_;rintro e _ ⟨rfl,k,rfl⟩));go_ret;exact ⟨by rw[HB.o];rfl,below_drewN (Below.refl _ _) _⟩
 |true=>
  cases h2:dO aB 1 1000 with
  |false=>
   have HB:ag (jd start aB aj=false):=I (by unfold jd;rw[h1,h2];rfl);go_enter func75,ntmps75;go_wp2_with ((go_at_call 70;refine (aP _ _ _ _ _ ‹_›).mono ?_;rintro e _ ⟨rfl,k,rfl⟩));go_ret;exact ⟨by rw[HB.o];rfl,below_drewN (Below.refl _ _) _⟩
  |true=>
   have hu:=dS.1 h2;obtain ⟨u1,u2⟩:=hu;have HB:ag (jd start aB aj=dO start aj (aB-1)):=I (by unfold jd;rw[h1,h2];rfl);go_enter func75,ntmps75;go_wp2_with (fail);refine (aP _ _ _ _ _ h1).mono ?_;rintro e _ ⟨rfl,k1,rfl⟩;go_wp2_with (fail);refine (aP _ _ _ _ _ h2).mono ?_;rintro e _ ⟨rfl,k2,rfl⟩;go_wp2_with (fail);refine (rl _ _ _ _).mono ?_;rintro e _ ⟨rfl,k3,rfl⟩;go_wp2;go_ret;exact ⟨by rw[HB.o];rfl,below_drewN (Below.refl _ _) _⟩
theorem bl (start aB aj:Int) (w:World) (r:Bool) (hr:jd start aB aj=r):
 Calls prog 75 #[.int .i64 start,.int .i64 aB,.int .i64 aj] w (bT (.bool r) w):=hr▸Fv start aB aj w
theorem bn (s:ByteArray) (w:World) (r:Bool) (hs:s.size<=maxLen) (hr:dU s.toList=r):
 Calls prog 73 #[.string s] w (f' (.bool r) w):=hr▸Fo s w hs
theorem aO (es:List aV) (w:World) (v:Value) (r:Bool) (h:bg w w.heap.size v es) (hs:bS es) (hr:bF es=r):
 Calls prog 74 #[v] w (bT (.bool r) w):=hr▸CP es w v h hs
theorem tP (p:List aV) (aj start aB:Int):iP p aj start aB=(!p.isEmpty&&bF p&&jd start aB aj):=by
 have:(dO aj 1 999&&decide (aj<=start)&&decide (start<aB)&&decide (aB<=1000))=jd start aB aj:=by
  rw[Bool.eq_iff_iff];unfold jd;simp only[Bool.and_eq_true,dS,decide_eq_true_eq];omega
 rw[<-this];unfold iP;simp only[Bool.and_assoc]
theorem K9 {α:Type} (l:List α):decide ((0:Int)<(l.length:Int))=!l.isEmpty:=by
 cases l with
 |nil=>rfl
 |cons a l=>simp
theorem Fw {d:dr} (hk:d.kind=1):cA d=(dO d.member 0 11&&cF d.af d.member 12&&d.al.toList.isEmpty&&(d.bO==0)&&ea d):=by
 have:decide (d.al.toList=[])=d.al.toList.isEmpty:=by cases d.al.toList<;>simp
 rw[Aw hk,jB,this]
theorem xX {d:dr} (hk:d.kind=2):cA d=(dO d.member 0 11&&((d.af.length:Int)==0)&&dU d.al.toList&&dO d.bO 0 3&&ea d):=by
 rw[Ax hk,ib];cases dO d.member 0 11<;>cases dU d.al.toList<;>cases dO d.bO 0 3<;>cases d.af.isEmpty<;>cases ea d<;>rfl
theorem xY {d:dr} (hk:d.kind=3):cA d=(dO d.member 0 11&&((d.af.length:Int)==0)&&dU d.al.toList&&(d.bO==0)&&decide ((0:Int)<(d.patch.length:Int))&&bF d.patch&&jd d.start d.aB d.aj):=by
 rw[Ay hk,ib,K9,jB,tP];cases dO d.member 0 11<;>cases dU d.al.toList<;>cases d.af.isEmpty<;>cases decide (d.bO=0)<;>cases d.patch.isEmpty<;>cases bF d.patch<;>cases jd d.start d.aB d.aj<;>rfl
theorem Fx {d:dr} (hk:d.kind=4):cA d=((d.member==0)&&((d.af.length:Int)==0)&&d.al.toList.isEmpty&&(d.bO==0)&&ea d):=by
 have:decide (d.al.toList=[])=d.al.toList.isEmpty:=by cases d.al.toList<;>simp
 rw[Az hk,ib,jB,jB,this]
theorem H' (d:dr) (b o:Nat) (A1:Option Addr) (c1:Nat) (A2:Option Addr) (c2:Nat) (w:World) (h:fp w b o d A1 c1 A2 c2) (hk:d.kind=1):
 Calls prog 44 #[.pointer (some ⟨b,o,none⟩)] w (bT (.bool (cA d)) w):=by
 have z0:=λy:ar w=>y.cell h.k0;have z1:=λy:ar w=>y.cell h.k1;have z2:=λy:ar w=>y.cell h.k2;have z3:=λy:ar w=>y.cell h.k3;have z4:=λy:ar w=>y.cell h.k4;have z5:=λy:ar w=>y.cell h.k5;have z6:=λy:ar w=>y.cell h.k6;have z7:=λy:ar w=>y.cell h.k7;have z8:=λy:ar w=>y.cell h.k8;have HT:=I (λy:ar w=>(h.km y).ints);have HE:=I (λy:ar w=>(h.km y).fF);have HP:=I (λy:ar w=>h.km y);have lr:=I h.sizes;have gQ:=I h.al;have OK:=I (Fw hk);have bU:(d.kind==1)=true:=by simp[hk]
 clear h hk;cases h0:dO d.member 0 11 with
 |false=>
  refine aL λx0=>?_;go_enter func44,ntmps44;go_wp2_with (first|(go_at_call 70;refine (az (aP _ _ _ _ _ ‹_›)).mono ?_;rintro e _ ⟨rfl,y,rfl⟩)|(go_at_call 71;refine (aq (bh _ _ _ _ _ _ (HT.o _) (by omega) (by omega) ‹_›)).mono ?_;rintro e _ ⟨rfl,y,rfl⟩)|(go_at_call 72;refine (aq (bq d _ _ _ _ _ _ _ _ (HP.o _) ‹_›)).mono ?_;rintro e _ ⟨rfl,y,rfl⟩)|(go_at_call 73;refine (az (bn _ _ _ gQ.o ‹_›)).mono ?_;rintro e _ ⟨rfl,y,rfl⟩)|(go_at_call 74;refine (aq (aO _ _ _ _ (HE.o _) lr.o ‹_›)).mono ?_;rintro e _ ⟨rfl,y,rfl⟩)|(go_at_call 75;refine (aq (bl _ _ _ _ _ ‹_›)).mono ?_;rintro e _ ⟨rfl,y,rfl⟩));refine ap (by kernel_rfl) (by kernel_rfl) ?_
  repeat (go_big_quiet_step ((first|(go_at_call 70;exact az (aP _ _ _ _ _ ‹_›))|(go_at_call 71;exact aq (bh _ _ _ _ _ _ (HT.o _) (by omega) (by omega) ‹_›))|(go_at_call 72;exact aq (bq d _ _ _ _ _ _ _ _ (HP.o _) ‹_›))|(go_at_call 73;exact az (bn _ _ _ gQ.o ‹_›))|(go_at_call 74;exact aq (aO _ _ _ _ (HE.o _) lr.o ‹_›))|(go_at_call 75;exact aq (bl _ _ _ _ _ ‹_›)))))
  refine wpQuiet_nil ?_;rintro _ ⟨y,rfl⟩;go_wp2;go_ret;exact ⟨by rw[OK.o,h0];rfl,y.ok⟩
 |true=>
  cases h1:cF d.af d.member 12 with
  |false=>
   refine aL λx0=>?_;go_enter func44,ntmps44;go_wp2_with (first|(go_at_call 70;refine (az (aP _ _ _ _ _ ‹_›)).mono ?_;rintro e _ ⟨rfl,y,rfl⟩)|(go_at_call 71;refine (aq (bh _ _ _ _ _ _ (HT.o _) (by omega) (by omega) ‹_›)).mono ?_;rintro e _ ⟨rfl,y,rfl⟩)|(go_at_call 72;refine (aq (bq d _ _ _ _ _ _ _ _ (HP.o _) ‹_›)).mono ?_;rintro e _ ⟨rfl,y,rfl⟩)|(go_at_call 73;refine (az (bn _ _ _ gQ.o ‹_›)).mono ?_;rintro e _ ⟨rfl,y,rfl⟩)|(go_at_call 74;refine (aq (aO _ _ _ _ (HE.o _) lr.o ‹_›)).mono ?_;rintro e _ ⟨rfl,y,rfl⟩)|(go_at_call 75;refine (aq (bl _ _ _ _ _ ‹_›)).mono ?_;rintro e _ ⟨rfl,y,rfl⟩));refine ap (by kernel_rfl) (by kernel_rfl) ?_
   repeat (go_big_quiet_step ((first|(go_at_call 70;exact az (aP _ _ _ _ _ ‹_›))|(go_at_call 71;exact aq (bh _ _ _ _ _ _ (HT.o _) (by omega) (by omega) ‹_›))|(go_at_call 72;exact aq (bq d _ _ _ _ _ _ _ _ (HP.o _) ‹_›))|(go_at_call 73;exact az (bn _ _ _ gQ.o ‹_›))|(go_at_call 74;exact aq (aO _ _ _ _ (HE.o _) lr.o ‹_›))|(go_at_call 75;exact aq (bl _ _ _ _ _ ‹_›)))))
   refine wpQuiet_nil ?_;rintro _ ⟨y,rfl⟩;go_wp2;go_ret;exact ⟨by rw[OK.o,h0,h1];rfl,y.ok⟩
  |true=>
   cases h2:d.al.toList.isEmpty with
   |false=>
    refine aL λx0=>?_;go_enter func44,ntmps44;go_wp2_with (first|(go_at_call 70;refine (az (aP _ _ _ _ _ ‹_›)).mono ?_;rintro e _ ⟨rfl,y,rfl⟩)|(go_at_call 71;refine (aq (bh _ _ _ _ _ _ (HT.o _) (by omega) (by omega) ‹_›)).mono ?_;rintro e _ ⟨rfl,y,rfl⟩)|(go_at_call 72;refine (aq (bq d _ _ _ _ _ _ _ _ (HP.o _) ‹_›)).mono ?_;rintro e _ ⟨rfl,y,rfl⟩)|(go_at_call 73;refine (az (bn _ _ _ gQ.o ‹_›)).mono ?_;rintro e _ ⟨rfl,y,rfl⟩)|(go_at_call 74;refine (aq (aO _ _ _ _ (HE.o _) lr.o ‹_›)).mono ?_;rintro e _ ⟨rfl,y,rfl⟩)|(go_at_call 75;refine (aq (bl _ _ _ _ _ ‹_›)).mono ?_;rintro e _ ⟨rfl,y,rfl⟩));refine ap (by kernel_rfl) (by kernel_rfl) ?_
    repeat (go_big_quiet_step ((first|(go_at_call 70;exact az (aP _ _ _ _ _ ‹_›))|(go_at_call 71;exact aq (bh _ _ _ _ _ _ (HT.o _) (by omega) (by omega) ‹_›))|(go_at_call 72;exact aq (bq d _ _ _ _ _ _ _ _ (HP.o _) ‹_›))|(go_at_call 73;exact az (bn _ _ _ gQ.o ‹_›))|(go_at_call 74;exact aq (aO _ _ _ _ (HE.o _) lr.o ‹_›))|(go_at_call 75;exact aq (bl _ _ _ _ _ ‹_›)))))
    refine wpQuiet_nil ?_;rintro _ ⟨y,rfl⟩;go_wp2;go_ret;exact ⟨by rw[OK.o,h0,h1,h2];rfl,y.ok⟩
   |true=>
    cases h3:(d.bO==0)with
    |false=>
     refine aL λx0=>?_;go_enter func44,ntmps44;go_wp2_with (first|(go_at_call 70;refine (az (aP _ _ _ _ _ ‹_›)).mono ?_;rintro e _ ⟨rfl,y,rfl⟩)|(go_at_call 71;refine (aq (bh _ _ _ _ _ _ (HT.o _) (by omega) (by omega) ‹_›)).mono ?_;rintro e _ ⟨rfl,y,rfl⟩)|(go_at_call 72;refine (aq (bq d _ _ _ _ _ _ _ _ (HP.o _) ‹_›)).mono ?_;rintro e _ ⟨rfl,y,rfl⟩)|(go_at_call 73;refine (az (bn _ _ _ gQ.o ‹_›)).mono ?_;rintro e _ ⟨rfl,y,rfl⟩)|(go_at_call 74;refine (aq (aO _ _ _ _ (HE.o _) lr.o ‹_›)).mono ?_;rintro e _ ⟨rfl,y,rfl⟩)|(go_at_call 75;refine (aq (bl _ _ _ _ _ ‹_›)).mono ?_;rintro e _ ⟨rfl,y,rfl⟩));refine ap (by kernel_rfl) (by kernel_rfl) ?_
     repeat (go_big_quiet_step ((first|(go_at_call 70;exact az (aP _ _ _ _ _ ‹_›))|(go_at_call 71;exact aq (bh _ _ _ _ _ _ (HT.o _) (by omega) (by omega) ‹_›))|(go_at_call 72;exact aq (bq d _ _ _ _ _ _ _ _ (HP.o _) ‹_›))|(go_at_call 73;exact az (bn _ _ _ gQ.o ‹_›))|(go_at_call 74;exact aq (aO _ _ _ _ (HE.o _) lr.o ‹_›))|(go_at_call 75;exact aq (bl _ _ _ _ _ ‹_›)))))
     refine wpQuiet_nil ?_;rintro _ ⟨y,rfl⟩;go_wp2;go_ret;exact ⟨by rw[OK.o,h0,h1,h2,h3];rfl,y.ok⟩
    |true=>
     cases h4:ea d with
     |false=>
      refine aL λx0=>?_;go_enter func44,ntmps44;go_wp2_with (first|(go_at_call 70;refine (az (aP _ _ _ _ _ ‹_›)).mono ?_;rintro e _ ⟨rfl,y,rfl⟩)|(go_at_call 71;refine (aq (bh _ _ _ _ _ _ (HT.o _) (by omega) (by omega) ‹_›)).mono ?_;rintro e _ ⟨rfl,y,rfl⟩)|(go_at_call 72;refine (aq (bq d _ _ _ _ _ _ _ _ (HP.o _) ‹_›)).mono ?_;rintro e _ ⟨rfl,y,rfl⟩)|(go_at_call 73;refine (az (bn _ _ _ gQ.o ‹_›)).mono ?_;rintro e _ ⟨rfl,y,rfl⟩)|(go_at_call 74;refine (aq (aO _ _ _ _ (HE.o _) lr.o ‹_›)).mono ?_;rintro e _ ⟨rfl,y,rfl⟩)|(go_at_call 75;refine (aq (bl _ _ _ _ _ ‹_›)).mono ?_;rintro e _ ⟨rfl,y,rfl⟩));refine ap (by kernel_rfl) (by kernel_rfl) ?_
      repeat (go_big_quiet_step ((first|(go_at_call 70;exact az (aP _ _ _ _ _ ‹_›))|(go_at_call 71;exact aq (bh _ _ _ _ _ _ (HT.o _) (by omega) (by omega) ‹_›))|(go_at_call 72;exact aq (bq d _ _ _ _ _ _ _ _ (HP.o _) ‹_›))|(go_at_call 73;exact az (bn _ _ _ gQ.o ‹_›))|(go_at_call 74;exact aq (aO _ _ _ _ (HE.o _) lr.o ‹_›))|(go_at_call 75;exact aq (bl _ _ _ _ _ ‹_›)))))
      refine wpQuiet_nil ?_;rintro _ ⟨y,rfl⟩;go_wp2;go_ret;exact ⟨by rw[OK.o,h0,h1,h2,h3,h4];rfl,y.ok⟩
     |true=>
      refine aL λx0=>?_;go_enter func44,ntmps44;go_wp2_with (first|(go_at_call 70;refine (az (aP _ _ _ _ _ ‹_›)).mono ?_;rintro e _ ⟨rfl,y,rfl⟩)|(go_at_call 71;refine (aq (bh _ _ _ _ _ _ (HT.o _) (by omega) (by omega) ‹_›)).mono ?_;rintro e _ ⟨rfl,y,rfl⟩)|(go_at_call 72;refine (aq (bq d _ _ _ _ _ _ _ _ (HP.o _) ‹_›)).mono ?_;rintro e _ ⟨rfl,y,rfl⟩)|(go_at_call 73;refine (az (bn _ _ _ gQ.o ‹_›)).mono ?_;rintro e _ ⟨rfl,y,rfl⟩)|(go_at_call 74;refine (aq (aO _ _ _ _ (HE.o _) lr.o ‹_›)).mono ?_;rintro e _ ⟨rfl,y,rfl⟩)|(go_at_call 75;refine (aq (bl _ _ _ _ _ ‹_›)).mono ?_;rintro e _ ⟨rfl,y,rfl⟩));refine ap (by kernel_rfl) (by kernel_rfl) ?_
      repeat (go_big_quiet_step ((first|(go_at_call 70;exact az (aP _ _ _ _ _ ‹_›))|(go_at_call 71;exact aq (bh _ _ _ _ _ _ (HT.o _) (by omega) (by omega) ‹_›))|(go_at_call 72;exact aq (bq d _ _ _ _ _ _ _ _ (HP.o _) ‹_›))|(go_at_call 73;exact az (bn _ _ _ gQ.o ‹_›))|(go_at_call 74;exact aq (aO _ _ _ _ (HE.o _) lr.o ‹_›))|(go_at_call 75;exact aq (bl _ _ _ _ _ ‹_›)))))
      refine wpQuiet_nil ?_;rintro _ ⟨y,rfl⟩;go_wp2;go_ret;exact ⟨by rw[OK.o,h0,h1,h2,h3,h4];rfl,y.ok⟩
theorem Ia (d:dr) (b o:Nat) (A1:Option Addr) (c1:Nat) (A2:Option Addr) (c2:Nat) (w:World) (h:fp w b o d A1 c1 A2 c2) (hk:d.kind=2):
 Calls prog 44 #[.pointer (some ⟨b,o,none⟩)] w (bT (.bool (cA d)) w):=by
 have z0:=λy:ar w=>y.cell h.k0;have z1:=λy:ar w=>y.cell h.k1;have z2:=λy:ar w=>y.cell h.k2;have z3:=λy:ar w=>y.cell h.k3;have z4:=λy:ar w=>y.cell h.k4;have z5:=λy:ar w=>y.cell h.k5;have z6:=λy:ar w=>y.cell h.k6;have z7:=λy:ar w=>y.cell h.k7;have z8:=λy:ar w=>y.cell h.k8;have HT:=I (λy:ar w=>(h.km y).ints);have HE:=I (λy:ar w=>(h.km y).fF);have HP:=I (λy:ar w=>h.km y);have lr:=I h.sizes;have gQ:=I h.al;have OK:=I (xX hk);have bU:(d.kind==1)=false:=by simp[hk]
 have b2:(d.kind==2)=true:=by simp[hk]
 clear h hk;cases h0:dO d.member 0 11 with
 |false=>
  refine aL λx0=>?_;go_enter func44,ntmps44;go_wp2_with (first|(go_at_call 70;refine (az (aP _ _ _ _ _ ‹_›)).mono ?_;rintro e _ ⟨rfl,y,rfl⟩)|(go_at_call 71;refine (aq (bh _ _ _ _ _ _ (HT.o _) (by omega) (by omega) ‹_›)).mono ?_;rintro e _ ⟨rfl,y,rfl⟩)|(go_at_call 72;refine (aq (bq d _ _ _ _ _ _ _ _ (HP.o _) ‹_›)).mono ?_;rintro e _ ⟨rfl,y,rfl⟩)|(go_at_call 73;refine (az (bn _ _ _ gQ.o ‹_›)).mono ?_;rintro e _ ⟨rfl,y,rfl⟩)|(go_at_call 74;refine (aq (aO _ _ _ _ (HE.o _) lr.o ‹_›)).mono ?_;rintro e _ ⟨rfl,y,rfl⟩)|(go_at_call 75;refine (aq (bl _ _ _ _ _ ‹_›)).mono ?_;rintro e _ ⟨rfl,y,rfl⟩));go_ret;exact ⟨by rw[OK.o,h0];rfl,y.ok⟩
 |true=>
  cases h1:((d.af.length:Int)==0)with
  |false=>
   refine aL λx0=>?_;go_enter func44,ntmps44;go_wp2_with (first|(go_at_call 70;refine (az (aP _ _ _ _ _ ‹_›)).mono ?_;rintro e _ ⟨rfl,y,rfl⟩)|(go_at_call 71;refine (aq (bh _ _ _ _ _ _ (HT.o _) (by omega) (by omega) ‹_›)).mono ?_;rintro e _ ⟨rfl,y,rfl⟩)|(go_at_call 72;refine (aq (bq d _ _ _ _ _ _ _ _ (HP.o _) ‹_›)).mono ?_;rintro e _ ⟨rfl,y,rfl⟩)|(go_at_call 73;refine (az (bn _ _ _ gQ.o ‹_›)).mono ?_;rintro e _ ⟨rfl,y,rfl⟩)|(go_at_call 74;refine (aq (aO _ _ _ _ (HE.o _) lr.o ‹_›)).mono ?_;rintro e _ ⟨rfl,y,rfl⟩)|(go_at_call 75;refine (aq (bl _ _ _ _ _ ‹_›)).mono ?_;rintro e _ ⟨rfl,y,rfl⟩));go_ret;exact ⟨by rw[OK.o,h0,h1];rfl,y.ok⟩
  |true=>
   cases h2:dU d.al.toList with
   |false=>
    refine aL λx0=>?_;go_enter func44,ntmps44;go_wp2_with (first|(go_at_call 70;refine (az (aP _ _ _ _ _ ‹_›)).mono ?_;rintro e _ ⟨rfl,y,rfl⟩)|(go_at_call 71;refine (aq (bh _ _ _ _ _ _ (HT.o _) (by omega) (by omega) ‹_›)).mono ?_;rintro e _ ⟨rfl,y,rfl⟩)|(go_at_call 72;refine (aq (bq d _ _ _ _ _ _ _ _ (HP.o _) ‹_›)).mono ?_;rintro e _ ⟨rfl,y,rfl⟩)|(go_at_call 73;refine (az (bn _ _ _ gQ.o ‹_›)).mono ?_;rintro e _ ⟨rfl,y,rfl⟩)|(go_at_call 74;refine (aq (aO _ _ _ _ (HE.o _) lr.o ‹_›)).mono ?_;rintro e _ ⟨rfl,y,rfl⟩)|(go_at_call 75;refine (aq (bl _ _ _ _ _ ‹_›)).mono ?_;rintro e _ ⟨rfl,y,rfl⟩));go_ret;exact ⟨by rw[OK.o,h0,h1,h2];rfl,y.ok⟩
   |true=>
    cases h3:dO d.bO 0 3 with
    |false=>
     refine aL λx0=>?_;go_enter func44,ntmps44;go_wp2_with (first|(go_at_call 70;refine (az (aP _ _ _ _ _ ‹_›)).mono ?_;rintro e _ ⟨rfl,y,rfl⟩)|(go_at_call 71;refine (aq (bh _ _ _ _ _ _ (HT.o _) (by omega) (by omega) ‹_›)).mono ?_;rintro e _ ⟨rfl,y,rfl⟩)|(go_at_call 72;refine (aq (bq d _ _ _ _ _ _ _ _ (HP.o _) ‹_›)).mono ?_;rintro e _ ⟨rfl,y,rfl⟩)|(go_at_call 73;refine (az (bn _ _ _ gQ.o ‹_›)).mono ?_;rintro e _ ⟨rfl,y,rfl⟩)|(go_at_call 74;refine (aq (aO _ _ _ _ (HE.o _) lr.o ‹_›)).mono ?_;rintro e _ ⟨rfl,y,rfl⟩)|(go_at_call 75;refine (aq (bl _ _ _ _ _ ‹_›)).mono ?_;rintro e _ ⟨rfl,y,rfl⟩));go_ret;exact ⟨by rw[OK.o,h0,h1,h2,h3];rfl,y.ok⟩
    |true=>
     cases h4:ea d with
     |false=>
      refine aL λx0=>?_;go_enter func44,ntmps44;go_wp2_with (first|(go_at_call 70;refine (az (aP _ _ _ _ _ ‹_›)).mono ?_;rintro e _ ⟨rfl,y,rfl⟩)|(go_at_call 71;refine (aq (bh _ _ _ _ _ _ (HT.o _) (by omega) (by omega) ‹_›)).mono ?_;rintro e _ ⟨rfl,y,rfl⟩)|(go_at_call 72;refine (aq (bq d _ _ _ _ _ _ _ _ (HP.o _) ‹_›)).mono ?_;rintro e _ ⟨rfl,y,rfl⟩)|(go_at_call 73;refine (az (bn _ _ _ gQ.o ‹_›)).mono ?_;rintro e _ ⟨rfl,y,rfl⟩)|(go_at_call 74;refine (aq (aO _ _ _ _ (HE.o _) lr.o ‹_›)).mono ?_;rintro e _ ⟨rfl,y,rfl⟩)|(go_at_call 75;refine (aq (bl _ _ _ _ _ ‹_›)).mono ?_;rintro e _ ⟨rfl,y,rfl⟩));go_ret;exact ⟨by rw[OK.o,h0,h1,h2,h3,h4];rfl,y.ok⟩
     |true=>
      refine aL λx0=>?_;go_enter func44,ntmps44;go_wp2_with (first|(go_at_call 70;refine (az (aP _ _ _ _ _ ‹_›)).mono ?_;rintro e _ ⟨rfl,y,rfl⟩)|(go_at_call 71;refine (aq (bh _ _ _ _ _ _ (HT.o _) (by omega) (by omega) ‹_›)).mono ?_;rintro e _ ⟨rfl,y,rfl⟩)|(go_at_call 72;refine (aq (bq d _ _ _ _ _ _ _ _ (HP.o _) ‹_›)).mono ?_;rintro e _ ⟨rfl,y,rfl⟩)|(go_at_call 73;refine (az (bn _ _ _ gQ.o ‹_›)).mono ?_;rintro e _ ⟨rfl,y,rfl⟩)|(go_at_call 74;refine (aq (aO _ _ _ _ (HE.o _) lr.o ‹_›)).mono ?_;rintro e _ ⟨rfl,y,rfl⟩)|(go_at_call 75;refine (aq (bl _ _ _ _ _ ‹_›)).mono ?_;rintro e _ ⟨rfl,y,rfl⟩));go_ret;exact ⟨by rw[OK.o,h0,h1,h2,h3,h4];rfl,y.ok⟩
theorem Ib (d:dr) (b o:Nat) (A1:Option Addr) (c1:Nat) (A2:Option Addr) (c2:Nat) (w:World) (h:fp w b o d A1 c1 A2 c2) (hk:d.kind=3):
 Calls prog 44 #[.pointer (some ⟨b,o,none⟩)] w (bT (.bool (cA d)) w):=by
 have z0:=λy:ar w=>y.cell h.k0;have z1:=λy:ar w=>y.cell h.k1;have z2:=λy:ar w=>y.cell h.k2;have z3:=λy:ar w=>y.cell h.k3;have z4:=λy:ar w=>y.cell h.k4;have z5:=λy:ar w=>y.cell h.k5;have z6:=λy:ar w=>y.cell h.k6;have z7:=λy:ar w=>y.cell h.k7;have z8:=λy:ar w=>y.cell h.k8;have HT:=I (λy:ar w=>(h.km y).ints);have HE:=I (λy:ar w=>(h.km y).fF);have HP:=I (λy:ar w=>h.km y);have lr:=I h.sizes;have gQ:=I h.al;have OK:=I (xY hk);have bU:(d.kind==1)=false:=by simp[hk]
 have b2:(d.kind==2)=false:=by simp[hk]
 have b3:(d.kind==3)=true:=by simp[hk]
 clear h hk;cases h0:dO d.member 0 11 with
 |false=>
  refine aL λx0=>?_;go_enter func44,ntmps44;go_wp2_with (first|(go_at_call 70;refine (az (aP _ _ _ _ _ ‹_›)).mono ?_;rintro e _ ⟨rfl,y,rfl⟩)|(go_at_call 71;refine (aq (bh _ _ _ _ _ _ (HT.o _) (by omega) (by omega) ‹_›)).mono ?_;rintro e _ ⟨rfl,y,rfl⟩)|(go_at_call 72;refine (aq (bq d _ _ _ _ _ _ _ _ (HP.o _) ‹_›)).mono ?_;rintro e _ ⟨rfl,y,rfl⟩)|(go_at_call 73;refine (az (bn _ _ _ gQ.o ‹_›)).mono ?_;rintro e _ ⟨rfl,y,rfl⟩)|(go_at_call 74;refine (aq (aO _ _ _ _ (HE.o _) lr.o ‹_›)).mono ?_;rintro e _ ⟨rfl,y,rfl⟩)|(go_at_call 75;refine (aq (bl _ _ _ _ _ ‹_›)).mono ?_;rintro e _ ⟨rfl,y,rfl⟩));refine ap (by kernel_rfl) (by kernel_rfl) ?_
  repeat (go_big_quiet_step ((first|(go_at_call 70;exact az (aP _ _ _ _ _ ‹_›))|(go_at_call 71;exact aq (bh _ _ _ _ _ _ (HT.o _) (by omega) (by omega) ‹_›))|(go_at_call 72;exact aq (bq d _ _ _ _ _ _ _ _ (HP.o _) ‹_›))|(go_at_call 73;exact az (bn _ _ _ gQ.o ‹_›))|(go_at_call 74;exact aq (aO _ _ _ _ (HE.o _) lr.o ‹_›))|(go_at_call 75;exact aq (bl _ _ _ _ _ ‹_›)))))
  refine wpQuiet_nil ?_;rintro _ ⟨y,rfl⟩;go_wp2;go_ret;exact ⟨by rw[OK.o,h0];rfl,y.ok⟩
 |true=>
  cases h1:((d.af.length:Int)==0)with
  |false=>
   refine aL λx0=>?_;go_enter func44,ntmps44;go_wp2_with (first|(go_at_call 70;refine (az (aP _ _ _ _ _ ‹_›)).mono ?_;rintro e _ ⟨rfl,y,rfl⟩)|(go_at_call 71;refine (aq (bh _ _ _ _ _ _ (HT.o _) (by omega) (by omega) ‹_›)).mono ?_;rintro e _ ⟨rfl,y,rfl⟩)|(go_at_call 72;refine (aq (bq d _ _ _ _ _ _ _ _ (HP.o _) ‹_›)).mono ?_;rintro e _ ⟨rfl,y,rfl⟩)|(go_at_call 73;refine (az (bn _ _ _ gQ.o ‹_›)).mono ?_;rintro e _ ⟨rfl,y,rfl⟩)|(go_at_call 74;refine (aq (aO _ _ _ _ (HE.o _) lr.o ‹_›)).mono ?_;rintro e _ ⟨rfl,y,rfl⟩)|(go_at_call 75;refine (aq (bl _ _ _ _ _ ‹_›)).mono ?_;rintro e _ ⟨rfl,y,rfl⟩));refine ap (by kernel_rfl) (by kernel_rfl) ?_
   repeat (go_big_quiet_step ((first|(go_at_call 70;exact az (aP _ _ _ _ _ ‹_›))|(go_at_call 71;exact aq (bh _ _ _ _ _ _ (HT.o _) (by omega) (by omega) ‹_›))|(go_at_call 72;exact aq (bq d _ _ _ _ _ _ _ _ (HP.o _) ‹_›))|(go_at_call 73;exact az (bn _ _ _ gQ.o ‹_›))|(go_at_call 74;exact aq (aO _ _ _ _ (HE.o _) lr.o ‹_›))|(go_at_call 75;exact aq (bl _ _ _ _ _ ‹_›)))))
   refine wpQuiet_nil ?_;rintro _ ⟨y,rfl⟩;go_wp2;go_ret;exact ⟨by rw[OK.o,h0,h1];rfl,y.ok⟩
  |true=>
   cases h2:dU d.al.toList with
   |false=>
    refine aL λx0=>?_;go_enter func44,ntmps44;go_wp2_with (first|(go_at_call 70;refine (az (aP _ _ _ _ _ ‹_›)).mono ?_;rintro e _ ⟨rfl,y,rfl⟩)|(go_at_call 71;refine (aq (bh _ _ _ _ _ _ (HT.o _) (by omega) (by omega) ‹_›)).mono ?_;rintro e _ ⟨rfl,y,rfl⟩)|(go_at_call 72;refine (aq (bq d _ _ _ _ _ _ _ _ (HP.o _) ‹_›)).mono ?_;rintro e _ ⟨rfl,y,rfl⟩)|(go_at_call 73;refine (az (bn _ _ _ gQ.o ‹_›)).mono ?_;rintro e _ ⟨rfl,y,rfl⟩)|(go_at_call 74;refine (aq (aO _ _ _ _ (HE.o _) lr.o ‹_›)).mono ?_;rintro e _ ⟨rfl,y,rfl⟩)|(go_at_call 75;refine (aq (bl _ _ _ _ _ ‹_›)).mono ?_;rintro e _ ⟨rfl,y,rfl⟩));refine ap (by kernel_rfl) (by kernel_rfl) ?_
    repeat (go_big_quiet_step ((first|(go_at_call 70;exact az (aP _ _ _ _ _ ‹_›))|(go_at_call 71;exact aq (bh _ _ _ _ _ _ (HT.o _) (by omega) (by omega) ‹_›))|(go_at_call 72;exact aq (bq d _ _ _ _ _ _ _ _ (HP.o _) ‹_›))|(go_at_call 73;exact az (bn _ _ _ gQ.o ‹_›))|(go_at_call 74;exact aq (aO _ _ _ _ (HE.o _) lr.o ‹_›))|(go_at_call 75;exact aq (bl _ _ _ _ _ ‹_›)))))
    refine wpQuiet_nil ?_;rintro _ ⟨y,rfl⟩;go_wp2;go_ret;exact ⟨by rw[OK.o,h0,h1,h2];rfl,y.ok⟩
   |true=>
    cases h3:(d.bO==0)with
    |false=>
     refine aL λx0=>?_;go_enter func44,ntmps44;go_wp2_with (first|(go_at_call 70;refine (az (aP _ _ _ _ _ ‹_›)).mono ?_;rintro e _ ⟨rfl,y,rfl⟩)|(go_at_call 71;refine (aq (bh _ _ _ _ _ _ (HT.o _) (by omega) (by omega) ‹_›)).mono ?_;rintro e _ ⟨rfl,y,rfl⟩)|(go_at_call 72;refine (aq (bq d _ _ _ _ _ _ _ _ (HP.o _) ‹_›)).mono ?_;rintro e _ ⟨rfl,y,rfl⟩)|(go_at_call 73;refine (az (bn _ _ _ gQ.o ‹_›)).mono ?_;rintro e _ ⟨rfl,y,rfl⟩)|(go_at_call 74;refine (aq (aO _ _ _ _ (HE.o _) lr.o ‹_›)).mono ?_;rintro e _ ⟨rfl,y,rfl⟩)|(go_at_call 75;refine (aq (bl _ _ _ _ _ ‹_›)).mono ?_;rintro e _ ⟨rfl,y,rfl⟩));refine ap (by kernel_rfl) (by kernel_rfl) ?_
     repeat (go_big_quiet_step ((first|(go_at_call 70;exact az (aP _ _ _ _ _ ‹_›))|(go_at_call 71;exact aq (bh _ _ _ _ _ _ (HT.o _) (by omega) (by omega) ‹_›))|(go_at_call 72;exact aq (bq d _ _ _ _ _ _ _ _ (HP.o _) ‹_›))|(go_at_call 73;exact az (bn _ _ _ gQ.o ‹_›))|(go_at_call 74;exact aq (aO _ _ _ _ (HE.o _) lr.o ‹_›))|(go_at_call 75;exact aq (bl _ _ _ _ _ ‹_›)))))
     refine wpQuiet_nil ?_;rintro _ ⟨y,rfl⟩;go_wp2;go_ret;exact ⟨by rw[OK.o,h0,h1,h2,h3];rfl,y.ok⟩
    |true=>
     cases h4:decide ((0:Int)<(d.patch.length:Int))with
     |false=>
      have e4:decide (0<d.patch.length)=false:=by rw[<-h4];exact decide_eq_decide.2 (by omega)
      refine aL λx0=>?_;go_enter func44,ntmps44;go_wp2_with (first|(go_at_call 70;refine (az (aP _ _ _ _ _ ‹_›)).mono ?_;rintro e _ ⟨rfl,y,rfl⟩)|(go_at_call 71;refine (aq (bh _ _ _ _ _ _ (HT.o _) (by omega) (by omega) ‹_›)).mono ?_;rintro e _ ⟨rfl,y,rfl⟩)|(go_at_call 72;refine (aq (bq d _ _ _ _ _ _ _ _ (HP.o _) ‹_›)).mono ?_;rintro e _ ⟨rfl,y,rfl⟩)|(go_at_call 73;refine (az (bn _ _ _ gQ.o ‹_›)).mono ?_;rintro e _ ⟨rfl,y,rfl⟩)|(go_at_call 74;refine (aq (aO _ _ _ _ (HE.o _) lr.o ‹_›)).mono ?_;rintro e _ ⟨rfl,y,rfl⟩)|(go_at_call 75;refine (aq (bl _ _ _ _ _ ‹_›)).mono ?_;rintro e _ ⟨rfl,y,rfl⟩));refine ap (by kernel_rfl) (by kernel_rfl) ?_
      repeat (go_big_quiet_step ((first|(go_at_call 70;exact az (aP _ _ _ _ _ ‹_›))|(go_at_call 71;exact aq (bh _ _ _ _ _ _ (HT.o _) (by omega) (by omega) ‹_›))|(go_at_call 72;exact aq (bq d _ _ _ _ _ _ _ _ (HP.o _) ‹_›))|(go_at_call 73;exact az (bn _ _ _ gQ.o ‹_›))|(go_at_call 74;exact aq (aO _ _ _ _ (HE.o _) lr.o ‹_›))|(go_at_call 75;exact aq (bl _ _ _ _ _ ‹_›)))))
      refine wpQuiet_nil ?_;rintro _ ⟨y,rfl⟩;go_wp2;go_ret;exact ⟨by rw[OK.o,h0,h1,h2,h3,h4];rfl,y.ok⟩
     |true=>
      have e4:decide (0<d.patch.length)=true:=by rw[<-h4];exact decide_eq_decide.2 (by omega)
      cases h5:bF d.patch with
      |false=>
       refine aL λx0=>?_;go_enter func44,ntmps44;go_wp2_with (first|(go_at_call 70;refine (az (aP _ _ _ _ _ ‹_›)).mono ?_;rintro e _ ⟨rfl,y,rfl⟩)|(go_at_call 71;refine (aq (bh _ _ _ _ _ _ (HT.o _) (by omega) (by omega) ‹_›)).mono ?_;rintro e _ ⟨rfl,y,rfl⟩)|(go_at_call 72;refine (aq (bq d _ _ _ _ _ _ _ _ (HP.o _) ‹_›)).mono ?_;rintro e _ ⟨rfl,y,rfl⟩)|(go_at_call 73;refine (az (bn _ _ _ gQ.o ‹_›)).mono ?_;rintro e _ ⟨rfl,y,rfl⟩)|(go_at_call 74;refine (aq (aO _ _ _ _ (HE.o _) lr.o ‹_›)).mono ?_;rintro e _ ⟨rfl,y,rfl⟩)|(go_at_call 75;refine (aq (bl _ _ _ _ _ ‹_›)).mono ?_;rintro e _ ⟨rfl,y,rfl⟩));refine ap (by kernel_rfl) (by kernel_rfl) ?_
       repeat (go_big_quiet_step ((first|(go_at_call 70;exact az (aP _ _ _ _ _ ‹_›))|(go_at_call 71;exact aq (bh _ _ _ _ _ _ (HT.o _) (by omega) (by omega) ‹_›))|(go_at_call 72;exact aq (bq d _ _ _ _ _ _ _ _ (HP.o _) ‹_›))|(go_at_call 73;exact az (bn _ _ _ gQ.o ‹_›))|(go_at_call 74;exact aq (aO _ _ _ _ (HE.o _) lr.o ‹_›))|(go_at_call 75;exact aq (bl _ _ _ _ _ ‹_›)))))
       refine wpQuiet_nil ?_;rintro _ ⟨y,rfl⟩;go_wp2;go_ret;exact ⟨by rw[OK.o,h0,h1,h2,h3,h4,h5];rfl,y.ok⟩
      |true=>
       cases h6:jd d.start d.aB d.aj with
       |false=>
        refine aL λx0=>?_;go_enter func44,ntmps44;go_wp2_with (first|(go_at_call 70;refine (az (aP _ _ _ _ _ ‹_›)).mono ?_;rintro e _ ⟨rfl,y,rfl⟩)|(go_at_call 71;refine (aq (bh _ _ _ _ _ _ (HT.o _) (by omega) (by omega) ‹_›)).mono ?_;rintro e _ ⟨rfl,y,rfl⟩)|(go_at_call 72;refine (aq (bq d _ _ _ _ _ _ _ _ (HP.o _) ‹_›)).mono ?_;rintro e _ ⟨rfl,y,rfl⟩)|(go_at_call 73;refine (az (bn _ _ _ gQ.o ‹_›)).mono ?_;rintro e _ ⟨rfl,y,rfl⟩)|(go_at_call 74;refine (aq (aO _ _ _ _ (HE.o _) lr.o ‹_›)).mono ?_;rintro e _ ⟨rfl,y,rfl⟩)|(go_at_call 75;refine (aq (bl _ _ _ _ _ ‹_›)).mono ?_;rintro e _ ⟨rfl,y,rfl⟩));refine ap (by kernel_rfl) (by kernel_rfl) ?_
        repeat (go_big_quiet_step ((first|(go_at_call 70;exact az (aP _ _ _ _ _ ‹_›))|(go_at_call 71;exact aq (bh _ _ _ _ _ _ (HT.o _) (by omega) (by omega) ‹_›))|(go_at_call 72;exact aq (bq d _ _ _ _ _ _ _ _ (HP.o _) ‹_›))|(go_at_call 73;exact az (bn _ _ _ gQ.o ‹_›))|(go_at_call 74;exact aq (aO _ _ _ _ (HE.o _) lr.o ‹_›))|(go_at_call 75;exact aq (bl _ _ _ _ _ ‹_›)))))
        refine wpQuiet_nil ?_;rintro _ ⟨y,rfl⟩;go_wp2;go_ret;exact ⟨by rw[OK.o,h0,h1,h2,h3,h4,h5,h6];rfl,y.ok⟩
       |true=>
        refine aL λx0=>?_;go_enter func44,ntmps44;go_wp2_with (first|(go_at_call 70;refine (az (aP _ _ _ _ _ ‹_›)).mono ?_;rintro e _ ⟨rfl,y,rfl⟩)|(go_at_call 71;refine (aq (bh _ _ _ _ _ _ (HT.o _) (by omega) (by omega) ‹_›)).mono ?_;rintro e _ ⟨rfl,y,rfl⟩)|(go_at_call 72;refine (aq (bq d _ _ _ _ _ _ _ _ (HP.o _) ‹_›)).mono ?_;rintro e _ ⟨rfl,y,rfl⟩)|(go_at_call 73;refine (az (bn _ _ _ gQ.o ‹_›)).mono ?_;rintro e _ ⟨rfl,y,rfl⟩)|(go_at_call 74;refine (aq (aO _ _ _ _ (HE.o _) lr.o ‹_›)).mono ?_;rintro e _ ⟨rfl,y,rfl⟩)|(go_at_call 75;refine (aq (bl _ _ _ _ _ ‹_›)).mono ?_;rintro e _ ⟨rfl,y,rfl⟩));refine ap (by kernel_rfl) (by kernel_rfl) ?_
        repeat (go_big_quiet_step ((first|(go_at_call 70;exact az (aP _ _ _ _ _ ‹_›))|(go_at_call 71;exact aq (bh _ _ _ _ _ _ (HT.o _) (by omega) (by omega) ‹_›))|(go_at_call 72;exact aq (bq d _ _ _ _ _ _ _ _ (HP.o _) ‹_›))|(go_at_call 73;exact az (bn _ _ _ gQ.o ‹_›))|(go_at_call 74;exact aq (aO _ _ _ _ (HE.o _) lr.o ‹_›))|(go_at_call 75;exact aq (bl _ _ _ _ _ ‹_›)))))
        refine wpQuiet_nil ?_;rintro _ ⟨y,rfl⟩;go_wp2;go_ret;exact ⟨by rw[OK.o,h0,h1,h2,h3,h4,h5,h6];rfl,y.ok⟩
theorem Ic (d:dr) (b o:Nat) (A1:Option Addr) (c1:Nat) (A2:Option Addr) (c2:Nat) (w:World) (h:fp w b o d A1 c1 A2 c2) (hk:d.kind=4):
 Calls prog 44 #[.pointer (some ⟨b,o,none⟩)] w (bT (.bool (cA d)) w):=by
 have z0:=λy:ar w=>y.cell h.k0;have z1:=λy:ar w=>y.cell h.k1;have z2:=λy:ar w=>y.cell h.k2;have z3:=λy:ar w=>y.cell h.k3;have z4:=λy:ar w=>y.cell h.k4;have z5:=λy:ar w=>y.cell h.k5;have z6:=λy:ar w=>y.cell h.k6;have z7:=λy:ar w=>y.cell h.k7;have z8:=λy:ar w=>y.cell h.k8;have HT:=I (λy:ar w=>(h.km y).ints);have HE:=I (λy:ar w=>(h.km y).fF);have HP:=I (λy:ar w=>h.km y);have lr:=I h.sizes;have gQ:=I h.al;have OK:=I (Fx hk);have bU:(d.kind==1)=false:=by simp[hk]
 have b2:(d.kind==2)=false:=by simp[hk]
 have b3:(d.kind==3)=false:=by simp[hk]
 have b4:(d.kind==4)=true:=by simp[hk]
 clear h hk;obtain ⟨rm,hm⟩: ∃r,dO d.member 0 11=r:=⟨_,rfl⟩
 cases h0:(d.member==0)with
 |false=>
  refine aL λx0=>?_;go_enter func44,ntmps44;go_wp2_with (first|(go_at_call 70;refine (az (aP _ _ _ _ _ ‹_›)).mono ?_;rintro e _ ⟨rfl,y,rfl⟩)|(go_at_call 71;refine (aq (bh _ _ _ _ _ _ (HT.o _) (by omega) (by omega) ‹_›)).mono ?_;rintro e _ ⟨rfl,y,rfl⟩)|(go_at_call 72;refine (aq (bq d _ _ _ _ _ _ _ _ (HP.o _) ‹_›)).mono ?_;rintro e _ ⟨rfl,y,rfl⟩)|(go_at_call 73;refine (az (bn _ _ _ gQ.o ‹_›)).mono ?_;rintro e _ ⟨rfl,y,rfl⟩)|(go_at_call 74;refine (aq (aO _ _ _ _ (HE.o _) lr.o ‹_›)).mono ?_;rintro e _ ⟨rfl,y,rfl⟩)|(go_at_call 75;refine (aq (bl _ _ _ _ _ ‹_›)).mono ?_;rintro e _ ⟨rfl,y,rfl⟩));go_ret;exact ⟨by rw[OK.o,h0];rfl,y.ok⟩
 |true=>
  cases h1:((d.af.length:Int)==0)with
  |false=>
   refine aL λx0=>?_;go_enter func44,ntmps44;go_wp2_with (first|(go_at_call 70;refine (az (aP _ _ _ _ _ ‹_›)).mono ?_;rintro e _ ⟨rfl,y,rfl⟩)|(go_at_call 71;refine (aq (bh _ _ _ _ _ _ (HT.o _) (by omega) (by omega) ‹_›)).mono ?_;rintro e _ ⟨rfl,y,rfl⟩)|(go_at_call 72;refine (aq (bq d _ _ _ _ _ _ _ _ (HP.o _) ‹_›)).mono ?_;rintro e _ ⟨rfl,y,rfl⟩)|(go_at_call 73;refine (az (bn _ _ _ gQ.o ‹_›)).mono ?_;rintro e _ ⟨rfl,y,rfl⟩)|(go_at_call 74;refine (aq (aO _ _ _ _ (HE.o _) lr.o ‹_›)).mono ?_;rintro e _ ⟨rfl,y,rfl⟩)|(go_at_call 75;refine (aq (bl _ _ _ _ _ ‹_›)).mono ?_;rintro e _ ⟨rfl,y,rfl⟩));go_ret;exact ⟨by rw[OK.o,h0,h1];rfl,y.ok⟩
  |true=>
   cases h2:d.al.toList.isEmpty with
   |false=>
    refine aL λx0=>?_;go_enter func44,ntmps44;go_wp2_with (first|(go_at_call 70;refine (az (aP _ _ _ _ _ ‹_›)).mono ?_;rintro e _ ⟨rfl,y,rfl⟩)|(go_at_call 71;refine (aq (bh _ _ _ _ _ _ (HT.o _) (by omega) (by omega) ‹_›)).mono ?_;rintro e _ ⟨rfl,y,rfl⟩)|(go_at_call 72;refine (aq (bq d _ _ _ _ _ _ _ _ (HP.o _) ‹_›)).mono ?_;rintro e _ ⟨rfl,y,rfl⟩)|(go_at_call 73;refine (az (bn _ _ _ gQ.o ‹_›)).mono ?_;rintro e _ ⟨rfl,y,rfl⟩)|(go_at_call 74;refine (aq (aO _ _ _ _ (HE.o _) lr.o ‹_›)).mono ?_;rintro e _ ⟨rfl,y,rfl⟩)|(go_at_call 75;refine (aq (bl _ _ _ _ _ ‹_›)).mono ?_;rintro e _ ⟨rfl,y,rfl⟩));go_ret;exact ⟨by rw[OK.o,h0,h1,h2];rfl,y.ok⟩
   |true=>
    cases h3:(d.bO==0)with
    |false=>
     refine aL λx0=>?_;go_enter func44,ntmps44;go_wp2_with (first|(go_at_call 70;refine (az (aP _ _ _ _ _ ‹_›)).mono ?_;rintro e _ ⟨rfl,y,rfl⟩)|(go_at_call 71;refine (aq (bh _ _ _ _ _ _ (HT.o _) (by omega) (by omega) ‹_›)).mono ?_;rintro e _ ⟨rfl,y,rfl⟩)|(go_at_call 72;refine (aq (bq d _ _ _ _ _ _ _ _ (HP.o _) ‹_›)).mono ?_;rintro e _ ⟨rfl,y,rfl⟩)|(go_at_call 73;refine (az (bn _ _ _ gQ.o ‹_›)).mono ?_;rintro e _ ⟨rfl,y,rfl⟩)|(go_at_call 74;refine (aq (aO _ _ _ _ (HE.o _) lr.o ‹_›)).mono ?_;rintro e _ ⟨rfl,y,rfl⟩)|(go_at_call 75;refine (aq (bl _ _ _ _ _ ‹_›)).mono ?_;rintro e _ ⟨rfl,y,rfl⟩));go_ret;exact ⟨by rw[OK.o,h0,h1,h2,h3];rfl,y.ok⟩
    |true=>
     cases h4:ea d with
     |false=>
      refine aL λx0=>?_;go_enter func44,ntmps44;go_wp2_with (first|(go_at_call 70;refine (az (aP _ _ _ _ _ ‹_›)).mono ?_;rintro e _ ⟨rfl,y,rfl⟩)|(go_at_call 71;refine (aq (bh _ _ _ _ _ _ (HT.o _) (by omega) (by omega) ‹_›)).mono ?_;rintro e _ ⟨rfl,y,rfl⟩)|(go_at_call 72;refine (aq (bq d _ _ _ _ _ _ _ _ (HP.o _) ‹_›)).mono ?_;rintro e _ ⟨rfl,y,rfl⟩)|(go_at_call 73;refine (az (bn _ _ _ gQ.o ‹_›)).mono ?_;rintro e _ ⟨rfl,y,rfl⟩)|(go_at_call 74;refine (aq (aO _ _ _ _ (HE.o _) lr.o ‹_›)).mono ?_;rintro e _ ⟨rfl,y,rfl⟩)|(go_at_call 75;refine (aq (bl _ _ _ _ _ ‹_›)).mono ?_;rintro e _ ⟨rfl,y,rfl⟩));go_ret;exact ⟨by rw[OK.o,h0,h1,h2,h3,h4];rfl,y.ok⟩
     |true=>
      refine aL λx0=>?_;go_enter func44,ntmps44;go_wp2_with (first|(go_at_call 70;refine (az (aP _ _ _ _ _ ‹_›)).mono ?_;rintro e _ ⟨rfl,y,rfl⟩)|(go_at_call 71;refine (aq (bh _ _ _ _ _ _ (HT.o _) (by omega) (by omega) ‹_›)).mono ?_;rintro e _ ⟨rfl,y,rfl⟩)|(go_at_call 72;refine (aq (bq d _ _ _ _ _ _ _ _ (HP.o _) ‹_›)).mono ?_;rintro e _ ⟨rfl,y,rfl⟩)|(go_at_call 73;refine (az (bn _ _ _ gQ.o ‹_›)).mono ?_;rintro e _ ⟨rfl,y,rfl⟩)|(go_at_call 74;refine (aq (aO _ _ _ _ (HE.o _) lr.o ‹_›)).mono ?_;rintro e _ ⟨rfl,y,rfl⟩)|(go_at_call 75;refine (aq (bl _ _ _ _ _ ‹_›)).mono ?_;rintro e _ ⟨rfl,y,rfl⟩));go_ret;exact ⟨by rw[OK.o,h0,h1,h2,h3,h4];rfl,y.ok⟩
end Go.Proofs.YtbcggaldkihcaaaGreatDoor
