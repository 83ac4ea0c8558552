/- Are these deeds; the journals, walked. -/
import Derived.Test.YtbcggaldkihcaaaGreatDoorQR
import Derived.Test.YtbcggaldkihcaaaGreatDoorShelfB
set_option maxHeartbeats 2000000
set_option maxRecDepth 100000
namespace Go.Proofs.YtbcggaldkihcaaaGreatDoor
open Tryz
open Go.RowKit Go.Lib
theorem abJ (d:dr) (A1:Option Addr) (c1:Nat) (A2:Option Addr) (c2:Nat) (w:World) (hT:aae w w.heap.size (.slice A1 d.af.length c1) d.af) (hP:bg w w.heap.size (.slice A2 d.patch.length c2) d.patch) (hs:bS d.patch) (ht:d.al.size<=maxLen):
 Calls prog 59 #[.agg #[.int .i64 d.kind,.int .i64 d.member,.slice A1 d.af.length c1,.string d.al,.int .i64 d.bO,.slice A2 d.patch.length c2,.int .i64 d.start,.int .i64 d.aB,.int .i64 d.aj]] w (bT (.bool (!cA d)) w):=by
 have bW: ∀o,Below w.heap.size w (w.alloc o):=λo=>(Below.refl _ _).alloc (Nat.le_refl _) _;have HT:=I (λo=>hT.on (Pl.stays _) (bW o) (bW o).size);have HP:=I (λo=>hP.on (Pl.stays _) (bW o) (bW o).size);have HS:=I hs;have gQ:=I ht;have HB:=I bW;clear hT hP hs ht bW;go_enter func59,ntmps59;go_wp2_with (fail);refine (Fs d A1 c1 A2 c2 _ (HT.o _) (HP.o _) HS.o gQ.o).mono ?_;rintro e w1 ⟨rfl,bw⟩;have cL:=(HB.o _).trans (bw.mono (HB.o _).size);go_wp2;go_ret;exact ⟨rfl,cL⟩
def abV (ds:List dr) (w:World) (e:Ending) (w':World):Prop:=
 ∃n:Int,e= .returned (.int .i64 n)/\(0<=n↔ds.all cA=false)/\ -1<=n/\n<=9223372036854775807/\Below w.heap.size w w'
theorem abK (ds:List dr) (A:Option Addr) (n c:Nat) (w:World) (h:aa3 w w.heap.size (.slice A n c) ds):
 Calls prog 89 #[.slice A n c,.func (.func 59) #[] #[]] w (abV ds w):=by
 obtain ⟨hn,hc,hm⟩:=fB h;have HD:=I (cz.km h abd.stays (Nat.le_refl _));have HN:=I hn;have Mq:n<=9223372036854775807:=by omega
 have Ij:n<=ds.length:=by omega
 have hln:ds.length<=n:=by omega
 clear h hn;refine aL λx0=>?_;go_enter func89,ntmps89;go_wp2;go_loopw [5,8] (λ_ i wr=> ∃(k:Nat) (x:ar w),k<=n/\i= .int .i64 (k:Int)/\(∀d∈ds.take k,cA d=true)/\wr=x.val) (λ_ i _=>n-(RowKit.intOf i).toNat);case atStart=>exact ⟨0,x0,Nat.zero_le _,rfl,by simp,rfl⟩
 case round=>
  obtain ⟨k,x,hk,rfl,dn,rfl⟩:=hrel;have HA:=I dn;clear dn;by_cases aI:k<n
  ·have aH:ds[k]?=some ds[k]:=List.getElem?_eq_getElem (by omega);obtain ⟨b,off,A1,c1,A2,c2,rfl,hb,hP⟩:=aa4 (HD.o x) aH;have H5:ds.take (k+1)=ds.take k++[ds[k]]:=by rw[List.take_succ_eq_append_getElem]
   have Lc:=I H5;have HG:=I aH;clear aH H5;generalize ds[k]=d at*;have z0:=hP.k0;have z1:=hP.k1;have z2:=hP.k2;have z3:=hP.k3;have z4:=hP.k4;have z5:=hP.k5;have z6:=hP.k6;have z7:=hP.k7;have z8:=hP.k8;have HP:=I hP;clear hP;go_wp2_with (fail);refine (aq (abJ d A1 c1 A2 c2 _ HP.o.ints HP.o.fF HP.o.sizes HP.o.al)).mono ?_;rintro e _ ⟨rfl,y,rfl⟩;clear z0 z1 z2 z3 z4 z5 z6 z7 z8;cases ho:cA d with
   |true=>
    have HO:=I ho;clear ho;go_wp2;go_roundw;case rel=>exact ⟨k+1,y,by omega,by go_num,by rw[Lc.o];intro e he;rcases List.mem_append.1 he with he|he;exact HA.o e he;rw[List.mem_singleton.1 he];exact HO.o,rfl⟩
    case measure=>simp[RowKit.intOf];omega
   |false=>
    have HO:=I ho;clear ho;go_wp2;go_ret;refine ⟨(k:Int),rfl,⟨λ_=>?_,λ_=>by omega⟩,by omega,by omega,y.ok⟩;rw[List.all_eq_false];exact ⟨d,List.mem_of_getElem? HG.o,by rw[HO.o];simp⟩
  have eA: ¬(k:Int)<(n:Int):=by omega
  go_wp2;go_ret;refine ⟨-1,rfl,⟨λh=>by omega,λh=>?_⟩,by omega,by omega,x.ok⟩;have h1:=HA.o;rw[List.take_of_length_le (by omega)]at h1;rw[List.all_eq_false]at h;obtain ⟨d,hd,Hp⟩:=h;exact absurd (h1 d hd) Hp
theorem aaY (ds:List dr) (A:Option Addr) (n c:Nat) (w:World) (h:aa3 w w.heap.size (.slice A n c) ds):
 Calls prog 58 #[.slice A n c,.func (.func 59) #[] #[]] w (bT (.bool (!ds.all cA)) w):=by
 have H:=I (abK ds A n c w h);obtain ⟨r,hr⟩: ∃r,ds.all cA=r:=⟨_,rfl⟩
 rw[hr];have HR:=I hr;clear h hr;go_enter func58,ntmps58;go_wp2_with (fail);refine H.o.mono ?_;rintro e w1 ⟨m,rfl,aU,h1,h2,hb⟩;rw[HR.o]at aU;cases r with
 |false=>
  have hm:0<=m:=aU.2 rfl;have hd:decide (0<=m)=true:=by simp;omega
  clear aU;go_wp2;go_ret;exact ⟨rfl,hb⟩
 |true=>
  have hm:m<0:=by
   rcases Int.lt_or_le m 0 with h|h
   ·exact h
   exact absurd (aU.1 h) (by simp)
  have hd:decide (0<=m)=false:=by simp;omega
  clear aU;go_wp2;go_ret;exact ⟨rfl,hb⟩
theorem abP (ds:List dr) (A:Option Addr) (n c:Nat) (w:World) (h:aa3 w w.heap.size (.slice A n c) ds):
 Calls prog 35 #[.slice A n c] w (bT (.bool (aaJ ds)) w):=by
 obtain ⟨hn,hc,hm⟩:=fB h;have H:=I (aaY ds A n c w h);have HO:ag (aaJ ds=(decide (n<=40)&&ds.all cA)):=I (by rw[hn];rfl);obtain ⟨r,hr⟩: ∃r,ds.all cA=r:=⟨_,rfl⟩
 rw[hr]at HO;rw[hr]at H;have Mq:n<=9223372036854775807:=by omega
 clear h hn hr;by_cases h40:n<=40
 ·have h1:decide ((n:Int)<=40)=true:=by simp;omega
  have H40:=I h40;clear h40;go_enter func35,ntmps35;go_wp2_with (fail);refine H.o.mono ?_;rintro e w1 ⟨rfl,hb⟩;go_wp2;go_ret;exact ⟨by rw[HO.o];cases r<;>simp[H40.o],hb⟩
 have h1:decide ((n:Int)<=40)=false:=by simp;omega
 have H40:=I h40;clear h40;go_enter func35,ntmps35;go_wp2;go_ret;exact ⟨by rw[HO.o];simp[H40.o],Below.refl _ _⟩
end Go.Proofs.YtbcggaldkihcaaaGreatDoor
