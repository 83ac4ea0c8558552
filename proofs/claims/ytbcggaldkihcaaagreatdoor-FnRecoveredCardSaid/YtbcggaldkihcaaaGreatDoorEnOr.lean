/- What the library's functions do, out of what the listed variables hold at the start. -/
import Derived.Test.YtbcggaldkihcaaaGreatDoorCards
import Derived.Test.YtbcggaldkihcaaaGreatDoorQB
import Derived.Shelf.Strconv.ErrVarParseInt
import Derived.Lib.ParseIntBTie
import Derived.ProofKit
import Derived.LaidMore
import Derived.LaidLaws
import Derived.Stop.LaidErr
import Derived.Lib.LaidTab
namespace Go.Proofs.YtbcggaldkihcaaaGreatDoor
open Go.Proofs.Tryz
open Go.ChangeShapes Go.WideShapes Go.ChangeAt Go.RowKit
theorem EnO.ao0:(prog.globals[0]?).map (·.type)=some 171:=by kernel_rfl
theorem EnO.aoX:prog.cellsOf 171=20:=by kernel_rfl
theorem EnO.aoZ:prog.cellsOf 77=1:=by kernel_rfl
theorem below_grow (w:World) (k:Nat) (os:Array Obj):Below w.heap.size w (Go.Sort.grow (w.drewN k) os):=
 ⟨rfl,rfl,rfl,by simp[Go.Sort.grow],λi hi=>by
  show (w.heap++os)[i]?=_
  rw[Array.getElem?_append_left hi]⟩
theorem aoV (w:World) (e:TypeId) (t:ByteArray):Below w.heap.size w (Lib.bytesWorld w e t):=by
 refine ⟨rfl,rfl,rfl,?_,λi hi=>Lib.bytesWorld_at_old _ _ _ _ hi⟩;rw[Lib.bytesWorld_size];omega
theorem aoW (c:UInt8) (s:ByteArray):Lib.splitB ⟨#[c]⟩ 0 (Lib.countB s ⟨#[c]⟩) s=(sL c s.data.toList).map (λl=>(⟨l.toArray⟩:ByteArray)):=by
 have h:=Lib.splitB_data ⟨#[c]⟩ 0 (Lib.countB s ⟨#[c]⟩) s;have hc:Lib.countB s ⟨#[c]⟩=Lib.count s.data.toList [c]:=rfl;rw[show (⟨#[c]⟩:ByteArray).data.toList=[c]from rfl,adW,hc,(aeK c s.data.toList _ (Nat.le_refl _)).1]at h;rw[<-h,List.map_map,hc]
 conv=>lhs;rw[<-List.map_id (Lib.splitB _ _ _ _)]
 apply List.map_congr_left;intro b _;exact (mk_data b).symm
theorem aoU (s:ByteArray):Lib.splitB ⟨#[32]⟩ 0 (min 7 (s.size+1)-1) s=(K8 32 6 s.data.toList).map (λl=>(⟨l.toArray⟩:ByteArray)):=by
 have h:=Lib.splitB_data ⟨#[32]⟩ 0 (min 7 (s.size+1)-1) s;rw[show (⟨#[32]⟩:ByteArray).data.toList=[32]from rfl,adW,show min 7 (s.size+1)-1=min 6 s.size by omega,ae4 6 s.size _ (by simp)]at h;rw[<-h,List.map_map,show min 7 (s.size+1)-1=min 6 s.size by omega]
 conv=>lhs;rw[<-List.map_id (Lib.splitB _ _ _ _)]
 apply List.map_congr_left;intro b _;exact (mk_data b).symm
theorem aoT (c:UInt8): ∀(k:Nat) (l:List UInt8),(K8 c k l).length<=l.length+1
 |0,_=>by simp[K8]
 |k+1,l=>by
  by_cases h:c∈l
  ·obtain ⟨a,r,rfl,ha⟩:=Ft c l h;rw[acd k r ha];have:=aoT c k r;simp;omega
  rw[acj _ h];simp
theorem EnO.star: "*"++ "errors.errorString"= "*errors.errorString":=by decide
theorem EnO.row (u:TypeId) (h:prog.typeName? 3 u=some "*errors.errorString"):u=193:=
 typeName_ptr_named (nm:= "errors.errorString") (by rw[EnO.star];kernel_rfl) (by kernel_rfl) (by decide) u (by rw[EnO.star];exact h)
abbrev aoY:=Rows.fnRecoveredRow
theorem ao2 {W:World} (hL:laidMetH prog aoY.laid W) (hS:W.ShapedOpen prog):aaG W.heap.size W:=by
 have hL0:laidMet prog aoY.laid W:=hL;have hT:Lib.TabIs prog W _ .u64 Lib.pow10Tab:=Lib.tabIs_of_head (g:=0) (by kernel_rfl) EnO.ao0 underlying171 underlying77 EnO.aoZ EnO.aoX (laidMet.tail (laidMet.tail hL0));have hB:=Lib.tabBelow_of_tabIs hT;have hSh: ∀w',Below W.heap.size W w'->w'.ShapedOpen prog:=λw' hb=>hS.keptBut (hb.frame (λ_=>False)) (λp hp=>hp.elim);obtain ⟨a1,s1,hr,_⟩:=laid_sentinel (laidMet.tail (laidMet.tail (laidMet.tail (laidMet.tail hL0)))) (g:=5) (ti:=98) (tp:=193) (te:=195) (ts:=9) (by kernel_rfl) (by kernel_rfl) underlying98 EnO.row underlying193 underlying195 rfl rfl underlying9 (by kernel_rfl) (by kernel_rfl);obtain ⟨a2,s2,hy,_⟩:=laid_sentinel (laidMet.tail (laidMet.tail (laidMet.tail (laidMet.tail (laidMet.tail hL0))))) (g:=4) (ti:=98) (tp:=193) (te:=195) (ts:=9) (by kernel_rfl) (by kernel_rfl) underlying98 EnO.row underlying193 underlying195 rfl rfl underlying9 (by kernel_rfl) (by kernel_rfl);have aoP:W.cell? ⟨laysC174_ren.g 16,0,none⟩=some (.iface 193 (.pointer (some a1))):=by have h0:=World.var?_cell laysC174.m16 hr 0;simpa using h0
 have aoQ:W.cell? ⟨laysC174_ren.g 15,0,none⟩=some (.iface 193 (.pointer (some a2))):=by have h0:=World.var?_cell laysC174.m15 hy 0;simpa using h0
 have aoR:=World.block_lt_of_cell? W _ aoP;have aoS:=World.block_lt_of_cell? W _ aoQ;refine ⟨⟨λw' hb n h1 h2=>?_,λw' hb l hl=>?_⟩,λw' hb s hs=>?_,λw' hb s c hs=>?_,λw' hb s c hs=>?_,λw' hb s hs=>?_,λw' hb l hl=>?_⟩
 ·refine (strconv_FormatInt_10 n h1 h2 w' (hB w' hb)).mono ?_;rintro e w2 ⟨rfl,k,os,rfl⟩;exact ⟨rfl,below_grow _ _ _⟩
 ·have ja:(⟨l.toArray⟩:ByteArray).size=l.length:=by simp[ByteArray.size]
  have hc:=Lib.countB_le ⟨#[10]⟩ (by decide) l.length ⟨l.toArray⟩ (by rw[ja];exact Nat.le_refl _);rw[ja]at hc;have h1:(⟨#[59]⟩:ByteArray).size=1:=rfl;have hr:=strings_ReplaceAll_shaped ⟨l.toArray⟩ ⟨#[10]⟩ ⟨#[59]⟩ w' (hSh w' hb) (by rw[ja];omega) (by decide) (by rw[ja,h1];omega);have he:Lib.replaceAll l [10] [59]=Qi l:=aea 10 59 (by decide) l;rw[show (⟨l.toArray⟩:ByteArray).data.toList=l from rfl,show (⟨#[10]⟩:ByteArray).data.toList=[10]from rfl,show (⟨#[59]⟩:ByteArray).data.toList=[59]from rfl,he]at hr;exact hr
 ·have SG:=λ(m:Int) (h1: -9223372036854775808<=m) (h2:m<=9223372036854775807) (e:Lib.itoa m=s.data.toList)=>(by rw[<-e];exact acy m h1 h2:Lib.parseIntB 64 s.data.toList= .ok m);rcases hp:Lib.parseIntB 64 s.data.toList with v|_|_
  ·have hv:=Lib.parseIntB_bounds hp;refine (strconv_ParseInt_10_at64_ok s (by omega) v hp w').mono ?_;rintro e w2 ⟨rfl,hw⟩;refine ⟨v,.nilIface,rfl,by have:=hv.1;simpa using this,by have:=hv.2;simp at this;omega,.inl rfl,λm h1 h2 e=>⟨rfl,?_⟩,?_⟩
   ·have:=SG m h1 h2 e;rw[hp]at this;injection this
   rcases hw with rfl|⟨t,rfl⟩
   ·exact Below.refl _ _
   exact aoV _ _ _
  ·refine (Any.strconv_ParseInt_10_at64_syntax laysC174 s (by omega) hp _ w' ((hb.cell (p:=⟨laysC174_ren.g 15,0,none⟩) aoS).trans aoQ) (Or.inr ⟨_,_,rfl⟩)).mono ?_;rintro e w2 ⟨N,rfl,_,_,qf⟩;refine ⟨0,_,rfl,by omega,by omega,.inr ⟨_,_,rfl⟩,λm h1 h2 e=>?_,qf⟩;have:=SG m h1 h2 e;rw[hp]at this;cases this
  refine (Any.strconv_ParseInt_10_at64_range laysC174 s (by omega) hp _ w' ((hb.cell (p:=⟨laysC174_ren.g 16,0,none⟩) aoR).trans aoP) (Or.inr ⟨_,_,rfl⟩)).mono ?_;rintro e w2 ⟨N,rfl,_,_,qf⟩
  have ao1: -9223372036854775808<=Lib.intSat 64 s.data.toList/\Lib.intSat 64 s.data.toList<=9223372036854775807:=by
   unfold Lib.intSat
   split<;>simp
  refine ⟨_,_,rfl,ao1.1,ao1.2,.inr ⟨_,_,rfl⟩,λm h1 h2 e=>?_,qf⟩;have:=SG m h1 h2 e;rw[hp]at this;cases this
 ·refine (strings_Cut_shaped s ⟨#[c]⟩ w' (hSh w' hb) (by omega)).mono ?_;rintro e w2 ⟨rfl,hk⟩;rw[show (⟨#[c]⟩:ByteArray).data.toList=[c]from rfl,agk];exact ⟨_,rfl,hk⟩
 ·refine (strings_Split_shaped s ⟨#[c]⟩ w' (hSh w' hb) (by omega) (Nat.le_refl 1)).mono ?_;rintro e w2 ⟨rfl,hw⟩;have hlen:Lib.countB s ⟨#[c]⟩+1=(sL c s.data.toList).length:=(aeK c s.data.toList _ (Nat.le_refl _)).2.symm;rw[aoW]at hw;rw[hlen];refine ⟨rfl,_,hw,λk p hk=>?_⟩;simp[hk]
 ·refine (strings_SplitN_shaped s ⟨#[32]⟩ 7 w' (hSh w' hb) (by omega) (by decide) (by omega) (by omega)).mono ?_;rintro e w2 ⟨rfl,hw⟩;rw[aoU]at hw⊢;rw[List.length_map];have hn:=adx (c:=32) 6 s.data.toList;have hp:=ae3 (c:=32) 6 s.data.toList
  have yH:(K8 32 6 s.data.toList).length<=min 7 (s.size+1):=by
   have:=aoT 32 6 s.data.toList;have ja:s.data.toList.length=s.size:=by simp
   omega
  have qf:Below w'.heap.size w' w2:=by rw[hw];exact (Below.refl _ _).alloc (Nat.le_refl _) _
  refine ⟨min 7 (s.size+1),rfl,⟨_,_,rfl,yH,by unfold maxLen;omega,λ_=>⟨w'.heap.size,0,rfl,by rw[hw];simp,λk x hx=>⟨K7 x,rfl,rfl,λj u hu=>?_⟩⟩⟩,qf⟩
  match j,hu with
  |0,hu=>
   injection hu with hu
   subst hu;have qg:=(List.getElem?_eq_some_iff.1 hx).1;rw[hw,Nat.zero_add,Nat.mul_one,Nat.add_zero]
   have hr:=(Row.new w' (Lib.cellsOf ((K8 32 6 s.data.toList).map (λl=>(⟨l.toArray⟩:ByteArray))) (min 7 (s.size+1))) 9).cell k (.string ⟨x.toArray⟩) (by
    unfold Lib.cellsOf;rw[List.toList_toArray,List.getElem?_append_left (by simpa using qg)];simp[hx])
   exact hr
 have ja:(⟨l.toArray⟩:ByteArray).size=l.length:=by simp[ByteArray.size]
 have hc:=Lib.countB_le ⟨#[59]⟩ (by decide) l.length ⟨l.toArray⟩ (by rw[ja];exact Nat.le_refl _);rw[ja]at hc;have h1:(⟨#[10]⟩:ByteArray).size=1:=rfl;have hr:=strings_ReplaceAll_shaped ⟨l.toArray⟩ ⟨#[59]⟩ ⟨#[10]⟩ w' (hSh w' hb) (by rw[ja];omega) (by decide) (by rw[ja,h1];omega);have he:Lib.replaceAll l [59] [10]=Sx l:=aea 59 10 (by decide) l;rw[show (⟨l.toArray⟩:ByteArray).data.toList=l from rfl,show (⟨#[59]⟩:ByteArray).data.toList=[59]from rfl,show (⟨#[10]⟩:ByteArray).data.toList=[10]from rfl,he]at hr;exact hr
end Go.Proofs.YtbcggaldkihcaaaGreatDoor
