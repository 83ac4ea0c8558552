/- Marks of numbers and edits, walked, where the count may be great (as in the first texts,.. -/
import Derived.Test.YtbcggaldkihcaaaGreatDoorQE
import Derived.Test.YtbcggaldkihcaaaGreatDoorQF
import Derived.Test.YtbcggaldkihcaaaGreatDoorQB
import Derived.Test.YtbcggaldkihcaaaGreatDoorQG
namespace Go.Proofs.YtbcggaldkihcaaaGreatDoor
open Tryz
open Go.RowKit Go.Lib
def bL {β:Type} (m:Nat->β->β) (nx:Nat->β->Nat):Nat->List β->List β
 |_,[]=>[]
 |k,x::xs=>m k x::bL m nx (nx k x) xs
def bs {β:Type} (nx:Nat->β->Nat):Nat->List β->Nat
 |k,[]=>k
 |k,x::xs=>bs nx (nx k x) xs
theorem aR.at {β:Type} {K:Kind β} {base:Nat} {w:World} {v:Value} {P R:List β} {x:β} (h:aR K base w v (P++x::R)) {j g:Nat} (hP:P.length=j) (hv:v.ownBlock=some g) {i:Nat} {u:Value} (hu:(K.cells x)[i]?=some u):w.cell? ⟨g,j*K.size+i,none⟩=some u/\w.frozen? ⟨g,j*K.size+i,none⟩=false:=by
 obtain ⟨g',c,rfl,_,_,_,_,h7⟩:=h.cell (j:=j) (x:=x) (by rw[List.getElem?_append_right (by omega),hP,Nat.sub_self];rfl);injection hv with hv
 have hv:g'=g:=hv;subst hv;exact h7 i u hu
theorem aR.put {β:Type} {K:Kind β} {base:Nat} {w:World} {v:Value} {P R:List β} {x x':β} (h:aR K base w v (P++x::R)) {j g:Nat} (hP:P.length=j) (hv:v.ownBlock=some g) (i:Nat) (hi:i<K.size) (u:Value) (hc:K.cells x'=(K.cells x).set i u)
 (hb: ∀b,K.dR x' b↔K.dR x b) (iq: ∀w,K.fa base w x->K.fa base w x'):aR K base (w.setCell ⟨g,j*K.size+i,none⟩ u) v (P++x'::R):=by
 have:=h.setCell (j:=j) (x:=x) (x':=x') (by rw[List.getElem?_append_right (by omega),hP,Nat.sub_self];rfl) hv i hi u hc hb iq
 rwa [List.set_append_right _ _ (by omega),hP,Nat.sub_self,List.set_cons_zero]at this
theorem aR.turn {β:Type} {K:Kind β} {base:Nat} {w w':World} {v:Value} {P R:List β} {x x':β} {F:Nat->Prop} (h:aR K base w v (P++x::R)) {j:Nat} (hP:P.length=j) (ht:Touch F w w') (hF: ∀b,b<w.heap.size->F b->K.dR x b) (hc:K.cells x'=K.cells x)
 (hb: ∀b,K.dR x' b↔K.dR x b) (iq:K.fa base w' x'):aR K base w' v (P++x'::R):=by
 have:=h.inner (j:=j) (x:=x) (x':=x') (by rw[List.getElem?_append_right (by omega),hP,Nat.sub_self];rfl) ht hF hc hb iq
 rwa [List.set_append_right _ _ (by omega),hP,Nat.sub_self,List.set_cons_zero]at this
def rV {β:Type} (K:Kind β) (m:Nat->β->β) (nx:Nat->β->Nat) (L:List β) (k base:Nat) (v:Value) (w:World) (e:Ending) (w':World):Prop:=
 e= .returned (.int .i64 ((bs nx k L:Nat):Int))/\aR K base w' v (bL m nx k L)/\Touch (bN K v L) w w'
def Wx (k:Nat):ByteArray:=⟨(109::itoa ((k:Nat):Int)).toArray⟩
def cH (k:Nat) (x:bR):Nat:=k+x.a.length
def lT (k:Nat) (x:bR):bR:=⟨jr k x.a.length,x.v⟩
def dx (k:Nat) (_:bE):Nat:=k+2
def mL (k:Nat) (_:bE):bE:=⟨(k:Int),⟨(109::itoa ((k+1:Nat):Int)).toArray⟩⟩
def dQ (k:Nat) (x:bu):Nat:=k+2+4*x.a.pat.length
def lU (k:Nat) (x:bu):bu:=⟨⟨(k:Int),(k:Int)+1,dG (k+2) x.a.pat.length⟩,x.v⟩
def eR (k:Nat) (x:bH):Nat:=k+2+4*x.a.pat.length+3+x.a.ax.length+1
def lJ (k:Nat) (x:bH):bH:=⟨⟨⟨(109::itoa ((k:Nat):Int)).toArray⟩,(k:Int)+1,dG (k+2) x.a.pat.length,((k+2+4*x.a.pat.length:Nat):Int),((k+2+4*x.a.pat.length:Nat):Int)+1,((k+2+4*x.a.pat.length:Nat):Int)+1+1,jr (k+2+4*x.a.pat.length+3) x.a.ax.length,((k+2+4*x.a.pat.length+3+x.a.ax.length:Nat):Int)⟩,x.p,x.t⟩
def Ra (k:Nat) (a:cp) (T:List bR) (C:List bu) (M:List bH):cp:=
 ⟨a.day,a.rule,(bL lT cH k T).map bR.a,bL mL dx (bs cH k T) a.base,(bL lU dQ (bs dx (bs cH k T) a.base) C).map bu.a,(bL lJ eR (bs dQ (bs dx (bs cH k T) a.base) C) M).map bH.a⟩
def tq (k:Nat) (a:cp) (T:List bR) (C:List bu) (M:List bH):Nat:=bs eR (bs dQ (bs dx (bs cH k T) a.base) C) M
def ME (x:cS) (a:cp) (T:List bR) (C:List bu) (M:List bH) (k base:Nat) (w:World) (e:Ending) (w':World):Prop:=
 e= .returned (.int .i64 ((tq k a T C M:Nat):Int))/\
 kP base w' x (Ra k a T C M) (bL lT cH k T) (bL lU dQ (bs dx (bs cH k T) a.base) C) (bL lJ eR (bs dQ (bs dx (bs cH k T) a.base) C) M)/\
 Touch (bz x a T C M) w w'
structure rX (T:List bR) (b:List bE) (C:List bu) (M:List bH):Prop where
 t0:T.length<=1048576
 t: ∀x∈T,x.a.length<=1048576
 J:b.length<=1048576
 c0:C.length<=1048576
 c: ∀x∈C,x.a.pat.length<=1048576
 m0:M.length<=1048576
 m: ∀x∈M,x.a.pat.length<=1048576/\x.a.ax.length<=1048576
def YM (own:Nat->World->Value->Prop) (r:Bool) (w:World) (e:Ending) (w':World):Prop:= ∃v,e= .returned (.tuple #[v,.bool r])/\own w.heap.size w' v/\Below w.heap.size w w'
structure Jw where
 own:Nat->World->Value->Prop
 Rc:Nat->World->Value->Prop
 n:Nat
 slice: ∀{b W v},own b W v-> ∃A m c,v= .slice A m c
 aD: ∀{b W W' v} {F:Nat->Prop},own b W v->Touch F W W'->(∀c,F c->c<b)->own b W' v
 DS: ∀{b W W' v},Rc b W v->Below W.heap.size W W'->Rc b W' v
theorem Jw.below (K:Jw) {b:Nat} {W W':World} {v:Value} (h:K.own b W v) (hb:Below W.heap.size W W'):K.own b W' v:=K.aD (F:=λ_=>False) h (Touch.dV hb) (λ_ h=>h.elim)
def YN (R:List bE):Jw where
 own b W v:=ay ai R b W v
 Rc b W v:=ay ai (bL mL dx 1 R) b W v
 n:=bs dx 1 R
 slice h:=by obtain ⟨A,c,e,_⟩:=h;exact ⟨A,_,c,e⟩
 aD h ht hF:=ay.aD h ht (λc hc hf=>by have q1:=(ay.dw h hc).1;have q2:=hF c hf;omega)
 DS h hb:=ay.on h hb
noncomputable def WB (a:cp):List bE:=if fI a=true then (nU a.base a.av a.day).getD []else []
end Go.Proofs.YtbcggaldkihcaaaGreatDoor
