/- append of a slice onto a row of the call's own, with where the row lies behind it. -/
import Derived.Test.YtbcggaldkihcaaaGreatDoorQE
namespace Go.Proofs.YtbcggaldkihcaaaGreatDoor
open Tryz
open Go.RowKit Go.Lib
theorem wy {P:Program} {w:World} {α:Type} (f:α->List Value) {o:Oper} {a:Act} {K:Act->World->Prop} {Q:Exit->Act->World->Prop} (s x:Operand) (t:TypeId)
 (ho:o.op= .call {callee:= .builtin .append,args:= #[s,x],argTypes:= #[t,t]})
 (base:Nat) (e:TypeId) (i:TypeInfo) (z:Value) (size bytes:Nat) (ht:P.underlying t=some (.slice e)) (hi:P.info? e=some i) (hz:i.zero=some z)
 (ga:i.size=size) (y9:i.bytes=bytes) (qd:z.cells.size=size) (ja:0<size)
 (v:Value) (n:Nat) (ys:List Value) (hs:a.eval s=v) (cr:w.ownsRow base e size v n ys)
 (vs:Value) (xs:List α) (B:Nat) (hx:a.eval x=vs) (FA:cz (Pl f) size w B vs xs) (hf: ∀y,(f y).length=size) (h1: ∀y,∀u∈f y,u.oneCell'=true)
 (ya:n+xs.length<=maxLen) (gB:(n+xs.length)*bytes<=140737488355328) (dC:base<=w.heap.size)
 (h: ∀v' w',w'.ownsRow base e size v' (n+xs.length) (ys++xs.flatMap f)->w.grownBy w' v.ownBlock->(v≠ .slice none 0 0->v'≠ .slice none 0 0)->(v'.ownBlock=v.ownBlock\/v'.ownBlock=some w.heap.size)->K (a.put o.dst v') w'):o.wp P a w K Q:=by
 obtain ⟨A,c,rfl,hc,hm,cn⟩:=FA
 have oH: ∀ad:Addr,A=some ad->(∀j u,(xs.flatMap f)[j]?=some u->w.cell? (ad.add j)=some u)->o.wp P a w K Q:=λad hA qB=>by
  subst hA;obtain ⟨v',w',hr,g1,g2,g3,g4⟩:=run_append_own_at (P:=P) w base t o.type e i z size bytes ht hi hz ga y9 qd ja v n ys cr ad xs.length c (xs.flatMap f) (bp f hf xs) qB (gJ f (λy u hu=>h1 y u hu) xs) ya gB dC;unfold Oper.wp execOp;simp only[ho,resolve,invoke,builtin,Sem.run_bind,Sem.run_pure,Result.andThen_ok,List.map_toArray,List.map_cons,List.map_nil,hs,hx,hr];exact h v' w' g1 g2 (λhv Ny=>hv (g3.1 Ny).1) g4
 by_cases h0:xs=[]
 ·subst h0;cases A with
  |some ad=>exact oH ad rfl (λj u hj=>by simp at hj)
  |none=>
   have CW:(Builtin.append_ #[t,t] o.type #[v,.slice none 0 c]).run P w= .ok v w:=by
    rcases cr.2 with ⟨rfl,rfl⟩|⟨g,cap,kT,rfl,_,_,xy,_⟩
    ·simp[Builtin.append_,run_underlying ht,sizeOf,typeInfo,hi,Builtin.lenOf,Builtin.firstCells]
    simp[Builtin.append_,run_underlying ht,sizeOf,typeInfo,hi,Builtin.lenOf,Builtin.firstCells,xy,storeCells]
   unfold Oper.wp;have Ih:a.eval x= .slice none 0 c:=hx;simp[execOp,ho,resolve,invoke,builtin,hs,Ih,CW,Result.andThen];exact (h v w (by simpa using cr) ⟨rfl,rfl,rfl,Nat.le_refl _,λ_ _ _=>rfl⟩ (λhv=>hv) (.inl rfl))
 obtain ⟨b,off,hA,hb,aC⟩:=cn (List.length_pos_iff.2 h0);refine oH ⟨b,off,none⟩ hA (λj u hj=>?_);have yb:j<xs.length*size:=by rw[<-bp f hf xs];exact (List.getElem?_eq_some_iff.1 hj).1
 have hq:j/size<xs.length:=Nat.div_lt_of_lt_mul (by rw[Nat.mul_comm];exact yb);obtain ⟨us,hl,hp,CX⟩:=aC (j/size) xs[j/size] (List.getElem?_eq_getElem hq);have hp:us=f xs[j/size]:=hp;subst hp;have CY:j% size<size:=Nat.mod_lt _ ja
 have hu:(f xs[j/size])[j% size]?=some u:=by
  have Ii:j=(j/size)*size+j% size:=by rw[Nat.mul_comm];exact (Nat.div_add_mod j size).symm
  have KH: ∀(L:List α) (q r:Nat) (hq:q<L.length),r<size->(L.flatMap f)[q*size+r]?=(f L[q])[r]?:=by
   intro L;induction L with
   |nil=>intro q r hq;cases hq
   |cons y L ih=>
    intro q r hq hr;rw[List.flatMap_cons];cases q with
    |zero=>rw[Nat.zero_mul,Nat.zero_add,List.getElem?_append_left (by rw[hf];exact hr)];rfl
    |succ q=>
     rw[List.getElem?_append_right (by rw[hf,Nat.succ_mul];omega),hf,Nat.succ_mul,show q*size+size+r-size=q*size+r by omega];exact ih q r (by simpa using hq) hr
  rw[<-KH xs (j/size) (j% size) hq CY,<-Ii];exact hj
 have:=CX (j% size) u hu;have Ii:(j/size)*size+j% size=j:=by rw[Nat.mul_comm];exact Nat.div_add_mod j size
 rw[Nat.add_assoc,Ii]at this;rw[Addr.add_lit];exact this
theorem aQ {P:Program} {α:Type} {w:World} (f:α->List Value) {T:Bool} {o:Oper} {a:Act} {K:Act->World->Prop} {Q:Exit->Act->World->Prop} {E:Prop} (xZ:T=true) (s x:Operand) (t:TypeId)
 (ho:o.op= .call {callee:= .builtin .append,args:= #[s,x],argTypes:= #[t,t]})
 (base:Nat) (e:TypeId) (i:TypeInfo) (z:Value) (size bytes:Nat) (ht:P.underlying t=some (.slice e)) (hi:P.info? e=some i) (hz:i.zero=some z)
 (ga:i.size=size) (y9:i.bytes=bytes) (qd:z.cells.size=size) (ja:0<size)
 (v:Value) (n:Nat) (ys:List Value) (hs:a.eval s=v) (cr:w.ownsRow base e size v n ys)
 (vs:Value) (xs:List α) (B:Nat) (hx:a.eval x=vs) (FA:cz (Pl f) size w B vs xs) (hf: ∀y,(f y).length=size) (h1: ∀y,∀u∈f y,u.oneCell'=true)
 (ya:n+xs.length<=maxLen) (gB:(n+xs.length)*bytes<=140737488355328) (dC:base<=w.heap.size)
 (h: ∀v' w',w'.ownsRow base e size v' (n+xs.length) (ys++xs.flatMap f)->w.grownBy w' v.ownBlock->(v≠ .slice none 0 0->v'≠ .slice none 0 0)->(v'.ownBlock=v.ownBlock\/v'.ownBlock=some w.heap.size)->K (a.put o.dst v') w'):
 if T=true then Oper.wp P o a w K Q else E:=by
 rw[if_pos xZ];exact wy f s x t ho base e i z size bytes ht hi hz ga y9 qd ja v n ys hs cr vs xs B hx FA hf h1 ya gB dC h
theorem iA {P:Program} {w:World} {T:Bool} {o:Oper} {a:Act} {K:Act->World->Prop} {Q:Exit->Act->World->Prop} {E:Prop} (xZ:T=true) (s x:Operand) (t:TypeId)
 (ho:o.op= .call {callee:= .builtin .append,args:= #[s,x],argTypes:= #[t,t]})
 (base:Nat) (e:TypeId) (i:TypeInfo) (z:Value) (size bytes:Nat) (ht:P.underlying t=some (.slice e)) (hi:P.info? e=some i) (hz:i.zero=some z)
 (ga:i.size=size) (y9:i.bytes=bytes) (qd:z.cells.size=size) (ja:0<size)
 (v:Value) (n:Nat) (xs:List Value) (hs:a.eval s=v) (cr:w.ownsRow base e size v n xs)
 (ad:Addr) (m c:Nat) (news:List Value) (hx:a.eval x= .slice (some ad) m c) (hl:news.length=m*size) (nS: ∀j u,news[j]?=some u->w.cell? (ad.add j)=some u) (h1: ∀u∈news,u.oneCell'=true)
 (ya:n+m<=maxLen) (gB:(n+m)*bytes<=140737488355328) (dC:base<=w.heap.size)
 (h: ∀v' w',w'.ownsRow base e size v' (n+m) (xs++news)->w.grownBy w' v.ownBlock->(v'= .slice none 0 0↔v= .slice none 0 0/\m=0)->(v'.ownBlock=v.ownBlock\/v'.ownBlock=some w.heap.size)->K (a.put o.dst v') w'):
 if T=true then Oper.wp P o a w K Q else E:=by
 rw[if_pos xZ];obtain ⟨v',w',hr,h2,h3,h4,h5⟩:=run_append_own_at (P:=P) w base t o.type e i z size bytes ht hi hz ga y9 qd ja v n xs cr ad m c news hl nS h1 ya gB dC;unfold Oper.wp execOp;simp only[ho,resolve,invoke,builtin,Sem.run_bind,Sem.run_pure,Result.andThen_ok,List.map_toArray,List.map_cons,List.map_nil,hs,hx,hr];exact h v' w' h2 h3 h4 h5
end Go.Proofs.YtbcggaldkihcaaaGreatDoor
