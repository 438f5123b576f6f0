/- Contracts and plain laws that the last text rests on. Conditions: each theorem states its own. -/
import Derived.Test.YtfljcllpmbnjaaaGreatRows
import Derived.WalkKit
import Derived.WalkSpells
import Derived.WalkLawsBesides
import Derived.Below
import Derived.Laws.OwnMore
import Derived.Maps.AppendAt
import Derived.Deep.AppendLies
import Derived.Deep.Draws
import Derived.Laws.Rows
import Derived.Lib.Hide
import Derived.Test.YtfljcllpmbnjaaaGreatKdQ1
import Derived.Laws.BytesArg
import Derived.Laws.BitsAllLaws
set_option maxRecDepth 100000
set_option maxHeartbeats 400000
set_option linter.unusedVariables false
namespace Go.Proofs.YtfljcllpmbnjaaaGreat
open Go.RowKit
structure Ch (S:Nat->Prop) (w w':World):Prop where
 os:w'.os=w.os
 tape:w'.tape=w.tape
 output:w'.output=w.output
 size:w.heap.size<=w'.heap.size
 block:∀k,k<w.heap.size->¬S k->w'.heap[k]?=w.heap[k]?
abbrev Nx (w w':World):Prop:=Ch (fun _=>False) w w'
namespace Ch
variable {S T : Nat → Prop} {a b c w w' : World}
theorem refl (S:Nat->Prop) (w:World):Ch S w w:=⟨rfl,rfl,rfl,Nat.le_refl _,fun _ _ _=>rfl⟩
theorem trans (h:Ch S a b) (k:Ch T b c) (hT:∀i,i<a.heap.size->T i->S i):Ch S a c:=
 ⟨k.os.trans h.os,k.tape.trans h.tape,k.output.trans h.output,Nat.le_trans h.size k.size,
   fun i hi hn=>(k.block i (Nat.lt_of_lt_of_le hi h.size) (fun ht=>hn (hT i hi ht))).trans (h.block i hi hn)⟩
theorem tr (h:Ch S a b) (k:Nx b c):Ch S a c:=h.trans k (fun _ _ hf=>hf.elim)
theorem mono (h:Ch S w w') (hS:∀i,i<w.heap.size->S i->T i):Ch T w w':=
 ⟨h.os,h.tape,h.output,h.size,fun i hi hn=>h.block i hi (fun hs=>hn (hS i hi hs))⟩
theorem drew (h:Ch S a w):Ch S a w.drew:=⟨h.os,h.tape,h.output,h.size,h.block⟩
theorem drewN (h:Ch S a w) (n:Nat):Ch S a (w.drewN n):=⟨h.os,h.tape,h.output,h.size,h.block⟩
theorem alloc (h:Ch S a w) (o:Obj):Ch S a (w.alloc o):=
 ⟨h.os,h.tape,h.output,Nat.le_trans h.size (by simp),fun k hk hn=>(Below.heap_alloc w o k (Nat.lt_of_lt_of_le hk h.size)).trans (h.block k hk hn)⟩
theorem setCell (h:Ch S a w) {p:Addr} (hp:p.block<a.heap.size->S p.block) (u:Value):Ch S a (w.setCell p u):=
 ⟨h.os,h.tape,h.output,by simpa [World.setCell]using h.size,fun k hk hn=>
   (Below.heap_setCell w p u k (fun e=>hn (by rw[e]at hk ⊢;exact hp hk))).trans (h.block k hk hn)⟩
theorem grown (h:Ch S a w) {row:Option Nat} (hg:w.grownBy w' row) (hr:∀k,row=some k->k<a.heap.size->S k):Ch S a w':=
 ⟨hg.os.trans h.os,hg.tape.trans h.tape,hg.output.trans h.output,Nat.le_trans h.size hg.size,fun k hk hn=>
   (hg.block k (Nat.lt_of_lt_of_le hk h.size) (fun e=>hn (hr k e.symm hk))).trans (h.block k hk hn)⟩
theorem below (h:Ch S w w') {B:Nat} (hB:∀i,i<B->i<w.heap.size/\¬S i):Below B w w':=
 ⟨h.os,h.tape,h.output,h.size,fun k hk=>h.block k (hB k hk).1 (hB k hk).2⟩
theorem of_below {B:Nat} (h:Below B w w'):Ch (fun k=>B<=k) w w':=⟨h.os,h.tape,h.output,h.size,fun k _ hn=>h.block k (by omega)⟩
theorem nx (h:Ch S w w') (hS:∀i,i<w.heap.size->¬S i):Nx w w':=h.mono fun i hi hs=>(hS i hi hs).elim
theorem cell (h:Ch S w w') {p:Addr} (hp:p.block<w.heap.size) (hn:¬S p.block):w'.cell? p=w.cell? p:=World.cell?_of_block (h.block p.block hp hn)
end Ch
theorem Nx.below {w w':World} (h:Nx w w'):Below w.heap.size w w':=Ch.below h fun _ hi=>⟨hi,fun hf=>hf⟩
theorem Nx.cell {w w':World} (h:Nx w w') {p:Addr} (hp:p.block<w.heap.size):w'.cell? p=w.cell? p:=Ch.cell h hp fun hf=>hf
theorem Nx.block_ {w w':World} (h:Nx w w') {k:Nat} (hk:k<w.heap.size):w'.heap[k]?=w.heap[k]?:=h.block k hk fun hf=>hf
theorem xC (a:Addr) (n:Nat):(a.add n).block=a.block:=by unfold Addr.add;split<;>rfl
theorem Ew (a:Addr) (i j:Nat):(a.add i).add j=a.add (i+j):=by
 unfold Addr.add;by_cases hi:i=0<;>by_cases hj:j=0<;>simp[hi,hj,Nat.add_assoc]
def Rd (w:World) (D:Nat->Prop) (size:Nat) (A:Option Addr) (n:Nat) (xs:List Value):Prop:=
 xs.length=n * size/\(0<n->∃ad,A=some ad/\D ad.block/\∀j u,xs[j]?=some u->w.cell? (ad.add j)=some u)
section
variable {w w' : World} {D D' : Nat → Prop} {size n : Nat} {A : Option Addr} {xs : List Value}
theorem Rd.none_ (w:World) (D:Nat->Prop) (size:Nat) (A:Option Addr):Rd w D size A 0 []:=⟨by simp,fun h=>absurd h (by omega)⟩
theorem Rd.at_ {k:Nat} (h:Rd w D 1 A n xs) (hk:k<n):∃ad u,A=some ad/\D ad.block/\xs[k]?=some u/\w.cell? (ad.add k)=some u:=by
 obtain ⟨ad,e,hb,hc⟩:=h.2 (by omega);have hl:k<xs.length:=by have:=h.1;omega
 exact ⟨ad,xs[k],e,hb,List.getElem?_eq_getElem hl,hc k _ (List.getElem?_eq_getElem hl)⟩
theorem Rd.keep (h:Rd w D size A n xs) (hk:∀k,D k->w'.heap[k]?=w.heap[k]?):Rd w' D size A n xs:=
 ⟨h.1,fun hn=>by
   obtain ⟨ad,e,hb,hc⟩:=h.2 hn;exact ⟨ad,e,hb,fun j u hu=>(World.cell?_of_block (hk _ (by rw[xC];exact hb))).trans (hc j u hu)⟩⟩
theorem Rd.more (h:Rd w D size A n xs) (hD:∀k,D k->D' k):Rd w D' size A n xs:=
 ⟨h.1,fun hn=>by
   obtain ⟨ad,e,hb,hc⟩:=h.2 hn;exact ⟨ad,e,hD _ hb,hc⟩⟩
theorem Rd.ZV (h:Rd w D size A n xs) (hs:0<size):0<n->∃ad,A=some ad/\D ad.block/\ad.block<w.heap.size:=fun hn=>by
 obtain ⟨ad,e,hb,hc⟩:=h.2 hn;have hl:0<xs.length:=by rw[h.1];exact Nat.mul_pos hn hs
 have:=World.block_lt_of_cell? w _ (hc 0 _ (List.getElem?_eq_getElem hl));rw[xC]at this;exact ⟨ad,e,hb,this⟩
theorem Rd.ch {S:Nat->Prop} (h:Rd w D size A n xs) (hs:0<size) (hc:Ch S w w') (hS:∀k,k<w.heap.size->D k->¬S k):Rd w' D size A n xs:=
 ⟨h.1,fun hn=>by
   obtain ⟨ad,e,hb,hc'⟩:=h.2 hn;obtain ⟨ad',e',_,hlt⟩:=h.ZV hs hn;rw[e]at e';injection e' with e';subst e';refine ⟨ad,e,hb,fun j u hu=>(World.cell?_of_block (hc.block _ (by rw[xC];exact hlt) ?_)).trans (hc' j u hu)⟩;rw[xC];exact hS _ hlt hb⟩
theorem Rd.nx (h:Rd w D size A n xs) (hs:0<size) (hc:Nx w w'):Rd w' D size A n xs:=h.ch hs hc fun _ _ _ hf=>hf
theorem Rd.drewN (h:Rd w D size A n xs) (k:Nat):Rd (w.drewN k) D size A n xs:=h
theorem Rd.cut (h:Rd w D size A n xs) {k cap:Nat} (hk:k<=n) (hc:n<=cap):
 Rd w D size (if cap=k then A else A.map (·.add (k * size))) (n-k) (xs.drop (k * size)):=by
 refine ⟨by rw[List.length_drop,h.1,Nat.sub_mul],fun hn=>?_⟩;obtain ⟨ad,rfl,hb,hcell⟩:=h.2 (by omega);rw[if_neg (by omega)];refine ⟨ad.add (k * size),rfl,by rw[xC];exact hb,fun j u hu=>?_⟩;rw[Ew];exact hcell _ u (by rw[←hu,List.getElem?_drop])
theorem Rd.take (h:Rd w D size A n xs) {k:Nat} (hk:k<=n):Rd w D size A k (xs.take (k * size)):=by
 refine ⟨by rw[List.length_take,h.1];exact Nat.min_eq_left (Nat.mul_le_mul_right _ hk),fun hn=>?_⟩;obtain ⟨ad,rfl,hb,hcell⟩:=h.2 (by omega)
 exact ⟨ad,rfl,hb,fun j u hu=>hcell j u (by
  rw[List.getElem?_take]at hu;split at hu
  ·exact hu
  ·cases hu)⟩
theorem Rd.bY {base:Nat} {e:TypeId} {c:Nat} (h:w.ownsRow base e size (.slice A n c) n xs):Rd w (fun k=>(Value.slice A n c).ownBlock=some k/\base<=k/\k<w.heap.size) size A n xs:=by
 refine ⟨h.1,fun hn=>?_⟩;obtain ⟨g,cap,hv,hb,hlt⟩:=h.form hn;have hA:A=some ⟨g,0,none⟩:=by injection hv
 subst hA;exact ⟨_,rfl,⟨rfl,hb,hlt⟩,h.cells (g:=g) rfl⟩
end
def dD (w:World) (g:Nat) (t:TypeId) (cs:Array Value):Prop:=w.heap[g]?=some (.cells cs t (0,0))
section
variable {w w' : World} {g : Nat} {t : TypeId} {cs : Array Value}
theorem dD.lt (h:dD w g t cs):g<w.heap.size:=by
 rcases Nat.lt_or_ge g w.heap.size with hlt|hge
 ·exact hlt
 ·unfold dD at h;rw[Array.getElem?_eq_none hge]at h;cases h
theorem dD.cell (h:dD w g t cs) (i:Nat):w.cell? ⟨g,i,none⟩=cs[i]?:=cell_of_row w g i cs t (0,0) h
theorem dD.frozen (h:dD w g t cs) (i:Nat):w.frozen? ⟨g,i,none⟩=false:=by
 unfold dD at h;simp[World.frozen?,h]
theorem dD.new (w:World) (t:TypeId) (cs:Array Value):dD (w.alloc (.cells cs t)) w.heap.size t cs:=heap_alloc_new w _
theorem dD.drew (h:dD w g t cs):dD w.drew g t cs:=h
theorem dD.drewN (h:dD w g t cs) (n:Nat):dD (w.drewN n) g t cs:=h
theorem dD.alloc (h:dD w g t cs) (o:Obj):dD (w.alloc o) g t cs:=(Below.heap_alloc w o g h.lt).trans h
theorem dD.dZ (h:dD w g t cs) (i:Nat) (u:Value):dD (w.setCell ⟨g,i,none⟩ u) g t (cs.setIfInBounds i u):=by
 unfold dD at h ⊢;simp[World.setCell,Array.getElem?_modify,h]
theorem dD.far (h:dD w g t cs) {p:Addr} (hp:g≠p.block) (u:Value):dD (w.setCell p u) g t cs:=(Below.heap_setCell w p u g hp).trans h
theorem dD.ch {S:Nat->Prop} (h:dD w g t cs) (hc:Ch S w w') (hS:¬S g):dD w' g t cs:=(hc.block g h.lt hS).trans h
theorem dD.nx (h:dD w g t cs) (hc:Nx w w'):dD w' g t cs:=h.ch hc fun hf=>hf
theorem dD.grown {row:Option Nat} (h:dD w g t cs) (hb:w.grownBy w' row) (hg:some g≠row):dD w' g t cs:=(hb.block g h.lt hg).trans h
theorem dD.ZU {g':Nat} {t':TypeId} {cs':Array Value} (h:dD w g t cs) (h':dD w g' t' cs') (hne:t≠t'):g≠g':=by
 rintro rfl;unfold dD at h h';rw[h]at h';injection h' with h';injection h' with _ ht;exact hne ht
theorem EI {base:Nat} {e:TypeId} {size n:Nat} {v:Value} {xs:List Value} (h:w.ownsRow base e size v n xs) (hg:dD w g t cs) (hne:e≠t):v.ownBlock≠some g:=by
 rcases h.2 with ⟨rfl,_⟩|⟨g',cap,cur,rfl,_,hh,_⟩
 ·simp[Value.ownBlock]
 ·intro he
  have:g'=g:=by simpa [Value.ownBlock]using he
  subst this;exact dD.ZU (t:=e) hh hg hne rfl
theorem z06 {base:Nat} {e:TypeId} {size n:Nat} {v:Value} {xs:List Value} {S:Nat->Prop} (h:w.ownsRow base e size v n xs) (hc:Ch S w w') (hS:∀k,v.ownBlock=some k->¬S k):w'.ownsRow base e size v n xs:=by
 obtain ⟨h1,h2⟩:=h;refine ⟨h1,?_⟩;rcases h2 with h2|⟨g',cap,cur,rfl,hb,hh,r⟩
 ·exact .inl h2
 ·exact .inr ⟨g',cap,cur,rfl,hb,(hc.block g' (Array.getElem?_eq_some_iff.1 hh).1 (hS g' rfl)).trans hh,r⟩
theorem iT {base base':Nat} {e:TypeId} {size n:Nat} {v:Value} {xs:List Value} (h:w.ownsRow base e size v n xs) (hb:base'<=base):w.ownsRow base' e size v n xs:=by
 obtain ⟨h1,h2⟩:=h;refine ⟨h1,?_⟩;rcases h2 with h2|⟨g',cap,cur,rfl,hb',r⟩
 ·exact .inl h2
 ·exact .inr ⟨g',cap,cur,rfl,by omega,r⟩
theorem z05 {base:Nat} {e:TypeId} {size n:Nat} {v:Value} {xs:List Value} (h:w.ownsRow base e size v n xs):∃A c,v=.slice A n c/\n<=c/\c<=maxLen:=by
 rcases h.2 with ⟨rfl,rfl⟩|⟨g',cap,cur,rfl,_,_,h1,h2,_⟩
 ·exact ⟨_,_,rfl,by omega,by simp[maxLen]⟩
 ·exact ⟨_,_,rfl,h1,h2⟩
theorem Uk (w:World) (base e size:Nat) (cs:Array Value) (n:Nat) (hb:base<=w.heap.size) (hm:n<=maxLen) (hs:cs.size=n * size):
 (w.alloc (.cells cs e)).ownsRow base e size (.slice (some ⟨w.heap.size,0,none⟩) n n) n cs.toList:=World.ownsRow_lit w cs n hb hm hs
end
section
variable {P : Program} (w : World)
theorem z41 (base:Nat) (t ty e:TypeId) (i:TypeInfo) (size:Nat) (ht:P.underlying t=some (.slice e)) (hi:P.info? e=some i)
 (v:Value) (n:Nat) (xs:List Value) (hown:w.ownsRow base e size v n xs) (c:Nat):(Builtin.append_ #[t,t] ty #[v,.slice none 0 c]).run P w=.ok v w:=by
 rcases hown.2 with ⟨rfl,rfl⟩|⟨g,cap,cur,rfl,_,_,hnc,_⟩
 ·simp[Builtin.append_,run_underlying ht,sizeOf,typeInfo,hi,Builtin.lenOf,Builtin.firstCells]
 ·simp[Builtin.append_,run_underlying ht,sizeOf,typeInfo,hi,Builtin.lenOf,Builtin.firstCells,hnc,storeCells]
theorem mP (base:Nat) (t ty e:TypeId) (i:TypeInfo) (z:Value) (size bytes:Nat) (ht:P.underlying t=some (.slice e)) (hi:P.info? e=some i) (hz:i.zero=some z)
 (hsize:i.size=size) (hby:i.bytes=bytes) (hzs:z.cells.size=size) (hsz:0<size)
 (v:Value) (n:Nat) (xs:List Value) (hown:w.ownsRow base e size v n xs)
 (D:Nat->Prop) (A:Option Addr) (m c:Nat) (news:List Value) (hr:Rd w D size A m news) (h1:∀u∈news,u.oneCell'=true)
 (h63:n+m<=maxLen) (hbytes:(n+m) * bytes<=140737488355328) (hbase:base<=w.heap.size):
 ∃v' w',(Builtin.append_ #[t,t] ty #[v,.slice A m c]).run P w=.ok v' w'/\w'.ownsRow base e size v' (n+m) (xs++news)/\w.grownBy w' v.ownBlock/\
  (v'.ownBlock=v.ownBlock∨v'.ownBlock=some w.heap.size):=by
 rcases A with _|ad
 ·have hm:m=0:=by
   rcases Nat.eq_zero_or_pos m with h0|h0
   ·exact h0
   ·obtain ⟨ad,h,_⟩:=hr.2 h0
    cases h
  subst hm;have hn:news=[]:=List.eq_nil_of_length_eq_zero (by simpa using hr.1);subst hn;exact ⟨v,w,z41 w base t ty e i size ht hi v n xs hown c,by simpa using hown,World.grownBy.refl w _,.inl rfl⟩
 ·have hcells:∀j u,news[j]?=some u->w.cell? (ad.add j)=some u:=by
   intro j u hu;rcases Nat.eq_zero_or_pos m with h0|h0
   ·subst h0
    have hn:news=[]:=List.eq_nil_of_length_eq_zero (by simpa using hr.1);subst hn;simp at hu
   ·obtain ⟨ad',h,_,hc⟩:=hr.2 h0
    injection h with h;subst h;exact hc j u hu
  obtain ⟨v',w',hrun,h2,h3,_,h5⟩:=run_append_own_at (P:=P) w base t ty e i z size bytes ht hi hz hsize hby hzs hsz v n xs hown ad m c news hr.1 hcells h1 h63 hbytes hbase;exact ⟨v',w',hrun,h2,h3,h5⟩
theorem z3y {o:Oper} {a:Act} {K:Act->World->Prop} {Q:Exit->Act->World->Prop} (s x:Operand) (t:TypeId)
 (ho:o.op=.call { callee:=.builtin .append,args:= #[s,x],argTypes:= #[t,t]})
 (base:Nat) (e:TypeId) (i:TypeInfo) (z:Value) (size bytes:Nat) (ht:P.underlying t=some (.slice e)) (hi:P.info? e=some i) (hz:i.zero=some z)
 (hsize:i.size=size) (hby:i.bytes=bytes) (hzs:z.cells.size=size) (hsz:0<size)
 (v:Value) (n:Nat) (xs:List Value) (hs:a.eval s=v) (hown:w.ownsRow base e size v n xs)
 (D:Nat->Prop) (A:Option Addr) (m c:Nat) (news:List Value) (hx:a.eval x=.slice A m c) (hr:Rd w D size A m news) (h1:∀u∈news,u.oneCell'=true)
 (h63:n+m<=maxLen) (hbytes:(n+m) * bytes<=140737488355328) (hbase:base<=w.heap.size)
 (h:∀v' w',w'.ownsRow base e size v' (n+m) (xs++news)->w.grownBy w' v.ownBlock->(v'.ownBlock=v.ownBlock∨v'.ownBlock=some w.heap.size)->K (a.put o.dst v') w'):o.wp P a w K Q:=by
 obtain ⟨v',w',hrun,h2,h3,h4⟩:=mP (P:=P) w base t o.type e i z size bytes ht hi hz hsize hby hzs hsz v n xs hown D A m c news hr h1 h63 hbytes hbase;unfold Oper.wp execOp;simp only[ho,resolve,invoke,builtin,Sem.run_bind,Sem.run_pure,Result.andThen_ok,List.map_toArray,List.map_cons,List.map_nil,hs,hx,hrun];exact h v' w' h2 h3 h4
theorem z00 {ops:Array Oper} {rest:List Oper} {o:Oper} {a:Act} {Q:Exit->Act->World->Prop} (hgd:o.guard=none) (s x:Operand) (t:TypeId)
 (ho:o.op=.call { callee:=.builtin .append,args:= #[s,x],argTypes:= #[t,t]})
 (base:Nat) (e:TypeId) (i:TypeInfo) (z:Value) (size bytes:Nat) (ht:P.underlying t=some (.slice e)) (hi:P.info? e=some i) (hz:i.zero=some z)
 (hsize:i.size=size) (hby:i.bytes=bytes) (hzs:z.cells.size=size) (hsz:0<size)
 (v:Value) (n:Nat) (xs:List Value) (hs:a.eval s=v) (hown:w.ownsRow base e size v n xs)
 (D:Nat->Prop) (A:Option Addr) (m c:Nat) (news:List Value) (hx:a.eval x=.slice A m c) (hr:Rd w D size A m news) (h1:∀u∈news,u.oneCell'=true)
 (h63:n+m<=maxLen) (hbytes:(n+m) * bytes<=140737488355328) (hbase:base<=w.heap.size)
 (h:∀v' w',w'.ownsRow base e size v' (n+m) (xs++news)->w.grownBy w' v.ownBlock->(v'.ownBlock=v.ownBlock∨v'.ownBlock=some w.heap.size)->wpList P ops Q rest (a.put o.dst v') w'):wpList P ops Q (o::rest) a w:=
 wpList_plain hgd fun _ hK=>z3y w s x t ho base e i z size bytes ht hi hz hsize hby hzs hsz v n xs hs hown D A m c news hx hr h1 h63 hbytes hbase fun v' w' h2 h3 h4=>hK _ _ (h v' w' h2 h3 h4)
theorem RQ {ops:Array Oper} {o:Oper} {a:Act} {K:Act->World->Prop} {Q:Exit->Act->World->Prop} {E:Prop} (hgd:o.guard=none) (s x:Operand) (t:TypeId)
 (ho:o.op=.call { callee:=.builtin .append,args:= #[s,x],argTypes:= #[t,t]})
 (base:Nat) (e:TypeId) (i:TypeInfo) (z:Value) (size bytes:Nat) (ht:P.underlying t=some (.slice e)) (hi:P.info? e=some i) (hz:i.zero=some z)
 (hsize:i.size=size) (hby:i.bytes=bytes) (hzs:z.cells.size=size) (hsz:0<size)
 (v:Value) (n:Nat) (xs:List Value) (hs:a.eval s=v) (hown:w.ownsRow base e size v n xs)
 (D:Nat->Prop) (A:Option Addr) (m c:Nat) (news:List Value) (hx:a.eval x=.slice A m c) (hr:Rd w D size A m news) (h1:∀u∈news,u.oneCell'=true)
 (h63:n+m<=maxLen) (hbytes:(n+m) * bytes<=140737488355328) (hbase:base<=w.heap.size)
 (h:∀v' w',w'.ownsRow base e size v' (n+m) (xs++news)->w.grownBy w' v.ownBlock->(v'.ownBlock=v.ownBlock∨v'.ownBlock=some w.heap.size)->K (a.put o.dst v') w'):
 if Region.wanted o (yielded ops a.tmps)=true then Oper.wp P o a w K Q else E:=by
 have hw:Region.wanted o (yielded ops a.tmps)=true:=by simp[Region.wanted,hgd]
 rw[if_pos hw];exact z3y w s x t ho base e i z size bytes ht hi hz hsize hby hzs hsz v n xs hs hown D A m c news hx hr h1 h63 hbytes hbase h
end
def Dr (w w':World):Prop:=∃n,w'=w.drewN n
theorem Dr.jG (w:World) (n:Nat):Dr w (w.drewN n):=⟨n,rfl⟩
theorem Dr.refl (w:World):Dr w w:=⟨0,rfl⟩
theorem Dr.nx {w w':World} (h:Dr w w'):Nx w w':=by
 obtain ⟨n,rfl⟩:=h;exact (Ch.refl _ w).drewN n
theorem UY {k:IntKind} {a b:Int} (h:a=b):Ending.returned (.int k a)=.returned (.int k b):=by rw[h]
theorem ah {p:Prop} (h:p):Hid p:=Lib.hid h
theorem jM {α:Type} {l:List α} {i:Nat} {a:α}:l.toArray.setIfInBounds i a=(l.set i a).toArray:=by simp
theorem jK {α:Type} {x a:α} {xs:List α}:(x::xs).set 0 a=a::xs:=rfl
theorem jL {α:Type} {x a:α} {xs:List α} {n:Nat}:(x::xs).set (n+1) a=x::xs.set n a:=rfl
def bl (xs:List Nat):List Value:=xs.map fun x:Nat=>.int .u8 (x:Int)
def okB (xs:List Nat):Prop:=∀x∈xs,x<256
theorem z21 (xs:List Nat):(bl xs).length=xs.length:=by simp[bl]
theorem iP (xs:List Nat):∀u∈bl xs,u.oneCell'=true:=by
 intro u hu;simp only[bl,List.mem_map]at hu;obtain ⟨x,_,rfl⟩:=hu;rfl
theorem uf {xs:List Nat} (h:okB xs) (i:Nat):xs.getD i 0<256:=by
 by_cases hi:i<xs.length
 ·have e:xs.getD i 0=xs[i]:=by simp[List.getD,hi]
  rw[e];exact h _ (List.getElem_mem hi)
 ·rw[U_ xs i 0 (by omega)];omega
theorem tV {xs:List Nat} {i:Nat} (h:i<xs.length):(bl xs)[i]?=some (.int .u8 (xs.getD i 0:Int)):=by
 simp[bl,List.getD,h]
theorem Tryz.info5:(Tryz.prog.info? 5).map (fun i=>(i.zero,i.size,i.bytes))=some (some (.int .u8 0),1,1):=by kernel_rfl
def b_ (xs:List Nat):ByteArray:=⟨(xs.map UInt8.ofNat).toArray⟩
theorem yg {xs ys:List Nat} (hx:okB xs) (hy:okB ys) (h:b_ xs=b_ ys):xs=ys:=by
 have h1:xs.map UInt8.ofNat=ys.map UInt8.ofNat:=by
  have:=congrArg (fun s:ByteArray=>s.data.toList) h;simpa [b_]using this
 have h2:=congrArg (List.map UInt8.toNat) h1;rw[List.map_map,List.map_map]at h2
 have e:∀l:List Nat,okB l->l.map (UInt8.toNat ∘ UInt8.ofNat)=l:=by
  intro l hl;induction l with
  |nil=>rfl
  |cons x l ih=>
   rw[List.map_cons,ih (fun y hy=>hl y (by simp[hy]))];have:=hl x (by simp);simp;omega
 rwa [e _ hx,e _ hy]at h2
theorem Yd (xs:List Nat):(b_ xs).size=xs.length:=by simp[b_,ByteArray.size]
theorem Gi (xs:List Nat):(b_ xs).data.toList=xs.map UInt8.ofNat:=by simp[b_]
theorem xB {P:Program} (w:World) (src dst e:TypeId) (hs:P.underlying src=some (.slice e)) (he:P.underlying e=some (.int .u8)) (hd:P.underlying dst=some .string)
 (D:Nat->Prop) (A:Option Addr) (n c:Nat) (xs:List Nat) (h:Rd w D 1 A n (bl xs)):
 (convert src dst (.slice A n c)).run P w=.ok (.string (b_ xs)) w:=by
 have hlen:xs.length=n:=by have:=h.1;rw[z21]at this;omega
 rw[run_convert_bytes_string w src dst e _ n c hs he hd];have e0:bl xs=(xs.map fun x:Nat=>(x:Int)).map (Value.int .u8):=by simp[bl]
 have fin:∀a:Addr,(loadCells a n).run P w=.ok (bl xs).toArray w->(Conv.bytesToString (.slice (some a) n c)).run P w=.ok (.string (b_ xs)) w:=by
  intro a hl;rw[e0]at hl;rw[run_bytesToString w a n c _ hl,foldl_push_bytes];congr 2
  simp[b_,ByteArray.empty,ByteArray.emptyWithCapacity];rfl
 rcases A with _|a
 ·have:n=0:=by
   rcases Nat.eq_zero_or_pos n with h0|h0
   ·exact h0
   ·obtain ⟨_,h,_⟩:=h.2 h0;cases h
  subst this;have:xs=[]:=List.eq_nil_of_length_eq_zero hlen;subst this;simp[Conv.bytesToString,b_];rfl
 ·refine fin a ?_
  have:=run_loadCells_list (P:=P) w a (bl xs) (fun j v hj=>by
   rcases Nat.eq_zero_or_pos n with h0|h0
   ·subst h0
    have:xs=[]:=List.eq_nil_of_length_eq_zero hlen;subst this;simp[bl]at hj
   ·obtain ⟨a',e,_,hc⟩:=h.2 h0
    injection e with e;subst e;exact hc j v hj)
  rw[z21,hlen]at this;exact this
theorem Ot {w:World} {base:Nat} {e:TypeId} {size n:Nat} {v:Value} {xs:List Value} (h:w.ownsRow base e size v n xs) {g:Nat} (hb:v.ownBlock=some g):
 ∃cap,v=.slice (some ⟨g,0,none⟩) n cap/\n<=cap/\cap<=maxLen:=by
 rcases h.2 with ⟨rfl,_⟩|⟨g',cap,cur,rfl,_,_,h1,h2,_⟩
 ·simp[Value.ownBlock]at hb
 ·simp[Value.ownBlock]at hb
  subst hb;exact ⟨cap,rfl,h1,h2⟩
theorem Zi {w w1:World} {e:TypeId} {size n:Nat} {v':Value} {xs:List Value}
 (hown:w1.ownsRow w.heap.size e size v' (0+n) ([]++xs)) (hg:(w.alloc (.cells #[] e)).grownBy w1 (Value.ownBlock (.slice (some ⟨w.heap.size,0,none⟩) 0 0)))
 (hat:v'.ownBlock=Value.ownBlock (.slice (some ⟨w.heap.size,0,none⟩) 0 0)∨v'.ownBlock=some (w.alloc (.cells #[] e)).heap.size):
 ∃k cap,v'=.slice (some ⟨k,0,none⟩) n cap/\w.heap.size<=k/\k<w1.heap.size/\Rd w1 (· =k) size (some ⟨k,0,none⟩) n xs/\Nx w w1/\w1.ownsRow w.heap.size e size (.slice (some ⟨k,0,none⟩) n cap) n xs:=by
 have hnx:Nx w w1:=((Ch.refl _ w).alloc _).grown hg (fun k hk hlt=>by simp[Value.ownBlock]at hk;omega)
 obtain ⟨k,hk,hk1⟩:∃k,v'.ownBlock=some k/\w.heap.size<=k:=by
  rcases hat with e|e
  ·exact ⟨_,e,Nat.le_refl _⟩
  ·exact ⟨_,e,by simp⟩
 simp only[Nat.zero_add,List.nil_append]at hown;obtain ⟨cap,hv,h1,h2⟩:=Ot hown hk;have hlt:=(hown.lt k hk).2;subst hv;refine ⟨k,cap,rfl,hk1,hlt,(Rd.bY hown).more ?_,hnx,hown⟩;rintro j ⟨hj,_⟩;simpa [Value.ownBlock]using hj.symm
def pJ (w:World) (xs:List Nat) (e:Ending) (w':World):Prop:=
 ∃k cap,e=.returned (.slice (some ⟨k,0,none⟩) xs.length cap)/\w.heap.size<=k/\k<w'.heap.size/\w'.ownsRow w.heap.size 5 1 (.slice (some ⟨k,0,none⟩) xs.length cap) xs.length (bl xs)/\
  Rd w' (· =k) 1 (some ⟨k,0,none⟩) xs.length (bl xs)/\Nx w w'
theorem RH (D:Nat->Prop) (A:Option Addr) (n c:Nat) (xs:List Nat) (w:World) (h:Rd w D 1 A n (bl xs)) (hn:n<=140737488355328):
 Calls Tryz.prog 19 #[.slice A n c] w (pJ w xs):=by
 obtain ⟨i0,hi0,hz0,hz1,hz2⟩:=info_parts Tryz.info5;have hlen:xs.length=n:=by have:=h.1;rw[z21]at this;omega
 have Hlen:=ah hlen;clear hlen;have h':Rd (w.alloc (.cells #[] 5)) D 1 A n (bl xs):=h.nx (by omega) ((Ch.refl _ w).alloc _);go_enter Tryz.func19,Tryz.ntmps19;go_wp2_with (at_builtin;refine z00 _ rfl (.tmp 3) (.tmp 4) _ rfl w.heap.size 5 i0 _ 1 1 Tryz.underlying27 hi0 hz0 hz1 hz2 rfl (by omega) (.slice (some ⟨w.heap.size,0,none⟩) 0 0) 0 [] rfl (World.ownsRow_made w #[] 0 (Nat.le_refl _) (by simp[maxLen]) rfl) D A n c (bl xs) rfl h' (iP xs) (by simp only[maxLen];omega) (by omega) (by simp) ?_;intro v' w1 hown hg hat;obtain ⟨k,cap,hv,hk,hk1,hrd,hnx,ho⟩:=Zi hown hg hat;clear hown hg hat;rw[hv];clear hv)
 go_ret;exact ⟨k,cap,by simp[Hlen.out],hk,hk1,by rw[Hlen.out];exact ho,by rw[Hlen.out];exact hrd,hnx⟩
theorem z30 (D D':Nat->Prop) (A B:Option Addr) (n c m d:Nat) (xs ys:List Nat) (w:World) (hx:Rd w D 1 A n (bl xs)) (hy:Rd w D' 1 B m (bl ys)) (ox:okB xs) (oy:okB ys):
 Calls Tryz.prog 9 #[.slice A n c,.slice B m d] w fun e w'=>e=.returned (.bool (decide (xs=ys)))/\w=w':=by
 have e1:=xB (P:=Tryz.prog) w 27 9 5 Tryz.underlying27 Tryz.underlying5 Tryz.underlying9 D A n c xs hx;have e2:=xB (P:=Tryz.prog) w 27 9 5 Tryz.underlying27 Tryz.underlying5 Tryz.underlying9 D' B m d ys hy;have Hinj:Hid (b_ xs=b_ ys->xs=ys):=yg ox oy;clear hx hy ox oy;generalize hsx:b_ xs=sx at *;generalize hsy:b_ ys=sy at *;have HX:=ah hsx;have HY:=ah hsy;clear hsx hsy;go_enter Tryz.func9,Tryz.ntmps9;go_wp2
 go_ret;refine ⟨?_,rfl⟩
 have hq:(sx.toList==sy.toList)=decide (xs=ys):=by
  rw[Bool.eq_iff_iff,beq_iff_eq,decide_eq_true_iff];constructor
  ·intro h
   refine Hinj.out ?_;rw[ByteArray.toList_eq,ByteArray.toList_eq]at h;cases sx;cases sy
   simpa [Array.ext_iff]using congrArg List.toArray h
  ·rintro rfl
   rw[←HX.out,←HY.out]
 simp[hq]
end Go.Proofs.YtfljcllpmbnjaaaGreat
namespace Go.Proofs.YtfljcllpmbnjaaaGreat
def kK (n:Nat):Nat:=[0,0x1db71064,0x3b6e20c8,0x26d930ac,0x76dc4190,0x6b6b51f4,0x4db26158,0x5005713c,0xedb88320,0xf00f9344,0xd6d6a3e8,0xcb61b38c,0x9b64c2b0,0x86d3d2d4,0xa00ae278,0xbdbdf21c].getD n 0
def vM (c:Nat):Nat:=c / 16 ^^^ kK (c % 16)
def jA (c x:Nat):Nat:=vM (vM (c ^^^ x))
def gZ (c:Nat) (xs:List Nat):Nat:=xs.foldl jA c
def sumF (xs:List Nat):Nat:=4294967295-gZ 4294967295 xs
theorem uQ (n:Nat):kK n<4294967296:=by
 by_cases h:n<16
 ·have:∀n,n<16->kK n<4294967296:=by decide
  exact this n h
 ·unfold kK
  rw[List.getD_eq_getElem?_getD,List.getElem?_eq_none (by simp;omega)];decide
theorem lC {c:Nat} (h:c<4294967296):vM c<4294967296:=Nat.xor_lt_two_pow (n:=32) (by omega) (uQ _)
theorem J_ {c x:Nat} (h:c<4294967296) (hx:x<256):jA c x<4294967296:=lC (lC (Nat.xor_lt_two_pow (n:=32) h (by omega)))
theorem EW {xs:List Nat}:∀{c:Nat},c<4294967296->okB xs->gZ c xs<4294967296:=by
 induction xs with
 |nil=>intro c h _;exact h
 |cons x xs ih=>
  intro c h ok;exact ih (J_ h (ok x (by simp))) fun y hy=>ok y (by simp[hy])
theorem yB (c:Nat) (xs ys:List Nat):gZ c (xs++ys)=gZ (gZ c xs) ys:=by simp[gZ,List.foldl_append]
theorem uH (xs:List Nat):sumF xs<4294967296:=by unfold sumF;omega
theorem OV (a b k:Nat):(a ^^^ b) / 2 ^ k=a / 2 ^ k ^^^ b / 2 ^ k:=by
 simp only[←Nat.shiftRight_eq_div_pow,Nat.shiftRight_xor_distrib]
def four (n:Nat):List Nat:=[n % 256,n / 256 % 256,n / 65536 % 256,n / 16777216 % 256]
theorem PY (n:Nat):okB (four n):=by
 intro x hx;simp only[four,List.mem_cons,List.not_mem_nil,or_false]at hx;rcases hx with rfl|rfl|rfl|rfl<;>omega
def dL (xs:List Nat):List Nat:=xs++four (sumF xs)
theorem AY (xs:List Nat):(dL xs).length=xs.length+4:=by simp[dL,four]
theorem XF {xs:List Nat} (ok:okB xs):okB (dL xs):=fun x hx=>by
 rcases List.mem_append.1 hx with h|h
 ·exact ok x h
 ·exact PY _ x h
def z15 (b:List Nat):Prop:=4<=b.length/\b.drop (b.length-4)=four (sumF (b.take (b.length-4)))
instance (b:List Nat):Decidable (z15 b):=by unfold z15;exact inferInstance
theorem Yk (xs:List Nat):z15 (dL xs):=by
 have hl:=AY xs;refine ⟨by omega,?_⟩;rw[show (dL xs).length-4=xs.length by omega];unfold dL;rw[List.drop_left,List.take_left]
theorem Gq {xs ys:List Nat} (h:dL xs=dL ys):xs=ys:=by
 have hl:xs.length=ys.length:=by have:=congrArg List.length h;rw[AY,AY]at this;omega
 exact (List.append_inj h hl).1
def aj (n:Nat):List Nat:=if h:n<128 then [n] else (128+n % 128)::aj (n / 128)
termination_by n
decreasing_by omega
theorem JF {n:Nat} (h:n<128):aj n=[n]:=by rw[aj,dif_pos h]
theorem z35 {n:Nat} (h:128<=n):aj n=(128+n % 128)::aj (n / 128):=by rw[aj,dif_neg (by omega)]
theorem Py:∀(f n:Nat),n<128 ^ (f+1)->okB (aj n):=by
 intro f;induction f with
 |zero=>
  intro n h x hx;rw[JF (by simpa using h)]at hx;simp at hx;omega
 |succ f ih=>
  intro n h x hx;by_cases hn:n<128
  ·rw[JF hn]at hx
   simp at hx;omega
  ·rw[z35 (by omega)]at hx
   rcases List.mem_cons.1 hx with h1|h1
   ·omega
   ·refine ih (n / 128) (Nat.div_lt_of_lt_mul ?_) x h1
    rw[Nat.pow_succ,Nat.mul_comm]at h;exact h
theorem z14 {n:Nat} (h:n<18446744073709551616):okB (aj n):=Py 9 n (Nat.lt_of_lt_of_le h (by decide))
theorem KU:∀(f n:Nat),n<128 ^ (f+1)->1<=(aj n).length/\(aj n).length<=f+1:=by
 intro f;induction f with
 |zero=>intro n h;rw[JF (by simpa using h)];simp
 |succ f ih=>
  intro n h;by_cases hn:n<128
  ·rw[JF hn];simp
  ·rw[z35 (by omega),List.length_cons]
   have:=ih (n / 128) (Nat.div_lt_of_lt_mul (by rw[Nat.pow_succ,Nat.mul_comm]at h;exact h));omega
theorem z07 {n:Nat} (h:n<18446744073709551616):1<=(aj n).length/\(aj n).length<=10:=KU 9 n (Nat.lt_of_lt_of_le h (by decide))
def z04:List Nat->Nat->Nat->Nat×Nat×Int
 |[],_,_=>(0,0,3)
 |x::xs,i,n=>
  if (i=9/\1<x)∨(x=0/\0<i) then (0,0,4)
  else if x<128 then (n+x * 2 ^ (7 * i),i+1,0)
  else z04 xs (i+1) (n+(x % 128) * 2 ^ (7 * i))
def ay (b:List Nat) (at_:Int):Nat×Nat×Int:=if at_<0∨(b.length:Int)<=at_ then (0,0,3) else z04 (b.drop at_.toNat) 0 0
theorem z4h:∀(l:List Nat) (i n:Nat),(z04 l i n).2.2=0∨((z04 l i n).1=0/\(z04 l i n).2.1=0/\((z04 l i n).2.2=3∨(z04 l i n).2.2=4)):=by
 intro l;induction l with
 |nil=>intro i n;simp[z04]
 |cons x l ih=>
  intro i n;simp only[z04];split
  ·simp
  ·split
   ·simp
   ·exact ih _ _
theorem uX:∀(l:List Nat) (i n:Nat),(z04 l i n).2.2=0->i<(z04 l i n).2.1/\(z04 l i n).2.1<=i+l.length:=by
 intro l;induction l with
 |nil=>intro i n h;simp[z04]at h
 |cons x l ih=>
  intro i n;simp only[z04,List.length_cons];split
  ·intro h;simp at h
  ·split
   ·intro h;simp only;omega
   ·intro h
    have:=ih _ _ h;omega
theorem KW (i:Nat):2 ^ (7 * (i+1))=128 * 2 ^ (7 * i):=by rw[show 7 * (i+1)=7 * i+7 by omega,Nat.pow_add];omega
theorem Zy:∀(l:List Nat) (i n:Nat),okB l->i<=9->n<2 ^ (7 * i)->(z04 l i n).1<18446744073709551616:=by
 intro l;induction l with
 |nil=>intro i n _ _ _;simp[z04]
 |cons x l ih=>
  intro i n ok hi hn;have hx:=ok x (by simp);simp only[z04];by_cases h1:(i=9/\1<x)∨(x=0/\0<i)
  ·rw[if_pos h1];simp
  ·rw[if_neg h1]
   by_cases h2:x<128
   ·rw[if_pos h2]
    simp only;by_cases h9:i=9
    ·subst h9
     have hx1:x<=1:=(by omega);have:x * 2 ^ (7 * 9)<=1 * 2 ^ (7 * 9):=Nat.mul_le_mul_right _ hx1;have e:(2:Nat) ^ (7 * 9)=9223372036854775808:=(by decide);omega
    ·have h3:x * 2 ^ (7 * i)<=127 * 2 ^ (7 * i):=Nat.mul_le_mul_right _ (by omega)
     have h4:2 ^ (7 * i)<=2 ^ 56:=Nat.pow_le_pow_right (by decide) (by omega);have e:(2:Nat) ^ 56=72057594037927936:=(by decide);omega
   ·rw[if_neg h2]
    have h9:i≠9:=by rintro rfl;exact h1 (.inl ⟨rfl,by omega⟩)
    have hm:x % 128<128:=Nat.mod_lt _ (by decide);refine ih (i+1) _ (fun y hy=>ok y (by simp[hy])) (by omega) ?_;have h3:(x % 128) * 2 ^ (7 * i)<=127 * 2 ^ (7 * i):=Nat.mul_le_mul_right _ (by omega);rw[KW];omega
theorem uV:∀(f v i n:Nat) (rest:List Nat),f+i=9->v<128 ^ f * 2->(0<i->0<v)->z04 (aj v++rest) i n=(n+v * 2 ^ (7 * i),i+(aj v).length,0):=by
 intro f;induction f with
 |zero=>
  intro v i n rest hi hv h0;rw[JF (by omega)];simp only[List.cons_append,List.nil_append,z04];have hi9:i=9:=(by omega);rw[if_neg (by omega),if_pos (by omega)];rfl
 |succ f ih=>
  intro v i n rest hi hv h0;by_cases h:v<128
  ·rw[JF h]
   simp only[List.cons_append,List.nil_append,z04];rw[if_neg (by omega),if_pos h];rfl
  ·rw[z35 (by omega)]
   simp only[List.cons_append,z04];rw[if_neg (by omega),if_neg (by omega)];rw[Nat.pow_succ]at hv;rw[ih (v / 128) (i+1) _ rest (by omega) (Nat.div_lt_of_lt_mul (by rw[←Nat.mul_assoc,Nat.mul_comm 128];omega)) (fun _=>by omega)];rw[List.length_cons,KW,show (128+v % 128) % 128=v % 128 by omega]
   have e:v % 128 * 2 ^ (7 * i)+v / 128 * (128 * 2 ^ (7 * i))=v * 2 ^ (7 * i):=by
    rw[←Nat.mul_assoc,←Nat.add_mul];congr 1
    omega
   rw[Nat.add_assoc,e,show i+1+(aj (v / 128)).length=i+((aj (v / 128)).length+1) by omega]
theorem OQ {v:Nat} (hv:v<18446744073709551616) (pre rest:List Nat):ay (pre++aj v++rest) (pre.length:Int)=(v,(aj v).length,0):=by
 have hl:=z07 hv;unfold ay;rw[if_neg (by simp only[List.length_append];omega),Int.toNat_natCast,List.append_assoc,List.drop_left,uV 9 v 0 0 rest (by omega) (by omega) (by omega)];simp
/-! ### signed ones -/
def zig (x:Int):Nat:=if 0<=x then (2 * x).toNat else (-2 * x-1).toNat
def zag (u:Nat):Int:=if u % 2=1 then -((u / 2:Nat):Int)-1 else ((u / 2:Nat):Int)
theorem RD (x:Int):zag (zig x)=x:=by
 unfold zag zig;split<;>split<;>omega
theorem OG {x:Int} (h0: -9223372036854775808<=x) (h1:x<=9223372036854775807):zig x<18446744073709551616:=by
 unfold zig;split<;>omega
theorem Jt {u:Nat} (h:u<18446744073709551616): -9223372036854775808<=zag u/\zag u<=9223372036854775807:=by
 unfold zag;split<;>omega
def jP (x:Int):Prop:= -1152921504606846976<=x/\x<=1152921504606846976
instance (x:Int):Decidable (jP x):=by unfold jP;exact inferInstance
def jm (l:List Int) (fr k:Nat):List Int:=(List.range l.length).map fun j=>if k<j/\fr<=j then l.getD j 0-l.getD (j-1) 0 else l.getD j 0
def rC (l:List Int) (fr:Nat):List Int:=(List.range l.length).map fun j=>if fr<=j then l.getD j 0-l.getD (j-1) 0 else l.getD j 0
def aG (l:List Int):Nat->List Int
 |0=>l
 |k+1=>rC (aG l k) (k+1)
theorem z3G (l:List Int) (fr k:Nat):(jm l fr k).length=l.length:=by simp[jm]
theorem qj (l:List Int) (fr:Nat):(rC l fr).length=l.length:=by simp[rC]
theorem z08 (l:List Int):∀k,(aG l k).length=l.length:=by
 intro k;induction k with
 |zero=>rfl
 |succ k ih=>rw[aG,qj,ih]
theorem uK (l:List Int) (fr k:Nat) (h:l.length<=k+1):jm l fr k=l:=by
 apply List.ext_getElem
 ·simp[jm]
 ·intro i h1 h2
  simp only[jm,List.getElem_map,List.getElem_range];rw[if_neg (by omega)];simp[List.getD,h2]
theorem BR (l:List Int) (fr k:Nat) (h:k<fr):jm l fr k=rC l fr:=by
 unfold jm rC;refine List.map_congr_left fun j _=>?_;by_cases hj:fr<=j
 ·rw[if_pos ⟨by omega,hj⟩,if_pos hj]
 ·rw[if_neg (by omega),if_neg hj]
theorem Yp (l:List Int) (fr k j:Nat) (hj:j<l.length):(jm l fr k).getD j 0=if k<j/\fr<=j then l.getD j 0-l.getD (j-1) 0 else l.getD j 0:=by
 simp[jm,List.getD,hj]
theorem BQ (l:List Int) (fr k:Nat) (hk:k+1<l.length) (hf:fr<=k+1):(jm l fr (k+1)).set (k+1) ((jm l fr (k+1)).getD (k+1) 0-(jm l fr (k+1)).getD k 0)=jm l fr k:=by
 rw[Yp l fr (k+1) (k+1) hk,Yp l fr (k+1) k (by omega),if_neg (by omega),if_neg (by omega)];apply List.ext_getElem
 ·simp[jm]
 ·intro i h1 h2
  rw[List.getElem_set];simp only[jm,List.getElem_map,List.getElem_range];by_cases e:k+1=i
  ·subst e
   rw[if_pos rfl,if_pos ⟨by omega,hf⟩];simp
  ·rw[if_neg e]
   by_cases h:k+1<i/\fr<=i
   ·rw[if_pos h,if_pos (by omega)]
   ·rw[if_neg h,if_neg (by omega)]
def jR (B:Int) (l:List Int):Prop:=∀x∈l, -B<=x/\x<=B
theorem wZ {B:Int} {l:List Int} (h:jR B l) (hB:0<=B) (i:Nat): -B<=l.getD i 0/\l.getD i 0<=B:=by
 by_cases hi:i<l.length
 ·have e:l.getD i 0=l[i]:=by simp[List.getD,hi]
  rw[e];exact h _ (List.getElem_mem hi)
 ·rw[List.getD_eq_getElem?_getD,List.getElem?_eq_none (by omega)]
  simp only[Option.getD_none];omega
theorem BU {B:Int} {l:List Int} (h:jR B l) (hB:0<=B) (fr k:Nat):jR (2 * B) (jm l fr k):=by
 intro x hx;simp only[jm,List.mem_map]at hx;obtain ⟨j,_,rfl⟩:=hx;have h1:=wZ h hB j;have h2:=wZ h hB (j-1);split<;>omega
theorem ZC {B:Int} {l:List Int} (h:jR B l) (hB:0<=B) (fr:Nat):jR (2 * B) (rC l fr):=by
 intro x hx;simp only[rC,List.mem_map]at hx;obtain ⟨j,_,rfl⟩:=hx;have h1:=wZ h hB j;have h2:=wZ h hB (j-1);split<;>omega
theorem z13 {l:List Int} (h:∀x∈l,jP x):∀k,k<=2->jR 4611686018427387904 (aG l k):=by
 have h0:jR 1152921504606846976 l:=fun x hx=>h x hx;have h1:=ZC h0 (by omega) 1;have h2:=ZC h1 (by omega) 2;intro k hk;match k,hk with
 |0,_=>intro x hx;have:=h0 x hx;omega
 |1,_=>intro x hx;have:=h1 x hx;omega
 |2,_=>intro x hx;have:=h2 x hx;omega
def gU (l:List Int):List Nat:=l.flatMap fun x=>aj (zig x)
def bf (l:List Int) (w:Nat):List Nat:=aj l.length++gU (aG l w)
theorem z2f {l:List Int} {k:Nat} (h:k<l.length):gU (l.take (k+1))=gU (l.take k)++aj (zig (l.getD k 0)):=by
 have e:l.getD k 0=l[k]:=by simp[List.getD,h]
 rw[e,List.take_succ_eq_append_getElem h];unfold gU;rw[List.flatMap_append];simp
theorem tN {B:Int} {l:List Int} (h:jR B l) (hB:B<=4611686018427387904) {x:Int} (hx:x∈l):zig x<18446744073709551616:=by
 have:=h x hx;exact OG (by omega) (by omega)
theorem DL {l:List Int} (h:jR 4611686018427387904 l):okB (gU l):=by
 intro x hx;simp only[gU,List.mem_flatMap]at hx;obtain ⟨y,hy,hx⟩:=hx;exact z14 (tN h (Int.le_refl _) hy) x hx
theorem zF {l:List Int} (h:jR 4611686018427387904 l):(gU l).length<=10 * l.length:=by
 induction l with
 |nil=>simp[gU]
 |cons x l ih=>
  have h1:=(z07 (tN h (Int.le_refl _) (x:=x) (by simp))).2;have h2:=ih (fun y hy=>h y (by simp[hy]));have e:gU (x::l)=aj (zig x)++gU l:=rfl;rw[e,List.length_append,List.length_cons];omega
theorem lH {l:List Int} (h:∀x∈l,jP x) (hl:l.length<18446744073709551616) {k:Nat} (hk:k<=2):okB (bf l k):=fun x hx=>by
 rcases List.mem_append.1 hx with h1|h1
 ·exact z14 hl x h1
 ·exact DL (z13 h k hk) x h1
theorem z26 {l:List Int} (h:∀x∈l,jP x) (hl:l.length<18446744073709551616) {k:Nat} (hk:k<=2):1<=(bf l k).length/\(bf l k).length<=10+10 * l.length:=by
 have h1:=z07 hl;have h2:=zF (z13 h k hk);rw[z08]at h2;unfold bf;rw[List.length_append];omega
def aO (l:List Int):Int:=if 2048<l.length then 5 else if ∀x∈l,jP x then 0 else 2
def bst (l:List Int):Nat->Nat×Int
 |0=>(0, -1)
 |k+1=>if (bst l k).2<0∨((bf l k).length:Int)<(bst l k).2 then (k,((bf l k).length:Int)) else bst l k
theorem NC (l:List Int):∀k,(bst l k).1<=k-1:=by
 intro k;induction k with
 |zero=>exact Nat.le_refl _
 |succ k ih=>
  simp only[bst];split
  ·exact Nat.le_refl _
  ·omega
def aY (l:List Int):Nat:=if aO l≠0 then 0 else (bst l 3).1
theorem z19 (l:List Int):aY l<=2:=by
 unfold aY;split
 ·omega
 ·exact NC l 3
theorem jH {l:List Int} (h:aO l=0):l.length<=2048/\∀x∈l,jP x:=by
 unfold aO at h;split at h
 ·cases h
 ·split at h
  ·exact ⟨by omega,by assumption⟩
  ·cases h
def iE (c:Nat):Nat:=c / 2 ^^^ (if c % 2=1 then 3988292384 else 0)
theorem Ql {c:Nat} (h:c<4294967296):iE c<4294967296:=by
 unfold iE;refine Nat.xor_lt_two_pow (n:=32) (by omega) ?_;split<;>decide
theorem Lr (a b:Nat):(a ^^^ b) % 2=(a % 2+b % 2) % 2:=by
 have:=Nat.testBit_xor (x:=a) (y:=b) (i:=0);simp only[Nat.testBit_zero]at this;have ha:=Nat.mod_two_eq_zero_or_one a;have hb:=Nat.mod_two_eq_zero_or_one b;have hc:=Nat.mod_two_eq_zero_or_one (a ^^^ b);rcases ha with ha|ha<;>rcases hb with hb|hb<;>rcases hc with hc|hc<;>simp_all
theorem XJ (a b:Nat):iE (a ^^^ b)=iE a ^^^ iE b:=by
 have h1:(a ^^^ b) / 2=a / 2 ^^^ b / 2:=by simpa using OV a b 1
 unfold iE;rw[h1,Lr];have ha:=Nat.mod_two_eq_zero_or_one a;have hb:=Nat.mod_two_eq_zero_or_one b;rcases ha with ha|ha<;>rcases hb with hb|hb<;>rw[ha,hb]
 ·simp
 ·simp[Nat.xor_assoc]
 ·simp only[Nat.add_zero,Nat.mod_succ,if_true]
  rw[if_neg (by decide),Nat.xor_zero,Nat.xor_assoc,Nat.xor_assoc];congr 1
  exact Nat.xor_comm _ _
 ·simp only[if_true]
  rw[if_neg (by decide),Nat.xor_zero]
  rw[show a / 2 ^^^ 3988292384 ^^^ (b / 2 ^^^ 3988292384)=(a / 2 ^^^ b / 2) ^^^ (3988292384 ^^^ 3988292384) by
   rw[Nat.xor_assoc,Nat.xor_assoc,←Nat.xor_assoc 3988292384 (b / 2),Nat.xor_comm 3988292384 (b / 2),Nat.xor_assoc (b / 2)]]
  simp
theorem XZ (c:Nat):iE (2 * c)=c:=by
 unfold iE;rw[if_neg (by omega),Nat.xor_zero];omega
theorem NI:∀r,r<16->iE (iE (iE (iE r)))=kK r:=by decide
theorem Pn (c:Nat):c=16 * (c / 16) ^^^ c % 16:=by
 have h:16 * (c / 16) ^^^ c % 16=16 * (c / 16)+c % 16:=by
  have:=Nat.two_pow_add_eq_or_of_lt (i:=4) (b:=c % 16) (Nat.mod_lt _ (by decide)) (c / 16);rw[show (2:Nat) ^ 4=16 by decide]at this;rw[this];apply Nat.eq_of_testBit_eq
  intro i;rw[Nat.testBit_xor,Nat.testBit_or];by_cases hi:i<4
  ·have:(16 * (c / 16)).testBit i=false:=by
    rw[show 16 * (c / 16)=2 ^ 4 * (c / 16) by rw[show (2:Nat) ^ 4=16 by decide],Nat.testBit_two_pow_mul];simp;omega
   simp[this]
  ·have:(c % 16).testBit i=false:=by
    apply Nat.testBit_lt_two_pow
    exact Nat.lt_of_lt_of_le (Nat.mod_lt c (by decide:0<16)) (by
     calc 16=2 ^ 4:=by decide
      _<=2 ^ i:=Nat.pow_le_pow_right (by decide) (by omega))
   simp[this]
 rw[h];omega
theorem WT (c:Nat):iE (iE (iE (iE c)))=vM c:=by
 unfold vM;rw[←NI (c % 16) (Nat.mod_lt _ (by decide))];conv=>lhs;rw[Pn c]
 rw[XJ,XJ,XJ,XJ];congr 1
 rw[show 16 * (c / 16)=2 * (2 * (2 * (2 * (c / 16)))) by omega,XZ,XZ,XZ,XZ]
def oK (c:Nat):Nat->Nat
 |0=>c
 |k+1=>iE (oK c k)
theorem NH {c:Nat} (h:c<4294967296):∀k,oK c k<4294967296:=by
 intro k;induction k with
 |zero=>exact h
 |succ k ih=>exact Ql ih
theorem WS (c x:Nat):oK (c ^^^ x) 8=jA c x:=by
 unfold jA;rw[←WT,←WT];rfl
end Go.Proofs.YtfljcllpmbnjaaaGreat
