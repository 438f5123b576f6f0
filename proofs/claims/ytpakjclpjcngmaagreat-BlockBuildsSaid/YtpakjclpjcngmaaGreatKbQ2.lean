/- Contracts and plain laws that the last text rests on. Conditions: each theorem states its own. -/
import Derived.Test.YtpakjclpjcngmaaGreatRows
import Derived.WalkKit
import Derived.WalkSpells
import Derived.WalkLawsBesides
import Derived.Below
import Derived.Laws.OwnMore
import Derived.Maps.AppendAt
import Derived.Deep.AppendLies
import Derived.Deep.Draws
import Derived.Laws.Rows
import Derived.Lib.Hide
import Derived.Test.YtpakjclpjcngmaaGreatKbQ1
import Derived.Laws.BytesArg
import Derived.Laws.BitsAllLaws
set_option maxRecDepth 100000
set_option maxHeartbeats 400000
set_option linter.unusedVariables false
namespace Go.Proofs.YtpakjclpjcngmaaGreat
open Go.RowKit
structure Ch (S:Nat->Prop) (w w':World):Prop where
 os:w'.os=w.os
 tape:w'.tape=w.tape
 output:w'.output=w.output
 size:w.heap.size<=w'.heap.size
 block:∀k,k<w.heap.size->¬S k->w'.heap[k]?=w.heap[k]?
abbrev Nx (w w':World):Prop:=Ch (fun _=>False) w w'
namespace Ch
variable {S T : Nat → Prop} {a b c w w' : World}
theorem refl (S:Nat->Prop) (w:World):Ch S w w:=⟨rfl,rfl,rfl,Nat.le_refl _,fun _ _ _=>rfl⟩
theorem trans (h:Ch S a b) (k:Ch T b c) (hT:∀i,i<a.heap.size->T i->S i):Ch S a c:=
 ⟨k.os.trans h.os,k.tape.trans h.tape,k.output.trans h.output,Nat.le_trans h.size k.size,
   fun i hi hn=>(k.block i (Nat.lt_of_lt_of_le hi h.size) (fun ht=>hn (hT i hi ht))).trans (h.block i hi hn)⟩
theorem tr (h:Ch S a b) (k:Nx b c):Ch S a c:=h.trans k (fun _ _ hf=>hf.elim)
theorem mono (h:Ch S w w') (hS:∀i,i<w.heap.size->S i->T i):Ch T w w':=
 ⟨h.os,h.tape,h.output,h.size,fun i hi hn=>h.block i hi (fun hs=>hn (hS i hi hs))⟩
theorem drew (h:Ch S a w):Ch S a w.drew:=⟨h.os,h.tape,h.output,h.size,h.block⟩
theorem drewN (h:Ch S a w) (n:Nat):Ch S a (w.drewN n):=⟨h.os,h.tape,h.output,h.size,h.block⟩
theorem alloc (h:Ch S a w) (o:Obj):Ch S a (w.alloc o):=
 ⟨h.os,h.tape,h.output,Nat.le_trans h.size (by simp),fun k hk hn=>(Below.heap_alloc w o k (Nat.lt_of_lt_of_le hk h.size)).trans (h.block k hk hn)⟩
theorem setCell (h:Ch S a w) {p:Addr} (hp:p.block<a.heap.size->S p.block) (u:Value):Ch S a (w.setCell p u):=
 ⟨h.os,h.tape,h.output,by simpa [World.setCell]using h.size,fun k hk hn=>
   (Below.heap_setCell w p u k (fun e=>hn (by rw[e]at hk ⊢;exact hp hk))).trans (h.block k hk hn)⟩
theorem grown (h:Ch S a w) {row:Option Nat} (hg:w.grownBy w' row) (hr:∀k,row=some k->k<a.heap.size->S k):Ch S a w':=
 ⟨hg.os.trans h.os,hg.tape.trans h.tape,hg.output.trans h.output,Nat.le_trans h.size hg.size,fun k hk hn=>
   (hg.block k (Nat.lt_of_lt_of_le hk h.size) (fun e=>hn (hr k e.symm hk))).trans (h.block k hk hn)⟩
theorem below (h:Ch S w w') {B:Nat} (hB:∀i,i<B->i<w.heap.size/\¬S i):Below B w w':=
 ⟨h.os,h.tape,h.output,h.size,fun k hk=>h.block k (hB k hk).1 (hB k hk).2⟩
theorem of_below {B:Nat} (h:Below B w w'):Ch (fun k=>B<=k) w w':=⟨h.os,h.tape,h.output,h.size,fun k _ hn=>h.block k (by omega)⟩
theorem nx (h:Ch S w w') (hS:∀i,i<w.heap.size->¬S i):Nx w w':=h.mono fun i hi hs=>(hS i hi hs).elim
theorem cell (h:Ch S w w') {p:Addr} (hp:p.block<w.heap.size) (hn:¬S p.block):w'.cell? p=w.cell? p:=World.cell?_of_block (h.block p.block hp hn)
end Ch
theorem Nx.below {w w':World} (h:Nx w w'):Below w.heap.size w w':=Ch.below h fun _ hi=>⟨hi,fun hf=>hf⟩
theorem Nx.cell {w w':World} (h:Nx w w') {p:Addr} (hp:p.block<w.heap.size):w'.cell? p=w.cell? p:=Ch.cell h hp fun hf=>hf
theorem Nx.block_ {w w':World} (h:Nx w w') {k:Nat} (hk:k<w.heap.size):w'.heap[k]?=w.heap[k]?:=h.block k hk fun hf=>hf
theorem CB (a:Addr) (n:Nat):(a.add n).block=a.block:=by unfold Addr.add;split<;>rfl
theorem qI (a:Addr) (i j:Nat):(a.add i).add j=a.add (i+j):=by
 unfold Addr.add;by_cases hi:i=0<;>by_cases hj:j=0<;>simp[hi,hj,Nat.add_assoc]
def Rd (w:World) (D:Nat->Prop) (size:Nat) (A:Option Addr) (n:Nat) (xs:List Value):Prop:=
 xs.length=n * size/\(0<n->∃ad,A=some ad/\D ad.block/\∀j u,xs[j]?=some u->w.cell? (ad.add j)=some u)
section
variable {w w' : World} {D D' : Nat → Prop} {size n : Nat} {A : Option Addr} {xs : List Value}
theorem Rd.none_ (w:World) (D:Nat->Prop) (size:Nat) (A:Option Addr):Rd w D size A 0 []:=⟨by simp,fun h=>absurd h (by omega)⟩
theorem Rd.at_ {k:Nat} (h:Rd w D 1 A n xs) (hk:k<n):∃ad u,A=some ad/\D ad.block/\xs[k]?=some u/\w.cell? (ad.add k)=some u:=by
 obtain ⟨ad,e,hb,hc⟩:=h.2 (by omega);have hl:k<xs.length:=by have:=h.1;omega
 exact ⟨ad,xs[k],e,hb,List.getElem?_eq_getElem hl,hc k _ (List.getElem?_eq_getElem hl)⟩
theorem Rd.keep (h:Rd w D size A n xs) (hk:∀k,D k->w'.heap[k]?=w.heap[k]?):Rd w' D size A n xs:=
 ⟨h.1,fun hn=>by
   obtain ⟨ad,e,hb,hc⟩:=h.2 hn;exact ⟨ad,e,hb,fun j u hu=>(World.cell?_of_block (hk _ (by rw[CB];exact hb))).trans (hc j u hu)⟩⟩
theorem Rd.more (h:Rd w D size A n xs) (hD:∀k,D k->D' k):Rd w D' size A n xs:=
 ⟨h.1,fun hn=>by
   obtain ⟨ad,e,hb,hc⟩:=h.2 hn;exact ⟨ad,e,hD _ hb,hc⟩⟩
theorem Rd.lt_ (h:Rd w D size A n xs) (hs:0<size):0<n->∃ad,A=some ad/\D ad.block/\ad.block<w.heap.size:=fun hn=>by
 obtain ⟨ad,e,hb,hc⟩:=h.2 hn;have hl:0<xs.length:=by rw[h.1];exact Nat.mul_pos hn hs
 have:=World.block_lt_of_cell? w _ (hc 0 _ (List.getElem?_eq_getElem hl));rw[CB]at this;exact ⟨ad,e,hb,this⟩
theorem Rd.ch {S:Nat->Prop} (h:Rd w D size A n xs) (hs:0<size) (hc:Ch S w w') (hS:∀k,k<w.heap.size->D k->¬S k):Rd w' D size A n xs:=
 ⟨h.1,fun hn=>by
   obtain ⟨ad,e,hb,hc'⟩:=h.2 hn;obtain ⟨ad',e',_,hlt⟩:=h.lt_ hs hn;rw[e]at e';injection e' with e';subst e';refine ⟨ad,e,hb,fun j u hu=>(World.cell?_of_block (hc.block _ (by rw[CB];exact hlt) ?_)).trans (hc' j u hu)⟩;rw[CB];exact hS _ hlt hb⟩
theorem Rd.nx (h:Rd w D size A n xs) (hs:0<size) (hc:Nx w w'):Rd w' D size A n xs:=h.ch hs hc fun _ _ _ hf=>hf
theorem Rd.drewN (h:Rd w D size A n xs) (k:Nat):Rd (w.drewN k) D size A n xs:=h
theorem Rd.cut (h:Rd w D size A n xs) {k cap:Nat} (hk:k<=n) (hc:n<=cap):
 Rd w D size (if cap=k then A else A.map (·.add (k * size))) (n-k) (xs.drop (k * size)):=by
 refine ⟨by rw[List.length_drop,h.1,Nat.sub_mul],fun hn=>?_⟩;obtain ⟨ad,rfl,hb,hcell⟩:=h.2 (by omega);rw[if_neg (by omega)];refine ⟨ad.add (k * size),rfl,by rw[CB];exact hb,fun j u hu=>?_⟩;rw[qI];exact hcell _ u (by rw[←hu,List.getElem?_drop])
theorem Rd.take (h:Rd w D size A n xs) {k:Nat} (hk:k<=n):Rd w D size A k (xs.take (k * size)):=by
 refine ⟨by rw[List.length_take,h.1];exact Nat.min_eq_left (Nat.mul_le_mul_right _ hk),fun hn=>?_⟩;obtain ⟨ad,rfl,hb,hcell⟩:=h.2 (by omega)
 exact ⟨ad,rfl,hb,fun j u hu=>hcell j u (by
  rw[List.getElem?_take]at hu;split at hu
  ·exact hu
  ·cases hu)⟩
theorem Rd.fH {base:Nat} {e:TypeId} {c:Nat} (h:w.ownsRow base e size (.slice A n c) n xs):Rd w (fun k=>(Value.slice A n c).ownBlock=some k/\base<=k/\k<w.heap.size) size A n xs:=by
 refine ⟨h.1,fun hn=>?_⟩;obtain ⟨g,cap,hv,hb,hlt⟩:=h.form hn;have hA:A=some ⟨g,0,none⟩:=by injection hv
 subst hA;exact ⟨_,rfl,⟨rfl,hb,hlt⟩,h.cells (g:=g) rfl⟩
end
def aG (w:World) (g:Nat) (t:TypeId) (cs:Array Value):Prop:=w.heap[g]?=some (.cells cs t (0,0))
section
variable {w w' : World} {g : Nat} {t : TypeId} {cs : Array Value}
theorem aG.lt (h:aG w g t cs):g<w.heap.size:=by
 rcases Nat.lt_or_ge g w.heap.size with hlt|hge
 ·exact hlt
 ·unfold aG at h;rw[Array.getElem?_eq_none hge]at h;cases h
theorem aG.cell (h:aG w g t cs) (i:Nat):w.cell? ⟨g,i,none⟩=cs[i]?:=cell_of_row w g i cs t (0,0) h
theorem aG.frozen (h:aG w g t cs) (i:Nat):w.frozen? ⟨g,i,none⟩=false:=by
 unfold aG at h;simp[World.frozen?,h]
theorem aG.new (w:World) (t:TypeId) (cs:Array Value):aG (w.alloc (.cells cs t)) w.heap.size t cs:=heap_alloc_new w _
theorem aG.drew (h:aG w g t cs):aG w.drew g t cs:=h
theorem aG.drewN (h:aG w g t cs) (n:Nat):aG (w.drewN n) g t cs:=h
theorem aG.alloc (h:aG w g t cs) (o:Obj):aG (w.alloc o) g t cs:=(Below.heap_alloc w o g h.lt).trans h
theorem aG.dK (h:aG w g t cs) (i:Nat) (u:Value):aG (w.setCell ⟨g,i,none⟩ u) g t (cs.setIfInBounds i u):=by
 unfold aG at h ⊢;simp[World.setCell,Array.getElem?_modify,h]
theorem aG.far (h:aG w g t cs) {p:Addr} (hp:g≠p.block) (u:Value):aG (w.setCell p u) g t cs:=(Below.heap_setCell w p u g hp).trans h
theorem aG.ch {S:Nat->Prop} (h:aG w g t cs) (hc:Ch S w w') (hS:¬S g):aG w' g t cs:=(hc.block g h.lt hS).trans h
theorem aG.nx (h:aG w g t cs) (hc:Nx w w'):aG w' g t cs:=h.ch hc fun hf=>hf
theorem aG.grown {row:Option Nat} (h:aG w g t cs) (hb:w.grownBy w' row) (hg:some g≠row):aG w' g t cs:=(hb.block g h.lt hg).trans h
theorem aG.Lj {g':Nat} {t':TypeId} {cs':Array Value} (h:aG w g t cs) (h':aG w g' t' cs') (hne:t≠t'):g≠g':=by
 rintro rfl;unfold aG at h h';rw[h]at h';injection h' with h';injection h' with _ ht;exact hne ht
theorem z03 {base:Nat} {e:TypeId} {size n:Nat} {v:Value} {xs:List Value} (h:w.ownsRow base e size v n xs) (hg:aG w g t cs) (hne:e≠t):v.ownBlock≠some g:=by
 rcases h.2 with ⟨rfl,_⟩|⟨g',cap,cur,rfl,_,hh,_⟩
 ·simp[Value.ownBlock]
 ·intro he
  have:g'=g:=by simpa [Value.ownBlock]using he
  subst this;exact aG.Lj (t:=e) hh hg hne rfl
theorem iq {base:Nat} {e:TypeId} {size n:Nat} {v:Value} {xs:List Value} {S:Nat->Prop} (h:w.ownsRow base e size v n xs) (hc:Ch S w w') (hS:∀k,v.ownBlock=some k->¬S k):w'.ownsRow base e size v n xs:=by
 obtain ⟨h1,h2⟩:=h;refine ⟨h1,?_⟩;rcases h2 with h2|⟨g',cap,cur,rfl,hb,hh,r⟩
 ·exact .inl h2
 ·exact .inr ⟨g',cap,cur,rfl,hb,(hc.block g' (Array.getElem?_eq_some_iff.1 hh).1 (hS g' rfl)).trans hh,r⟩
theorem jM {base base':Nat} {e:TypeId} {size n:Nat} {v:Value} {xs:List Value} (h:w.ownsRow base e size v n xs) (hb:base'<=base):w.ownsRow base' e size v n xs:=by
 obtain ⟨h1,h2⟩:=h;refine ⟨h1,?_⟩;rcases h2 with h2|⟨g',cap,cur,rfl,hb',r⟩
 ·exact .inl h2
 ·exact .inr ⟨g',cap,cur,rfl,by omega,r⟩
theorem z08 {base:Nat} {e:TypeId} {size n:Nat} {v:Value} {xs:List Value} (h:w.ownsRow base e size v n xs):∃A c,v=.slice A n c/\n<=c/\c<=maxLen:=by
 rcases h.2 with ⟨rfl,rfl⟩|⟨g',cap,cur,rfl,_,_,h1,h2,_⟩
 ·exact ⟨_,_,rfl,by omega,by simp[maxLen]⟩
 ·exact ⟨_,_,rfl,h1,h2⟩
theorem YS (w:World) (base e size:Nat) (cs:Array Value) (n:Nat) (hb:base<=w.heap.size) (hm:n<=maxLen) (hs:cs.size=n * size):
 (w.alloc (.cells cs e)).ownsRow base e size (.slice (some ⟨w.heap.size,0,none⟩) n n) n cs.toList:=World.ownsRow_lit w cs n hb hm hs
end
section
variable {P : Program} (w : World)
theorem z3y (base:Nat) (t ty e:TypeId) (i:TypeInfo) (size:Nat) (ht:P.underlying t=some (.slice e)) (hi:P.info? e=some i)
 (v:Value) (n:Nat) (xs:List Value) (hown:w.ownsRow base e size v n xs) (c:Nat):(Builtin.append_ #[t,t] ty #[v,.slice none 0 c]).run P w=.ok v w:=by
 rcases hown.2 with ⟨rfl,rfl⟩|⟨g,cap,cur,rfl,_,_,hnc,_⟩
 ·simp[Builtin.append_,run_underlying ht,sizeOf,typeInfo,hi,Builtin.lenOf,Builtin.firstCells]
 ·simp[Builtin.append_,run_underlying ht,sizeOf,typeInfo,hi,Builtin.lenOf,Builtin.firstCells,hnc,storeCells]
theorem oq (base:Nat) (t ty e:TypeId) (i:TypeInfo) (z:Value) (size bytes:Nat) (ht:P.underlying t=some (.slice e)) (hi:P.info? e=some i) (hz:i.zero=some z)
 (hsize:i.size=size) (hby:i.bytes=bytes) (hzs:z.cells.size=size) (hsz:0<size)
 (v:Value) (n:Nat) (xs:List Value) (hown:w.ownsRow base e size v n xs)
 (D:Nat->Prop) (A:Option Addr) (m c:Nat) (news:List Value) (hr:Rd w D size A m news) (h1:∀u∈news,u.oneCell'=true)
 (h63:n+m<=maxLen) (hbytes:(n+m) * bytes<=140737488355328) (hbase:base<=w.heap.size):
 ∃v' w',(Builtin.append_ #[t,t] ty #[v,.slice A m c]).run P w=.ok v' w'/\w'.ownsRow base e size v' (n+m) (xs++news)/\w.grownBy w' v.ownBlock/\
  (v'.ownBlock=v.ownBlock∨v'.ownBlock=some w.heap.size):=by
 rcases A with _|ad
 ·have hm:m=0:=by
   rcases Nat.eq_zero_or_pos m with h0|h0
   ·exact h0
   ·obtain ⟨ad,h,_⟩:=hr.2 h0
    cases h
  subst hm;have hn:news=[]:=List.eq_nil_of_length_eq_zero (by simpa using hr.1);subst hn;exact ⟨v,w,z3y w base t ty e i size ht hi v n xs hown c,by simpa using hown,World.grownBy.refl w _,.inl rfl⟩
 ·have hcells:∀j u,news[j]?=some u->w.cell? (ad.add j)=some u:=by
   intro j u hu;rcases Nat.eq_zero_or_pos m with h0|h0
   ·subst h0
    have hn:news=[]:=List.eq_nil_of_length_eq_zero (by simpa using hr.1);subst hn;simp at hu
   ·obtain ⟨ad',h,_,hc⟩:=hr.2 h0
    injection h with h;subst h;exact hc j u hu
  obtain ⟨v',w',hrun,h2,h3,_,h5⟩:=run_append_own_at (P:=P) w base t ty e i z size bytes ht hi hz hsize hby hzs hsz v n xs hown ad m c news hr.1 hcells h1 h63 hbytes hbase;exact ⟨v',w',hrun,h2,h3,h5⟩
theorem z2Y {o:Oper} {a:Act} {K:Act->World->Prop} {Q:Exit->Act->World->Prop} (s x:Operand) (t:TypeId)
 (ho:o.op=.call { callee:=.builtin .append,args:= #[s,x],argTypes:= #[t,t]})
 (base:Nat) (e:TypeId) (i:TypeInfo) (z:Value) (size bytes:Nat) (ht:P.underlying t=some (.slice e)) (hi:P.info? e=some i) (hz:i.zero=some z)
 (hsize:i.size=size) (hby:i.bytes=bytes) (hzs:z.cells.size=size) (hsz:0<size)
 (v:Value) (n:Nat) (xs:List Value) (hs:a.eval s=v) (hown:w.ownsRow base e size v n xs)
 (D:Nat->Prop) (A:Option Addr) (m c:Nat) (news:List Value) (hx:a.eval x=.slice A m c) (hr:Rd w D size A m news) (h1:∀u∈news,u.oneCell'=true)
 (h63:n+m<=maxLen) (hbytes:(n+m) * bytes<=140737488355328) (hbase:base<=w.heap.size)
 (h:∀v' w',w'.ownsRow base e size v' (n+m) (xs++news)->w.grownBy w' v.ownBlock->(v'.ownBlock=v.ownBlock∨v'.ownBlock=some w.heap.size)->K (a.put o.dst v') w'):o.wp P a w K Q:=by
 obtain ⟨v',w',hrun,h2,h3,h4⟩:=oq (P:=P) w base t o.type e i z size bytes ht hi hz hsize hby hzs hsz v n xs hown D A m c news hr h1 h63 hbytes hbase;unfold Oper.wp execOp;simp only[ho,resolve,invoke,builtin,Sem.run_bind,Sem.run_pure,Result.andThen_ok,List.map_toArray,List.map_cons,List.map_nil,hs,hx,hrun];exact h v' w' h2 h3 h4
theorem z07 {ops:Array Oper} {rest:List Oper} {o:Oper} {a:Act} {Q:Exit->Act->World->Prop} (hgd:o.guard=none) (s x:Operand) (t:TypeId)
 (ho:o.op=.call { callee:=.builtin .append,args:= #[s,x],argTypes:= #[t,t]})
 (base:Nat) (e:TypeId) (i:TypeInfo) (z:Value) (size bytes:Nat) (ht:P.underlying t=some (.slice e)) (hi:P.info? e=some i) (hz:i.zero=some z)
 (hsize:i.size=size) (hby:i.bytes=bytes) (hzs:z.cells.size=size) (hsz:0<size)
 (v:Value) (n:Nat) (xs:List Value) (hs:a.eval s=v) (hown:w.ownsRow base e size v n xs)
 (D:Nat->Prop) (A:Option Addr) (m c:Nat) (news:List Value) (hx:a.eval x=.slice A m c) (hr:Rd w D size A m news) (h1:∀u∈news,u.oneCell'=true)
 (h63:n+m<=maxLen) (hbytes:(n+m) * bytes<=140737488355328) (hbase:base<=w.heap.size)
 (h:∀v' w',w'.ownsRow base e size v' (n+m) (xs++news)->w.grownBy w' v.ownBlock->(v'.ownBlock=v.ownBlock∨v'.ownBlock=some w.heap.size)->wpList P ops Q rest (a.put o.dst v') w'):wpList P ops Q (o::rest) a w:=
 wpList_plain hgd fun _ hK=>z2Y w s x t ho base e i z size bytes ht hi hz hsize hby hzs hsz v n xs hs hown D A m c news hx hr h1 h63 hbytes hbase fun v' w' h2 h3 h4=>hK _ _ (h v' w' h2 h3 h4)
theorem Ru {ops:Array Oper} {o:Oper} {a:Act} {K:Act->World->Prop} {Q:Exit->Act->World->Prop} {E:Prop} (hgd:o.guard=none) (s x:Operand) (t:TypeId)
 (ho:o.op=.call { callee:=.builtin .append,args:= #[s,x],argTypes:= #[t,t]})
 (base:Nat) (e:TypeId) (i:TypeInfo) (z:Value) (size bytes:Nat) (ht:P.underlying t=some (.slice e)) (hi:P.info? e=some i) (hz:i.zero=some z)
 (hsize:i.size=size) (hby:i.bytes=bytes) (hzs:z.cells.size=size) (hsz:0<size)
 (v:Value) (n:Nat) (xs:List Value) (hs:a.eval s=v) (hown:w.ownsRow base e size v n xs)
 (D:Nat->Prop) (A:Option Addr) (m c:Nat) (news:List Value) (hx:a.eval x=.slice A m c) (hr:Rd w D size A m news) (h1:∀u∈news,u.oneCell'=true)
 (h63:n+m<=maxLen) (hbytes:(n+m) * bytes<=140737488355328) (hbase:base<=w.heap.size)
 (h:∀v' w',w'.ownsRow base e size v' (n+m) (xs++news)->w.grownBy w' v.ownBlock->(v'.ownBlock=v.ownBlock∨v'.ownBlock=some w.heap.size)->K (a.put o.dst v') w'):
 if Region.wanted o (yielded ops a.tmps)=true then Oper.wp P o a w K Q else E:=by
 have hw:Region.wanted o (yielded ops a.tmps)=true:=by simp[Region.wanted,hgd]
 rw[if_pos hw];exact z2Y w s x t ho base e i z size bytes ht hi hz hsize hby hzs hsz v n xs hs hown D A m c news hx hr h1 h63 hbytes hbase h
end
def Dr (w w':World):Prop:=∃n,w'=w.drewN n
theorem Dr.rJ (w:World) (n:Nat):Dr w (w.drewN n):=⟨n,rfl⟩
theorem Dr.refl (w:World):Dr w w:=⟨0,rfl⟩
theorem Dr.nx {w w':World} (h:Dr w w'):Nx w w':=by
 obtain ⟨n,rfl⟩:=h;exact (Ch.refl _ w).drewN n
theorem wG {k:IntKind} {a b:Int} (h:a=b):Ending.returned (.int k a)=.returned (.int k b):=by rw[h]
theorem ah {p:Prop} (h:p):Hid p:=Lib.hid h
theorem dH {α:Type} {l:List α} {i:Nat} {a:α}:l.toArray.setIfInBounds i a=(l.set i a).toArray:=by simp
theorem dF {α:Type} {x a:α} {xs:List α}:(x::xs).set 0 a=a::xs:=rfl
theorem dG {α:Type} {x a:α} {xs:List α} {n:Nat}:(x::xs).set (n+1) a=x::xs.set n a:=rfl
def bl (xs:List Nat):List Value:=xs.map fun x:Nat=>.int .u8 (x:Int)
def okB (xs:List Nat):Prop:=∀x∈xs,x<256
theorem Rn (xs:List Nat):(bl xs).length=xs.length:=by simp[bl]
theorem iL (xs:List Nat):∀u∈bl xs,u.oneCell'=true:=by
 intro u hu;simp only[bl,List.mem_map]at hu;obtain ⟨x,_,rfl⟩:=hu;rfl
theorem z16 {xs:List Nat} (h:okB xs) (i:Nat):xs.getD i 0<256:=by
 by_cases hi:i<xs.length
 ·have e:xs.getD i 0=xs[i]:=by simp[List.getD,hi]
  rw[e];exact h _ (List.getElem_mem hi)
 ·rw[ZF xs i 0 (by omega)];omega
theorem K_ {xs:List Nat} {i:Nat} (h:i<xs.length):(bl xs)[i]?=some (.int .u8 (xs.getD i 0:Int)):=by
 simp[bl,List.getD,h]
theorem Tryz.info5:(Tryz.prog.info? 5).map (fun i=>(i.zero,i.size,i.bytes))=some (some (.int .u8 0),1,1):=by kernel_rfl
def bf (xs:List Nat):ByteArray:=⟨(xs.map UInt8.ofNat).toArray⟩
theorem z48 {xs ys:List Nat} (hx:okB xs) (hy:okB ys) (h:bf xs=bf ys):xs=ys:=by
 have h1:xs.map UInt8.ofNat=ys.map UInt8.ofNat:=by
  have:=congrArg (fun s:ByteArray=>s.data.toList) h;simpa [bf]using this
 have h2:=congrArg (List.map UInt8.toNat) h1;rw[List.map_map,List.map_map]at h2
 have e:∀l:List Nat,okB l->l.map (UInt8.toNat ∘ UInt8.ofNat)=l:=by
  intro l hl;induction l with
  |nil=>rfl
  |cons x l ih=>
   rw[List.map_cons,ih (fun y hy=>hl y (by simp[hy]))];have:=hl x (by simp);simp;omega
 rwa [e _ hx,e _ hy]at h2
theorem IL (xs:List Nat):(bf xs).size=xs.length:=by simp[bf,ByteArray.size]
theorem vI {P:Program} (w:World) (src dst e:TypeId) (hs:P.underlying src=some (.slice e)) (he:P.underlying e=some (.int .u8)) (hd:P.underlying dst=some .string)
 (D:Nat->Prop) (A:Option Addr) (n c:Nat) (xs:List Nat) (h:Rd w D 1 A n (bl xs)):
 (convert src dst (.slice A n c)).run P w=.ok (.string (bf xs)) w:=by
 have hlen:xs.length=n:=by have:=h.1;rw[Rn]at this;omega
 rw[run_convert_bytes_string w src dst e _ n c hs he hd];have e0:bl xs=(xs.map fun x:Nat=>(x:Int)).map (Value.int .u8):=by simp[bl]
 have fin:∀a:Addr,(loadCells a n).run P w=.ok (bl xs).toArray w->(Conv.bytesToString (.slice (some a) n c)).run P w=.ok (.string (bf xs)) w:=by
  intro a hl;rw[e0]at hl;rw[run_bytesToString w a n c _ hl,foldl_push_bytes];congr 2
  simp[bf,ByteArray.empty,ByteArray.emptyWithCapacity];rfl
 rcases A with _|a
 ·have:n=0:=by
   rcases Nat.eq_zero_or_pos n with h0|h0
   ·exact h0
   ·obtain ⟨_,h,_⟩:=h.2 h0;cases h
  subst this;have:xs=[]:=List.eq_nil_of_length_eq_zero hlen;subst this;simp[Conv.bytesToString,bf];rfl
 ·refine fin a ?_
  have:=run_loadCells_list (P:=P) w a (bl xs) (fun j v hj=>by
   rcases Nat.eq_zero_or_pos n with h0|h0
   ·subst h0
    have:xs=[]:=List.eq_nil_of_length_eq_zero hlen;subst this;simp[bl]at hj
   ·obtain ⟨a',e,_,hc⟩:=h.2 h0
    injection e with e;subst e;exact hc j v hj)
  rw[Rn,hlen]at this;exact this
theorem z2m {w:World} {base:Nat} {e:TypeId} {size n:Nat} {v:Value} {xs:List Value} (h:w.ownsRow base e size v n xs) {g:Nat} (hb:v.ownBlock=some g):
 ∃cap,v=.slice (some ⟨g,0,none⟩) n cap/\n<=cap/\cap<=maxLen:=by
 rcases h.2 with ⟨rfl,_⟩|⟨g',cap,cur,rfl,_,_,h1,h2,_⟩
 ·simp[Value.ownBlock]at hb
 ·simp[Value.ownBlock]at hb
  subst hb;exact ⟨cap,rfl,h1,h2⟩
theorem z2n {w w1:World} {e:TypeId} {size n:Nat} {v':Value} {xs:List Value}
 (hown:w1.ownsRow w.heap.size e size v' (0+n) ([]++xs)) (hg:(w.alloc (.cells #[] e)).grownBy w1 (Value.ownBlock (.slice (some ⟨w.heap.size,0,none⟩) 0 0)))
 (hat:v'.ownBlock=Value.ownBlock (.slice (some ⟨w.heap.size,0,none⟩) 0 0)∨v'.ownBlock=some (w.alloc (.cells #[] e)).heap.size):
 ∃k cap,v'=.slice (some ⟨k,0,none⟩) n cap/\w.heap.size<=k/\k<w1.heap.size/\Rd w1 (· =k) size (some ⟨k,0,none⟩) n xs/\Nx w w1/\w1.ownsRow w.heap.size e size (.slice (some ⟨k,0,none⟩) n cap) n xs:=by
 have hnx:Nx w w1:=((Ch.refl _ w).alloc _).grown hg (fun k hk hlt=>by simp[Value.ownBlock]at hk;omega)
 obtain ⟨k,hk,hk1⟩:∃k,v'.ownBlock=some k/\w.heap.size<=k:=by
  rcases hat with e|e
  ·exact ⟨_,e,Nat.le_refl _⟩
  ·exact ⟨_,e,by simp⟩
 simp only[Nat.zero_add,List.nil_append]at hown;obtain ⟨cap,hv,h1,h2⟩:=z2m hown hk;have hlt:=(hown.lt k hk).2;subst hv;refine ⟨k,cap,rfl,hk1,hlt,(Rd.fH hown).more ?_,hnx,hown⟩;rintro j ⟨hj,_⟩;simpa [Value.ownBlock]using hj.symm
def Qz (w:World) (xs:List Nat) (e:Ending) (w':World):Prop:=
 ∃k cap,e=.returned (.slice (some ⟨k,0,none⟩) xs.length cap)/\w.heap.size<=k/\k<w'.heap.size/\w'.ownsRow w.heap.size 5 1 (.slice (some ⟨k,0,none⟩) xs.length cap) xs.length (bl xs)/\
  Rd w' (· =k) 1 (some ⟨k,0,none⟩) xs.length (bl xs)/\Nx w w'
theorem twin_any (D:Nat->Prop) (A:Option Addr) (n c:Nat) (xs:List Nat) (w:World) (h:Rd w D 1 A n (bl xs)) (hn:n<=140737488355328):
 Calls Tryz.prog 20 #[.slice A n c] w (Qz w xs):=by
 obtain ⟨i0,hi0,hz0,hz1,hz2⟩:=info_parts Tryz.info5;have hlen:xs.length=n:=by have:=h.1;rw[Rn]at this;omega
 have Hlen:=ah hlen;clear hlen;have h':Rd (w.alloc (.cells #[] 5)) D 1 A n (bl xs):=h.nx (by omega) ((Ch.refl _ w).alloc _);go_enter Tryz.func20,Tryz.ntmps20;go_wp2_with (at_builtin;refine z07 _ rfl (.tmp 3) (.tmp 4) _ rfl w.heap.size 5 i0 _ 1 1 Tryz.underlying26 hi0 hz0 hz1 hz2 rfl (by omega) (.slice (some ⟨w.heap.size,0,none⟩) 0 0) 0 [] rfl (World.ownsRow_made w #[] 0 (Nat.le_refl _) (by simp[maxLen]) rfl) D A n c (bl xs) rfl h' (iL xs) (by simp only[maxLen];omega) (by omega) (by simp) ?_;intro v' w1 hown hg hat;obtain ⟨k,cap,hv,hk,hk1,hrd,hnx,ho⟩:=z2n hown hg hat;clear hown hg hat;rw[hv];clear hv)
 go_ret;exact ⟨k,cap,by simp[Hlen.out],hk,hk1,by rw[Hlen.out];exact ho,by rw[Hlen.out];exact hrd,hnx⟩
theorem MC (D D':Nat->Prop) (A B:Option Addr) (n c m d:Nat) (xs ys:List Nat) (w:World) (hx:Rd w D 1 A n (bl xs)) (hy:Rd w D' 1 B m (bl ys)) (ox:okB xs) (oy:okB ys):
 Calls Tryz.prog 17 #[.slice A n c,.slice B m d] w fun e w'=>e=.returned (.bool (decide (xs=ys)))/\w=w':=by
 have e1:=vI (P:=Tryz.prog) w 26 9 5 Tryz.underlying26 Tryz.underlying5 Tryz.underlying9 D A n c xs hx;have e2:=vI (P:=Tryz.prog) w 26 9 5 Tryz.underlying26 Tryz.underlying5 Tryz.underlying9 D' B m d ys hy;have Hinj:Hid (bf xs=bf ys->xs=ys):=z48 ox oy;clear hx hy ox oy;generalize hsx:bf xs=sx at *;generalize hsy:bf ys=sy at *;have HX:=ah hsx;have HY:=ah hsy;clear hsx hsy;go_enter Tryz.func17,Tryz.ntmps17;go_wp2
 go_ret;refine ⟨?_,rfl⟩
 have hq:(sx.toList==sy.toList)=decide (xs=ys):=by
  rw[Bool.eq_iff_iff,beq_iff_eq,decide_eq_true_iff];constructor
  ·intro h
   refine Hinj.out ?_;rw[ByteArray.toList_eq,ByteArray.toList_eq]at h;cases sx;cases sy
   simpa [Array.ext_iff]using congrArg List.toArray h
  ·rintro rfl
   rw[←HX.out,←HY.out]
 simp[hq]
end Go.Proofs.YtpakjclpjcngmaaGreat
namespace Go.Proofs.YtpakjclpjcngmaaGreat
structure Weak {α:Type} (lt:α->α->Bool):Prop where
 asym:∀x y,lt x y=true->lt y x=false
 trans:∀x y z,lt x y=true->lt y z=true->lt x z=true
 neg:∀x y z,lt y x=false->lt z y=false->lt z x=false
section
variable {α : Type} {lt : α → α → Bool}
end
section
variable {α : Type}
variable {lt : α → α → Bool}
end
structure dL where
 name:ByteArray
 value:ByteArray
structure Mat where
 name:ByteArray
 way:Int
 value:ByteArray
structure aA where
 kind:Int
 time:Int
 aB:List dL
 text:ByteArray
 value:Int
 null:Bool
 maker:Int
 seq:Int
 place:Int
structure abb where
 lo:Int
 hi:Int
 ms:List Mat
 limit:Int
 texts:Bool
def gJ (a b:ByteArray):Bool:=decide (a.data.toList<b.data.toList)
theorem qB {a b c:ByteArray} (h:gJ a b=true) (k:gJ b c=true):gJ a c=true:=by
 unfold gJ at *;rw[decide_eq_true_iff]at *;exact List.lt_trans h k
theorem PZ (a:ByteArray):gJ a a=false:=by
 unfold gJ;rw[decide_eq_false_iff_not];exact List.lt_irrefl _
def eu (c i:Nat):Bool:=decide (97<=c/\c<=122)||(decide (0<i)&&(decide (48<=c/\c<=57)||decide (c=95)))
def jI (s:ByteArray) (i:Nat):Nat:=(s.data[i]?.getD 0).toNat
def dw (s:ByteArray):Bool:=decide (1<=s.size/\s.size<=8)&&(List.range s.size).all fun i=>eu (jI s i) i
def eF (l:List dL) (i:Nat):dL:=l.getD i ⟨⟨#[]⟩,⟨#[]⟩⟩
def jU (l:List dL) (i:Nat):Bool:=dw (eF l i).name&&decide ((eF l i).value.size<=16)&&(decide (i=0)||gJ (eF l (i-1)).name (eF l i).name)
def aZ (l:List dL):Bool:=decide (l.length<=4)&&(List.range l.length).all fun i=>jU l i
def pY:List dL->ByteArray->Option ByteArray
 |[],_=>none
 |x::l,n=>if x.name=n then some x.value else pY l n
def iO (x y:aA):Bool:=decide (x.time<y.time∨(x.time=y.time/\(x.maker<y.maker∨(x.maker=y.maker/\(x.seq<y.seq∨(x.seq=y.seq/\x.place<y.place))))))
theorem NU:Weak iO:=by
 refine ⟨fun x y h=>?_,fun x y z h k=>?_,fun x y z h k=>?_⟩
 ·unfold iO at *
  rw[decide_eq_true_iff]at h;rw[decide_eq_false_iff_not];omega
 ·unfold iO at *
  rw[decide_eq_true_iff]at *;omega
 ·unfold iO at *
  rw[decide_eq_false_iff_not]at *;omega
/-! the document's forms -/
theorem IC {n:Nat} {p:Nat->Bool}:((List.range n).all p=true)↔∀i,i<n->p i=true:=by
 rw[List.all_eq_true];exact ⟨fun h i hi=>h i (List.mem_range.2 hi),fun h i hi=>h i (List.mem_range.1 hi)⟩
def pR (l:List dL) (i:Nat):Bool:=dw (eF l i).name&&decide ((eF l i).value.size<=16)&&(List.range i).all fun k=>gJ (eF l k).name (eF l i).name
theorem z4D (l:List dL):(decide (l.length<=4)&&(List.range l.length).all fun i=>pR l i)=aZ l:=by
 unfold aZ;congr 1
 rw[Bool.eq_iff_iff,IC,IC];constructor
 ·intro h i hi
  have:=h i hi;unfold pR at this;unfold jU;simp only[Bool.and_eq_true,decide_eq_true_eq,IC]at this;simp only[Bool.and_eq_true,decide_eq_true_eq,Bool.or_eq_true];refine ⟨this.1,?_⟩;by_cases e:i=0
  ·exact .inl e
  ·exact .inr (this.2 (i-1) (by omega))
 ·intro h i hi
  have hi':=h i hi;unfold jU at hi';simp only[Bool.and_eq_true,decide_eq_true_eq,Bool.or_eq_true]at hi';unfold pR;simp only[Bool.and_eq_true,decide_eq_true_eq,IC];refine ⟨hi'.1,?_⟩
  have H:∀d k,k+d+1=i->gJ (eF l k).name (eF l i).name=true:=by
   intro d;induction d with
   |zero=>
    intro k hk;rcases hi'.2 with e|e
    ·omega
    ·rw[show i-1=k by omega]at e;exact e
   |succ d ih=>
    intro k hk;have hk1:=h (k+1) (by omega);unfold jU at hk1;simp only[Bool.and_eq_true,decide_eq_true_eq,Bool.or_eq_true]at hk1;rcases hk1.2 with e|e
    ·omega
    ·rw[Nat.add_sub_cancel]at e
     exact qB e (ih (k+1) (by omega))
  intro k hk;exact H (i-k-1) k (by omega)
namespace Ps
def mQ (c:Nat):Bool:=decide (32<=c/\c<=126/\c≠34/\c≠92)
def xW (c:Nat):Option Nat:=if 48<=c/\c<=57 then some (c-48) else if 97<=c/\c<=102 then some (c-87) else none
def gG:List UInt8->Option (UInt8×Nat)
 |[]=>none
 |c::r=>if c.toNat=92 then (match r with
   |a::b::_=>match xW a.toNat,xW b.toNat with
    |some x,some y=>if mQ (16 * x+y)=true then none else some (UInt8.ofNat (16 * x+y),3)
    |_,_=>none
   |_=>none) else if mQ c.toNat=true then some (c,1) else none
def vO:Nat->List UInt8->Option (List UInt8×List UInt8)
 |0,_=>none
 |_+1,[]=>none
 |f+1,c::r=>if c.toNat=34 then some ([],r) else match gG (c::r) with
  |none=>none
  |some (b,n)=>(vO f ((c::r).drop n)).map fun p=>(b::p.1,p.2)
def fG (x:List UInt8):Option (List UInt8×List UInt8):=vO (x.length+1) x
theorem YJ {x:List UInt8} {b:UInt8} {n:Nat} (h:gG x=some (b,n)):1<=n/\n<=x.length:=by
 unfold gG at h;split at h
 ·cases h
 ·split at h
  ·split at h
   ·split at h
    ·split at h
     ·cases h
     ·injection h with h
      injection h with _ h;subst h;simp
    ·cases h
   ·cases h
  ·split at h
   ·injection h with h
    injection h with _ h;subst h;simp
   ·cases h
theorem sK:∀(f g:Nat) (x:List UInt8),x.length<f->x.length<g->vO f x=vO g x
 |0,_,x,h,_=>by omega
 |_,0,x,_,h=>by omega
 |f+1,g+1,[],_,_=>rfl
 |f+1,g+1,c::r,h1,h2=>by
  unfold vO;split
  ·rfl
  ·cases ho:gG (c::r) with
   |none=>rfl
   |some p=>
    obtain ⟨b,n⟩:=p;obtain ⟨l1,l2⟩:=YJ ho;simp only;rw[sK f g ((c::r).drop n) (by rw[List.length_drop];omega) (by rw[List.length_drop];omega)]
theorem nK:fG []=none:=rfl
theorem z28 {c:UInt8} (r:List UInt8) (h:c.toNat=34):fG (c::r)=some ([],r):=by
 unfold fG vO;rw[if_pos h]
theorem YE {c:UInt8} {r:List UInt8} (h:c.toNat≠34) (ho:gG (c::r)=none):fG (c::r)=none:=by
 unfold fG vO;rw[if_neg h,ho]
theorem z27 {c:UInt8} {r:List UInt8} {b:UInt8} {n:Nat} (h:c.toNat≠34) (ho:gG (c::r)=some (b,n)):fG (c::r)=(fG ((c::r).drop n)).map fun p=>(b::p.1,p.2):=by
 obtain ⟨l1,l2⟩:=YJ ho;have e:vO (c::r).length ((c::r).drop n)=fG ((c::r).drop n):=sK _ _ _ (by rw[List.length_drop];simp only[List.length_cons]at *;omega) (by omega);rw[←e];conv=>lhs;unfold fG vO
 rw[if_neg h,ho]
theorem zu {c:UInt8} {r:List UInt8}:gG (c::(r++[125]))=gG (c::r):=by
 unfold gG;simp only;split
 ·cases r with
  |nil=>rfl
  |cons a r=>cases r with
   |nil=>
    simp only[List.nil_append,List.cons_append];have e:xW (125:UInt8).toNat=none:=(by decide);rw[e];cases xW a.toNat<;>rfl
   |cons b r=>rfl
 ·rfl
theorem yA:∀(k:Nat) (x:List UInt8),x.length<=k->fG (x++[125])=(fG x).map fun p=>(p.1,p.2++[125])
 |k,[],_=>by decide
 |0,c::r,h=>by simp at h
 |k+1,c::r,h=>by
  by_cases hc:c.toNat=34
  ·rw[List.cons_append,z28 _ hc,z28 _ hc]
   rfl
  ·cases ho:gG (c::r) with
   |none=>rw[List.cons_append,YE hc (by rw[zu];exact ho),YE hc ho];rfl
   |some p=>
    obtain ⟨b,n⟩:=p;obtain ⟨l1,l2⟩:=YJ ho;have ho2:gG (c::(r++[125]))=some (b,n):=by rw[zu];exact ho
    rw[List.cons_append,z27 hc ho2,z27 hc ho,←List.cons_append,List.drop_append_of_le_length l2,yA k ((c::r).drop n) (by rw[List.length_drop];simp only[List.length_cons]at *;omega),Option.map_map,Option.map_map];rfl
theorem Zw:∀(k:Nat) (x v r:List UInt8),x.length<=k->fG x=some (v,r)->r.length<x.length
 |k,[],v,r,_,h=>by rw[nK]at h;cases h
 |0,c::y,v,r,h,_=>by simp at h
 |k+1,c::y,v,r,hk,h=>by
  by_cases hc:c.toNat=34
  ·rw[z28 _ hc]at h
   injection h with h;injection h with _ h;subst h;simp
  ·cases ho:gG (c::y) with
   |none=>rw[YE hc ho]at h;cases h
   |some p=>
    obtain ⟨b,n⟩:=p;obtain ⟨l1,l2⟩:=YJ ho;rw[z27 hc ho]at h;cases hv:fG ((c::y).drop n) with
    |none=>rw[hv]at h;cases h
    |some q=>
     rw[hv]at h;obtain ⟨v',r'⟩:=q;injection h with h;injection h with _ h;simp only at h;subst h;have:=Zw k _ _ _ (by rw[List.length_drop];simp only[List.length_cons]at *;omega) hv;rw[List.length_drop]at this;omega
def jc:List UInt8->Option (List UInt8)
 |a::b::y=>if a.toNat=61/\b.toNat=34 then some y else none
 |_=>none
def iY:List UInt8->Option Nat
 |[]=>none
 |a::r=>if (jc (a::r)).isSome then some 0 else (iY r).map (· +1)
def lV (c:UInt8):Bool:=eu c.toNat 1
def dZ (l:List UInt8):ByteArray:=⟨l.toArray⟩
def comma:List UInt8->Option (List UInt8)
 |[]=>none
 |c::r=>if c.toNat=44 then some r else none
def iK:Nat->List UInt8->List dL->Option (List dL)
 |0,_,_=>none
 |f+1,x,out=>if x=[] then (if aZ out=true then some out else none) else
  match (if out=[] then some x else comma x) with
  |none=>none
  |some y=>match iY y with
   |none=>none
   |some n=>if 4<out.length then none else match fG (y.drop (n+2)) with
    |none=>none
    |some (v,r)=>iK f r (out++[⟨dZ (y.take n),dZ v⟩])
def EO (x:List UInt8) (out:List dL):Option (List dL):=if x=[125]/\aZ out=true then some out else none
def Sr:Nat->List UInt8->List dL->Option (List dL)
 |0,_,_=>none
 |f+1,x,out=>if 5<=out.length then EO x out else
  match jc (x.drop (x.takeWhile lV).length) with
  |none=>none
  |some y=>match fG y with
   |none=>none
   |some (v,r)=>match r with
    |[]=>none
    |c::r'=>if c.toNat=44 then Sr f r' (out++[⟨dZ (x.takeWhile lV),dZ v⟩]) else EO r (out++[⟨dZ (x.takeWhile lV),dZ v⟩])
theorem z21 (a b:UInt8) (y:List UInt8):jc (a::b::y)=if a.toNat=61/\b.toNat=34 then some y else none:=rfl
theorem uN {x y:List UInt8} (h:jc x=some y):∃a b,x=a::b::y/\a.toNat=61/\b.toNat=34:=by
 unfold jc at h;split at h
 ·next a b z=>
  split at h
  ·next hh=>
   injection h with h;subst h;exact ⟨a,b,rfl,hh.1,hh.2⟩
  ·cases h
 ·cases h
theorem wZ:∀{x:List UInt8} {n:Nat},iY x=some n->∃y,jc (x.drop n)=some y/\y=x.drop (n+2)/\n+2<=x.length
 |[],n,h=>by cases h
 |a::r,n,h=>by
  unfold iY at h;split at h
  ·next hs=>
   injection h with h;subst h;obtain ⟨y,hy⟩:=Option.isSome_iff_exists.1 hs;obtain ⟨a',b',e,_,_⟩:=uN hy;refine ⟨y,hy,?_,?_⟩
   ·rw[e];rfl
   ·rw[e];simp
  ·obtain ⟨m,hm,e⟩:=Option.map_eq_some_iff.1 h
   subst e;obtain ⟨y,h1,h2,h3⟩:=wZ hm;exact ⟨y,h1,h2,by simp only[List.length_cons];omega⟩
theorem uG:∀{x:List UInt8} {n j:Nat},iY x=some n->(jc (x.drop j)).isSome=true->n<=j
 |[],n,j,h,_=>by cases h
 |a::r,n,0,h,h2=>by
  unfold iY at h;rw[List.drop_zero]at h2;rw[if_pos h2]at h;injection h with h;omega
 |a::r,n,j+1,h,h2=>by
  unfold iY at h;split at h
  ·injection h with h
   omega
  ·obtain ⟨m,hm,e⟩:=Option.map_eq_some_iff.1 h
   subst e;have:=uG hm (j:=j) (by simpa using h2);omega
theorem zS:∀{x:List UInt8} (j:Nat),iY x=none->jc (x.drop j)=none
 |[],j,_=>by rw[List.drop_nil];rfl
 |a::r,0,h=>by
  unfold iY at h;split at h
  ·cases h
  ·next hs=>
   rw[List.drop_zero];simpa using hs
 |a::r,j+1,h=>by
  unfold iY at h;split at h
  ·cases h
  ·exact zS (x:=r) j (by simpa using h)
theorem TP {x:List UInt8}:jc (x++[125])=(jc x).map (· ++[125]):=by
 match x with
 |[]=>rfl
 |[a]=>
  show jc [a,125]=none
  rw[z21,if_neg (by intro h;exact absurd h.2 (by decide))]
 |a::b::y=>
  show jc (a::b::(y++[125]))=_
  rw[z21,z21];split<;>rfl
theorem Dh (x:List UInt8):(x++[125]).takeWhile lV=x.takeWhile lV:=by
 induction x with
 |nil=>decide
 |cons a r ih=>
  rw[List.cons_append,List.takeWhile_cons,List.takeWhile_cons,ih]
theorem SQ {c i:Nat} (h:eu c i=true):eu c 1=true:=by
 unfold eu at *;simp only[Bool.or_eq_true,Bool.and_eq_true,decide_eq_true_eq]at *;rcases h with h|h
 ·exact .inl h
 ·exact .inr ⟨by decide,h.2⟩
theorem BN {l:List UInt8} {c:UInt8} (hc:c∈l) (h:lV c=false):dw (dZ l)=false:=by
 cases hn:dw (dZ l) with
 |false=>rfl
 |true=>
  exfalso
  unfold dw at hn;rw[Bool.and_eq_true,List.all_eq_true]at hn;obtain ⟨i,hi⟩:=List.mem_iff_getElem?.1 hc;have hil:i<l.length:=(List.getElem?_eq_some_iff.1 hi).1;have h2:=hn.2 i (List.mem_range.2 (by show i<l.toArray.size;simpa using hil))
  have e:jI (dZ l) i=c.toNat:=by
   unfold jI dZ;simp[hi]
  rw[e]at h2;have h3:=SQ h2;unfold lV at h;rw[h]at h3;cases h3
theorem KX {out:List dL} {x:dL} (hx:x∈out) (h:dw x.name=false):aZ out=false:=by
 obtain ⟨i,hi,rfl⟩:=List.mem_iff_getElem.1 hx;unfold aZ;rw[Bool.and_eq_false_iff];right
 rw[List.all_eq_false];refine ⟨i,List.mem_range.2 hi,?_⟩;unfold jU eF;rw[List.getD_eq_getElem?_getD,List.getElem?_eq_getElem hi,Option.getD_some,h];simp
theorem pG {out:List dL} (h:4<out.length):aZ out=false:=by
 unfold aZ;rw[decide_eq_false (by omega)];rfl
theorem Gw:∀(f:Nat) (x:List UInt8) (out:List dL),(∃z∈out,dw z.name=false)->iK f x out=none
 |0,_,_,_=>rfl
 |f+1,x,out,⟨z,hz,hn⟩=>by
  unfold iK;split
  ·rw[KX hz hn]
   rfl
  ·split
   ·rfl
   ·split
    ·rfl
    ·split
     ·rfl
     ·split
      ·rfl
      ·exact Gw f _ _ ⟨z,List.mem_append_left _ hz,hn⟩
theorem Du {l:List UInt8} {n:Nat} (h:∀c∈l.take n,lV c=true) (h2:∀c,l[n]?=some c->lV c=false) (hn:n<=l.length):l.takeWhile lV=l.take n:=by
 induction n generalizing l with
 |zero=>
  cases l with
  |nil=>rfl
  |cons a l=>
   rw[List.takeWhile_cons,if_neg (by rw[h2 a rfl];decide)];rfl
 |succ n ih=>
  cases l with
  |nil=>simp at hn
  |cons a l=>
   rw[List.takeWhile_cons,if_pos (h a (by simp)),List.take_succ_cons];congr 1
   exact ih (fun c hc=>h c (by rw[List.take_succ_cons];exact List.mem_cons_of_mem _ hc)) (fun c hc=>h2 c (by simpa using hc)) (by simpa using hn)
def iW (f:Nat) (y:List UInt8) (out:List dL):Option (List dL):=match iY y with
 |none=>none
 |some n=>if 4<out.length then none else match fG (y.drop (n+2)) with
  |none=>none
  |some (v,r)=>iK f r (out++[⟨dZ (y.take n),dZ v⟩])
theorem YK (f:Nat) {x:List UInt8} (out:List dL) (hx:x≠[]):iK (f+1) x out=match (if out=[] then some x else comma x) with
 |none=>none
 |some y=>iW f y out:=by
 conv=>lhs;unfold iK
 rw[if_neg hx];rfl
theorem both:∀(k:Nat) (f g:Nat) (y:List UInt8) (out:List dL),y.length<=k->y.length<f->y.length+1<g->iW f y out=Sr g (y++[125]) out:=by
 intro k;induction k with
 |zero=>
  intro f g y out hk hf hg;obtain ⟨g,rfl⟩:∃g',g=g'+1:=⟨g-1,by omega⟩;have:y=[]:=List.eq_nil_of_length_eq_zero (by omega);subst this;show none=_
  unfold Sr;split
  ·next h=>
   unfold EO;rw[if_neg (by rw[pG (by omega)];simp)]
  ·rfl
 |succ k ih=>
  intro f g y out hk hf hg;obtain ⟨g,rfl⟩:∃g',g=g'+1:=⟨g-1,by omega⟩;unfold iW Sr;by_cases h5:5<=out.length
  ·rw[if_pos h5]
   unfold EO;rw[if_neg (by rw[pG (by omega)];simp)];split
   ·rfl
   ·rw[if_pos (by omega)]
  ·rw[if_neg h5,Dh,List.drop_append_of_le_length ((List.takeWhile_prefix _).length_le),TP]
   cases hi:iY y with
   |none=>rw[zS _ hi];rfl
   |some n=>
    obtain ⟨z,e1,e2,e3⟩:=wZ hi;simp only;rw[if_neg (by omega)];by_cases hall:∀c∈y.take n,lV c=true
    ·have hw:y.takeWhile lV=y.take n:=by
      refine Du hall (fun c hc=>?_) (by omega);obtain ⟨a,b,e,ha,_⟩:=uN e1;have h0:(y.drop n)[0]?=some a:=by rw[e];rfl
      rw[List.getElem?_drop,Nat.add_zero,hc]at h0;injection h0 with h0;subst h0;unfold lV;rw[ha];decide
     rw[hw,List.length_take,Nat.min_eq_left (by omega),e1];simp only[Option.map_some];rw[←e2,yA _ _ (Nat.le_refl _)];cases hv:fG z with
     |none=>rfl
     |some p=>
      obtain ⟨v,r⟩:=p;have hl:=Zw _ _ _ _ (Nat.le_refl _) hv;have hzl:z.length+(n+2)=y.length:=by rw[e2,List.length_drop];omega
      simp only[Option.map_some];obtain ⟨f,rfl⟩:∃f',f=f'+1:=⟨f-1,by omega⟩;cases r with
      |nil=>
       show iK (f+1) [] _=EO [125] _
       unfold iK EO;rw[if_pos rfl];simp
      |cons c r=>
       rw[YK f _ (by simp),if_neg (by simp)];simp only[List.cons_append];have ec:comma (c::r)=if c.toNat=44 then some r else none:=rfl
       rw[ec];by_cases hc:c.toNat=44
       ·rw[if_pos hc,if_pos hc]
        simp only[List.length_cons]at hl;exact ih f g r _ (by omega) (by omega) (by omega)
       ·rw[if_neg hc,if_neg hc]
        unfold EO;rw[if_neg (by intro h;have:=congrArg List.length h.1;simp at this)]
    ·obtain ⟨c,hc,hcl⟩:∃c∈y.take n,lV c=false:=by
      apply Classical.byContradiction
      intro hne
      exact hall fun c hc=>by
       cases h:lV c with
       |true=>rfl
       |false=>exact absurd ⟨c,hc,h⟩ hne
     have hwn:(y.takeWhile lV).length<n:=by
      rcases Nat.lt_or_ge (y.takeWhile lV).length n with h|h
      ·exact h
      ·exfalso
       have hp:y.take n=(y.takeWhile lV).take n:=by
        conv=>lhs;rw[←List.takeWhile_append_dropWhile (p:=lV) (l:=y)]
        rw[List.take_append_of_le_length h]
       rw[hp]at hc;have:=List.all_eq_true.1 (List.all_takeWhile (p:=lV) (l:=y)) c (List.mem_of_mem_take hc);rw[hcl]at this;cases this
     have hno:jc (y.drop (y.takeWhile lV).length)=none:=by
      cases he:jc (y.drop (y.takeWhile lV).length) with
      |none=>rfl
      |some q=>have:=uG hi (j:=(y.takeWhile lV).length) (by rw[he];rfl);omega
     rw[hno];simp only[Option.map_none];split
     ·rfl
     ·next v r hv=>exact Gw f r _ ⟨⟨dZ (y.take n),dZ v⟩,List.mem_append_right _ (List.mem_singleton.2 rfl),BN hc hcl⟩
def jC (s:List UInt8):Option (List dL):=
 if 2<=s.length/\s[0]?=some 123/\s[s.length-1]?=some 125 then iK (s.length+1) ((s.drop 1).take (s.length-2)) [] else none
end Ps
def aj (n:Nat):List Nat:=if h:n<128 then [n] else (128+n % 128)::aj (n / 128)
termination_by n
decreasing_by omega
theorem Va {n:Nat} (h:n<128):aj n=[n]:=by rw[aj,dif_pos h]
theorem ZG {n:Nat} (h:128<=n):aj n=(128+n % 128)::aj (n / 128):=by rw[aj,dif_neg (by omega)]
theorem SB:∀(f n:Nat),n<128 ^ (f+1)->okB (aj n):=by
 intro f;induction f with
 |zero=>
  intro n h x hx;rw[Va (by simpa using h)]at hx;simp at hx;omega
 |succ f ih=>
  intro n h x hx;by_cases hn:n<128
  ·rw[Va hn]at hx
   simp at hx;omega
  ·rw[ZG (by omega)]at hx
   rcases List.mem_cons.1 hx with h1|h1
   ·omega
   ·refine ih (n / 128) (Nat.div_lt_of_lt_mul ?_) x h1
    rw[Nat.pow_succ,Nat.mul_comm]at h;exact h
theorem jJ {n:Nat} (h:n<18446744073709551616):okB (aj n):=SB 9 n (Nat.lt_of_lt_of_le h (by decide))
theorem zk:∀(f n:Nat),n<128 ^ (f+1)->1<=(aj n).length/\(aj n).length<=f+1:=by
 intro f;induction f with
 |zero=>intro n h;rw[Va (by simpa using h)];simp
 |succ f ih=>
  intro n h;by_cases hn:n<128
  ·rw[Va hn];simp
  ·rw[ZG (by omega),List.length_cons]
   have:=ih (n / 128) (Nat.div_lt_of_lt_mul (by rw[Nat.pow_succ,Nat.mul_comm]at h;exact h));omega
theorem z04 {n:Nat} (h:n<18446744073709551616):1<=(aj n).length/\(aj n).length<=10:=zk 9 n (Nat.lt_of_lt_of_le h (by decide))
def kN:List Nat->Nat->Nat->Nat×Nat×Int
 |[],_,_=>(0,0,3)
 |x::xs,i,n=>
  if (i=9/\1<x)∨(x=0/\0<i) then (0,0,4)
  else if x<128 then (n+x * 2 ^ (7 * i),i+1,0)
  else kN xs (i+1) (n+(x % 128) * 2 ^ (7 * i))
def aS (b:List Nat) (at_:Int):Nat×Nat×Int:=if at_<0∨(b.length:Int)<=at_ then (0,0,3) else kN (b.drop at_.toNat) 0 0
theorem z3P:∀(l:List Nat) (i n:Nat),(kN l i n).2.2=0∨((kN l i n).1=0/\(kN l i n).2.1=0/\((kN l i n).2.2=3∨(kN l i n).2.2=4)):=by
 intro l;induction l with
 |nil=>intro i n;simp[kN]
 |cons x l ih=>
  intro i n;simp only[kN];split
  ·simp
  ·split
   ·simp
   ·exact ih _ _
theorem wL:∀(l:List Nat) (i n:Nat),(kN l i n).2.2=0->i<(kN l i n).2.1/\(kN l i n).2.1<=i+l.length:=by
 intro l;induction l with
 |nil=>intro i n h;simp[kN]at h
 |cons x l ih=>
  intro i n;simp only[kN,List.length_cons];split
  ·intro h;simp at h
  ·split
   ·intro h;simp only;omega
   ·intro h
    have:=ih _ _ h;omega
theorem WG (i:Nat):2 ^ (7 * (i+1))=128 * 2 ^ (7 * i):=by rw[show 7 * (i+1)=7 * i+7 by omega,Nat.pow_add];omega
theorem z4H:∀(l:List Nat) (i n:Nat),okB l->i<=9->n<2 ^ (7 * i)->(kN l i n).1<18446744073709551616:=by
 intro l;induction l with
 |nil=>intro i n _ _ _;simp[kN]
 |cons x l ih=>
  intro i n ok hi hn;have hx:=ok x (by simp);simp only[kN];by_cases h1:(i=9/\1<x)∨(x=0/\0<i)
  ·rw[if_pos h1];simp
  ·rw[if_neg h1]
   by_cases h2:x<128
   ·rw[if_pos h2]
    simp only;by_cases h9:i=9
    ·subst h9
     have hx1:x<=1:=(by omega);have:x * 2 ^ (7 * 9)<=1 * 2 ^ (7 * 9):=Nat.mul_le_mul_right _ hx1;have e:(2:Nat) ^ (7 * 9)=9223372036854775808:=(by decide);omega
    ·have h3:x * 2 ^ (7 * i)<=127 * 2 ^ (7 * i):=Nat.mul_le_mul_right _ (by omega)
     have h4:2 ^ (7 * i)<=2 ^ 56:=Nat.pow_le_pow_right (by decide) (by omega);have e:(2:Nat) ^ 56=72057594037927936:=(by decide);omega
   ·rw[if_neg h2]
    have h9:i≠9:=by rintro rfl;exact h1 (.inl ⟨rfl,by omega⟩)
    have hm:x % 128<128:=Nat.mod_lt _ (by decide);refine ih (i+1) _ (fun y hy=>ok y (by simp[hy])) (by omega) ?_;have h3:(x % 128) * 2 ^ (7 * i)<=127 * 2 ^ (7 * i):=Nat.mul_le_mul_right _ (by omega);rw[WG];omega
theorem wK:∀(f v i n:Nat) (rest:List Nat),f+i=9->v<128 ^ f * 2->(0<i->0<v)->kN (aj v++rest) i n=(n+v * 2 ^ (7 * i),i+(aj v).length,0):=by
 intro f;induction f with
 |zero=>
  intro v i n rest hi hv h0;rw[Va (by omega)];simp only[List.cons_append,List.nil_append,kN];have hi9:i=9:=(by omega);rw[if_neg (by omega),if_pos (by omega)];rfl
 |succ f ih=>
  intro v i n rest hi hv h0;by_cases h:v<128
  ·rw[Va h]
   simp only[List.cons_append,List.nil_append,kN];rw[if_neg (by omega),if_pos h];rfl
  ·rw[ZG (by omega)]
   simp only[List.cons_append,kN];rw[if_neg (by omega),if_neg (by omega)];rw[Nat.pow_succ]at hv;rw[ih (v / 128) (i+1) _ rest (by omega) (Nat.div_lt_of_lt_mul (by rw[←Nat.mul_assoc,Nat.mul_comm 128];omega)) (fun _=>by omega)];rw[List.length_cons,WG,show (128+v % 128) % 128=v % 128 by omega]
   have e:v % 128 * 2 ^ (7 * i)+v / 128 * (128 * 2 ^ (7 * i))=v * 2 ^ (7 * i):=by
    rw[←Nat.mul_assoc,←Nat.add_mul];congr 1
    omega
   rw[Nat.add_assoc,e,show i+1+(aj (v / 128)).length=i+((aj (v / 128)).length+1) by omega]
theorem z4F {v:Nat} (hv:v<18446744073709551616) (pre rest:List Nat):aS (pre++aj v++rest) (pre.length:Int)=(v,(aj v).length,0):=by
 have hl:=z04 hv;unfold aS;rw[if_neg (by simp only[List.length_append];omega),Int.toNat_natCast,List.append_assoc,List.drop_left,wK 9 v 0 0 rest (by omega) (by omega) (by omega)];simp
/-! ### signed ones -/
def zig (x:Int):Nat:=if 0<=x then (2 * x).toNat else (-2 * x-1).toNat
def zag (u:Nat):Int:=if u % 2=1 then -((u / 2:Nat):Int)-1 else ((u / 2:Nat):Int)
theorem vH (x:Int):zag (zig x)=x:=by
 unfold zag zig;split<;>split<;>omega
theorem VK {x:Int} (h0: -9223372036854775808<=x) (h1:x<=9223372036854775807):zig x<18446744073709551616:=by
 unfold zig;split<;>omega
section
variable {α : Type} {lt : α → α → Bool}
end
section
variable {α : Type} {lt : α → α → Bool}
end
section
variable {α : Type} {lt : α → α → Bool}
end
section
variable {α : Type} {lt : α → α → Bool}
end
end Go.Proofs.YtpakjclpjcngmaaGreat
