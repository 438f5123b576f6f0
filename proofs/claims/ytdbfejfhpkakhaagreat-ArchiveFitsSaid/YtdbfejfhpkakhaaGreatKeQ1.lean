/- Contracts and plain laws that the last text rests on. Conditions: each theorem states its own. -/
import Derived.Test.YtdbfejfhpkakhaaGreatRows
import Derived.WalkKit
import Derived.WalkSpells
import Derived.WalkLawsBesides
import Derived.Below
import Derived.Laws.OwnMore
import Derived.Maps.AppendAt
import Derived.Deep.AppendLies
import Derived.Deep.Draws
import Derived.Laws.Rows
import Derived.Lib.Hide
set_option maxRecDepth 100000
set_option linter.unusedVariables false
namespace Go.Proofs.YtdbfejfhpkakhaaGreat
open Go.RowKit
structure Ch (S:Nat->Prop) (w w':World):Prop where
 os:w'.os=w.os
 tape:w'.tape=w.tape
 output:w'.output=w.output
 size:w.heap.size<=w'.heap.size
 block:∀k,k<w.heap.size->¬S k->w'.heap[k]?=w.heap[k]?
abbrev Nx (w w':World):Prop:=Ch (fun _=>False) w w'
namespace Ch
variable {S T : Nat → Prop} {a b c w w' : World}
theorem refl (S:Nat->Prop) (w:World):Ch S w w:=⟨rfl,rfl,rfl,Nat.le_refl _,fun _ _ _=>rfl⟩
theorem trans (h:Ch S a b) (k:Ch T b c) (hT:∀i,i<a.heap.size->T i->S i):Ch S a c:=
 ⟨k.os.trans h.os,k.tape.trans h.tape,k.output.trans h.output,Nat.le_trans h.size k.size,
   fun i hi hn=>(k.block i (Nat.lt_of_lt_of_le hi h.size) (fun ht=>hn (hT i hi ht))).trans (h.block i hi hn)⟩
theorem tr (h:Ch S a b) (k:Nx b c):Ch S a c:=h.trans k (fun _ _ hf=>hf.elim)
theorem mono (h:Ch S w w') (hS:∀i,i<w.heap.size->S i->T i):Ch T w w':=
 ⟨h.os,h.tape,h.output,h.size,fun i hi hn=>h.block i hi (fun hs=>hn (hS i hi hs))⟩
theorem drew (h:Ch S a w):Ch S a w.drew:=⟨h.os,h.tape,h.output,h.size,h.block⟩
theorem drewN (h:Ch S a w) (n:Nat):Ch S a (w.drewN n):=⟨h.os,h.tape,h.output,h.size,h.block⟩
theorem alloc (h:Ch S a w) (o:Obj):Ch S a (w.alloc o):=
 ⟨h.os,h.tape,h.output,Nat.le_trans h.size (by simp),fun k hk hn=>(Below.heap_alloc w o k (Nat.lt_of_lt_of_le hk h.size)).trans (h.block k hk hn)⟩
theorem setCell (h:Ch S a w) {p:Addr} (hp:p.block<a.heap.size->S p.block) (u:Value):Ch S a (w.setCell p u):=
 ⟨h.os,h.tape,h.output,by simpa [World.setCell]using h.size,fun k hk hn=>
   (Below.heap_setCell w p u k (fun e=>hn (by rw[e]at hk ⊢;exact hp hk))).trans (h.block k hk hn)⟩
theorem grown (h:Ch S a w) {row:Option Nat} (hg:w.grownBy w' row) (hr:∀k,row=some k->k<a.heap.size->S k):Ch S a w':=
 ⟨hg.os.trans h.os,hg.tape.trans h.tape,hg.output.trans h.output,Nat.le_trans h.size hg.size,fun k hk hn=>
   (hg.block k (Nat.lt_of_lt_of_le hk h.size) (fun e=>hn (hr k e.symm hk))).trans (h.block k hk hn)⟩
theorem below (h:Ch S w w') {B:Nat} (hB:∀i,i<B->i<w.heap.size/\¬S i):Below B w w':=
 ⟨h.os,h.tape,h.output,h.size,fun k hk=>h.block k (hB k hk).1 (hB k hk).2⟩
theorem of_below {B:Nat} (h:Below B w w'):Ch (fun k=>B<=k) w w':=⟨h.os,h.tape,h.output,h.size,fun k _ hn=>h.block k (by omega)⟩
theorem nx (h:Ch S w w') (hS:∀i,i<w.heap.size->¬S i):Nx w w':=h.mono fun i hi hs=>(hS i hi hs).elim
theorem cell (h:Ch S w w') {p:Addr} (hp:p.block<w.heap.size) (hn:¬S p.block):w'.cell? p=w.cell? p:=World.cell?_of_block (h.block p.block hp hn)
end Ch
theorem Nx.below {w w':World} (h:Nx w w'):Below w.heap.size w w':=Ch.below h fun _ hi=>⟨hi,fun hf=>hf⟩
theorem Nx.cell {w w':World} (h:Nx w w') {p:Addr} (hp:p.block<w.heap.size):w'.cell? p=w.cell? p:=Ch.cell h hp fun hf=>hf
theorem Nx.block_ {w w':World} (h:Nx w w') {k:Nat} (hk:k<w.heap.size):w'.heap[k]?=w.heap[k]?:=h.block k hk fun hf=>hf
theorem yA (a:Addr) (n:Nat):(a.add n).block=a.block:=by unfold Addr.add;split<;>rfl
theorem nR (a:Addr) (i j:Nat):(a.add i).add j=a.add (i+j):=by
 unfold Addr.add;by_cases hi:i=0<;>by_cases hj:j=0<;>simp[hi,hj,Nat.add_assoc]
def Rd (w:World) (D:Nat->Prop) (size:Nat) (A:Option Addr) (n:Nat) (xs:List Value):Prop:=
 xs.length=n * size/\(0<n->∃ad,A=some ad/\D ad.block/\∀j u,xs[j]?=some u->w.cell? (ad.add j)=some u)
section
variable {w w' : World} {D D' : Nat → Prop} {size n : Nat} {A : Option Addr} {xs : List Value}
theorem Rd.none_ (w:World) (D:Nat->Prop) (size:Nat) (A:Option Addr):Rd w D size A 0 []:=⟨by simp,fun h=>absurd h (by omega)⟩
theorem Rd.at_ {k:Nat} (h:Rd w D 1 A n xs) (hk:k<n):∃ad u,A=some ad/\D ad.block/\xs[k]?=some u/\w.cell? (ad.add k)=some u:=by
 obtain ⟨ad,e,hb,hc⟩:=h.2 (by omega);have hl:k<xs.length:=by have:=h.1;omega
 exact ⟨ad,xs[k],e,hb,List.getElem?_eq_getElem hl,hc k _ (List.getElem?_eq_getElem hl)⟩
theorem Rd.keep (h:Rd w D size A n xs) (hk:∀k,D k->w'.heap[k]?=w.heap[k]?):Rd w' D size A n xs:=
 ⟨h.1,fun hn=>by
   obtain ⟨ad,e,hb,hc⟩:=h.2 hn;exact ⟨ad,e,hb,fun j u hu=>(World.cell?_of_block (hk _ (by rw[yA];exact hb))).trans (hc j u hu)⟩⟩
theorem Rd.more (h:Rd w D size A n xs) (hD:∀k,D k->D' k):Rd w D' size A n xs:=
 ⟨h.1,fun hn=>by
   obtain ⟨ad,e,hb,hc⟩:=h.2 hn;exact ⟨ad,e,hD _ hb,hc⟩⟩
theorem Rd.YC (h:Rd w D size A n xs) (hs:0<size):0<n->∃ad,A=some ad/\D ad.block/\ad.block<w.heap.size:=fun hn=>by
 obtain ⟨ad,e,hb,hc⟩:=h.2 hn;have hl:0<xs.length:=by rw[h.1];exact Nat.mul_pos hn hs
 have:=World.block_lt_of_cell? w _ (hc 0 _ (List.getElem?_eq_getElem hl));rw[yA]at this;exact ⟨ad,e,hb,this⟩
theorem Rd.ch {S:Nat->Prop} (h:Rd w D size A n xs) (hs:0<size) (hc:Ch S w w') (hS:∀k,k<w.heap.size->D k->¬S k):Rd w' D size A n xs:=
 ⟨h.1,fun hn=>by
   obtain ⟨ad,e,hb,hc'⟩:=h.2 hn;obtain ⟨ad',e',_,hlt⟩:=h.YC hs hn;rw[e]at e';injection e' with e';subst e';refine ⟨ad,e,hb,fun j u hu=>(World.cell?_of_block (hc.block _ (by rw[yA];exact hlt) ?_)).trans (hc' j u hu)⟩;rw[yA];exact hS _ hlt hb⟩
theorem Rd.nx (h:Rd w D size A n xs) (hs:0<size) (hc:Nx w w'):Rd w' D size A n xs:=h.ch hs hc fun _ _ _ hf=>hf
theorem Rd.drewN (h:Rd w D size A n xs) (k:Nat):Rd (w.drewN k) D size A n xs:=h
theorem Rd.cut (h:Rd w D size A n xs) {k cap:Nat} (hk:k<=n) (hc:n<=cap):
 Rd w D size (if cap=k then A else A.map (·.add (k * size))) (n-k) (xs.drop (k * size)):=by
 refine ⟨by rw[List.length_drop,h.1,Nat.sub_mul],fun hn=>?_⟩;obtain ⟨ad,rfl,hb,hcell⟩:=h.2 (by omega);rw[if_neg (by omega)];refine ⟨ad.add (k * size),rfl,by rw[yA];exact hb,fun j u hu=>?_⟩;rw[nR];exact hcell _ u (by rw[←hu,List.getElem?_drop])
theorem Rd.take (h:Rd w D size A n xs) {k:Nat} (hk:k<=n):Rd w D size A k (xs.take (k * size)):=by
 refine ⟨by rw[List.length_take,h.1];exact Nat.min_eq_left (Nat.mul_le_mul_right _ hk),fun hn=>?_⟩;obtain ⟨ad,rfl,hb,hcell⟩:=h.2 (by omega)
 exact ⟨ad,rfl,hb,fun j u hu=>hcell j u (by
  rw[List.getElem?_take]at hu;split at hu
  ·exact hu
  ·cases hu)⟩
theorem Rd.dG {base:Nat} {e:TypeId} {c:Nat} (h:w.ownsRow base e size (.slice A n c) n xs):Rd w (fun k=>(Value.slice A n c).ownBlock=some k/\base<=k/\k<w.heap.size) size A n xs:=by
 refine ⟨h.1,fun hn=>?_⟩;obtain ⟨g,cap,hv,hb,hlt⟩:=h.form hn;have hA:A=some ⟨g,0,none⟩:=by injection hv
 subst hA;exact ⟨_,rfl,⟨rfl,hb,hlt⟩,h.cells (g:=g) rfl⟩
end
def aG (w:World) (g:Nat) (t:TypeId) (cs:Array Value):Prop:=w.heap[g]?=some (.cells cs t (0,0))
section
variable {w w' : World} {g : Nat} {t : TypeId} {cs : Array Value}
theorem aG.lt (h:aG w g t cs):g<w.heap.size:=by
 rcases Nat.lt_or_ge g w.heap.size with hlt|hge
 ·exact hlt
 ·unfold aG at h;rw[Array.getElem?_eq_none hge]at h;cases h
theorem aG.cell (h:aG w g t cs) (i:Nat):w.cell? ⟨g,i,none⟩=cs[i]?:=cell_of_row w g i cs t (0,0) h
theorem aG.frozen (h:aG w g t cs) (i:Nat):w.frozen? ⟨g,i,none⟩=false:=by
 unfold aG at h;simp[World.frozen?,h]
theorem aG.new (w:World) (t:TypeId) (cs:Array Value):aG (w.alloc (.cells cs t)) w.heap.size t cs:=heap_alloc_new w _
theorem aG.drew (h:aG w g t cs):aG w.drew g t cs:=h
theorem aG.alloc (h:aG w g t cs) (o:Obj):aG (w.alloc o) g t cs:=(Below.heap_alloc w o g h.lt).trans h
theorem aG.aS (h:aG w g t cs) (i:Nat) (u:Value):aG (w.setCell ⟨g,i,none⟩ u) g t (cs.setIfInBounds i u):=by
 unfold aG at h ⊢;simp[World.setCell,Array.getElem?_modify,h]
theorem aG.far (h:aG w g t cs) {p:Addr} (hp:g≠p.block) (u:Value):aG (w.setCell p u) g t cs:=(Below.heap_setCell w p u g hp).trans h
theorem aG.ch {S:Nat->Prop} (h:aG w g t cs) (hc:Ch S w w') (hS:¬S g):aG w' g t cs:=(hc.block g h.lt hS).trans h
theorem aG.nx (h:aG w g t cs) (hc:Nx w w'):aG w' g t cs:=h.ch hc fun hf=>hf
theorem aG.grown {row:Option Nat} (h:aG w g t cs) (hb:w.grownBy w' row) (hg:some g≠row):aG w' g t cs:=(hb.block g h.lt hg).trans h
theorem aG.Gq {g':Nat} {t':TypeId} {cs':Array Value} (h:aG w g t cs) (h':aG w g' t' cs') (hne:t≠t'):g≠g':=by
 rintro rfl;unfold aG at h h';rw[h]at h';injection h' with h';injection h' with _ ht;exact hne ht
theorem z06 {base:Nat} {e:TypeId} {size n:Nat} {v:Value} {xs:List Value} (h:w.ownsRow base e size v n xs) (hg:aG w g t cs) (hne:e≠t):v.ownBlock≠some g:=by
 rcases h.2 with ⟨rfl,_⟩|⟨g',cap,cur,rfl,_,hh,_⟩
 ·simp[Value.ownBlock]
 ·intro he
  have:g'=g:=by simpa [Value.ownBlock]using he
  subst this;exact aG.Gq (t:=e) hh hg hne rfl
theorem dY {base:Nat} {e:TypeId} {size n:Nat} {v:Value} {xs:List Value} {S:Nat->Prop} (h:w.ownsRow base e size v n xs) (hc:Ch S w w') (hS:∀k,v.ownBlock=some k->¬S k):w'.ownsRow base e size v n xs:=by
 obtain ⟨h1,h2⟩:=h;refine ⟨h1,?_⟩;rcases h2 with h2|⟨g',cap,cur,rfl,hb,hh,r⟩
 ·exact .inl h2
 ·exact .inr ⟨g',cap,cur,rfl,hb,(hc.block g' (Array.getElem?_eq_some_iff.1 hh).1 (hS g' rfl)).trans hh,r⟩
theorem uw {base base':Nat} {e:TypeId} {size n:Nat} {v:Value} {xs:List Value} (h:w.ownsRow base e size v n xs) (hb:base'<=base):w.ownsRow base' e size v n xs:=by
 obtain ⟨h1,h2⟩:=h;refine ⟨h1,?_⟩;rcases h2 with h2|⟨g',cap,cur,rfl,hb',r⟩
 ·exact .inl h2
 ·exact .inr ⟨g',cap,cur,rfl,by omega,r⟩
theorem iJ {base:Nat} {e:TypeId} {size n:Nat} {v:Value} {xs:List Value} (h:w.ownsRow base e size v n xs):∃A c,v=.slice A n c/\n<=c/\c<=maxLen:=by
 rcases h.2 with ⟨rfl,rfl⟩|⟨g',cap,cur,rfl,_,_,h1,h2,_⟩
 ·exact ⟨_,_,rfl,by omega,by simp[maxLen]⟩
 ·exact ⟨_,_,rfl,h1,h2⟩
theorem z2i (w:World) (base e size:Nat) (cs:Array Value) (n:Nat) (hb:base<=w.heap.size) (hm:n<=maxLen) (hs:cs.size=n * size):
 (w.alloc (.cells cs e)).ownsRow base e size (.slice (some ⟨w.heap.size,0,none⟩) n n) n cs.toList:=World.ownsRow_lit w cs n hb hm hs
end
section
variable {P : Program} (w : World)
theorem z2x (base:Nat) (t ty e:TypeId) (i:TypeInfo) (size:Nat) (ht:P.underlying t=some (.slice e)) (hi:P.info? e=some i)
 (v:Value) (n:Nat) (xs:List Value) (hown:w.ownsRow base e size v n xs) (c:Nat):(Builtin.append_ #[t,t] ty #[v,.slice none 0 c]).run P w=.ok v w:=by
 rcases hown.2 with ⟨rfl,rfl⟩|⟨g,cap,cur,rfl,_,_,hnc,_⟩
 ·simp[Builtin.append_,run_underlying ht,sizeOf,typeInfo,hi,Builtin.lenOf,Builtin.firstCells]
 ·simp[Builtin.append_,run_underlying ht,sizeOf,typeInfo,hi,Builtin.lenOf,Builtin.firstCells,hnc,storeCells]
theorem lF (base:Nat) (t ty e:TypeId) (i:TypeInfo) (z:Value) (size bytes:Nat) (ht:P.underlying t=some (.slice e)) (hi:P.info? e=some i) (hz:i.zero=some z)
 (hsize:i.size=size) (hby:i.bytes=bytes) (hzs:z.cells.size=size) (hsz:0<size)
 (v:Value) (n:Nat) (xs:List Value) (hown:w.ownsRow base e size v n xs)
 (D:Nat->Prop) (A:Option Addr) (m c:Nat) (news:List Value) (hr:Rd w D size A m news) (h1:∀u∈news,u.oneCell'=true)
 (h63:n+m<=maxLen) (hbytes:(n+m) * bytes<=140737488355328) (hbase:base<=w.heap.size):
 ∃v' w',(Builtin.append_ #[t,t] ty #[v,.slice A m c]).run P w=.ok v' w'/\w'.ownsRow base e size v' (n+m) (xs++news)/\w.grownBy w' v.ownBlock/\
  (v'.ownBlock=v.ownBlock∨v'.ownBlock=some w.heap.size):=by
 rcases A with _|ad
 ·have hm:m=0:=by
   rcases Nat.eq_zero_or_pos m with h0|h0
   ·exact h0
   ·obtain ⟨ad,h,_⟩:=hr.2 h0
    cases h
  subst hm;have hn:news=[]:=List.eq_nil_of_length_eq_zero (by simpa using hr.1);subst hn;exact ⟨v,w,z2x w base t ty e i size ht hi v n xs hown c,by simpa using hown,World.grownBy.refl w _,.inl rfl⟩
 ·have hcells:∀j u,news[j]?=some u->w.cell? (ad.add j)=some u:=by
   intro j u hu;rcases Nat.eq_zero_or_pos m with h0|h0
   ·subst h0
    have hn:news=[]:=List.eq_nil_of_length_eq_zero (by simpa using hr.1);subst hn;simp at hu
   ·obtain ⟨ad',h,_,hc⟩:=hr.2 h0
    injection h with h;subst h;exact hc j u hu
  obtain ⟨v',w',hrun,h2,h3,_,h5⟩:=run_append_own_at (P:=P) w base t ty e i z size bytes ht hi hz hsize hby hzs hsz v n xs hown ad m c news hr.1 hcells h1 h63 hbytes hbase;exact ⟨v',w',hrun,h2,h3,h5⟩
theorem z2e {o:Oper} {a:Act} {K:Act->World->Prop} {Q:Exit->Act->World->Prop} (s x:Operand) (t:TypeId)
 (ho:o.op=.call { callee:=.builtin .append,args:= #[s,x],argTypes:= #[t,t]})
 (base:Nat) (e:TypeId) (i:TypeInfo) (z:Value) (size bytes:Nat) (ht:P.underlying t=some (.slice e)) (hi:P.info? e=some i) (hz:i.zero=some z)
 (hsize:i.size=size) (hby:i.bytes=bytes) (hzs:z.cells.size=size) (hsz:0<size)
 (v:Value) (n:Nat) (xs:List Value) (hs:a.eval s=v) (hown:w.ownsRow base e size v n xs)
 (D:Nat->Prop) (A:Option Addr) (m c:Nat) (news:List Value) (hx:a.eval x=.slice A m c) (hr:Rd w D size A m news) (h1:∀u∈news,u.oneCell'=true)
 (h63:n+m<=maxLen) (hbytes:(n+m) * bytes<=140737488355328) (hbase:base<=w.heap.size)
 (h:∀v' w',w'.ownsRow base e size v' (n+m) (xs++news)->w.grownBy w' v.ownBlock->(v'.ownBlock=v.ownBlock∨v'.ownBlock=some w.heap.size)->K (a.put o.dst v') w'):o.wp P a w K Q:=by
 obtain ⟨v',w',hrun,h2,h3,h4⟩:=lF (P:=P) w base t o.type e i z size bytes ht hi hz hsize hby hzs hsz v n xs hown D A m c news hr h1 h63 hbytes hbase;unfold Oper.wp execOp;simp only[ho,resolve,invoke,builtin,Sem.run_bind,Sem.run_pure,Result.andThen_ok,List.map_toArray,List.map_cons,List.map_nil,hs,hx,hrun];exact h v' w' h2 h3 h4
theorem z04 {ops:Array Oper} {rest:List Oper} {o:Oper} {a:Act} {Q:Exit->Act->World->Prop} (hgd:o.guard=none) (s x:Operand) (t:TypeId)
 (ho:o.op=.call { callee:=.builtin .append,args:= #[s,x],argTypes:= #[t,t]})
 (base:Nat) (e:TypeId) (i:TypeInfo) (z:Value) (size bytes:Nat) (ht:P.underlying t=some (.slice e)) (hi:P.info? e=some i) (hz:i.zero=some z)
 (hsize:i.size=size) (hby:i.bytes=bytes) (hzs:z.cells.size=size) (hsz:0<size)
 (v:Value) (n:Nat) (xs:List Value) (hs:a.eval s=v) (hown:w.ownsRow base e size v n xs)
 (D:Nat->Prop) (A:Option Addr) (m c:Nat) (news:List Value) (hx:a.eval x=.slice A m c) (hr:Rd w D size A m news) (h1:∀u∈news,u.oneCell'=true)
 (h63:n+m<=maxLen) (hbytes:(n+m) * bytes<=140737488355328) (hbase:base<=w.heap.size)
 (h:∀v' w',w'.ownsRow base e size v' (n+m) (xs++news)->w.grownBy w' v.ownBlock->(v'.ownBlock=v.ownBlock∨v'.ownBlock=some w.heap.size)->wpList P ops Q rest (a.put o.dst v') w'):wpList P ops Q (o::rest) a w:=
 wpList_plain hgd fun _ hK=>z2e w s x t ho base e i z size bytes ht hi hz hsize hby hzs hsz v n xs hs hown D A m c news hx hr h1 h63 hbytes hbase fun v' w' h2 h3 h4=>hK _ _ (h v' w' h2 h3 h4)
theorem OM {ops:Array Oper} {o:Oper} {a:Act} {K:Act->World->Prop} {Q:Exit->Act->World->Prop} {E:Prop} (hgd:o.guard=none) (s x:Operand) (t:TypeId)
 (ho:o.op=.call { callee:=.builtin .append,args:= #[s,x],argTypes:= #[t,t]})
 (base:Nat) (e:TypeId) (i:TypeInfo) (z:Value) (size bytes:Nat) (ht:P.underlying t=some (.slice e)) (hi:P.info? e=some i) (hz:i.zero=some z)
 (hsize:i.size=size) (hby:i.bytes=bytes) (hzs:z.cells.size=size) (hsz:0<size)
 (v:Value) (n:Nat) (xs:List Value) (hs:a.eval s=v) (hown:w.ownsRow base e size v n xs)
 (D:Nat->Prop) (A:Option Addr) (m c:Nat) (news:List Value) (hx:a.eval x=.slice A m c) (hr:Rd w D size A m news) (h1:∀u∈news,u.oneCell'=true)
 (h63:n+m<=maxLen) (hbytes:(n+m) * bytes<=140737488355328) (hbase:base<=w.heap.size)
 (h:∀v' w',w'.ownsRow base e size v' (n+m) (xs++news)->w.grownBy w' v.ownBlock->(v'.ownBlock=v.ownBlock∨v'.ownBlock=some w.heap.size)->K (a.put o.dst v') w'):
 if Region.wanted o (yielded ops a.tmps)=true then Oper.wp P o a w K Q else E:=by
 have hw:Region.wanted o (yielded ops a.tmps)=true:=by simp[Region.wanted,hgd]
 rw[if_pos hw];exact z2e w s x t ho base e i z size bytes ht hi hz hsize hby hzs hsz v n xs hs hown D A m c news hx hr h1 h63 hbytes hbase h
end
def Dr (w w':World):Prop:=∃n,w'=w.drewN n
theorem Dr.sQ (w:World) (n:Nat):Dr w (w.drewN n):=⟨n,rfl⟩
theorem Dr.nx {w w':World} (h:Dr w w'):Nx w w':=by
 obtain ⟨n,rfl⟩:=h;exact (Ch.refl _ w).drewN n
theorem Md {k:IntKind} {a b:Int} (h:a=b):Ending.returned (.int k a)=.returned (.int k b):=by rw[h]
theorem ah {p:Prop} (h:p):Hid p:=Lib.hid h
theorem aB {α:Type} {l:List α} {i:Nat} {a:α}:l.toArray.setIfInBounds i a=(l.set i a).toArray:=by simp
theorem ay {α:Type} {x a:α} {xs:List α}:(x::xs).set 0 a=a::xs:=rfl
theorem aA {α:Type} {x a:α} {xs:List α} {n:Nat}:(x::xs).set (n+1) a=x::xs.set n a:=rfl
end Go.Proofs.YtdbfejfhpkakhaaGreat
namespace Go.Proofs.YtdbfejfhpkakhaaGreat
structure Tg (α:Type) where
 row:α
 tag:Nat
structure Weak {α:Type} (lt:α->α->Bool):Prop where
 asym:∀x y,lt x y=true->lt y x=false
 trans:∀x y z,lt x y=true->lt y z=true->lt x z=true
 neg:∀x y z,lt y x=false->lt z y=false->lt z x=false
def Rt {α:Type} (lt:α->α->Bool) (x y:Tg α):Prop:=lt x.row y.row=true∨(lt y.row x.row=false/\x.tag<y.tag)
section
variable {α : Type} {lt : α → α → Bool}
theorem Rt.trans (w:Weak lt) {x y z:Tg α} (h:Rt lt x y) (k:Rt lt y z):Rt lt x z:=by
 have mix:∀{a b c:α},lt a b=true->lt c b=false->lt a c=true:=fun {a b c} h1 h2=>by
  cases hac:lt a c with
  |true=>rfl
  |false=>
   have:=w.neg c a b |> fun f=>(w.neg b c a h2 hac)
   rw[h1]at this;cases this
 have mix2:∀{a b c:α},lt b a=false->lt b c=true->lt a c=true:=fun {a b c} h1 h2=>by
  cases hac:lt a c with
  |true=>rfl
  |false=>
   have:=w.neg c a b hac h1;rw[h2]at this;cases this
 rcases h with h|⟨h,ht⟩
 ·rcases k with k|⟨k,kt⟩
  ·exact .inl (w.trans _ _ _ h k)
  ·exact .inl (mix h k)
 ·rcases k with k|⟨k,kt⟩
  ·exact .inl (mix2 h k)
  ·exact .inr ⟨w.neg _ _ _ h k,Nat.lt_trans ht kt⟩
theorem Rt.Ua (w:Weak lt) {x:Tg α} (h:Rt lt x x):False:=by
 rcases h with h|⟨_,h⟩
 ·have:=w.asym _ _ h
  rw[h]at this;cases this
 ·omega
theorem Rt.lV (w:Weak lt) {x y:Tg α} (ht:x.tag<y.tag) (h:lt y.row x.row=false):Rt lt x y:=.inr ⟨h,ht⟩
theorem Rt.oJ (w:Weak lt):∀{a b:List (Tg α)},a.Perm b->a.Pairwise (Rt lt)->b.Pairwise (Rt lt)->a=b:=by
 intro a;induction a with
 |nil=>intro b h _ _;exact (List.Perm.nil_eq h)
 |cons x a ih=>
  intro b h ha hb;cases b with
  |nil=>exact absurd h.length_eq (by simp)
  |cons y b=>
   have ha1:=List.pairwise_cons.1 ha;have hb1:=List.pairwise_cons.1 hb
   have hxy:x=y:=by
    have hx:x∈y::b:=h.subset (List.mem_cons_self);have hy:y∈x::a:=h.symm.subset (List.mem_cons_self);rcases List.mem_cons.1 hx with e|hx
    ·exact e
    ·rcases List.mem_cons.1 hy with e|hy
     ·exact e.symm
     ·exact (Rt.Ua w ((ha1.1 y hy).trans w (hb1.1 x hx))).elim
   subst hxy;rw[ih (List.Perm.cons_inv h) ha1.2 hb1.2]
theorem halves {A1 A2 B1 B2 C1 C2:List (Tg α)} (h1:C1.Perm (A1++B1)) (h2:C2.Perm (A2++B2)) (s1:C1.Pairwise (Rt lt)) (s2:C2.Pairwise (Rt lt)) (ha:∀x∈A1++B1,∀y∈A2++B2,Rt lt x y):
 (C1++C2).Perm ((A1++A2)++(B1++B2))/\(C1++C2).Pairwise (Rt lt):=by
 refine ⟨?_,List.pairwise_append.2 ⟨s1,s2,fun x hx y hy=>ha x (h1.subset hx) y (h2.subset hy)⟩⟩;refine (h1.append h2).trans ?_;rw[List.append_assoc,List.append_assoc];refine List.Perm.append_left A1 ?_;rw[←List.append_assoc,←List.append_assoc];exact List.Perm.append_right B2 List.perm_append_comm
theorem Ec (w:Weak lt) {A1 A2 B1 B2:List (Tg α)} (sA:(A1++A2).Pairwise (Rt lt)) (sB:(B1++B2).Pairwise (Rt lt))
 (h1:∀(hA:A1≠[]) (hB:B2≠[]),Rt lt (A1.getLast hA) (B2.head hB)) (h2:∀(hB:B1≠[]) (hA:A2≠[]),Rt lt (B1.getLast hB) (A2.head hA)):∀x∈A1++B1,∀y∈A2++B2,Rt lt x y:=by
 have cross:∀{L M:List (Tg α)},L.Pairwise (Rt lt)->M.Pairwise (Rt lt)->(∀(hL:L≠[]) (hM:M≠[]),Rt lt (L.getLast hL) (M.head hM))->∀x∈L,∀y∈M,Rt lt x y:=by
  intro L M sL sM h x hx y hy;have hL:L≠[]:=List.ne_nil_of_mem hx;have hM:M≠[]:=List.ne_nil_of_mem hy
  have e1:x=L.getLast hL∨Rt lt x (L.getLast hL):=by
   rw[←List.dropLast_concat_getLast hL]at sL hx;rw[List.mem_append]at hx;rcases hx with hx|hx
   ·right
    exact (List.pairwise_append.1 sL).2.2 x hx _ (List.mem_singleton.2 rfl)
   ·left
    exact List.mem_singleton.1 hx
  have e2:y=M.head hM∨Rt lt (M.head hM) y:=by
   cases M with
   |nil=>exact absurd rfl hM
   |cons m M=>
    rcases List.mem_cons.1 hy with e|hy
    ·exact .inl e
    ·exact .inr ((List.pairwise_cons.1 sM).1 y hy)
  have hm:=h hL hM;rcases e1 with e1|e1
  ·rw[e1]
   rcases e2 with e2|e2
   ·rw[e2];exact hm
   ·exact hm.trans w e2
  ·rcases e2 with e2|e2
   ·rw[e2];exact e1.trans w hm
   ·exact (e1.trans w hm).trans w e2
 have pA:=List.pairwise_append.1 sA;have pB:=List.pairwise_append.1 sB;intro x hx y hy;rw[List.mem_append]at hx hy;rcases hx with hx|hx
 ·rcases hy with hy|hy
  ·exact pA.2.2 x hx y hy
  ·exact cross pA.1 pB.2.1 h1 x hx y hy
 ·rcases hy with hy|hy
  ·exact cross pB.1 pA.2.1 h2 x hx y hy
  ·exact pB.2.2 x hx y hy
theorem Yv (w:Weak lt) {L M:List (Tg α)} {x:Tg α} (s:(L++M).Pairwise (Rt lt)) (h1:∀y∈L,Rt lt y x) (h2:∀y∈M,Rt lt x y):(L++[x]++M).Pairwise (Rt lt):=by
 have p:=List.pairwise_append.1 s;rw[List.append_assoc,List.pairwise_append];refine ⟨p.1,?_,fun a ha b hb=>?_⟩
 ·rw[List.singleton_append,List.pairwise_cons]
  exact ⟨h2,p.2.1⟩
 ·rw[List.singleton_append]at hb
  rcases List.mem_cons.1 hb with rfl|hb
  ·exact h1 a ha
  ·exact p.2.2 a ha b hb
end
def fJ {α:Type} (l:List α) (i j:Nat):List α:=match l[i]?,l[j]? with
 |some x,some y=>(l.set i y).set j x
 |_,_=>l
theorem Xi {α:Type} {l:List α} {i j:Nat} (hi:i<l.length) (hj:j<l.length):fJ l i j=(l.set i l[j]).set j l[i]:=by
 unfold fJ;rw[List.getElem?_eq_getElem hi,List.getElem?_eq_getElem hj]
theorem pY {α:Type} (l:List α) (i j:Nat):(fJ l i j).length=l.length:=by
 unfold fJ;split<;>simp
theorem z34 {α β:Type} (f:α->β) (l:List α) (i j:Nat):(fJ l i j).map f=fJ (l.map f) i j:=by
 unfold fJ;rw[List.getElem?_map,List.getElem?_map];cases l[i]? with
 |none=>rfl
 |some x=>
  cases l[j]? with
  |none=>rfl
  |some y=>simp[List.map_set]
theorem yT {α:Type} (P S:List α) (x y:α):fJ (P++[x,y]++S) P.length (P.length+1)=P++[y,x]++S:=by
 rw[Xi (by simp) (by simp)];simp
theorem kS {α:Type} (P S:List α) (x y:α):fJ (P++[x,y]++S) (P.length+1) P.length=P++[y,x]++S:=by
 rw[Xi (by simp) (by simp)];simp
def nZ {α:Type} (l:List α) (i j:Nat):Nat->List α
 |0=>l
 |n+1=>fJ (nZ l i j n) (i+n) (j+n)
theorem Us {α:Type} (l:List α) (i j n:Nat):(nZ l i j n).length=l.length:=by
 induction n with
 |zero=>rfl
 |succ n ih=>rw[nZ,pY,ih]
theorem yS {α:Type} (l:List α) (i j n k:Nat) (h:i+n<=j) (hj:j+n<=l.length):(nZ l i j n)[k]?=if i<=k/\k<i+n then l[j+(k-i)]? else if j<=k/\k<j+n then l[i+(k-j)]? else l[k]?:=by
 induction n generalizing k with
 |zero=>
  rw[if_neg (by omega),if_neg (by omega)];rfl
 |succ n ih=>
  have hi1:i+n<(nZ l i j n).length:=by rw[Us];omega
  have hj1:j+n<(nZ l i j n).length:=by rw[Us];omega
  have g1:(nZ l i j n)[i+n]?=l[i+n]?:=(by rw[ih (i+n) (by omega) (by omega),if_neg (by omega),if_neg (by omega)]);have g2:(nZ l i j n)[j+n]?=l[j+n]?:=(by rw[ih (j+n) (by omega) (by omega),if_neg (by omega),if_neg (by omega)]);rw[nZ,Xi hi1 hj1,List.getElem?_set,List.getElem?_set];by_cases e1:j+n=k
  ·subst e1
   rw[if_pos rfl,if_pos (by rw[List.length_set];exact hj1),if_neg (by omega),if_pos (by omega),←List.getElem?_eq_getElem hi1,g1];congr 1
   omega
  ·rw[if_neg e1]
   by_cases e2:i+n=k
   ·subst e2
    rw[if_pos rfl,if_pos hi1,if_pos (by omega),←List.getElem?_eq_getElem hj1,g2];congr 1
    omega
   ·rw[if_neg e2,ih k (by omega) (by omega)]
    by_cases c1:i<=k/\k<i+n
    ·rw[if_pos c1,if_pos (show i<=k/\k<i+(n+1) by omega)]
    ·rw[if_neg c1,if_neg (show ¬(i<=k/\k<i+(n+1)) by omega)]
     by_cases c2:j<=k/\k<j+n
     ·rw[if_pos c2,if_pos (show j<=k/\k<j+(n+1) by omega)]
     ·rw[if_neg c2,if_neg (show ¬(j<=k/\k<j+(n+1)) by omega)]
theorem Yt {α:Type} (P X Y Z S:List α) (h:X.length=Z.length):nZ (P++X++Y++Z++S) P.length (P.length+X.length+Y.length) X.length=P++Z++Y++X++S:=by
 apply List.ext_getElem?
 intro k;rw[yS _ _ _ _ _ (by omega) (by simp;omega)];simp only[List.getElem?_append,List.length_append]
 repeat' split
 all_goals first
  |rfl
  |(exfalso;omega)
  |(congr 1;omega)
def rotL {α:Type} (l:List α) (a m b:Nat):List α:=l.take a++(l.drop m).take (b-m)++(l.drop a).take (m-a)++l.drop b
theorem TB {α:Type} (P A B S:List α):rotL (P++A++B++S) P.length (P.length+A.length) (P.length+A.length+B.length)=P++B++A++S:=by
 unfold rotL;have e1:(P++A++B++S).take P.length=P:=by simp[List.append_assoc]
 have e2:(P++A++B++S).drop (P.length+A.length)=B++S:=by
  rw[←List.length_append,List.append_assoc,List.drop_left]
 have e3:(P++A++B++S).drop P.length=A++(B++S):=by simp[List.append_assoc]
 have e4:(P++A++B++S).drop (P.length+A.length+B.length)=S:=by
  rw[←List.length_append,←List.length_append,List.drop_left]
 rw[e1,e2,e3,e4,Nat.add_sub_cancel_left,Nat.add_sub_cancel_left,List.take_left,List.take_left]
theorem zn {α:Type} (l:List α) (a i j:Nat) (h:a+i+j<=l.length):∃P A B S:List α,l=P++A++B++S/\P.length=a/\A.length=i/\B.length=j:=
 ⟨l.take a,(l.drop a).take i,(l.drop (a+i)).take j,l.drop (a+i+j),by
   have e1:=List.take_append_drop a l;have e2:=List.take_append_drop i (l.drop a);have e3:=List.take_append_drop j (l.drop (a+i));rw[List.drop_drop]at e2 e3;rw[List.append_assoc,List.append_assoc,e3,e2,e1],by simp;omega,by simp;omega,by simp;omega⟩
theorem Ij {α:Type} (l:List α) {m i j:Nat} (hij:j<i) (hm:i<=m) (h:m+j<=l.length):rotL (nZ l (m-i) m j) (m-i+j) m (m+j)=rotL l (m-i) m (m+j):=by
 obtain ⟨P,A,Z,S,rfl,hP,hA,hZ⟩:=zn l (m-i) i j (by omega);obtain ⟨X,Y,rfl,hX,hY⟩:∃X Y:List α,A=X++Y/\X.length=j/\Y.length=i-j:=⟨A.take j,A.drop j,(List.take_append_drop j A).symm,by simp;omega,by simp;omega⟩;have e1:=Yt P X Y Z S (by omega);have e2:=TB (P++Z) Y X S;have e3:=TB P (X++Y) Z S;rw[List.length_append]at e2 hA;rw[List.length_append]at e3;rw[show m-i=P.length by omega,show nZ (P++(X++Y)++Z++S) P.length m j=P++Z++Y++X++S by rw[←e1];simp only[List.append_assoc];congr 1<;>omega];rw[show P.length+j=P.length+Z.length by omega,show m=P.length+Z.length+Y.length by omega,show P.length+Z.length+Y.length+j=P.length+Z.length+Y.length+X.length by omega,e2];rw[show P.length+Z.length+Y.length=P.length+(X.length+Y.length) by omega,show P.length+(X.length+Y.length)+X.length=P.length+(X.length+Y.length)+Z.length by omega,e3];simp only[List.append_assoc]
theorem Ei {α:Type} (l:List α) {m i j:Nat} (hij:i<j) (hm:i<=m) (h:m+j<=l.length):rotL (nZ l (m-i) (m+j-i) i) (m-i) m (m+(j-i))=rotL l (m-i) m (m+j):=by
 obtain ⟨P,X,B,S,rfl,hP,hX,hB⟩:=zn l (m-i) i j (by omega);obtain ⟨Y,Z,rfl,hY,hZ⟩:∃Y Z:List α,B=Y++Z/\Y.length=j-i/\Z.length=i:=⟨B.take (j-i),B.drop (j-i),(List.take_append_drop (j-i) B).symm,by simp;omega,by simp;omega⟩;have e1:=Yt P X Y Z S (by omega);have e2:=TB P Z Y (X++S);have e3:=TB P X (Y++Z) S;rw[List.length_append]at e3 hB
 rw[show m-i=P.length by omega,show nZ (P++X++(Y++Z)++S) P.length (m+j-i) i=P++Z++Y++(X++S) by
  rw[←List.append_assoc (P++Z++Y),←e1];simp only[List.append_assoc];congr 1<;>omega]
 rw[show m=P.length+Z.length by omega,show P.length+Z.length+(j-i)=P.length+Z.length+Y.length by omega,e2];rw[show P.length+Z.length=P.length+X.length by omega,show P.length+X.length+j=P.length+X.length+(Y.length+Z.length) by omega,e3];simp only[List.append_assoc]
theorem Ik {α:Type} (l:List α) {m i:Nat} (hm:i<=m) (h:m+i<=l.length):nZ l (m-i) m i=rotL l (m-i) m (m+i):=by
 obtain ⟨P,X,Z,S,rfl,hP,hX,hZ⟩:=zn l (m-i) i i (by omega);have e1:=Yt P X [] Z S (by omega);have e3:=TB P X Z S;simp only[List.append_nil,List.length_nil,Nat.add_zero]at e1;rw[show m-i=P.length by omega,show m=P.length+X.length by omega,show nZ (P++X++Z++S) P.length (P.length+X.length) i=P++Z++X++S by rw[←e1];congr 1;omega,show P.length+X.length+i=P.length+X.length+Z.length by omega,e3]
end Go.Proofs.YtdbfejfhpkakhaaGreat
