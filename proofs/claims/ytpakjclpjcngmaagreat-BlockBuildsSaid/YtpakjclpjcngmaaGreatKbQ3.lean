/- Contracts and plain laws that the last text rests on. Conditions: each theorem states its own. -/
import Derived.Test.YtpakjclpjcngmaaGreatKbQ2
import Derived.Deep.QuietTactic
import Derived.BigQuiet
import Derived.Laws.BitsAllLaws
set_option maxRecDepth 100000
set_option maxHeartbeats 1000000
set_option linter.unusedVariables false
namespace Go.Proofs.YtpakjclpjcngmaaGreat
open Go.RowKit
structure ak (W w:World) (e:TypeId) (size:Nat) (v:Value) (n:Nat) (xs:List Value):Prop where
 own:w.ownsRow W.heap.size e size v n xs
 nx:Nx W w
structure Moved (w w':World) (v v':Value):Prop where
 ch:Ch (fun k=>v.ownBlock=some k) w w'
 at_:v'.ownBlock=v.ownBlock∨∃k,v'.ownBlock=some k/\w.heap.size<=k
section
variable {W w w' : World} {e : TypeId} {size n : Nat} {v v' : Value} {xs : List Value}
theorem ak.ch {S:Nat->Prop} (h:ak W w e size v n xs) (c:Ch S w w') (hv:∀k,v.ownBlock=some k->¬S k) (hS:∀i,i<W.heap.size->¬S i):ak W w' e size v n xs:=
 ⟨iq h.own c hv,h.nx.trans c fun i hi hs=>(hS i hi hs).elim⟩
theorem ak.tr (h:ak W w e size v n xs) (c:Nx w w'):ak W w' e size v n xs:=h.ch c (fun _ _ hf=>hf) (fun _ _ hf=>hf)
theorem ak.drewN (h:ak W w e size v n xs) (k:Nat):ak W (w.drewN k) e size v n xs:=h.tr ((Ch.refl _ w).drewN k)
theorem ak.alloc (h:ak W w e size v n xs) (o:Obj):ak W (w.alloc o) e size v n xs:=h.tr ((Ch.refl _ w).alloc o)
theorem ak.nil (W w:World) (e:TypeId) (size:Nat) (c:Nx W w):ak W w e size (.slice none 0 0) 0 []:=⟨World.ownsRow_nil _ _ _ _,c⟩
theorem ak.lit (W w:World) (e:TypeId) (c:Nx W w) (size:Nat):ak W (w.alloc (.cells #[] e)) e size (.slice (some ⟨w.heap.size,0,none⟩) 0 0) 0 []:=
 ⟨World.ownsRow_made w #[] 0 c.size (by simp[maxLen]) (by simp),c.alloc _⟩
theorem ak.form (h:ak W w e size v n xs):∃A c,v=.slice A n c/\n<=c/\c<=maxLen:=z08 h.own
theorem ak.lt (h:ak W w e size v n xs):∀k,v.ownBlock=some k->W.heap.size<=k/\k<w.heap.size:=h.own.lt
theorem ak.rd {A:Option Addr} {c:Nat} (h:ak W w e size (.slice A n c) n xs):Rd w (fun k=>(Value.slice A n c).ownBlock=some k/\W.heap.size<=k/\k<w.heap.size) size A n xs:=Rd.fH h.own
end
section
variable {P : Program}
theorem QJ {W w:World} {e:TypeId} {size n m:Nat} {v v':Value} {xs news:List Value} {w1 w2:World} (h:ak W w e size v n xs) (c:Nx w w1)
 (h2:w2.ownsRow W.heap.size e size v' (n+m) (xs++news)) (h3:w1.grownBy w2 v.ownBlock) (h4:v'.ownBlock=v.ownBlock∨v'.ownBlock=some w1.heap.size):
 ak W w2 e size v' (n+m) (xs++news)/\Moved w w2 v v':=by
 have hc:Ch (fun k=>v.ownBlock=some k) w w2:=(c.mono (fun _ _ hf=>hf.elim)).grown h3 fun k hk _=>hk;refine ⟨⟨h2,h.nx.trans hc fun i hi hk=>?_⟩,hc,?_⟩
 ·have:=h.lt i hk;omega
 ·rcases h4 with e|e
  ·exact .inl e
  ·exact .inr ⟨_,e,c.size⟩
theorem z06 {ops:Array Oper} {rest:List Oper} {o:Oper} {a:Act} {Q:Exit->Act->World->Prop} (hgd:o.guard=none) (s x:Operand) (t:TypeId)
 (ho:o.op=.call { callee:=.builtin .append,args:= #[s,x],argTypes:= #[t,t]})
 (e:TypeId) (i:TypeInfo) (z:Value) (bytes:Nat) (ht:P.underlying t=some (.slice e)) (hi:P.info? e=some i) (hz:i.zero=some z)
 (hsize:i.size=1) (hby:i.bytes=bytes) (hzs:z.cells.size=1)
 {W w:World} {v:Value} {n:Nat} {xs:List Value} (u:Value) (hu:u.oneCell'=true) (hs:a.eval s=v) (hown:ak W w e 1 v n xs)
 (hx:a.eval x=.slice (some ⟨w.heap.size,0,none⟩) 1 1)
 (h63:n+1<=maxLen) (hbytes:(n+1) * bytes<=140737488355328)
 (h:∀v' w',ak W w' e 1 v' (n+1) (xs++[u])->Moved w w' v v'->wpList P ops Q rest (a.put o.dst v') w'):wpList P ops Q (o::rest) a (w.alloc (.cells #[u] e)):=
 z07 (w.alloc (.cells #[u] e)) hgd s x t ho W.heap.size e i z 1 bytes ht hi hz hsize hby hzs (by omega) v n xs hs (hown.alloc _).own (fun _=>True) _ 1 1 [u] hx
  ⟨rfl,fun _=>⟨⟨w.heap.size,0,none⟩,rfl,trivial,cell_one_new _ _ _⟩⟩ (by simpa using hu) h63 hbytes (Nat.le_trans hown.nx.size (by simp))
  fun v' w' h2 h3 h4=>h v' w' (QJ hown ((Ch.refl _ w).alloc _) h2 h3 h4).1 (QJ hown ((Ch.refl _ w).alloc _) h2 h3 h4).2
theorem z05 {ops:Array Oper} {rest:List Oper} {o:Oper} {a:Act} {Q:Exit->Act->World->Prop} (hgd:o.guard=none) (s x:Operand) (t:TypeId)
 (ho:o.op=.call { callee:=.builtin .append,args:= #[s,x],argTypes:= #[t,t]})
 (e:TypeId) (i:TypeInfo) (z:Value) (size bytes:Nat) (ht:P.underlying t=some (.slice e)) (hi:P.info? e=some i) (hz:i.zero=some z)
 (hsize:i.size=size) (hby:i.bytes=bytes) (hzs:z.cells.size=size) (hsz:0<size)
 {W w:World} {v:Value} {n:Nat} {xs:List Value} (hs:a.eval s=v) (hown:ak W w e size v n xs)
 (D:Nat->Prop) (A:Option Addr) (m c:Nat) (news:List Value) (hx:a.eval x=.slice A m c) (hr:Rd w D size A m news) (h1:∀u∈news,u.oneCell'=true)
 (h63:n+m<=maxLen) (hbytes:(n+m) * bytes<=140737488355328)
 (h:∀v' w',ak W w' e size v' (n+m) (xs++news)->Moved w w' v v'->wpList P ops Q rest (a.put o.dst v') w'):wpList P ops Q (o::rest) a w:=
 z07 w hgd s x t ho W.heap.size e i z size bytes ht hi hz hsize hby hzs hsz v n xs hs hown.own D A m c news hx hr h1 h63 hbytes hown.nx.size
  fun v' w' h2 h3 h4=>h v' w' (QJ hown (Ch.refl _ w) h2 h3 h4).1 (QJ hown (Ch.refl _ w) h2 h3 h4).2
def Gives (W:World) (e:TypeId) (size n:Nat) (xs:List Value) (en:Ending) (w':World):Prop:=∃v,en=.returned v/\ak W w' e size v n xs
def gQ (W:World) (e:TypeId) (size n:Nat) (xs:List Value) (en:Ending) (w':World):Prop:=
 ∃k cap,en=.returned (.slice (some ⟨k,0,none⟩) n cap)/\ak W w' e size (.slice (some ⟨k,0,none⟩) n cap) n xs/\W.heap.size<=k/\k<w'.heap.size/\n<=cap/\cap<=maxLen
theorem gQ.rJ {W w:World} {e:TypeId} {size n:Nat} {v:Value} {xs:List Value} (h:ak W w e size v n xs) (hb:v.ownBlock≠none):gQ W e size n xs (.returned v) w:=by
 obtain ⟨k,hk⟩:∃k,v.ownBlock=some k:=by cases hv:v.ownBlock with|none=>exact absurd hv hb|some k=>exact ⟨k,rfl⟩
 obtain ⟨cap,rfl,h1,h2⟩:=z2m h.own hk;exact ⟨k,cap,rfl,h,(h.lt k hk).1,(h.lt k hk).2,h1,h2⟩
theorem Moved.some_ {w w':World} {v v':Value} (m:Moved w w' v v') (h:v.ownBlock≠none):v'.ownBlock≠none:=by
 rcases m.at_ with e|⟨k,e,_⟩
 ·rw[e];exact h
 ·rw[e];simp
theorem ak.iy {W w:World} {e:TypeId} {size n k c:Nat} {xs:List Value} (h:ak W w e size (.slice (some ⟨k,0,none⟩) n c) n xs):Rd w (· =k) size (some ⟨k,0,none⟩) n xs:=
 h.rd.more fun j ⟨hj,_⟩=>by simpa [Value.ownBlock]using hj.symm
theorem z19 {f:FuncId} {args:Array Value} {w:World} {n:Nat} {v:Value}
 (h:Calls P f args (w.drewN n) fun e w'=>e=.returned v/\w.drewN n=w'):Calls P f args (w.drewN n) fun e w''=>e=.returned v/\∃m,w''=w.drewN m:=
 h.mono fun _ _ ⟨he,hm⟩=>⟨he,n,hm.symm⟩
end
theorem Moved.refl (w:World) (v:Value):Moved w w v v:=⟨Ch.refl _ _,.inl rfl⟩
theorem Moved.nx {w w1 w2:World} {v v1:Value} (m:Moved w w1 v v1) (n:Nx w1 w2):Moved w w2 v v1:=⟨m.ch.trans n (fun _ _ hf=>hf.elim),m.at_⟩
theorem Moved.tr {w w1 w2:World} {v v1 v2:Value} (m:Moved w w1 v v1) (n:Moved w1 w2 v1 v2):Moved w w2 v v2:=by
 refine ⟨m.ch.trans n.ch fun i hi hs=>?_,?_⟩
 ·rcases m.at_ with e|⟨k,e,hk⟩
  ·rw[←e];exact hs
  ·rw[e]at hs
   injection hs with hs;omega
 ·rcases n.at_ with e|⟨k,e,hk⟩
  ·rw[e];exact m.at_
  ·exact .inr ⟨k,e,Nat.le_trans m.ch.size hk⟩
theorem Moved.pre {w w1 w2:World} {v v2:Value} (n:Nx w w1) (m:Moved w1 w2 v v2):Moved w w2 v v2:=(Moved.nx (Moved.refl w v) n).tr m
section
variable {α β : Type} {f : α → List β} {s : Nat}
theorem YG (hs:∀x,(f x).length=s):∀l:List α,(l.flatMap f).length=l.length * s
 |[]=>by simp
 |x::l=>by
  rw[List.flatMap_cons,List.length_append,hs,YG hs l,List.length_cons,Nat.succ_mul];omega
theorem Vd (hs:∀x,(f x).length=s):∀{l:List α} {k i:Nat} (hk:k<l.length) (hi:i<s),(l.flatMap f)[k * s+i]?=(f l[k])[i]?
 |[],k,i,hk,hi=>absurd hk (by simp)
 |x::l,0,i,hk,hi=>by
  rw[List.flatMap_cons,Nat.zero_mul,Nat.zero_add,List.getElem?_append_left (by rw[hs];exact hi)];rfl
 |x::l,k+1,i,hk,hi=>by
  have hx:=hs x;rw[List.flatMap_cons,List.getElem?_append_right (by rw[hx,Nat.succ_mul];omega),hx,show (k+1) * s+i-s=k * s+i by rw[Nat.succ_mul];omega,Vd hs (by simpa using hk) hi];rfl
theorem JZ (hs:∀x,(f x).length=s) (l:List α) (k:Nat):(l.flatMap f).take (k * s)=(l.take k).flatMap f:=by
 induction l generalizing k with
 |nil=>simp
 |cons x l ih=>
  cases k with
  |zero=>simp
  |succ k=>
   rw[List.flatMap_cons,List.take_succ_cons,List.flatMap_cons,←ih k,Nat.succ_mul,Nat.add_comm,←hs x,List.take_length_add_append]
theorem J_ (hs:∀x,(f x).length=s) (l:List α) (k:Nat):(l.flatMap f).drop (k * s)=(l.drop k).flatMap f:=by
 induction l generalizing k with
 |nil=>simp
 |cons x l ih=>
  cases k with
  |zero=>simp
  |succ k=>
   rw[List.flatMap_cons,List.drop_succ_cons,←ih k,Nat.succ_mul,Nat.add_comm,←hs x,List.drop_length_add_append]
end
theorem FT {w:World} {ad:Addr} {a:Nat} (i:Nat) {v:Value} (h:w.cell? (ad.add (a+(i+1)))=some v):w.cell? ⟨(ad.add a).block,(ad.add a).off+(i+1),none⟩=some v:=by
 rw[←qI]at h;exact h
theorem z4I {α:Type} {f:α->List Value} {s:Nat} (hs:∀x,(f x).length=s) (hs0:0<s) {W:World} {a:Addr} {n:Nat} {good:α->Prop} (key:∀i,i<n->∃p,good p/\∀j u,j<s->(f p)[j]?=some u->W.cell? (a.add (i * s+j))=some u):
 ∃l:List α,l.length=n/\(∀p∈l,good p)/\Rd W (· <W.heap.size) s (some a) n (l.flatMap f):=by
 have H:∀m,m<=n->∃l:List α,l.length=m/\(∀p∈l,good p)/\∀i (h:i<l.length) j u,j<s->(f l[i])[j]?=some u->W.cell? (a.add (i * s+j))=some u:=by
  intro m;induction m with
  |zero=>intro _;exact ⟨[],rfl,by simp,fun i h=>absurd h (by simp)⟩
  |succ m ih=>
   intro hm;obtain ⟨l,h1,h2,h3⟩:=ih (by omega);obtain ⟨p,hp,hc⟩:=key m (by omega);refine ⟨l++[p],by simp[h1],fun q hq=>?_,fun i h j u hj hu=>?_⟩
   ·rcases List.mem_append.1 hq with hq|hq
    ·exact h2 q hq
    ·rw[List.mem_singleton.1 hq];exact hp
   ·by_cases e:i<l.length
    ·rw[List.getElem_append_left e]at hu
     exact h3 i e j u hj hu
    ·have e2:i=m:=by simp at h;omega
     subst e2;rw[List.getElem_append_right (by omega)]at hu;simp only[List.getElem_singleton]at hu;exact hc j u hj hu
 obtain ⟨l,h1,h2,h3⟩:=H n (Nat.le_refl _);have hl:=YG hs l;refine ⟨l,h1,h2,by rw[hl,h1],fun hn=>⟨a,rfl,?_,fun j u hu=>?_⟩⟩
 ·have h0:0<l.length:=by omega
  have hg:(f l[0])[0]?=some ((f l[0])[0]'(by rw[hs];exact hs0)):=List.getElem?_eq_getElem (by rw[hs];exact hs0);have:=World.block_lt_of_cell? W _ (h3 0 h0 0 _ hs0 hg);rwa [CB]at this
 ·have hj:j<l.length * s:=by
   rcases Nat.lt_or_ge j (l.length * s) with hj|hj
   ·exact hj
   ·rw[List.getElem?_eq_none (by rw[hl];exact hj)]at hu;cases hu
  have hq:j / s<l.length:=by rw[Nat.div_lt_iff_lt_mul hs0];exact hj
  have he:j / s * s+j % s=j:=by rw[Nat.mul_comm];exact Nat.div_add_mod j s
  have g1:=Vd hs (l:=l) (k:=j / s) (i:=j % s) hq (Nat.mod_lt _ hs0);rw[he]at g1;rw[g1]at hu;have:=h3 (j / s) hq (j % s) u (Nat.mod_lt _ hs0) hu;rwa [he]at this
def lJ:World->Nat->Nat->List Value->World
 |w,_,_,[]=>w
 |w,g,o,v::vs=>lJ (w.setCell ⟨g,o,none⟩ v) g (o+1) vs
theorem nZ {g:Nat}:∀(vs:List Value) (w:World) (o:Nat),Ch (fun k=>k=g) w (lJ w g o vs)
 |[],w,o=>Ch.refl _ _
 |v::vs,w,o=>(Ch.setCell (S:=fun k=>k=g) (Ch.refl _ w) (p:=⟨g,o,none⟩) (fun _=>rfl) v).trans (nZ vs _ (o+1)) fun _ _ e=>e
end Go.Proofs.YtpakjclpjcngmaaGreat
namespace Go.Proofs.YtpakjclpjcngmaaGreat
namespace Ps
def jF (n:Nat):UInt8:=UInt8.ofNat (if n<10 then 48+n else 87+n)
def lM (c:UInt8):List UInt8:=if mQ c.toNat=true then [c] else [92,jF (c.toNat / 16),jF (c.toNat % 16)]
def dP (v:List UInt8):List UInt8:=v.flatMap lM
def labT (x:dL):List UInt8:=x.name.data.toList++61::34::(dP x.value.data.toList++[34])
def gu (l:List dL):List UInt8:=l.flatMap fun x=>44::labT x
def bodyT:List dL->List UInt8
 |[]=>[]
 |x::r=>labT x++gu r
def textF (l:List dL):List UInt8:=123::(bodyT l++[125])
theorem KP (l:List dL) (x:dL):bodyT (l++[x])=bodyT l++((if l=[] then [] else [44])++labT x):=by
 cases l with
 |nil=>simp[bodyT,gu]
 |cons y r=>simp[bodyT,gu,List.flatMap_append]
theorem IE (v:List UInt8) (c:UInt8):dP (v++[c])=dP v++lM c:=by
 unfold dP;rw[List.flatMap_append];simp
theorem OU {n:Nat} (h:n<16):xW (jF n).toNat=some n:=by
 have:∀n,n<16->xW (jF n).toNat=some n:=by decide
 exact this n h
theorem WQ (c:UInt8) (r:List UInt8):gG (lM c++r)=some (c,(lM c).length):=by
 unfold lM;have hc:=c.toNat_lt;by_cases h:mQ c.toNat=true
 ·rw[if_pos h]
  have h92:c.toNat≠92:=by
   intro e;rw[e]at h;exact absurd h (by decide)
  show gG (c::r)=_
  unfold gG;simp only;rw[if_neg h92,if_pos h];rfl
 ·rw[if_neg h]
  show gG (92::jF (c.toNat / 16)::jF (c.toNat % 16)::r)=_
  unfold gG;simp only;rw[if_pos (by decide),OU (by omega),OU (by omega)];simp only;rw[show 16 * (c.toNat / 16)+c.toNat % 16=c.toNat by omega,if_neg h];simp
theorem Ue (c:UInt8):∃a r,lM c=a::r/\a.toNat≠34:=by
 unfold lM;by_cases h:mQ c.toNat=true
 ·rw[if_pos h]
  refine ⟨c,[],rfl,fun e=>?_⟩;rw[e]at h;exact absurd h (by decide)
 ·rw[if_neg h]
  exact ⟨92,_,rfl,by decide⟩
theorem yx:∀(v r:List UInt8),fG (dP v++34::r)=some (v,r)
 |[],r=>z28 r (by decide)
 |c::v,r=>by
  obtain ⟨a,t,e,ha⟩:=Ue c;have h1:=WQ c (dP v++34::r)
  have e2:dP (c::v)++34::r=lM c++(dP v++34::r):=by
   unfold dP;rw[List.flatMap_cons,List.append_assoc]
  rw[e2];rw[e]at h1 ⊢;rw[List.cons_append]at h1 ⊢;rw[z27 ha h1,←List.cons_append,List.drop_left,yx v r];rfl
theorem zT:∀(n:List UInt8) (r:List UInt8),(∀c∈n,c.toNat≠61)->iY (n++61::34::r)=some n.length
 |[],r,_=>rfl
 |c::n,r,h=>by
  have ih:=zT n r (fun d hd=>h d (List.mem_cons_of_mem _ hd));have hc:=h c List.mem_cons_self;show iY (c::(n++61::34::r))=_
  unfold iY
  have:jc (c::(n++61::34::r))=none:=by
   cases n with
   |nil=>show jc (c::61::34::r)=none;rw[z21,if_neg (fun hh=>hc hh.1)]
   |cons d n=>show jc (c::d::(n++61::34::r))=none;rw[z21,if_neg (fun hh=>hc hh.1)]
  rw[this,if_neg (by decide),ih];rfl
theorem j_ (b:ByteArray):dZ b.data.toList=b:=rfl
theorem NJ {n:ByteArray} (h:dw n=true):∀c∈n.data.toList,c.toNat≠61:=by
 intro c hc e
 have hb:lV c=false:=by
  unfold lV;rw[e];decide
 have:=BN hc hb;rw[j_,h]at this;cases this
theorem uz {f:Nat} {x:dL} {r:List UInt8} {out:List dL} (hn:dw x.name=true) (hl:out.length<=4):iW f (labT x++r) out=iK f r (out++[x]):=by
 have e:labT x++r=x.name.data.toList++61::34::(dP x.value.data.toList++34::r):=by simp[labT]
 unfold iW;rw[e,zT _ _ (NJ hn)];simp only;rw[if_neg (by omega)]
 have e2:(x.name.data.toList++61::34::(dP x.value.data.toList++34::r)).drop (x.name.data.toList.length+2)=dP x.value.data.toList++34::r:=by
  rw[←List.drop_drop,List.drop_left];rfl
 rw[e2,yx];simp only;rw[List.take_left,j_,j_]
theorem sS:∀(r:List dL) (f:Nat) (out:List dL),(∀x∈r,dw x.name=true)->out≠[]->out.length+r.length<=4->r.length<f->iK f (gu r) out=if aZ (out++r)=true then some (out++r) else none
 |[],f,out,_,_,_,hf=>by
  obtain ⟨g,rfl⟩:∃g,f=g+1:=⟨f-1,by simp only[List.length_nil]at hf;omega⟩;show iK (g+1) [] out=_
  unfold iK;rw[if_pos rfl,List.append_nil]
 |x::r,f,out,hn,ho,hl,hf=>by
  obtain ⟨g,rfl⟩:∃g,f=g+1:=⟨f-1,by omega⟩;simp only[List.length_cons]at hl hf;have e:gu (x::r)=44::(labT x++gu r):=(by simp[gu]);rw[e,YK _ _ (by simp),if_neg ho];have ec:comma (44::(labT x++gu r))=some (labT x++gu r):=rfl;rw[ec];simp only;rw[uz (hn x List.mem_cons_self) (by omega),sS r g (out++[x]) (fun y hy=>hn y (List.mem_cons_of_mem _ hy)) (by simp) (by rw[List.length_append,List.length_singleton];omega) (by omega),List.append_assoc];rfl
theorem z1M {l:List dL} (h:aZ l=true) {x:dL} (hx:x∈l):dw x.name=true/\x.value.size<=16:=by
 obtain ⟨i,hi,rfl⟩:=List.mem_iff_getElem.1 hx;unfold aZ at h;rw[Bool.and_eq_true,IC]at h;have h1:=h.2 i hi;unfold jU eF at h1;rw[List.getD_eq_getElem?_getD,List.getElem?_eq_getElem hi,Option.getD_some]at h1;simp only[Bool.and_eq_true,decide_eq_true_eq]at h1;exact ⟨h1.1.1,h1.1.2⟩
theorem PY {x:dL} {r:List dL}:bodyT (x::r)≠[]:=by
 simp[bodyT,labT]
theorem yC:∀(r:List dL),r.length<=(gu r).length
 |[]=>Nat.zero_le _
 |x::r=>by
  have:=yC r;have e:gu (x::r)=44::(labT x++gu r):=(by simp[gu]);rw[e];simp only[List.length_cons,List.length_append];omega
theorem Ee {l:List dL} (h:aZ l=true):jC (textF l)=some l:=by
 have h4:l.length<=4:=by
  unfold aZ at h;rw[Bool.and_eq_true,decide_eq_true_eq]at h;exact h.1
 have hlen:(textF l).length=(bodyT l).length+2:=by simp[textF]
 unfold jC
 rw[if_pos ⟨by omega,rfl,by
  rw[hlen];show (123::(bodyT l++[125]))[(bodyT l).length+2-1]?=some 125
  rw[show (bodyT l).length+2-1=(bodyT l).length+1 by omega,List.getElem?_cons_succ,List.getElem?_append_right (Nat.le_refl _)];simp⟩]
 have e:((textF l).drop 1).take ((textF l).length-2)=bodyT l:=by
  rw[hlen];show (bodyT l++[125]).take _=_
  rw[show (bodyT l).length+2-2=(bodyT l).length by omega,List.take_left]
 rw[e,hlen];cases l with
 |nil=>rfl
 |cons x r=>
  rw[YK _ _ PY,if_pos rfl];simp only[List.length_cons]at h4;have hr:=yC r;have hb:bodyT (x::r)=labT x++gu r:=rfl;simp only;rw[hb,uz (z1M h List.mem_cons_self).1 (by simp),List.nil_append,sS r _ [x] (fun y hy=>(z1M h (List.mem_cons_of_mem _ hy)).1) (by simp) (by simp only[List.length_singleton];omega) (by simp only[List.length_append];omega),List.singleton_append,if_pos h]
theorem XR (c:UInt8):(lM c).length<=3:=by
 unfold lM;split<;>simp
theorem Rl:∀(v:List UInt8),(dP v).length<=3 * v.length
 |[]=>Nat.le_refl _
 |c::v=>by
  have:=XR c;have:=Rl v;have e:dP (c::v)=lM c++dP v:=(by simp[dP]);rw[e,List.length_append,List.length_cons];omega
theorem zK {x:dL} (h:dw x.name=true) (h2:x.value.size<=16):(labT x).length<=59:=by
 have h1:=Rl x.value.data.toList
 have hn:x.name.size<=8:=by
  unfold dw at h;rw[Bool.and_eq_true,decide_eq_true_eq]at h;exact h.1.2
 have e1:x.value.data.toList.length=x.value.size:=Array.length_toList ..;have e2:x.name.data.toList.length=x.name.size:=Array.length_toList ..;unfold labT;simp only[List.length_append,List.length_cons,List.length_nil];omega
theorem sU:∀{r:List dL},(∀x∈r,dw x.name=true/\x.value.size<=16)->(gu r).length<=60 * r.length
 |[],_=>Nat.le_refl _
 |x::r,h=>by
  have h1:=zK (h x List.mem_cons_self).1 (h x List.mem_cons_self).2;have h2:=sU (r:=r) (fun y hy=>h y (List.mem_cons_of_mem _ hy));have e:gu (x::r)=44::(labT x++gu r):=(by simp[gu]);rw[e];simp only[List.length_cons,List.length_append];omega
/-! a part of a set -/
end Ps
end Go.Proofs.YtpakjclpjcngmaaGreat
namespace Go.Proofs.YtpakjclpjcngmaaGreat
open Ps
def JR:ByteArray:=⟨#[48,49,50,51,52,53,54,55,56,57,97,98,99,100,101,102]⟩
theorem GR {n:Nat} (h:n<16):JR[n]'h=jF n:=by
 have:∀n:Fin 16,JR[n.val]'n.isLt=jF n.val:=by decide
 exact this ⟨n,h⟩
end Go.Proofs.YtpakjclpjcngmaaGreat
namespace Go.Proofs.YtpakjclpjcngmaaGreat
open Go.RowKit
structure aK where
 place:Int
 size:Int
 rows:Int
 lo:Int
 hi:Int
structure PV where
 text:ByteArray
 gs:List Int
 A:Option Addr
 c:Nat
/-! memory -/
def aK.cs (s:aK):List Value:=[.int .i64 s.place,.int .i64 s.size,.int .i64 s.rows,.int .i64 s.lo,.int .i64 s.hi]
def PV.cs (x:PV):List Value:=[.string x.text,.slice x.A x.gs.length x.c]
theorem aK.eU (s:aK):s.cs.length=5:=rfl
theorem PV.eU (x:PV):x.cs.length=2:=rfl
def spl (l:List aK):List Value:=l.flatMap fun s=>s.cs
def iM (l:List PV):List Value:=l.flatMap fun x=>x.cs
def ints (l:List Int):List Value:=l.map fun z=>.int .i64 z
theorem RX (l:List aK):(spl l).length=l.length * 5:=by
 unfold spl;induction l with
 |nil=>rfl
 |cons x l ih=>rw[List.flatMap_cons,List.length_append,ih,aK.eU,List.length_cons];omega
theorem SA (l:List PV):(iM l).length=l.length * 2:=by
 unfold iM;induction l with
 |nil=>rfl
 |cons x l ih=>rw[List.flatMap_cons,List.length_append,ih,PV.eU,List.length_cons];omega
theorem mP {w:World} {D:Nat->Prop} {A:Option Addr} {n k:Nat} {l:List aK} (h:Rd w D 5 A n (spl l)) (hk:k<l.length):∃ad,A=some ad/\D ad.block/\w.cell? (ad.add (k * 5))=some (.int .i64 l[k].place)/\
 w.cell? ⟨(ad.add (k * 5)).block,(ad.add (k * 5)).off+1,none⟩=some (.int .i64 l[k].size)/\w.cell? ⟨(ad.add (k * 5)).block,(ad.add (k * 5)).off+2,none⟩=some (.int .i64 l[k].rows)/\
 w.cell? ⟨(ad.add (k * 5)).block,(ad.add (k * 5)).off+3,none⟩=some (.int .i64 l[k].lo)/\w.cell? ⟨(ad.add (k * 5)).block,(ad.add (k * 5)).off+4,none⟩=some (.int .i64 l[k].hi):=by
 have hn:0<n:=by have:=h.1;rw[RX]at this;omega
 obtain ⟨ad,rfl,hb,hc⟩:=h.2 hn;have g:=fun i (hi:i<5) u (hu:(l[k].cs)[i]?=some u)=>hc (k * 5+i) u ((Vd aK.eU hk hi).trans hu);exact ⟨ad,rfl,hb,g 0 (by decide) _ rfl,FT 0 (g 1 (by decide) _ rfl),FT 1 (g 2 (by decide) _ rfl),FT 2 (g 3 (by decide) _ rfl),FT 3 (g 4 (by decide) _ rfl)⟩
theorem post_at {w:World} {D:Nat->Prop} {A:Option Addr} {n k:Nat} {l:List PV} (h:Rd w D 2 A n (iM l)) (hk:k<l.length):∃ad,A=some ad/\D ad.block/\w.cell? (ad.add (k * 2))=some (.string l[k].text)/\
 w.cell? ⟨(ad.add (k * 2)).block,(ad.add (k * 2)).off+1,none⟩=some (.slice l[k].A l[k].gs.length l[k].c):=by
 have hn:0<n:=by have:=h.1;rw[SA]at this;omega
 obtain ⟨ad,rfl,hb,hc⟩:=h.2 hn;have g:=fun i (hi:i<2) u (hu:(l[k].cs)[i]?=some u)=>hc (k * 2+i) u ((Vd PV.eU hk hi).trans hu);exact ⟨ad,rfl,hb,g 0 (by decide) _ rfl,FT 0 (g 1 (by decide) _ rfl)⟩
end Go.Proofs.YtpakjclpjcngmaaGreat
namespace Go.Proofs.YtpakjclpjcngmaaGreat
def jO (x:Int):Prop:= -1152921504606846976<=x/\x<=1152921504606846976
instance (x:Int):Decidable (jO x):=by unfold jO;exact inferInstance
def jR (l:List Int) (fr k:Nat):List Int:=(List.range l.length).map fun j=>if k<j/\fr<=j then l.getD j 0-l.getD (j-1) 0 else l.getD j 0
def La (l:List Int) (fr:Nat):List Int:=(List.range l.length).map fun j=>if fr<=j then l.getD j 0-l.getD (j-1) 0 else l.getD j 0
def aH (l:List Int):Nat->List Int
 |0=>l
 |k+1=>La (aH l k) (k+1)
theorem z35 (l:List Int) (fr k:Nat):(jR l fr k).length=l.length:=by simp[jR]
theorem qY (l:List Int) (fr:Nat):(La l fr).length=l.length:=by simp[La]
theorem Lu (l:List Int):∀k,(aH l k).length=l.length:=by
 intro k;induction k with
 |zero=>rfl
 |succ k ih=>rw[aH,qY,ih]
theorem vV (l:List Int) (fr k:Nat) (h:l.length<=k+1):jR l fr k=l:=by
 apply List.ext_getElem
 ·simp[jR]
 ·intro i h1 h2
  simp only[jR,List.getElem_map,List.getElem_range];rw[if_neg (by omega)];simp[List.getD,h2]
theorem DF (l:List Int) (fr k:Nat) (h:k<fr):jR l fr k=La l fr:=by
 unfold jR La;refine List.map_congr_left fun j _=>?_;by_cases hj:fr<=j
 ·rw[if_pos ⟨by omega,hj⟩,if_pos hj]
 ·rw[if_neg (by omega),if_neg hj]
theorem z2w (l:List Int) (fr k j:Nat) (hj:j<l.length):(jR l fr k).getD j 0=if k<j/\fr<=j then l.getD j 0-l.getD (j-1) 0 else l.getD j 0:=by
 simp[jR,List.getD,hj]
theorem DC (l:List Int) (fr k:Nat) (hk:k+1<l.length) (hf:fr<=k+1):(jR l fr (k+1)).set (k+1) ((jR l fr (k+1)).getD (k+1) 0-(jR l fr (k+1)).getD k 0)=jR l fr k:=by
 rw[z2w l fr (k+1) (k+1) hk,z2w l fr (k+1) k (by omega),if_neg (by omega),if_neg (by omega)];apply List.ext_getElem
 ·simp[jR]
 ·intro i h1 h2
  rw[List.getElem_set];simp only[jR,List.getElem_map,List.getElem_range];by_cases e:k+1=i
  ·subst e
   rw[if_pos rfl,if_pos ⟨by omega,hf⟩];simp
  ·rw[if_neg e]
   by_cases h:k+1<i/\fr<=i
   ·rw[if_pos h,if_pos (by omega)]
   ·rw[if_neg h,if_neg (by omega)]
def lD (B:Int) (l:List Int):Prop:=∀x∈l, -B<=x/\x<=B
theorem xO {B:Int} {l:List Int} (h:lD B l) (hB:0<=B) (i:Nat): -B<=l.getD i 0/\l.getD i 0<=B:=by
 by_cases hi:i<l.length
 ·have e:l.getD i 0=l[i]:=by simp[List.getD,hi]
  rw[e];exact h _ (List.getElem_mem hi)
 ·rw[List.getD_eq_getElem?_getD,List.getElem?_eq_none (by omega)]
  simp only[Option.getD_none];omega
theorem DI {B:Int} {l:List Int} (h:lD B l) (hB:0<=B) (fr k:Nat):lD (2 * B) (jR l fr k):=by
 intro x hx;simp only[jR,List.mem_map]at hx;obtain ⟨j,_,rfl⟩:=hx;have h1:=xO h hB j;have h2:=xO h hB (j-1);split<;>omega
theorem z3w {B:Int} {l:List Int} (h:lD B l) (hB:0<=B) (fr:Nat):lD (2 * B) (La l fr):=by
 intro x hx;simp only[La,List.mem_map]at hx;obtain ⟨j,_,rfl⟩:=hx;have h1:=xO h hB j;have h2:=xO h hB (j-1);split<;>omega
theorem VW {l:List Int} (h:∀x∈l,jO x):∀k,k<=2->lD 4611686018427387904 (aH l k):=by
 have h0:lD 1152921504606846976 l:=fun x hx=>h x hx;have h1:=z3w h0 (by omega) 1;have h2:=z3w h1 (by omega) 2;intro k hk;match k,hk with
 |0,_=>intro x hx;have:=h0 x hx;omega
 |1,_=>intro x hx;have:=h1 x hx;omega
 |2,_=>intro x hx;have:=h2 x hx;omega
def jh (l:List Int):List Nat:=l.flatMap fun x=>aj (zig x)
def bC (l:List Int) (w:Nat):List Nat:=aj l.length++jh (aH l w)
theorem z23 {l:List Int} {k:Nat} (h:k<l.length):jh (l.take (k+1))=jh (l.take k)++aj (zig (l.getD k 0)):=by
 have e:l.getD k 0=l[k]:=by simp[List.getD,h]
 rw[e,List.take_succ_eq_append_getElem h];unfold jh;rw[List.flatMap_append];simp
theorem FP {B:Int} {l:List Int} (h:lD B l) (hB:B<=4611686018427387904) {x:Int} (hx:x∈l):zig x<18446744073709551616:=by
 have:=h x hx;exact VK (by omega) (by omega)
theorem ER {l:List Int} (h:lD 4611686018427387904 l):okB (jh l):=by
 intro x hx;simp only[jh,List.mem_flatMap]at hx;obtain ⟨y,hy,hx⟩:=hx;exact jJ (FP h (Int.le_refl _) hy) x hx
theorem AP {l:List Int} (h:lD 4611686018427387904 l):(jh l).length<=10 * l.length:=by
 induction l with
 |nil=>simp[jh]
 |cons x l ih=>
  have h1:=(z04 (FP h (Int.le_refl _) (x:=x) (by simp))).2;have h2:=ih (fun y hy=>h y (by simp[hy]));have e:jh (x::l)=aj (zig x)++jh l:=rfl;rw[e,List.length_append,List.length_cons];omega
theorem m_ {l:List Int} (h:∀x∈l,jO x) (hl:l.length<18446744073709551616) {k:Nat} (hk:k<=2):okB (bC l k):=fun x hx=>by
 rcases List.mem_append.1 hx with h1|h1
 ·exact jJ hl x h1
 ·exact ER (VW h k hk) x h1
theorem Vb {l:List Int} (h:∀x∈l,jO x) (hl:l.length<18446744073709551616) {k:Nat} (hk:k<=2):1<=(bC l k).length/\(bC l k).length<=10+10 * l.length:=by
 have h1:=z04 hl;have h2:=AP (VW h k hk);rw[Lu]at h2;unfold bC;rw[List.length_append];omega
def aJ (l:List Int):Int:=if 2048<l.length then 5 else if ∀x∈l,jO x then 0 else 2
def bst (l:List Int):Nat->Nat×Int
 |0=>(0, -1)
 |k+1=>if (bst l k).2<0∨((bC l k).length:Int)<(bst l k).2 then (k,((bC l k).length:Int)) else bst l k
theorem PW (l:List Int):∀k,(bst l k).1<=k-1:=by
 intro k;induction k with
 |zero=>exact Nat.le_refl _
 |succ k ih=>
  simp only[bst];split
  ·exact Nat.le_refl _
  ·omega
def bD (l:List Int):Nat:=if aJ l≠0 then 0 else (bst l 3).1
theorem UZ (l:List Int):bD l<=2:=by
 unfold bD;split
 ·omega
 ·exact PW l 3
theorem xQ {l:List Int} (h:aJ l=0):l.length<=2048/\∀x∈l,jO x:=by
 unfold aJ at h;split at h
 ·cases h
 ·split at h
  ·exact ⟨by omega,by assumption⟩
  ·cases h
end Go.Proofs.YtpakjclpjcngmaaGreat
namespace Go.Proofs.YtpakjclpjcngmaaGreat
open Go.RowKit
def h_ (w:World) (g h:Nat) (bs:List Nat) (p:Nat):Prop:=
 ∃A c,aG w g 247 #[.slice A bs.length c,.int .i64 (p:Int)]/\Rd w (· =h) 1 A bs.length (bl bs)/\h≠g/\p<=8 * bs.length/\bs.length<=140737488355328/\okB bs
theorem h_.ch {w w':World} {g h:Nat} {bs:List Nat} {p:Nat} {S:Nat->Prop} (r:h_ w g h bs p) (hc:Ch S w w') (hg:¬S g) (hh:¬S h):h_ w' g h bs p:=by
 obtain ⟨A,c,b,rd,x⟩:=r;exact ⟨A,c,b.ch hc hg,rd.ch (by omega) hc (fun k _ e=>by rw[e];exact hh),x⟩
theorem h_.le {w:World} {g h:Nat} {bs:List Nat} {p:Nat} (r:h_ w g h bs p):p<=8 * bs.length/\bs.length<=140737488355328:=by
 obtain ⟨A,c,b,rd,x,y,z,_⟩:=r;exact ⟨y,z⟩
theorem h_.dK {w:World} {g h:Nat} {bs:List Nat} {p q:Nat} (r:h_ w g h bs p) (hq:q<=8 * bs.length) (n:Nat):h_ ((w.drewN n).setCell ⟨g,1,none⟩ (.int .i64 (q:Int))) g h bs q:=by
 obtain ⟨A,c,b,rd,x,y,z,u⟩:=r;refine ⟨A,c,?_,?_,x,hq,z,u⟩
 ·have:=(b.drewN n).dK 1 (.int .i64 (q:Int))
  simpa using this
 ·exact rd.keep fun k e=>by
   rw[Below.heap_setCell _ _ _ _ (by rw[e];exact x)];rfl
theorem MV (g h:Nat) (bs:List Nat) (p:Nat) (w:World) (r:h_ w g h bs p):
 Calls Tryz.prog 199 #[.pointer (some ⟨g,0,none⟩)] w fun e w'=>e=.returned (.int .i64 (8 * (bs.length:Int)-p))/\Dr w w':=by
 obtain ⟨A,c,b,rd,x,hp,hl,_⟩:=r;have c0:w.cell? ⟨g,0,none⟩=some (.slice A bs.length c):=b.cell 0;have c1:w.cell? ⟨g,1,none⟩=some (.int .i64 (p:Int)):=b.cell 1;clear b rd;generalize bs.length=l at *;go_enter Tryz.func199,Tryz.ntmps199;go_wp2
 go_quiet (fail)
 go_wp2
 go_ret;exact ⟨rfl,_,rfl⟩
theorem SH (a x r k:Nat) (ha:a<2 ^ k) (hx:x<256) (hk:k<32):
 bits .or .u32 (a:Int) (bits .and .u8 ((x:Int) / 2 ^ r) 1 % 4294967296 * 2 ^ k % 4294967296)=((a+x / 2 ^ r % 2 * 2 ^ k:Nat):Int):=by
 have hp:(2:Nat) ^ k<=2 ^ 31:=Nat.pow_le_pow_right (by omega) (by omega);have h1:((x:Int) / 2 ^ r)=((x / 2 ^ r:Nat):Int):=by simp
 have hd:x / 2 ^ r<=x:=Nat.div_le_self _ _
 have h2:bits .and .u8 ((x / 2 ^ r:Nat):Int) 1=((x / 2 ^ r % 2:Nat):Int):=by
  have:=u8_and_nat (x / 2 ^ r) 1 (by omega) (by omega);rw[Nat.and_one_is_mod]at this;exact this
 rw[h1,h2];generalize hb:x / 2 ^ r % 2=b;have hb2:b<2:=by rw[←hb];exact Nat.mod_lt _ (by omega)
 have hbk:b * 2 ^ k<=1 * 2 ^ k:=Nat.mul_le_mul_right _ (by omega)
 have h3:((b:Nat):Int) % 4294967296 * 2 ^ k % 4294967296=((b * 2 ^ k:Nat):Int):=by
  have e1:((b:Nat):Int) % 4294967296=(b:Int):=Int.emod_eq_of_lt (by omega) (by omega);have e2:((b * 2 ^ k:Nat):Int)=(b:Int) * 2 ^ k:=by simp
  rw[e1,←e2];exact Int.emod_eq_of_lt (by omega) (by omega)
 rw[h3,u32_or_nat a (b * 2 ^ k) (by omega) (by omega),or_bit a b k ha]
theorem MW (g h:Nat) (bs:List Nat) (p m:Nat) (w:World) (r:h_ w g h bs p) (hm:m<=32) (hpm:p+m<=8 * bs.length):
 Calls Tryz.prog 142 #[.pointer (some ⟨g,0,none⟩),.int .i64 (m:Int)] w fun e w'=>e=.returned (.tuple #[.int .u32 (kH bs p m:Int),.int .i64 0])/\
  h_ w' g h bs (p+m)/\Ch (· =g) w w':=by
 have hl:=r.le;have hd:¬(8 * (bs.length:Int)-(p:Int)<(m:Int)):=by omega
 have hd2:¬((m:Int)<0):=by omega
 have hd3:¬((32:Int)<(m:Int)):=by omega
 go_enter Tryz.func142,Tryz.ntmps142;go_wp2_with (go_at_call 199;refine (MV g h bs p _ r).mono ?_;rintro e w' ⟨rfl,n,rfl⟩)
 go_loopw [6,25] (fun v i wr=>∃k:Nat,k<=m/\i=.int .i64 k/\v=.int .u32 (kH bs p k:Int)/\h_ wr g h bs (p+k)/\Ch (· =g) w wr)
  (fun _ i _=>m-(intOf i).toNat)
 case atStart=>exact ⟨0,by omega,rfl,rfl,r,(Ch.refl _ _).drewN _⟩
 case round=>
  obtain ⟨k,hk,rfl,rfl,hr,hch⟩:=hrel;have hr':=hr;by_cases hlt:k<m
  ·obtain ⟨A,c,b,rd,x,hp,hl',hok⟩:=hr
   have d0:wr.cell? ⟨g,0,none⟩=some (.slice A bs.length c):=b.cell 0;have d1:wr.cell? ⟨g,1,none⟩=some (.int .i64 ((p:Int)+(k:Int))):=by have:=b.cell 1;simpa using this
   have d2:=b.frozen 1;obtain ⟨ad,u,rfl,_,hu,hc⟩:=rd.at_ (k:=(p+k) / 8) (by omega);rw[K_ (by omega)]at hu;injection hu with hu;subst hu;have hb:=SH (kH bs p k) (bs.getD ((p+k) / 8) 0) ((p+k) % 8) k (Uf _ _ _) (z16 hok _) (by omega);have hxl:=z16 hok ((p+k) / 8);have Hb:Hid (_=((kH bs p (k+1):Nat):Int)):=hb;clear hb;generalize bs.getD ((p+k) / 8) 0=xx at *;clear b rd r;go_wp2
   go_quiet (fail)
   go_wp2
   go_roundw
   case rel=>exact ⟨k+1,by omega,by go_num,by rw[Hb.out],hr'.dK (q:=p+(k+1)) (by omega) nq,(hch.drewN _).setCell (fun _=>rfl) _⟩
   case measure=>simp[intOf];omega
  ·obtain rfl:k=m:=by omega
   go_wp2
   go_ret2;exact ⟨rfl,hr,hch⟩
end Go.Proofs.YtpakjclpjcngmaaGreat
namespace Go.Proofs.YtpakjclpjcngmaaGreat
def lU (n:Nat):Nat:=[0,0x1db71064,0x3b6e20c8,0x26d930ac,0x76dc4190,0x6b6b51f4,0x4db26158,0x5005713c,0xedb88320,0xf00f9344,0xd6d6a3e8,0xcb61b38c,0x9b64c2b0,0x86d3d2d4,0xa00ae278,0xbdbdf21c].getD n 0
def wS (c:Nat):Nat:=c / 16 ^^^ lU (c % 16)
def jY (c x:Nat):Nat:=wS (wS (c ^^^ x))
def iR (c:Nat) (xs:List Nat):Nat:=xs.foldl jY c
def sumF (xs:List Nat):Nat:=4294967295-iR 4294967295 xs
theorem wB (n:Nat):lU n<4294967296:=by
 by_cases h:n<16
 ·have:∀n,n<16->lU n<4294967296:=by decide
  exact this n h
 ·unfold lU
  rw[List.getD_eq_getElem?_getD,List.getElem?_eq_none (by simp;omega)];decide
theorem mV {c:Nat} (h:c<4294967296):wS c<4294967296:=Nat.xor_lt_two_pow (n:=32) (by omega) (wB _)
theorem LY {c x:Nat} (h:c<4294967296) (hx:x<256):jY c x<4294967296:=mV (mV (Nat.xor_lt_two_pow (n:=32) h (by omega)))
theorem Gs {xs:List Nat}:∀{c:Nat},c<4294967296->okB xs->iR c xs<4294967296:=by
 induction xs with
 |nil=>intro c h _;exact h
 |cons x xs ih=>
  intro c h ok;exact ih (LY h (ok x (by simp))) fun y hy=>ok y (by simp[hy])
theorem yL (c:Nat) (xs ys:List Nat):iR c (xs++ys)=iR (iR c xs) ys:=by simp[iR,List.foldl_append]
theorem vU (xs:List Nat):sumF xs<4294967296:=by unfold sumF;omega
theorem Rw (a b k:Nat):(a ^^^ b) / 2 ^ k=a / 2 ^ k ^^^ b / 2 ^ k:=by
 simp only[←Nat.shiftRight_eq_div_pow,Nat.shiftRight_xor_distrib]
def four (n:Nat):List Nat:=[n % 256,n / 256 % 256,n / 65536 % 256,n / 16777216 % 256]
theorem H_ (n:Nat):okB (four n):=by
 intro x hx;simp only[four,List.mem_cons,List.not_mem_nil,or_false]at hx;rcases hx with rfl|rfl|rfl|rfl<;>omega
def dR (xs:List Nat):List Nat:=xs++four (sumF xs)
theorem Iz (xs:List Nat):(dR xs).length=xs.length+4:=by simp[dR,four]
theorem n_ {xs:List Nat} (ok:okB xs):okB (dR xs):=fun x hx=>by
 rcases List.mem_append.1 hx with h|h
 ·exact ok x h
 ·exact H_ _ x h
def Cj (b:List Nat):Prop:=4<=b.length/\b.drop (b.length-4)=four (sumF (b.take (b.length-4)))
instance (b:List Nat):Decidable (Cj b):=by unfold Cj;exact inferInstance
theorem z4L (xs:List Nat):Cj (dR xs):=by
 have hl:=Iz xs;refine ⟨by omega,?_⟩;rw[show (dR xs).length-4=xs.length by omega];unfold dR;rw[List.drop_left,List.take_left]
section
variable {α : Type} {lt : α → α → Bool}
end
def jd (c:Nat):Nat:=c / 2 ^^^ (if c % 2=1 then 3988292384 else 0)
theorem Uj {c:Nat} (h:c<4294967296):jd c<4294967296:=by
 unfold jd;refine Nat.xor_lt_two_pow (n:=32) (by omega) ?_;split<;>decide
theorem NK (a b:Nat):(a ^^^ b) % 2=(a % 2+b % 2) % 2:=by
 have:=Nat.testBit_xor (x:=a) (y:=b) (i:=0);simp only[Nat.testBit_zero]at this;have ha:=Nat.mod_two_eq_zero_or_one a;have hb:=Nat.mod_two_eq_zero_or_one b;have hc:=Nat.mod_two_eq_zero_or_one (a ^^^ b);rcases ha with ha|ha<;>rcases hb with hb|hb<;>rcases hc with hc|hc<;>simp_all
theorem z4l (a b:Nat):jd (a ^^^ b)=jd a ^^^ jd b:=by
 have h1:(a ^^^ b) / 2=a / 2 ^^^ b / 2:=by simpa using Rw a b 1
 unfold jd;rw[h1,NK];have ha:=Nat.mod_two_eq_zero_or_one a;have hb:=Nat.mod_two_eq_zero_or_one b;rcases ha with ha|ha<;>rcases hb with hb|hb<;>rw[ha,hb]
 ·simp
 ·simp[Nat.xor_assoc]
 ·simp only[Nat.add_zero,Nat.mod_succ,if_true]
  rw[if_neg (by decide),Nat.xor_zero,Nat.xor_assoc,Nat.xor_assoc];congr 1
  exact Nat.xor_comm _ _
 ·simp only[if_true]
  rw[if_neg (by decide),Nat.xor_zero]
  rw[show a / 2 ^^^ 3988292384 ^^^ (b / 2 ^^^ 3988292384)=(a / 2 ^^^ b / 2) ^^^ (3988292384 ^^^ 3988292384) by
   rw[Nat.xor_assoc,Nat.xor_assoc,←Nat.xor_assoc 3988292384 (b / 2),Nat.xor_comm 3988292384 (b / 2),Nat.xor_assoc (b / 2)]]
  simp
theorem z3s (c:Nat):jd (2 * c)=c:=by
 unfold jd;rw[if_neg (by omega),Nat.xor_zero];omega
theorem Qh:∀r,r<16->jd (jd (jd (jd r)))=lU r:=by decide
theorem RU (c:Nat):c=16 * (c / 16) ^^^ c % 16:=by
 have h:16 * (c / 16) ^^^ c % 16=16 * (c / 16)+c % 16:=by
  have:=Nat.two_pow_add_eq_or_of_lt (i:=4) (b:=c % 16) (Nat.mod_lt _ (by decide)) (c / 16);rw[show (2:Nat) ^ 4=16 by decide]at this;rw[this];apply Nat.eq_of_testBit_eq
  intro i;rw[Nat.testBit_xor,Nat.testBit_or];by_cases hi:i<4
  ·have:(16 * (c / 16)).testBit i=false:=by
    rw[show 16 * (c / 16)=2 ^ 4 * (c / 16) by rw[show (2:Nat) ^ 4=16 by decide],Nat.testBit_two_pow_mul];simp;omega
   simp[this]
  ·have:(c % 16).testBit i=false:=by
    apply Nat.testBit_lt_two_pow
    exact Nat.lt_of_lt_of_le (Nat.mod_lt c (by decide:0<16)) (by
     calc 16=2 ^ 4:=by decide
      _<=2 ^ i:=Nat.pow_le_pow_right (by decide) (by omega))
   simp[this]
 rw[h];omega
theorem aaT (c:Nat):jd (jd (jd (jd c)))=wS c:=by
 unfold wS;rw[←Qh (c % 16) (Nat.mod_lt _ (by decide))];conv=>lhs;rw[RU c]
 rw[z4l,z4l,z4l,z4l];congr 1
 rw[show 16 * (c / 16)=2 * (2 * (2 * (2 * (c / 16)))) by omega,z3s,z3s,z3s,z3s]
def qF (c:Nat):Nat->Nat
 |0=>c
 |k+1=>jd (qF c k)
theorem Qe {c:Nat} (h:c<4294967296):∀k,qF c k<4294967296:=by
 intro k;induction k with
 |zero=>exact h
 |succ k ih=>exact Uj ih
theorem aaS (c x:Nat):qF (c ^^^ x) 8=jY c x:=by
 unfold jY;rw[←aaT,←aaT];rfl
end Go.Proofs.YtpakjclpjcngmaaGreat
namespace Go.Proofs.YtpakjclpjcngmaaGreat
open Go
structure QW (P:Program) (ops:Array Oper) (C:World->Prop) (Q:Act->Prop) (l:List Oper) (a:Act):Prop where
 out:wpQuiet P ops C Q l a
section
variable {P : Program} {C : World → Prop}
theorem z1C (C:World->Prop) {id:Nat} {Q:Exit->Act->World->Prop} {a:Act} {w:World} {l:List Oper} (hm:P.follows .mixedOrders=true) (hB:Region.lexB .any l.toArray=true) (hC:C w.drew)
 (h:QW P l.toArray C (fun a'=>∀w',C w'->Q .normal a' w') l a):(Code.region id l.toArray true).wp P Q a w:=
 wp_region_quiet (C:=C) hm hB hC (by simpa using h.out)
variable {ops : Array Oper} {Q : Act → Prop} {o : Oper} {rest : List Oper} {a a' : Act} {v : Value}
theorem Nb (hw:Region.wanted o (yielded ops a.tmps)=true) (hy:∀w,C w->o.quietAt P a C w v) (hp:a.put o.dst v=a') (h:QW P ops C Q rest a'):QW P ops C Q (o::rest) a:=by
 subst hp;exact ⟨BigFrame.wpQuiet_want hw fun K hK=>⟨v,hy,hK _ h.out⟩⟩
theorem Nc (hw:Region.wanted o (yielded ops a.tmps)=false) (hp:a.put o.dst undef=a') (h:QW P ops C Q rest a'):QW P ops C Q (o::rest) a:=by
 subst hp;exact ⟨BigFrame.wpQuiet_skip hw h.out⟩
theorem WE (h:Q a):QW P ops C Q [] a:=⟨wpQuiet_nil h⟩
end
end Go.Proofs.YtpakjclpjcngmaaGreat
namespace Go.Proofs.YtpakjclpjcngmaaGreat
end Go.Proofs.YtpakjclpjcngmaaGreat
