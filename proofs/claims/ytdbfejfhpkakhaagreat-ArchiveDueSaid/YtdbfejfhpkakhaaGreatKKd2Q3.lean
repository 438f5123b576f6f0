/- Contracts and plain laws that the last text rests on. Conditions: each theorem states its own. -/
import Derived.Test.YtdbfejfhpkakhaaGreatKKd2Q2
import Derived.Deep.QuietTactic
import Derived.BigQuiet
import Derived.Test.YtdbfejfhpkakhaaGreatKKd2Q1
set_option maxRecDepth 100000
set_option linter.unusedVariables false
set_option linter.unusedSimpArgs false
namespace Go.Proofs.YtdbfejfhpkakhaaGreat
open Go.RowKit
structure aF (W w:World) (e:TypeId) (size:Nat) (v:Value) (n:Nat) (xs:List Value):Prop where
 own:w.ownsRow W.heap.size e size v n xs
 nx:Nx W w
structure Moved (w w':World) (v v':Value):Prop where
 ch:Ch (fun k=>v.ownBlock=some k) w w'
 at_:v'.ownBlock=v.ownBlock∨∃k,v'.ownBlock=some k/\w.heap.size<=k
section
variable {W w w' : World} {e : TypeId} {size n : Nat} {v v' : Value} {xs : List Value}
theorem aF.ch {S:Nat->Prop} (h:aF W w e size v n xs) (c:Ch S w w') (hv:∀k,v.ownBlock=some k->¬S k) (hS:∀i,i<W.heap.size->¬S i):aF W w' e size v n xs:=
 ⟨z06 h.own c hv,h.nx.trans c fun i hi hs=>(hS i hi hs).elim⟩
theorem aF.tr (h:aF W w e size v n xs) (c:Nx w w'):aF W w' e size v n xs:=h.ch c (fun _ _ hf=>hf) (fun _ _ hf=>hf)
theorem aF.alloc (h:aF W w e size v n xs) (o:Obj):aF W (w.alloc o) e size v n xs:=h.tr ((Ch.refl _ w).alloc o)
theorem aF.nil (W w:World) (e:TypeId) (size:Nat) (c:Nx W w):aF W w e size (.slice none 0 0) 0 []:=⟨World.ownsRow_nil _ _ _ _,c⟩
theorem aF.lit (W w:World) (e:TypeId) (c:Nx W w) (size:Nat):aF W (w.alloc (.cells #[] e)) e size (.slice (some ⟨w.heap.size,0,none⟩) 0 0) 0 []:=
 ⟨World.ownsRow_made w #[] 0 c.size (by simp[maxLen]) (by simp),c.alloc _⟩
theorem aF.form (h:aF W w e size v n xs):∃A c,v=.slice A n c/\n<=c/\c<=maxLen:=h_ h.own
theorem aF.lt (h:aF W w e size v n xs):∀k,v.ownBlock=some k->W.heap.size<=k/\k<w.heap.size:=h.own.lt
theorem aF.rd {A:Option Addr} {c:Nat} (h:aF W w e size (.slice A n c) n xs):Rd w (fun k=>(Value.slice A n c).ownBlock=some k/\W.heap.size<=k/\k<w.heap.size) size A n xs:=Rd.bW h.own
end
section
variable {P : Program}
theorem Di {W w:World} {e:TypeId} {size n m:Nat} {v v':Value} {xs news:List Value} {w1 w2:World} (h:aF W w e size v n xs) (c:Nx w w1)
 (h2:w2.ownsRow W.heap.size e size v' (n+m) (xs++news)) (h3:w1.grownBy w2 v.ownBlock) (h4:v'.ownBlock=v.ownBlock∨v'.ownBlock=some w1.heap.size):
 aF W w2 e size v' (n+m) (xs++news)/\Moved w w2 v v':=by
 have hc:Ch (fun k=>v.ownBlock=some k) w w2:=(c.mono (fun _ _ hf=>hf.elim)).grown h3 fun k hk _=>hk;refine ⟨⟨h2,h.nx.trans hc fun i hi hk=>?_⟩,hc,?_⟩
 ·have:=h.lt i hk;omega
 ·rcases h4 with e|e
  ·exact .inl e
  ·exact .inr ⟨_,e,c.size⟩
theorem Rq {ops:Array Oper} {rest:List Oper} {o:Oper} {a:Act} {Q:Exit->Act->World->Prop} (hgd:o.guard=none) (s x:Operand) (t:TypeId)
 (ho:o.op=.call { callee:=.builtin .append,args:= #[s,x],argTypes:= #[t,t]})
 (e:TypeId) (i:TypeInfo) (z:Value) (bytes:Nat) (ht:P.underlying t=some (.slice e)) (hi:P.info? e=some i) (hz:i.zero=some z)
 (hsize:i.size=1) (hby:i.bytes=bytes) (hzs:z.cells.size=1)
 {W w:World} {v:Value} {n:Nat} {xs:List Value} (u:Value) (hu:u.oneCell'=true) (hs:a.eval s=v) (hown:aF W w e 1 v n xs)
 (hx:a.eval x=.slice (some ⟨w.heap.size,0,none⟩) 1 1)
 (h63:n+1<=maxLen) (hbytes:(n+1) * bytes<=140737488355328)
 (h:∀v' w',aF W w' e 1 v' (n+1) (xs++[u])->Moved w w' v v'->wpList P ops Q rest (a.put o.dst v') w'):wpList P ops Q (o::rest) a (w.alloc (.cells #[u] e)):=
 z04 (w.alloc (.cells #[u] e)) hgd s x t ho W.heap.size e i z 1 bytes ht hi hz hsize hby hzs (by omega) v n xs hs (hown.alloc _).own (fun _=>True) _ 1 1 [u] hx
  ⟨rfl,fun _=>⟨⟨w.heap.size,0,none⟩,rfl,trivial,cell_one_new _ _ _⟩⟩ (by simpa using hu) h63 hbytes (Nat.le_trans hown.nx.size (by simp))
  fun v' w' h2 h3 h4=>h v' w' (Di hown ((Ch.refl _ w).alloc _) h2 h3 h4).1 (Di hown ((Ch.refl _ w).alloc _) h2 h3 h4).2
theorem z05 {ops:Array Oper} {rest:List Oper} {o:Oper} {a:Act} {Q:Exit->Act->World->Prop} (hgd:o.guard=none) (s x:Operand) (t:TypeId)
 (ho:o.op=.call { callee:=.builtin .append,args:= #[s,x],argTypes:= #[t,t]})
 (e:TypeId) (i:TypeInfo) (z:Value) (size bytes:Nat) (ht:P.underlying t=some (.slice e)) (hi:P.info? e=some i) (hz:i.zero=some z)
 (hsize:i.size=size) (hby:i.bytes=bytes) (hzs:z.cells.size=size) (hsz:0<size)
 {W w:World} {v:Value} {n:Nat} {xs:List Value} (hs:a.eval s=v) (hown:aF W w e size v n xs)
 (D:Nat->Prop) (A:Option Addr) (m c:Nat) (news:List Value) (hx:a.eval x=.slice A m c) (hr:Rd w D size A m news) (h1:∀u∈news,u.oneCell'=true)
 (h63:n+m<=maxLen) (hbytes:(n+m) * bytes<=140737488355328)
 (h:∀v' w',aF W w' e size v' (n+m) (xs++news)->Moved w w' v v'->wpList P ops Q rest (a.put o.dst v') w'):wpList P ops Q (o::rest) a w:=
 z04 w hgd s x t ho W.heap.size e i z size bytes ht hi hz hsize hby hzs hsz v n xs hs hown.own D A m c news hx hr h1 h63 hbytes hown.nx.size
  fun v' w' h2 h3 h4=>h v' w' (Di hown (Ch.refl _ w) h2 h3 h4).1 (Di hown (Ch.refl _ w) h2 h3 h4).2
def Gives (W:World) (e:TypeId) (size n:Nat) (xs:List Value) (en:Ending) (w':World):Prop:=∃v,en=.returned v/\aF W w' e size v n xs
def pX (W:World) (e:TypeId) (size n:Nat) (xs:List Value) (en:Ending) (w':World):Prop:=
 ∃k cap,en=.returned (.slice (some ⟨k,0,none⟩) n cap)/\aF W w' e size (.slice (some ⟨k,0,none⟩) n cap) n xs/\W.heap.size<=k/\k<w'.heap.size/\n<=cap/\cap<=maxLen
theorem pX.A_ {W w:World} {e:TypeId} {size n:Nat} {v:Value} {xs:List Value} (h:aF W w e size v n xs) (hb:v.ownBlock≠none):pX W e size n xs (.returned v) w:=by
 obtain ⟨k,hk⟩:∃k,v.ownBlock=some k:=by cases hv:v.ownBlock with|none=>exact absurd hv hb|some k=>exact ⟨k,rfl⟩
 obtain ⟨cap,rfl,h1,h2⟩:=z2V h.own hk;exact ⟨k,cap,rfl,h,(h.lt k hk).1,(h.lt k hk).2,h1,h2⟩
theorem Moved.some_ {w w':World} {v v':Value} (m:Moved w w' v v') (h:v.ownBlock≠none):v'.ownBlock≠none:=by
 rcases m.at_ with e|⟨k,e,_⟩
 ·rw[e];exact h
 ·rw[e];simp
theorem aF.tZ {W w:World} {e:TypeId} {size n k c:Nat} {xs:List Value} (h:aF W w e size (.slice (some ⟨k,0,none⟩) n c) n xs):Rd w (· =k) size (some ⟨k,0,none⟩) n xs:=
 h.rd.more fun j ⟨hj,_⟩=>by simpa [Value.ownBlock]using hj.symm
theorem z14 {f:FuncId} {args:Array Value} {w:World} {n:Nat} {v:Value}
 (h:Calls P f args (w.drewN n) fun e w'=>e=.returned v/\w.drewN n=w'):Calls P f args (w.drewN n) fun e w''=>e=.returned v/\∃m,w''=w.drewN m:=
 h.mono fun _ _ ⟨he,hm⟩=>⟨he,n,hm.symm⟩
end
section
variable {α β : Type} {f : α → List β} {s : Nat}
theorem zy (hs:∀x,(f x).length=s):∀l:List α,(l.flatMap f).length=l.length * s
 |[]=>by simp
 |x::l=>by
  rw[List.flatMap_cons,List.length_append,hs,zy hs l,List.length_cons,Nat.succ_mul];omega
theorem oI (hs:∀x,(f x).length=s):∀{l:List α} {k i:Nat} (hk:k<l.length) (hi:i<s),(l.flatMap f)[k * s+i]?=(f l[k])[i]?
 |[],k,i,hk,hi=>absurd hk (by simp)
 |x::l,0,i,hk,hi=>by
  rw[List.flatMap_cons,Nat.zero_mul,Nat.zero_add,List.getElem?_append_left (by rw[hs];exact hi)];rfl
 |x::l,k+1,i,hk,hi=>by
  have hx:=hs x;rw[List.flatMap_cons,List.getElem?_append_right (by rw[hx,Nat.succ_mul];omega),hx,show (k+1) * s+i-s=k * s+i by rw[Nat.succ_mul];omega,oI hs (by simpa using hk) hi];rfl
theorem ZY (hs:∀x,(f x).length=s) (l:List α) (k:Nat):(l.flatMap f).take (k * s)=(l.take k).flatMap f:=by
 induction l generalizing k with
 |nil=>simp
 |cons x l ih=>
  cases k with
  |zero=>simp
  |succ k=>
   rw[List.flatMap_cons,List.take_succ_cons,List.flatMap_cons,←ih k,Nat.succ_mul,Nat.add_comm,←hs x,List.take_length_add_append]
theorem ZX (hs:∀x,(f x).length=s) (l:List α) (k:Nat):(l.flatMap f).drop (k * s)=(l.drop k).flatMap f:=by
 induction l generalizing k with
 |nil=>simp
 |cons x l ih=>
  cases k with
  |zero=>simp
  |succ k=>
   rw[List.flatMap_cons,List.drop_succ_cons,←ih k,Nat.succ_mul,Nat.add_comm,←hs x,List.drop_length_add_append]
def lQ:List β->Nat->List β->List β
 |l,_,[]=>l
 |l,o,v::vs=>lQ (l.set o v) (o+1) vs
theorem qF:∀(vs l:List β) (o i:Nat),o+vs.length<=l.length->(lQ l o vs)[i]?=if o<=i/\i<o+vs.length then vs[i-o]? else l[i]?
 |[],l,o,i,h=>by rw[if_neg (by simp)];rfl
 |v::vs,l,o,i,h=>by
  have h':o+1+vs.length<=l.length:=by simp at h;omega
  rw[lQ,qF vs (l.set o v) (o+1) i (by rw[List.length_set];exact h')];by_cases e:o=i
  ·subst e
   rw[if_neg (by omega),if_pos (by simp),List.getElem?_set,if_pos rfl,if_pos (by omega),Nat.sub_self];rfl
  ·by_cases c:o+1<=i/\i<o+1+vs.length
   ·rw[if_pos c,if_pos (by simp;omega),show i-o=i-(o+1)+1 by omega]
    rfl
   ·rw[if_neg c,if_neg (by simp;omega),List.getElem?_set_ne e]
theorem xR (hs:∀x,(f x).length=s) {l:List α} {k:Nat} (hk:k<l.length) (x:α):lQ (l.flatMap f) (k * s) (f x)=(l.set k x).flatMap f:=by
 have hl:=zy hs l
 have hks:k * s+s<=l.length * s:=by
  have:=Nat.mul_le_mul_right s (show k+1<=l.length from hk);rw[Nat.succ_mul]at this;exact this
 by_cases hs0:s=0
 ·have h1:(l.flatMap f)=[]:=List.eq_nil_of_length_eq_zero (by rw[hl,hs0,Nat.mul_zero])
  have h2:((l.set k x).flatMap f)=[]:=List.eq_nil_of_length_eq_zero (by rw[zy hs,hs0,Nat.mul_zero]);have h3:f x=[]:=List.eq_nil_of_length_eq_zero (by rw[hs,hs0]);rw[h1,h2,h3];rfl
 apply List.ext_getElem?
 intro i;rw[qF _ _ _ _ (by rw[hs,hl];exact hks),hs];by_cases hi:i<l.length * s
 ·have hq:i / s<l.length:=by rw[Nat.div_lt_iff_lt_mul (by omega)];exact hi
  have he:i=i / s * s+i % s:=by rw[Nat.mul_comm];exact (Nat.div_add_mod i s).symm
  have hm:i % s<s:=Nat.mod_lt _ (by omega);have g1:=oI hs (l:=l) (k:=i / s) (i:=i % s) hq hm;have g2:=oI hs (l:=l.set k x) (k:=i / s) (i:=i % s) (by rw[List.length_set];exact hq) hm;rw[←he]at g1 g2;rw[g2,List.getElem_set];by_cases e:k=i / s
  ·rw[if_pos e]
   have:k * s<=i/\i<k * s+s:=by rw[e];omega
   rw[if_pos this];congr 1
   rw[e];omega
  ·rw[if_neg e,←g1,if_neg]
   intro ⟨h1,h2⟩;apply e
   have h3:k<=i / s:=by rw[Nat.le_div_iff_mul_le (by omega)];exact h1
   have h4:i / s<k+1:=by rw[Nat.div_lt_iff_lt_mul (by omega),Nat.succ_mul];exact h2
   omega
 ·rw[if_neg (by omega),List.getElem?_eq_none (by rw[hl];omega),List.getElem?_eq_none (by rw[zy hs,List.length_set];omega)]
end
theorem z09 {w:World} {ad:Addr} {a:Nat} (i:Nat) {v:Value} (h:w.cell? (ad.add (a+(i+1)))=some v):w.cell? ⟨(ad.add a).block,(ad.add a).off+(i+1),none⟩=some v:=by
 rw[←nZ]at h;exact h
theorem z3u {α:Type} {f:α->List Value} {s:Nat} (hs:∀x,(f x).length=s) (hs0:0<s) {W:World} {a:Addr} {n:Nat} {good:α->Prop} (key:∀i,i<n->∃p,good p/\∀j u,j<s->(f p)[j]?=some u->W.cell? (a.add (i * s+j))=some u):
 ∃l:List α,l.length=n/\(∀p∈l,good p)/\Rd W (· <W.heap.size) s (some a) n (l.flatMap f):=by
 have H:∀m,m<=n->∃l:List α,l.length=m/\(∀p∈l,good p)/\∀i (h:i<l.length) j u,j<s->(f l[i])[j]?=some u->W.cell? (a.add (i * s+j))=some u:=by
  intro m;induction m with
  |zero=>intro _;exact ⟨[],rfl,by simp,fun i h=>absurd h (by simp)⟩
  |succ m ih=>
   intro hm;obtain ⟨l,h1,h2,h3⟩:=ih (by omega);obtain ⟨p,hp,hc⟩:=key m (by omega);refine ⟨l++[p],by simp[h1],fun q hq=>?_,fun i h j u hj hu=>?_⟩
   ·rcases List.mem_append.1 hq with hq|hq
    ·exact h2 q hq
    ·rw[List.mem_singleton.1 hq];exact hp
   ·by_cases e:i<l.length
    ·rw[List.getElem_append_left e]at hu
     exact h3 i e j u hj hu
    ·have e2:i=m:=by simp at h;omega
     subst e2;rw[List.getElem_append_right (by omega)]at hu;simp only[List.getElem_singleton]at hu;exact hc j u hj hu
 obtain ⟨l,h1,h2,h3⟩:=H n (Nat.le_refl _);have hl:=zy hs l;refine ⟨l,h1,h2,by rw[hl,h1],fun hn=>⟨a,rfl,?_,fun j u hu=>?_⟩⟩
 ·have h0:0<l.length:=by omega
  have hg:(f l[0])[0]?=some ((f l[0])[0]'(by rw[hs];exact hs0)):=List.getElem?_eq_getElem (by rw[hs];exact hs0);have:=World.block_lt_of_cell? W _ (h3 0 h0 0 _ hs0 hg);rwa [vw]at this
 ·have hj:j<l.length * s:=by
   rcases Nat.lt_or_ge j (l.length * s) with hj|hj
   ·exact hj
   ·rw[List.getElem?_eq_none (by rw[hl];exact hj)]at hu;cases hu
  have hq:j / s<l.length:=by rw[Nat.div_lt_iff_lt_mul hs0];exact hj
  have he:j / s * s+j % s=j:=by rw[Nat.mul_comm];exact Nat.div_add_mod j s
  have g1:=oI hs (l:=l) (k:=j / s) (i:=j % s) hq (Nat.mod_lt _ hs0);rw[he]at g1;rw[g1]at hu;have:=h3 (j / s) hq (j % s) u (Nat.mod_lt _ hs0) hu;rwa [he]at this
def dI:World->Nat->Nat->List Value->World
 |w,_,_,[]=>w
 |w,g,o,v::vs=>dI (w.setCell ⟨g,o,none⟩ v) g (o+1) vs
theorem ZI {base:Nat} {e:TypeId} {size n g cap:Nat}:∀(vs:List Value) (w:World) (xs:List Value) (o:Nat),w.ownsRow base e size (.slice (some ⟨g,0,none⟩) n cap) n xs->(dI w g o vs).ownsRow base e size (.slice (some ⟨g,0,none⟩) n cap) n (lQ xs o vs)
 |[],w,xs,o,h=>h
 |v::vs,w,xs,o,h=>ZI vs _ _ (o+1) (h.stored o v).1
theorem NT {g:Nat}:∀(vs:List Value) (w:World) (o:Nat),Ch (fun k=>k=g) w (dI w g o vs)
 |[],w,o=>Ch.refl _ _
 |v::vs,w,o=>(Ch.setCell (S:=fun k=>k=g) (Ch.refl _ w) (p:=⟨g,o,none⟩) (fun _=>rfl) v).trans (NT vs _ (o+1)) fun _ _ e=>e
structure aW where
 place:Int
 size:Int
 rows:Int
 lo:Int
 hi:Int
structure PV where
 text:ByteArray
 gs:List Int
 A:Option Addr
 c:Nat
/-! memory -/
def aW.cs (s:aW):List Value:=[.int .i64 s.place,.int .i64 s.size,.int .i64 s.rows,.int .i64 s.lo,.int .i64 s.hi]
def PV.cs (x:PV):List Value:=[.string x.text,.slice x.A x.gs.length x.c]
theorem aW.aQ (s:aW):s.cs.length=5:=rfl
theorem PV.aQ (x:PV):x.cs.length=2:=rfl
def spl (l:List aW):List Value:=l.flatMap fun s=>s.cs
def qJ (l:List PV):List Value:=l.flatMap fun x=>x.cs
def ints (l:List Int):List Value:=l.map fun z=>.int .i64 z
theorem Oy (l:List aW):(spl l).length=l.length * 5:=by
 unfold spl;induction l with
 |nil=>rfl
 |cons x l ih=>rw[List.flatMap_cons,List.length_append,ih,aW.aQ,List.length_cons];omega
theorem OU (l:List PV):(qJ l).length=l.length * 2:=by
 unfold qJ;induction l with
 |nil=>rfl
 |cons x l ih=>rw[List.flatMap_cons,List.length_append,ih,PV.aQ,List.length_cons];omega
theorem OA {w:World} {D:Nat->Prop} {A:Option Addr} {n k:Nat} {l:List aW} (h:Rd w D 5 A n (spl l)) (hk:k<l.length):∃ad,A=some ad/\D ad.block/\w.cell? (ad.add (k * 5))=some (.int .i64 l[k].place)/\
 w.cell? ⟨(ad.add (k * 5)).block,(ad.add (k * 5)).off+1,none⟩=some (.int .i64 l[k].size)/\w.cell? ⟨(ad.add (k * 5)).block,(ad.add (k * 5)).off+2,none⟩=some (.int .i64 l[k].rows)/\
 w.cell? ⟨(ad.add (k * 5)).block,(ad.add (k * 5)).off+3,none⟩=some (.int .i64 l[k].lo)/\w.cell? ⟨(ad.add (k * 5)).block,(ad.add (k * 5)).off+4,none⟩=some (.int .i64 l[k].hi):=by
 have hn:0<n:=by have:=h.1;rw[Oy]at this;omega
 obtain ⟨ad,rfl,hb,hc⟩:=h.2 hn;have g:=fun i (hi:i<5) u (hu:(l[k].cs)[i]?=some u)=>hc (k * 5+i) u ((oI aW.aQ hk hi).trans hu);exact ⟨ad,rfl,hb,g 0 (by decide) _ rfl,z09 0 (g 1 (by decide) _ rfl),z09 1 (g 2 (by decide) _ rfl),z09 2 (g 3 (by decide) _ rfl),z09 3 (g 4 (by decide) _ rfl)⟩
theorem post_at {w:World} {D:Nat->Prop} {A:Option Addr} {n k:Nat} {l:List PV} (h:Rd w D 2 A n (qJ l)) (hk:k<l.length):∃ad,A=some ad/\D ad.block/\w.cell? (ad.add (k * 2))=some (.string l[k].text)/\
 w.cell? ⟨(ad.add (k * 2)).block,(ad.add (k * 2)).off+1,none⟩=some (.slice l[k].A l[k].gs.length l[k].c):=by
 have hn:0<n:=by have:=h.1;rw[OU]at this;omega
 obtain ⟨ad,rfl,hb,hc⟩:=h.2 hn;have g:=fun i (hi:i<2) u (hu:(l[k].cs)[i]?=some u)=>hc (k * 2+i) u ((oI PV.aQ hk hi).trans hu);exact ⟨ad,rfl,hb,g 0 (by decide) _ rfl,z09 0 (g 1 (by decide) _ rfl)⟩
end Go.Proofs.YtdbfejfhpkakhaaGreat
namespace Go.Proofs.YtdbfejfhpkakhaaGreat
def aB (n:Nat):List Nat:=if h:n<128 then [n] else (128+n % 128)::aB (n / 128)
termination_by n
decreasing_by omega
theorem Nv {n:Nat} (h:n<128):aB n=[n]:=by rw[aB,dif_pos h]
theorem Tz {n:Nat} (h:128<=n):aB n=(128+n % 128)::aB (n / 128):=by rw[aB,dif_neg (by omega)]
theorem OW:∀(f n:Nat),n<128 ^ (f+1)->okB (aB n):=by
 intro f;induction f with
 |zero=>
  intro n h x hx;rw[Nv (by simpa using h)]at hx;simp at hx;omega
 |succ f ih=>
  intro n h x hx;by_cases hn:n<128
  ·rw[Nv hn]at hx
   simp at hx;omega
  ·rw[Tz (by omega)]at hx
   rcases List.mem_cons.1 hx with h1|h1
   ·omega
   ·refine ih (n / 128) (Nat.div_lt_of_lt_mul ?_) x h1
    rw[Nat.pow_succ,Nat.mul_comm]at h;exact h
theorem iG {n:Nat} (h:n<18446744073709551616):okB (aB n):=OW 9 n (Nat.lt_of_lt_of_le h (by decide))
theorem wH:∀(f n:Nat),n<128 ^ (f+1)->1<=(aB n).length/\(aB n).length<=f+1:=by
 intro f;induction f with
 |zero=>intro n h;rw[Nv (by simpa using h)];simp
 |succ f ih=>
  intro n h;by_cases hn:n<128
  ·rw[Nv hn];simp
  ·rw[Tz (by omega),List.length_cons]
   have:=ih (n / 128) (Nat.div_lt_of_lt_mul (by rw[Nat.pow_succ,Nat.mul_comm]at h;exact h));omega
theorem z08 {n:Nat} (h:n<18446744073709551616):1<=(aB n).length/\(aB n).length<=10:=wH 9 n (Nat.lt_of_lt_of_le h (by decide))
/-! ### signed ones -/
def zig (x:Int):Nat:=if 0<=x then (2 * x).toNat else (-2 * x-1).toNat
theorem zu {x:Int} (h0: -9223372036854775808<=x) (h1:x<=9223372036854775807):zig x<18446744073709551616:=by
 unfold zig;split<;>omega
end Go.Proofs.YtdbfejfhpkakhaaGreat
namespace Go.Proofs.YtdbfejfhpkakhaaGreat
open Go
structure QW (P:Program) (ops:Array Oper) (C:World->Prop) (Q:Act->Prop) (l:List Oper) (a:Act):Prop where
 out:wpQuiet P ops C Q l a
section
variable {P : Program} {C : World → Prop}
theorem z1Q (C:World->Prop) {id:Nat} {Q:Exit->Act->World->Prop} {a:Act} {w:World} {l:List Oper} (hm:P.follows .mixedOrders=true) (hB:Region.lexB .any l.toArray=true) (hC:C w.drew)
 (h:QW P l.toArray C (fun a'=>∀w',C w'->Q .normal a' w') l a):(Code.region id l.toArray true).wp P Q a w:=
 wp_region_quiet (C:=C) hm hB hC (by simpa using h.out)
variable {ops : Array Oper} {Q : Act → Prop} {o : Oper} {rest : List Oper} {a a' : Act} {v : Value}
theorem Ry (hw:Region.wanted o (yielded ops a.tmps)=true) (hy:∀w,C w->o.quietAt P a C w v) (hp:a.put o.dst v=a') (h:QW P ops C Q rest a'):QW P ops C Q (o::rest) a:=by
 subst hp;exact ⟨BigFrame.wpQuiet_want hw fun K hK=>⟨v,hy,hK _ h.out⟩⟩
theorem Rz (hw:Region.wanted o (yielded ops a.tmps)=false) (hp:a.put o.dst undef=a') (h:QW P ops C Q rest a'):QW P ops C Q (o::rest) a:=by
 subst hp;exact ⟨BigFrame.wpQuiet_skip hw h.out⟩
theorem Xe (h:Q a):QW P ops C Q [] a:=⟨wpQuiet_nil h⟩
end
end Go.Proofs.YtdbfejfhpkakhaaGreat
