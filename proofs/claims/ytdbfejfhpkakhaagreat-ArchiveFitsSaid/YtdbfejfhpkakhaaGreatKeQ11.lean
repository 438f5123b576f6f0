/- Contracts and plain laws that the last text rests on. Conditions: each theorem states its own. -/
import Derived.Test.YtdbfejfhpkakhaaGreatKeQ10
import Derived.Test.YtdbfejfhpkakhaaGreatKePbMapV
set_option maxRecDepth 100000
set_option linter.unusedVariables false
namespace Go.Proofs.YtdbfejfhpkakhaaGreat
open Go.RowKit
def Td (w:World) (k:Nat):Prop:=∃cs t z,w.heap[k]?=some (.cells cs t z)
def NC (ξ:Nat) (w:World) (k:Nat):Prop:=ξ<=k/\¬Td w k
theorem aG.PS {w:World} {g:Nat} {t:TypeId} {cs:Array Value} (h:aG w g t cs):Td w g:=⟨cs,t,_,h⟩
theorem aG.nc {ξ:Nat} {w:World} {g:Nat} {t:TypeId} {cs:Array Value} (h:aG w g t cs):¬NC ξ w g:=fun n=>n.2 h.PS
theorem Ch.jG {ξ:Nat} {a b c:World} (h:Ch (NC ξ a) a b) (k:Ch (NC ξ b) b c):Ch (NC ξ a) a c:=
 h.trans k fun i hi hn=>⟨hn.1,fun hc=>hn.2 (by
  obtain ⟨cs,t,z,e⟩:=hc;exact ⟨cs,t,z,(h.block i hi (fun hx=>hx.2 ⟨cs,t,z,e⟩)).trans e⟩)⟩
theorem Nx.nc {ξ:Nat} {a b:World} (h:Nx a b):Ch (NC ξ a) a b:=h.mono fun _ _ hf=>hf.elim
structure bn (ξ:Nat) (w:World) (b room m n:Nat) (ch:ByteArray->Option Nat) (R:ByteArray->List RV):Prop where
 blk:aG w b 104 #[.int .i64 (room:Int),.map (some m)]
 map:dS w m n (fun s=>(ch s).map fun c=>.agg #[.chan (some c)])
 box:∀s c,ch s=some c->∃p q,w.heap[c]?=some (.chan room ((R s).map aJ).toArray false p q false)
 non:∀s,ch s=none->R s=[]
 inj:∀s t c,ch s=some c->ch t=some c->s=t
 few:∀s,(R s).length<=room
 IX:ξ<=m
 K_:∀s c,ch s=some c->ξ<=c
section
variable {ξ : Nat} {w w' : World} {b room m n : Nat} {ch : ByteArray → Option Nat} {R : ByteArray → List RV}
theorem dS.nc {f:ByteArray->Option Value} (h:dS w m n f):¬Td w m:=by
 obtain ⟨D,⟨es,clock,hb,_⟩,_⟩:=h;rintro ⟨cs,t,z,e⟩;rw[hb]at e;cases e
theorem bn.sU (h:bn ξ w b room m n ch R):NC ξ w m:=⟨h.IX,h.map.nc⟩
theorem bn.kD (h:bn ξ w b room m n ch R) {s:ByteArray} {c:Nat} (hc:ch s=some c):NC ξ w c:=by
 refine ⟨h.K_ s c hc,?_⟩;obtain ⟨p,q,e⟩:=h.box s c hc;rintro ⟨cs,t,z,e2⟩;rw[e]at e2;cases e2
theorem bn.iM (h:bn ξ w b room m n ch R) {s:ByteArray} {c:Nat} (hc:ch s=some c):c<w.heap.size:=by
 obtain ⟨p,q,e⟩:=h.box s c hc;exact (Array.getElem?_eq_some_iff.1 e).1
theorem bn.jm (h:bn ξ w b room m n ch R) {s:ByteArray} {c:Nat} (hc:ch s=some c):c≠m/\c≠b:=by
 constructor
 ·rintro rfl
  obtain ⟨p,q,e⟩:=h.box s c hc;obtain ⟨D,⟨es,clock,hb,_⟩,_⟩:=h.map;rw[hb]at e;cases e
 ·rintro rfl
  exact h.blk.nc (h.kD hc)
theorem bn.QK (h:bn ξ w b room m n ch R):m≠b:=by
 rintro rfl;exact h.map.nc h.blk.PS
theorem bn.FK {S:Nat->Prop} (h:bn ξ w b room m n ch R) (c:Ch S w w') (hb:¬S b) (hS:∀k,k<w.heap.size->S k->Td w k):bn ξ w' b room m n ch R where
 blk:=h.blk.ch c hb
 map:=h.map.ch c fun hs=>h.map.nc (hS m h.map.lt hs)
 box:=fun s k hk=>by
  obtain ⟨p,q,e⟩:=h.box s k hk;exact ⟨p,q,(c.block k (h.iM hk) fun hs=>(h.kD hk).2 (hS k (h.iM hk) hs)).trans e⟩
 non:=h.non
 inj:=h.inj
 few:=h.few
 IX:=h.IX
 K_:=h.K_
theorem bn.base {ζ:Nat} (h:bn ξ w b room m n ch R) (hz:ζ<=ξ):bn ζ w b room m n ch R:=⟨h.blk,h.map,h.box,h.non,h.inj,h.few,Nat.le_trans hz h.IX,fun s c hc=>Nat.le_trans hz (h.K_ s c hc)⟩
theorem bn.nx (h:bn ξ w b room m n ch R) (c:Nx w w'):bn ξ w' b room m n ch R:=h.FK c (fun hf=>hf) fun _ _ hf=>hf.elim
end
def Xz (x:ByteArray×RV):List Value:=.string x.1::x.2.cs
theorem uj (x:ByteArray×RV):(Xz x).length=10:=rfl
def CJ (l:List (ByteArray×RV)):List Value:=l.flatMap Xz
theorem MX (l:List (ByteArray×RV)):(CJ l).length=l.length * 10:=DN uj l
theorem zZ (a b:List (ByteArray×RV)):CJ (a++b)=CJ a++CJ b:=by simp[CJ]
def dH (l:List (ByteArray×RV)) (s:ByteArray):Nat:=(l.filter fun p=>decide (p.1=s)).length
def fE (l:List (ByteArray×RV)) (s:ByteArray):List RV:=(l.filter fun p=>decide (p.1=s)).map (·.2)
theorem qy (l:List (ByteArray×RV)) (s:ByteArray):(fE l s).length=dH l s:=by simp[fE,dH]
theorem XT {l:List (ByteArray×RV)} {k:Nat} (h:k<l.length) (s:ByteArray):dH (l.take (k+1)) s=dH (l.take k) s+(if l[k].1=s then 1 else 0):=by
 unfold dH;rw[List.take_succ_eq_append_getElem h,List.filter_append,List.length_append,List.filter_cons];by_cases e:l[k].1=s<;>simp[e]
theorem zy {l:List (ByteArray×RV)} {k:Nat} (h:k<l.length) (s:ByteArray):fE (l.take (k+1)) s=fE (l.take k) s++(if l[k].1=s then [l[k].2] else []):=by
 unfold fE;rw[List.take_succ_eq_append_getElem h,List.filter_append,List.map_append,List.filter_cons];by_cases e:l[k].1=s<;>simp[e]
theorem Dh (l:List (ByteArray×RV)) (s:ByteArray):dH l s<=l.length:=List.length_filter_le _ _
theorem z2Q (l:List (ByteArray×RV)) (k:Nat) (s:ByteArray):dH (l.take k) s<=dH l s:=by
 unfold dH;exact (((List.take_sublist k l).filter _).length_le)
def fQ (l:List (ByteArray×RV)) (s:ByteArray):Option Value:=if dH l s=0 then none else some (.int .i64 (dH l s:Int))
theorem EJ (l:List (ByteArray×RV)) (s:ByteArray):(fQ l s).getD (.int .i64 0)=.int .i64 (dH l s:Int):=by
 unfold fQ;split
 ·next h=>rw[h];rfl
 ·rfl
theorem zO {l:List (ByteArray×RV)} {k:Nat} (h:k<l.length):(fun s=>if s=l[k].1 then some (Value.int .i64 ((dH (l.take k) l[k].1:Nat)+1:Int)) else fQ (l.take k) s)=fQ (l.take (k+1)):=by
 funext s
 by_cases e:s=l[k].1
 ·subst e
  have h1:dH (l.take (k+1)) l[k].1=dH (l.take k) l[k].1+1:=by rw[XT h,if_pos rfl]
  rw[if_pos rfl];unfold fQ;rw[h1,if_neg (by omega)];simp
 ·have h1:dH (l.take (k+1)) s=dH (l.take k) s:=by rw[XT h,if_neg (fun e2=>e e2.symm),Nat.add_zero]
  rw[if_neg e];unfold fQ;rw[h1]
theorem Px {w:World} {D:Nat->Prop} {A:Option Addr} {n k:Nat} {l:List (ByteArray×RV)} (h:Rd w D 10 A n (CJ l)) (hk:k<l.length):∃ad,A=some ad/\D ad.block/\w.cell? (ad.add (k * 10))=some (.string l[k].1)/\
 ∀i u,(RV.cs l[k].2)[i]?=some u->w.cell? ⟨(ad.add (k * 10)).block,(ad.add (k * 10)).off+(i+1),none⟩=some u:=by
 have hn:0<n:=by have:=h.1;rw[MX]at this;omega
 obtain ⟨ad,rfl,hb,hc⟩:=h.2 hn;refine ⟨ad,rfl,hb,hc (k * 10+0) _ (uH uj hk (by decide)),fun i u hu=>?_⟩;have hi:i<9:=by have:=List.getElem?_eq_some_iff.1 hu;have:=this.1;rw[RV.aO]at this;exact this
 have h1:=hc (k * 10+(i+1)) u ((uH uj hk (by omega)).trans hu);exact z09 i h1
end Go.Proofs.YtdbfejfhpkakhaaGreat
namespace Go.Proofs.YtdbfejfhpkakhaaGreat
open Go.RowKit Go.Maps
theorem DI (w:World):(zeroValue 3).run Tryz.prog w=.ok (.int .i64 0) w:=by kernel_rfl
theorem Gv (w:World):(zeroValue 116).run Tryz.prog w=.ok (.agg #[.chan none]) w:=by kernel_rfl
section
variable (w : World) {ops : Array Oper} {rest : List Oper} {o : Oper} {a : Act} {Q : Exit → Act → World → Prop} {b r n cnt : Nat} {f : ByteArray → Option Value} {left : ByteArray → Bool}
theorem og (hg:o.guard=none) (m:Operand) (t:TypeId) (hop:o.op=Op.range t m) {E:TypeId} (ht:Tryz.prog.underlying t=some (.map 9 E)) (hm:a.eval m=.map (some b)) (h:dS w b n f)
 (hK:∀w' cnt,iH w' b w.heap.size n f (fun s=>decide (fV s)&&(f s).isSome) cnt->w.grownBy w' none->w'.heap.size=w.heap.size+1->cnt<=n->wpList Tryz.prog ops Q rest (a.put o.dst (.pointer (some ⟨w.heap.size,0,none⟩))) w'):
 wpList Tryz.prog ops Q (o::rest) a w:=by
 refine wpList_plain hg fun K' hK'=>?_;obtain ⟨w',cnt,hrun,r1,r2,r3,r4⟩:=h.range ht;unfold Oper.wp;simp[execOp,hop,hm,hrun,Result.andThen];exact hK' _ _ (hK w' cnt r1 r2 r3 r4)
end
end Go.Proofs.YtdbfejfhpkakhaaGreat
