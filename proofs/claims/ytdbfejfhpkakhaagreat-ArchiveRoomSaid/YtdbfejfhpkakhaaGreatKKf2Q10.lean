/- Contracts and plain laws that the last text rests on. Conditions: each theorem states its own. -/
import Derived.Test.YtdbfejfhpkakhaaGreatKKf2Q9
import Derived.Test.YtdbfejfhpkakhaaGreatKKf2PbMapV
set_option maxRecDepth 100000
set_option linter.unusedVariables false
namespace Go.Proofs.YtdbfejfhpkakhaaGreat
open Go.RowKit
def Vk (w:World) (k:Nat):Prop:=∃cs t z,w.heap[k]?=some (.cells cs t z)
def NC (ξ:Nat) (w:World) (k:Nat):Prop:=ξ<=k/\¬Vk w k
theorem aB.PO {w:World} {g:Nat} {t:TypeId} {cs:Array Value} (h:aB w g t cs):Vk w g:=⟨cs,t,_,h⟩
theorem aB.nc {ξ:Nat} {w:World} {g:Nat} {t:TypeId} {cs:Array Value} (h:aB w g t cs):¬NC ξ w g:=fun n=>n.2 h.PO
theorem Ch.jK {ξ:Nat} {a b c:World} (h:Ch (NC ξ a) a b) (k:Ch (NC ξ b) b c):Ch (NC ξ a) a c:=
 h.trans k fun i hi hn=>⟨hn.1,fun hc=>hn.2 (by
  obtain ⟨cs,t,z,e⟩:=hc;exact ⟨cs,t,z,(h.block i hi (fun hx=>hx.2 ⟨cs,t,z,e⟩)).trans e⟩)⟩
theorem Nx.nc {ξ:Nat} {a b:World} (h:Nx a b):Ch (NC ξ a) a b:=h.mono fun _ _ hf=>hf.elim
structure bH (ξ:Nat) (w:World) (b room m n:Nat) (ch:ByteArray->Option Nat) (R:ByteArray->List RV):Prop where
 blk:aB w b 104 #[.int .i64 (room:Int),.map (some m)]
 map:dX w m n (fun s=>(ch s).map fun c=>.agg #[.chan (some c)])
 box:∀s c,ch s=some c->∃p q,w.heap[c]?=some (.chan room ((R s).map aK).toArray false p q false)
 non:∀s,ch s=none->R s=[]
 inj:∀s t c,ch s=some c->ch t=some c->s=t
 few:∀s,(R s).length<=room
 JR:ξ<=m
 Nl:∀s c,ch s=some c->ξ<=c
section
variable {ξ : Nat} {w w' : World} {b room m n : Nat} {ch : ByteArray → Option Nat} {R : ByteArray → List RV}
theorem dX.nc {f:ByteArray->Option Value} (h:dX w m n f):¬Vk w m:=by
 obtain ⟨D,⟨es,clock,hb,_⟩,_⟩:=h;rintro ⟨cs,t,z,e⟩;rw[hb]at e;cases e
theorem bH.tV (h:bH ξ w b room m n ch R):NC ξ w m:=⟨h.JR,h.map.nc⟩
theorem bH.kR (h:bH ξ w b room m n ch R) {s:ByteArray} {c:Nat} (hc:ch s=some c):NC ξ w c:=by
 refine ⟨h.Nl s c hc,?_⟩;obtain ⟨p,q,e⟩:=h.box s c hc;rintro ⟨cs,t,z,e2⟩;rw[e]at e2;cases e2
theorem bH.iO (h:bH ξ w b room m n ch R) {s:ByteArray} {c:Nat} (hc:ch s=some c):c<w.heap.size:=by
 obtain ⟨p,q,e⟩:=h.box s c hc;exact (Array.getElem?_eq_some_iff.1 e).1
theorem bH.jv (h:bH ξ w b room m n ch R) {s:ByteArray} {c:Nat} (hc:ch s=some c):c≠m/\c≠b:=by
 constructor
 ·rintro rfl
  obtain ⟨p,q,e⟩:=h.box s c hc;obtain ⟨D,⟨es,clock,hb,_⟩,_⟩:=h.map;rw[hb]at e;cases e
 ·rintro rfl
  exact h.blk.nc (h.kR hc)
theorem bH.TD (h:bH ξ w b room m n ch R):m≠b:=by
 rintro rfl;exact h.map.nc h.blk.PO
theorem bH.Ef {S:Nat->Prop} (h:bH ξ w b room m n ch R) (c:Ch S w w') (hb:¬S b) (hS:∀k,k<w.heap.size->S k->Vk w k):bH ξ w' b room m n ch R where
 blk:=h.blk.ch c hb
 map:=h.map.ch c fun hs=>h.map.nc (hS m h.map.lt hs)
 box:=fun s k hk=>by
  obtain ⟨p,q,e⟩:=h.box s k hk;exact ⟨p,q,(c.block k (h.iO hk) fun hs=>(h.kR hk).2 (hS k (h.iO hk) hs)).trans e⟩
 non:=h.non
 inj:=h.inj
 few:=h.few
 JR:=h.JR
 Nl:=h.Nl
theorem bH.base {ζ:Nat} (h:bH ξ w b room m n ch R) (hz:ζ<=ξ):bH ζ w b room m n ch R:=⟨h.blk,h.map,h.box,h.non,h.inj,h.few,Nat.le_trans hz h.JR,fun s c hc=>Nat.le_trans hz (h.Nl s c hc)⟩
theorem bH.nx (h:bH ξ w b room m n ch R) (c:Nx w w'):bH ξ w' b room m n ch R:=h.Ef c (fun hf=>hf) fun _ _ hf=>hf.elim
end
def Y_ (x:ByteArray×RV):List Value:=.string x.1::x.2.cs
theorem uM (x:ByteArray×RV):(Y_ x).length=10:=rfl
def Dy (l:List (ByteArray×RV)):List Value:=l.flatMap Y_
theorem O_ (l:List (ByteArray×RV)):(Dy l).length=l.length * 10:=zf uM l
theorem AX (a b:List (ByteArray×RV)):Dy (a++b)=Dy a++Dy b:=by simp[Dy]
def dO (l:List (ByteArray×RV)) (s:ByteArray):Nat:=(l.filter fun p=>decide (p.1=s)).length
def fJ (l:List (ByteArray×RV)) (s:ByteArray):List RV:=(l.filter fun p=>decide (p.1=s)).map (·.2)
theorem qE (l:List (ByteArray×RV)) (s:ByteArray):(fJ l s).length=dO l s:=by simp[fJ,dO]
theorem ZB {l:List (ByteArray×RV)} {k:Nat} (h:k<l.length) (s:ByteArray):dO (l.take (k+1)) s=dO (l.take k) s+(if l[k].1=s then 1 else 0):=by
 unfold dO;rw[List.take_succ_eq_append_getElem h,List.filter_append,List.length_append,List.filter_cons];by_cases e:l[k].1=s<;>simp[e]
theorem zX {l:List (ByteArray×RV)} {k:Nat} (h:k<l.length) (s:ByteArray):fJ (l.take (k+1)) s=fJ (l.take k) s++(if l[k].1=s then [l[k].2] else []):=by
 unfold fJ;rw[List.take_succ_eq_append_getElem h,List.filter_append,List.map_append,List.filter_cons];by_cases e:l[k].1=s<;>simp[e]
theorem DW (l:List (ByteArray×RV)) (s:ByteArray):dO l s<=l.length:=List.length_filter_le _ _
theorem z2X (l:List (ByteArray×RV)) (k:Nat) (s:ByteArray):dO (l.take k) s<=dO l s:=by
 unfold dO;exact (((List.take_sublist k l).filter _).length_le)
def gu (l:List (ByteArray×RV)) (s:ByteArray):Option Value:=if dO l s=0 then none else some (.int .i64 (dO l s:Int))
theorem FV (l:List (ByteArray×RV)) (s:ByteArray):(gu l s).getD (.int .i64 0)=.int .i64 (dO l s:Int):=by
 unfold gu;split
 ·next h=>rw[h];rfl
 ·rfl
theorem Au {l:List (ByteArray×RV)} {k:Nat} (h:k<l.length):(fun s=>if s=l[k].1 then some (Value.int .i64 ((dO (l.take k) l[k].1:Nat)+1:Int)) else gu (l.take k) s)=gu (l.take (k+1)):=by
 funext s
 by_cases e:s=l[k].1
 ·subst e
  have h1:dO (l.take (k+1)) l[k].1=dO (l.take k) l[k].1+1:=by rw[ZB h,if_pos rfl]
  rw[if_pos rfl];unfold gu;rw[h1,if_neg (by omega)];simp
 ·have h1:dO (l.take (k+1)) s=dO (l.take k) s:=by rw[ZB h,if_neg (fun e2=>e e2.symm),Nat.add_zero]
  rw[if_neg e];unfold gu;rw[h1]
theorem Rj {w:World} {D:Nat->Prop} {A:Option Addr} {n k:Nat} {l:List (ByteArray×RV)} (h:Rd w D 10 A n (Dy l)) (hk:k<l.length):∃ad,A=some ad/\D ad.block/\w.cell? (ad.add (k * 10))=some (.string l[k].1)/\
 ∀i u,(RV.cs l[k].2)[i]?=some u->w.cell? ⟨(ad.add (k * 10)).block,(ad.add (k * 10)).off+(i+1),none⟩=some u:=by
 have hn:0<n:=by have:=h.1;rw[O_]at this;omega
 obtain ⟨ad,rfl,hb,hc⟩:=h.2 hn;refine ⟨ad,rfl,hb,hc (k * 10+0) _ (ou uM hk (by decide)),fun i u hu=>?_⟩;have hi:i<9:=by have:=List.getElem?_eq_some_iff.1 hu;have:=this.1;rw[RV.aO]at this;exact this
 have h1:=hc (k * 10+(i+1)) u ((ou uM hk (by omega)).trans hu);exact z08 i h1
end Go.Proofs.YtdbfejfhpkakhaaGreat
namespace Go.Proofs.YtdbfejfhpkakhaaGreat
open Go.RowKit Go.Maps
theorem Ez (w:World):(zeroValue 3).run Tryz.prog w=.ok (.int .i64 0) w:=by kernel_rfl
theorem IB (w:World):(zeroValue 116).run Tryz.prog w=.ok (.agg #[.chan none]) w:=by kernel_rfl
section
variable (w : World) {ops : Array Oper} {rest : List Oper} {o : Oper} {a : Act} {Q : Exit → Act → World → Prop} {b r n cnt : Nat} {f : ByteArray → Option Value} {left : ByteArray → Bool}
theorem oC (hg:o.guard=none) (m:Operand) (t:TypeId) (hop:o.op=Op.range t m) {E:TypeId} (ht:Tryz.prog.underlying t=some (.map 9 E)) (hm:a.eval m=.map (some b)) (h:dX w b n f)
 (hK:∀w' cnt,iL w' b w.heap.size n f (fun s=>decide (fU s)&&(f s).isSome) cnt->w.grownBy w' none->w'.heap.size=w.heap.size+1->cnt<=n->wpList Tryz.prog ops Q rest (a.put o.dst (.pointer (some ⟨w.heap.size,0,none⟩))) w'):
 wpList Tryz.prog ops Q (o::rest) a w:=by
 refine wpList_plain hg fun K' hK'=>?_;obtain ⟨w',cnt,hrun,r1,r2,r3,r4⟩:=h.range ht;unfold Oper.wp;simp[execOp,hop,hm,hrun,Result.andThen];exact hK' _ _ (hK w' cnt r1 r2 r3 r4)
end
end Go.Proofs.YtdbfejfhpkakhaaGreat
