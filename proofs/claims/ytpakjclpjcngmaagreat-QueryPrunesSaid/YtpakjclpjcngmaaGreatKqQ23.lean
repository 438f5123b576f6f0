/- Contracts and plain laws that the last text rests on. Conditions: each theorem states its own. -/
import Derived.Test.YtpakjclpjcngmaaGreatKqQ19
import Derived.Test.YtpakjclpjcngmaaGreatKqQ5
import Derived.Test.YtpakjclpjcngmaaGreatKqQ21
import Derived.Test.YtpakjclpjcngmaaGreatKqQ15
import Derived.Test.YtpakjclpjcngmaaGreatKqQ9
import Derived.Test.YtpakjclpjcngmaaGreatKqQ22
set_option maxRecDepth 100000
set_option maxHeartbeats 16000000
set_option linter.unusedVariables false
namespace Go.Proofs.YtpakjclpjcngmaaGreat
def gI (x:au):Bool:=
 decide (0<=x.time/\x.time<1099511627776)&&jH x.ay&&
  (if x.kind=1 then decide (x.text.size<=200/\x.value=0)&& !x.null
   else if x.kind=2 then decide (x.text.size=0/\ -1152921504606846976<=x.value/\x.value<=1152921504606846976)&&(!x.null||decide (x.value=0))
   else false)
def SB (x:au):Bool:=decide (1<=x.maker/\x.maker<=64/\1<=x.seq/\x.seq<1099511627776/\0<=x.place/\x.place<64)
def mW (l:List au) (i:Nat):Bool:=match l[i]? with
 |none=>false
 |some x=>gI x&&SB x&&(match i with|0=>true|j+1=>match l[j]? with|none=>false|some y=>dW y x)
def iL (l:List au):Bool:=decide (0<l.length)&&(List.range l.length).all (mW l)
def b_ (x:au):ByteArray:=xR x.ay
def dJ (x:List Nat):List Nat:=ak x.length++x
def bY (l:List au):List (List Nat):=
 [aB 1 (bM (l.map fun x=>x.time)),aB 1 (bM (l.map fun x=>x.maker)),aB 1 (bM (l.map fun x=>x.seq)),aB 1 (bM (l.map fun x=>x.place)),aB 1 (bM (l.map fun x=>x.kind)),
  aB 2 (aZ (l.map b_)),aB 3 (bC (l.map fun x=>x.text)),aB 1 (bM (l.map fun x=>x.value)),aB 4 (aW (l.map fun x=>x.null))]
def z08 (l:List au):List Nat:=(bY l).flatMap dJ
def dw {α:Type} (per:Nat) (l:List α):List (List α):=(List.range ((l.length+per-1) / per)).map fun i=>(l.drop (i * per)).take per
structure PostE where
 text:ByteArray
 gs:List Nat
def gG (s:aN):List Nat:=ak s.place.toNat++ak s.size.toNat++ak s.rows.toNat++ak s.lo.toNat++ak s.hi.toNat
def dU (p:PostE):List Nat:=ak p.text.size++kP p.text++ak p.gs.length++p.gs.flatMap ak
def iP (ss:List aN) (ps:List PostE):List Nat:=ak ss.length++ss.flatMap gG++ak ps.length++ps.flatMap dU
def headB:List Nat:=[69,78,84,82,1]
def firstT (l:List au):Int:=match l.head? with|some x=>x.time|none=>0
def lastT (l:List au):Int:=match l.getLast? with|some x=>x.time|none=>0
def jW:Nat->List (List au)->List aN
 |_,[]=>[]
 |at_,g::gs=>⟨at_,(z08 g).length,g.length,firstT g,lastT g⟩::jW (at_+(z08 g).length) gs
def fC (t:ByteArray) (k:Nat) (gs:List (List au)):List Nat:=((List.range gs.length).filter fun i=>(gs.getD i []).any fun x=>decide (b_ x=t)).map (· +k)
def z16 (gs:List (List au)):List PostE:=(bU (gs.flatten.map b_)).map fun t=>⟨t,fC t 0 gs⟩
def bf (gs:List (List au)):List Nat:=gs.flatMap z08
def iF (gs:List (List au)):List Nat:=f_ (iP (jW 5 gs) (z16 gs))
def kN (gs:List (List au)):List Nat:=headB++bf gs++iF gs++four (iF gs).length++[69,78,84,82]
def aY (l:List au) (per:Nat):List Nat:=kN (dw per l)
abbrev iZ:=Nat×Int
def pK (xs:List Nat) (s:iZ):aN×iZ:=
 let a:=aX xs s.1 s.2 262144
 let b:=aX xs a.2.1 a.2.2 262144
 let c:=aX xs b.2.1 b.2.2 262144
 let d:=aX xs c.2.1 c.2.2 1099511627775
 let e:=aX xs d.2.1 d.2.2 1099511627775
 (⟨a.1,b.1,c.1,d.1,e.1⟩,e.2)
def Ph (xs:List Nat):Nat->iZ->List aN×iZ
 |0,s=>([],s)
 |n+1,s=>let a:=pK xs s;let b:=Ph xs n a.2;(a.1::b.1,b.2)
def jM (xs:List Nat):Nat->iZ->List Nat×iZ
 |0,s=>([],s)
 |n+1,s=>let a:=aX xs s.1 s.2 262144;let b:=jM xs n a.2;(a.1::b.1,b.2)
def postS (xs:List Nat) (s:iZ):PostE×iZ:=
 let t:=cZ xs s.1 s.2 1024
 let m:=aX xs t.2.1 t.2.2 2048
 let g:=jM xs m.1 m.2
 (⟨bF t.1,g.1⟩,g.2)
def Vb (xs:List Nat) (s:iZ):Bool:=decide (bW xs.length s.1 s.2=0∨bW xs.length s.1 s.2=5)
def z21 (xs:List Nat):Nat->iZ->List PostE×iZ
 |0,s=>([],s)
 |n+1,s=>let a:=postS xs s;if Vb xs a.2=true then let b:=z21 xs n a.2;(a.1::b.1,b.2) else ([a.1],a.2)
def mZ (xs:List Nat):List aN×List PostE×iZ:=
 let n:=aX xs 0 0 2048
 let a:=Ph xs n.1 n.2
 let m:=aX xs a.2.1 a.2.2 2048
 let b:=z21 xs m.1 m.2
 (a.1,b.1,b.2)
def fF (b:List Nat):List aN×List PostE×Int:=
 if AB b then
  let t:=mZ (b.take (b.length-4))
  if bW (b.length-4) t.2.2.1 t.2.2.2=0 then (t.1,t.2.1,0) else ([],[],4)
 else ([],[],if b.length<4 then 3 else 6)
/-! what was written is read -/
theorem VL {xs rest:List Nat} {p v:Nat} {most:Int} (hd:xs.drop p=ak v++rest) (hp:p<=xs.length) (hv:(v:Int)<=most) (hm:most<=9223372036854775807):
 aX xs p 0 most=(v,p+(ak v).length,0)/\xs.drop (p+(ak v).length)=rest/\p+(ak v).length<=xs.length:=by
 have hr:=Vh (v:=v) (by omega) hp hd;refine ⟨?_,z11 hd,?_⟩
 ·unfold aX
  rw[if_neg (by simp),hr,if_neg (by simp),if_neg (by simp only;omega)]
 ·have:=congrArg List.length hd
  rw[List.length_drop,List.length_append]at this;have:=(z06 (n:=v) (by omega)).1;omega
theorem z5F {xs rest t:List Nat} {p m:Nat} (hd:xs.drop p=ak t.length++(t++rest)) (hp:p<=xs.length) (hv:t.length<=m) (hm:m<9223372036854775808):
 cZ xs p 0 m=(t,p+(ak t.length).length+t.length,0)/\xs.drop (p+(ak t.length).length+t.length)=rest/\p+(ak t.length).length+t.length<=xs.length:=by
 have hr:=Vh (v:=t.length) (by omega) hp hd;have hl:=congrArg List.length hd;rw[List.length_drop,List.length_append,List.length_append]at hl;have h1:=(z06 (n:=t.length) (by omega)).1;have h2:=z11 hd;refine ⟨?_,z11 h2,by omega⟩;unfold cZ;rw[if_neg (by simp),hr,if_neg (by simp),if_neg (by simp only;omega),if_neg (by simp only;omega)];simp only;rw[h2,List.take_left]
def aN.fits (s:aN):Prop:=(0<=s.place/\s.place<=262144)/\(0<=s.size/\s.size<=262144)/\(0<=s.rows/\s.rows<=262144)/\(0<=s.lo/\s.lo<=1099511627775)/\(0<=s.hi/\s.hi<=1099511627775)
theorem Qu {xs rest:List Nat} {p:Nat} {s:aN} (hf:s.fits) (hd:xs.drop p=gG s++rest) (hp:p<=xs.length):
 pK xs (p,0)=(s,p+(gG s).length,0)/\xs.drop (p+(gG s).length)=rest/\p+(gG s).length<=xs.length:=by
 obtain ⟨a,b,c,d,e⟩:=s;obtain ⟨h1,h2,h3,h4,h5⟩:=hf;simp only at h1 h2 h3 h4 h5;obtain ⟨a,rfl⟩:=Int.eq_ofNat_of_zero_le h1.1;obtain ⟨b,rfl⟩:=Int.eq_ofNat_of_zero_le h2.1;obtain ⟨c,rfl⟩:=Int.eq_ofNat_of_zero_le h3.1;obtain ⟨d,rfl⟩:=Int.eq_ofNat_of_zero_le h4.1;obtain ⟨e,rfl⟩:=Int.eq_ofNat_of_zero_le h5.1;unfold gG at *;simp only[Int.toNat_natCast,List.append_assoc]at hd ⊢;obtain ⟨e1,d1,l1⟩:=VL (most:=262144) hd hp h1.2 (by decide);obtain ⟨e2,d2,l2⟩:=VL (most:=262144) d1 l1 h2.2 (by decide);obtain ⟨e3,d3,l3⟩:=VL (most:=262144) d2 l2 h3.2 (by decide);obtain ⟨e4,d4,l4⟩:=VL (most:=1099511627775) d3 l3 h4.2 (by decide);obtain ⟨e5,d5,l5⟩:=VL (most:=1099511627775) d4 l4 h5.2 (by decide);simp only[List.length_append,←Nat.add_assoc];refine ⟨?_,d5,l5⟩;unfold pK;simp only[e1,e2,e3,e4,e5]
theorem vF {xs:List Nat}:∀{l:List aN} {rest:List Nat} {p:Nat},(∀s∈l,s.fits)->xs.drop p=l.flatMap gG++rest->p<=xs.length->
 Ph xs l.length (p,0)=(l,p+(l.flatMap gG).length,0)/\xs.drop (p+(l.flatMap gG).length)=rest/\p+(l.flatMap gG).length<=xs.length
 |[],rest,p,_,hd,hp=>⟨rfl,hd,hp⟩
 |s::l,rest,p,hf,hd,hp=>by
  rw[List.flatMap_cons,List.append_assoc]at hd;obtain ⟨e1,d1,l1⟩:=Qu (hf s List.mem_cons_self) hd hp;obtain ⟨e2,d2,l2⟩:=vF (fun t ht=>hf t (List.mem_cons_of_mem _ ht)) d1 l1;rw[List.flatMap_cons,List.length_append,←Nat.add_assoc];refine ⟨?_,d2,l2⟩;rw[List.length_cons,Ph];simp only[e1,e2]
theorem Cc {xs:List Nat}:∀{l:List Nat} {rest:List Nat} {p:Nat},(∀s∈l,s<=262144)->xs.drop p=l.flatMap ak++rest->p<=xs.length->
 jM xs l.length (p,0)=(l,p+(l.flatMap ak).length,0)/\xs.drop (p+(l.flatMap ak).length)=rest/\p+(l.flatMap ak).length<=xs.length
 |[],rest,p,_,hd,hp=>⟨rfl,hd,hp⟩
 |s::l,rest,p,hf,hd,hp=>by
  rw[List.flatMap_cons,List.append_assoc]at hd;obtain ⟨e1,d1,l1⟩:=VL (most:=262144) hd hp (by have:=hf s List.mem_cons_self;omega) (by decide);obtain ⟨e2,d2,l2⟩:=Cc (fun t ht=>hf t (List.mem_cons_of_mem _ ht)) d1 l1;rw[List.flatMap_cons,List.length_append,←Nat.add_assoc];refine ⟨?_,d2,l2⟩;rw[List.length_cons,jM];simp only[e1,e2]
def PostE.fits (p:PostE):Prop:=p.text.size<=1024/\p.gs.length<=2048/\∀g∈p.gs,g<=262144
theorem QT {xs rest:List Nat} {p:Nat} {x:PostE} (hf:x.fits) (hd:xs.drop p=dU x++rest) (hp:p<=xs.length):
 postS xs (p,0)=(x,p+(dU x).length,0)/\xs.drop (p+(dU x).length)=rest/\p+(dU x).length<=xs.length:=by
 obtain ⟨t,gs⟩:=x;obtain ⟨h1,h2,h3⟩:=hf;simp only at h1 h2 h3;unfold dU at *;simp only[List.append_assoc]at hd ⊢;rw[←AO t]at hd h1 ⊢;obtain ⟨e1,d1,l1⟩:=z5F hd hp h1 (by decide);obtain ⟨e2,d2,l2⟩:=VL (most:=2048) d1 l1 (by omega) (by decide);obtain ⟨e3,d3,l3⟩:=Cc h3 d2 l2;simp only[List.length_append,←Nat.add_assoc];refine ⟨?_,d3,l3⟩;unfold postS;simp only[e1,e2,e3,o_]
theorem NZ (xs:List Nat) (p:Nat):Vb xs (p,0)=true:=by
 unfold Vb bW;rw[decide_eq_true_eq];simp only[ne_eq,not_true_eq_false,if_false];split
 ·exact .inr rfl
 ·exact .inl rfl
theorem vT {xs:List Nat}:∀{l:List PostE} {rest:List Nat} {p:Nat},(∀s∈l,s.fits)->xs.drop p=l.flatMap dU++rest->p<=xs.length->
 z21 xs l.length (p,0)=(l,p+(l.flatMap dU).length,0)/\xs.drop (p+(l.flatMap dU).length)=rest/\p+(l.flatMap dU).length<=xs.length
 |[],rest,p,_,hd,hp=>⟨rfl,hd,hp⟩
 |s::l,rest,p,hf,hd,hp=>by
  rw[List.flatMap_cons,List.append_assoc]at hd;obtain ⟨e1,d1,l1⟩:=QT (hf s List.mem_cons_self) hd hp;obtain ⟨e2,d2,l2⟩:=vT (fun t ht=>hf t (List.mem_cons_of_mem _ ht)) d1 l1;rw[List.flatMap_cons,List.length_append,←Nat.add_assoc];refine ⟨?_,d2,l2⟩;rw[List.length_cons,z21];simp only[e1,NZ,if_true,e2]
theorem Tt {ss:List aN} {ps:List PostE} (hs:∀s∈ss,s.fits) (hp:∀p∈ps,p.fits) (h1:ss.length<=2048) (h2:ps.length<=2048):fF (f_ (iP ss ps))=(ss,ps,0):=by
 have hd0:(iP ss ps).drop 0=ak ss.length++(ss.flatMap gG++(ak ps.length++(ps.flatMap dU++[]))):=by simp[iP]
 obtain ⟨e1,d1,l1⟩:=VL (most:=2048) hd0 (Nat.zero_le _) (by omega) (by decide);rw[Nat.zero_add]at e1 d1 l1;obtain ⟨e2,d2,l2⟩:=vF hs d1 l1;obtain ⟨e3,d3,l3⟩:=VL (most:=2048) d2 l2 (by omega) (by decide);obtain ⟨e4,d4,l4⟩:=vT hp d3 l3;have hl:(f_ (iP ss ps)).length-4=(iP ss ps).length:=by rw[Vm];omega
 have ht:(f_ (iP ss ps)).take (iP ss ps).length=iP ss ps:=by unfold f_;rw[List.take_left]
 unfold fF;rw[if_pos (z3r _),hl,ht];unfold mZ;simp only[e1,e2,e3,e4];have:=List.drop_eq_nil_iff.1 d4;rw[if_pos (by unfold bW;rw[if_neg (by simp),if_neg (by omega)])]
end Go.Proofs.YtpakjclpjcngmaaGreat
namespace Go.Proofs.YtpakjclpjcngmaaGreat
open Ps
theorem Gp (all:List ByteArray) (ha:all.length<=256):∀(n:Nat) (l:List ByteArray),l.length<=n->n<=256->(dQ all l).length<=4 * l.length:=by
 intro n;induction n with
 |zero=>
  intro l h _;have:l=[]:=List.eq_nil_of_length_eq_zero (by omega);subst this;rw[z2l];exact Nat.zero_le _
 |succ n ih=>
  intro l h hn;cases l with
  |nil=>rw[z2l];exact Nat.zero_le _
  |cons x xs=>
   rw[dQ];have h1:=JY x xs;have h2:fB all x<=all.length:=List.findIdx_le_length;simp only[List.length_cons]at h;have h3:=ih (xs.drop (runN x xs)) (by rw[List.length_drop];omega) (by omega);have h4:=z20 (n:=fB all x) (by omega);have h5:=z20 (n:=runN x xs+1) (by omega);rw[List.length_drop]at h3;simp only[List.length_append,List.length_cons];omega
theorem z4X:∀{all:List ByteArray},(∀s∈all,s.size<=242)->(uJ all).length<=244 * all.length
 |[],_=>Nat.le_refl _
 |s::all,h=>by
  have h1:=z4X (all:=all) fun t ht=>h t (List.mem_cons_of_mem _ ht);have h2:=h s List.mem_cons_self;have h3:=z20 (n:=s.size) (by omega);rw[z3n,List.length_append,List.length_append,AO,List.length_cons];omega
theorem Fj {l:List ByteArray} (hl:l.length<=256) (hs:∀s∈l,s.size<=242):(aZ l).length<=65536:=by
 have h1:=z12 l;have h2:=z4X (all:=bU l) fun s h=>hs s (PO.1 h);have h3:=Gp (bU l) (by omega) _ l (Nat.le_refl _) hl;have h4:=z20 (n:=(bU l).length) (by omega);have h5:=z20 (n:=l.length) (by omega);unfold aZ;simp only[List.length_append];omega
theorem uX:∀{l:List ByteArray},(∀s∈l,s.size<=200)->(iK l).length<=2 * l.length/\(h_ l).length<=200 * l.length
 |[],_=>⟨Nat.le_refl _,Nat.le_refl _⟩
 |s::l,h=>by
  have h1:=uX (l:=l) fun t ht=>h t (List.mem_cons_of_mem _ ht);have h2:=h s List.mem_cons_self;have h3:=z20 (n:=s.size) (by omega);unfold iK h_ at *;simp only[List.flatMap_cons,List.length_append,List.length_cons,AO];omega
theorem FH {l:List ByteArray} (hl:l.length<=256) (hs:∀s∈l,s.size<=200):(bC l).length<=65536:=by
 have h1:=uX hs;have h2:=z20 (n:=l.length) (by omega);unfold bC;simp only[List.length_append];omega
def zL (x:au):Prop:=gI x=true/\SB x=true
theorem z14 {x:au} (h:gI x=true):0<=x.time/\x.time<1099511627776/\jH x.ay=true/\(x.kind=1∨x.kind=2)/\ -1152921504606846976<=x.value/\x.value<=1152921504606846976/\x.text.size<=200:=by
 unfold gI at h;rw[Bool.and_eq_true,Bool.and_eq_true,decide_eq_true_eq]at h;obtain ⟨⟨⟨h1,h2⟩,h3⟩,h4⟩:=h;refine ⟨h1,h2,h3,?_⟩;by_cases k1:x.kind=1
 ·rw[if_pos k1,Bool.and_eq_true,decide_eq_true_eq]at h4
  obtain ⟨⟨h5,h6⟩,_⟩:=h4;exact ⟨.inl k1,by omega,by omega,h5⟩
 ·rw[if_neg k1]at h4
  by_cases k2:x.kind=2
  ·rw[if_pos k2,Bool.and_eq_true,decide_eq_true_eq]at h4
   obtain ⟨⟨h5,h6,h7⟩,_⟩:=h4;exact ⟨.inr k2,h6,h7,by omega⟩
  ·rw[if_neg k2]at h4
   cases h4
theorem z5w {x:au} (h:SB x=true):1<=x.maker/\x.maker<=64/\1<=x.seq/\x.seq<1099511627776/\0<=x.place/\x.place<64:=by
 unfold SB at h;rw[decide_eq_true_eq]at h;exact h
theorem qc {l:List dP} (h:jH l=true):l.length<=4/\∀x∈l,fE x.name=true/\x.value.size<=16:=by
 unfold jH at h;rw[Bool.and_eq_true,decide_eq_true_eq,z2r]at h;refine ⟨h.1,fun x hx=>?_⟩;obtain ⟨i,hi,rfl⟩:=List.mem_iff_getElem.1 hx;have h2:=h.2 i hi;unfold nC at h2;rw[yU hi,Bool.and_eq_true,Bool.and_eq_true,decide_eq_true_eq]at h2;exact h2.1
theorem z2N (x:au):(b_ x).size<=242:=by
 unfold b_ xR;split
 ·next h=>
  obtain ⟨h1,h2⟩:=qc h;have h3:=z5S h2;show (textF x.ay).toArray.size<=242
  rw[List.size_toArray];unfold textF;simp only[List.length_cons,List.length_append,List.length_nil];omega
 ·exact Nat.zero_le _
theorem MJ {l:List Int} (h1:l.length<=2048) (h2:∀x∈l,qO x):aS l=0:=by
 unfold aS;rw[if_neg (by omega),if_pos h2]
theorem nP (l:List au):∀s∈l.map b_,s.size<=1024:=fun s hs=>by
 obtain ⟨x,_,rfl⟩:=List.mem_map.1 hs;have:=z2N x;omega
structure fD (l:List au):Prop where
 few:l.length<=256
 row:∀x∈l,zL x
theorem fD.ints {l:List au} (h:fD l) {f:au->Int} (hf:∀x,zL x->qO (f x)):aS (l.map f)=0:=
 MJ (by rw[List.length_map];have:=h.few;omega) fun y hy=>by
  obtain ⟨x,hx,rfl⟩:=List.mem_map.1 hy;exact hf x (h.row x hx)
section
variable {l : List au} (h : fD l)
include h
theorem fD.time:aS (l.map fun x=>x.time)=0:=h.ints fun x hx=>by have:=z14 hx.1;unfold qO;omega
theorem fD.maker:aS (l.map fun x=>x.maker)=0:=h.ints fun x hx=>by have:=z5w hx.2;unfold qO;omega
theorem fD.seq:aS (l.map fun x=>x.seq)=0:=h.ints fun x hx=>by have:=z5w hx.2;unfold qO;omega
theorem fD.place:aS (l.map fun x=>x.place)=0:=h.ints fun x hx=>by have:=z5w hx.2;unfold qO;omega
theorem fD.kind:aS (l.map fun x=>x.kind)=0:=h.ints fun x hx=>by have:=z14 hx.1;unfold qO;omega
theorem fD.value:aS (l.map fun x=>x.value)=0:=h.ints fun x hx=>by have:=z14 hx.1;unfold qO;omega
theorem fD.words:(aZ (l.map b_)).length<=65536:=Fj (by rw[List.length_map];exact h.few) fun s hs=>by
 obtain ⟨x,_,rfl⟩:=List.mem_map.1 hs;exact z2N x
theorem fD.texts:(bC (l.map fun x=>x.text)).length<=65536:=FH (by rw[List.length_map];exact h.few) fun s hs=>by
 obtain ⟨x,hx,rfl⟩:=List.mem_map.1 hs;exact (z14 (h.row x hx).1).2.2.2.2.2.2
theorem fD.text:∀s∈l.map (fun x=>x.text),s.size<=1024:=fun s hs=>by
 obtain ⟨x,hx,rfl⟩:=List.mem_map.1 hs;have:=(z14 (h.row x hx).1).2.2.2.2.2.2;show x.text.size<=1024
 omega
end
theorem z35 {l:List au} {i:Nat} (h:i<l.length):mW l i=(gI l[i]&&SB l[i]&&(decide (i=0)||dW (l.getD (i-1) l[i]) l[i])):=by
 unfold mW;rw[List.getElem?_eq_getElem h];simp only;cases i with
 |zero=>simp
 |succ j=>
  simp only[List.getElem?_eq_getElem (show j<l.length by omega),Nat.add_sub_cancel,List.getD,Option.getD_some];simp
theorem z17 {l:List au}:iL l=true↔0<l.length/\(∀x∈l,zL x)/\l.Pairwise (fun x y=>dW x y=true):=by
 unfold iL;rw[Bool.and_eq_true,decide_eq_true_eq,z2r];constructor
 ·rintro ⟨h1,h2⟩
  refine ⟨h1,fun x hx=>?_,?_⟩
  ·obtain ⟨i,hi,rfl⟩:=List.mem_iff_getElem.1 hx
   have h3:=h2 i hi;rw[z35 hi,Bool.and_eq_true,Bool.and_eq_true]at h3;exact h3.1
  ·have key:∀d i (hi:i+d+1<l.length),dW (l[i]'(by omega)) l[i+d+1]=true:=by
    intro d;induction d with
    |zero=>
     intro i hi;have h3:=h2 (i+1) hi;rw[z35 hi,Bool.and_eq_true,Bool.or_eq_true]at h3;rcases h3.2 with h3|h3
     ·simp at h3
     ·simpa [List.getD,List.getElem?_eq_getElem (show i<l.length by omega)]using h3
    |succ d ih=>
     intro i hi;have a:=ih i (by omega);have h3:=h2 (i+(d+1)+1) hi;rw[z35 hi,Bool.and_eq_true,Bool.or_eq_true]at h3
     have b:dW (l[i+d+1]'(by omega)) l[i+(d+1)+1]=true:=by
      rcases h3.2 with h3|h3
      ·simp at h3
      ·simpa [List.getD,List.getElem?_eq_getElem (show i+d+1<l.length by omega),show i+(d+1)=i+d+1 by omega]using h3
     exact z3a.trans _ _ _ a b
   rw[List.pairwise_iff_getElem];intro i j hi hj hij;have:=key (j-i-1) i (by omega);simpa [show i+(j-i-1)+1=j by omega]using this
 ·rintro ⟨h1,h2,h3⟩
  refine ⟨h1,fun i hi=>?_⟩;obtain ⟨h4,h5⟩:=h2 l[i] (List.getElem_mem hi);rw[z35 hi,h4,h5,Bool.and_eq_true,Bool.or_eq_true,decide_eq_true_eq];refine ⟨rfl,?_⟩;by_cases h0:i=0
  ·exact .inl h0
  ·right
   have:=List.pairwise_iff_getElem.1 h3 (i-1) i (by omega) hi (by omega);simpa [List.getD,List.getElem?_eq_getElem (show i-1<l.length by omega)]using this
end Go.Proofs.YtpakjclpjcngmaaGreat
namespace Go.Proofs.YtpakjclpjcngmaaGreat
open Go.RowKit
theorem LM (t:ByteArray):t.toList.isEmpty=decide (t.size=0):=by
 rw[Bool.eq_iff_iff,List.isEmpty_iff,decide_eq_true_iff,←List.length_eq_zero_iff];have:t.toList.length=t.size:=by rw[ByteArray.toList_eq,Array.length_toList];rfl
 omega
def WC (x:RV):Value:=.agg #[.int .i64 x.row.kind,.int .i64 x.row.time,.slice x.A x.row.ay.length x.c,.string x.row.text,.int .i64 x.row.value,.bool x.row.null]
section
variable {kind time value maker seq place : Int} {ay : List dP} {text : ByteArray} {null : Bool}
theorem ZI (h:¬0<=time):gI (⟨kind,time,ay,text,value,null,maker,seq,place⟩:au)=false:=by simp[gI,h]
theorem ZH (h:¬time<1099511627776):gI (⟨kind,time,ay,text,value,null,maker,seq,place⟩:au)=false:=by simp[gI];omega
theorem adl (h:jH ay=false):gI (⟨kind,time,ay,text,value,null,maker,seq,place⟩:au)=false:=by simp[gI,h]
theorem adn (h1:kind≠1) (h2:kind≠2):gI (⟨kind,time,ay,text,value,null,maker,seq,place⟩:au)=false:=by simp[gI,h1,h2]
end
section
variable {time value maker seq place : Int} {ay : List dP} {text : ByteArray} {null : Bool}
theorem ZN (h:¬text.size<=200):gI (⟨1,time,ay,text,value,null,maker,seq,place⟩:au)=false:=by simp[gI,h]
theorem ZM (h:¬value=0):gI (⟨1,time,ay,text,value,null,maker,seq,place⟩:au)=false:=by simp[gI,h]
theorem rec_1 (h1:0<=time) (h2:time<1099511627776) (h3:jH ay=true) (h4:text.size<=200) (h5:value=0):gI (⟨1,time,ay,text,value,null,maker,seq,place⟩:au)= !null:=by simp[gI,h1,h2,h3,h4,h5]
theorem ZJ (h:¬text.size=0):gI (⟨2,time,ay,text,value,null,maker,seq,place⟩:au)=false:=by simp[gI,h]
theorem ZL (h:¬ -1152921504606846976<=value):gI (⟨2,time,ay,text,value,null,maker,seq,place⟩:au)=false:=by simp[gI];omega
theorem ZK (h:¬value<=1152921504606846976):gI (⟨2,time,ay,text,value,null,maker,seq,place⟩:au)=false:=by simp[gI];omega
theorem rec_2 (h1:0<=time) (h2:time<1099511627776) (h3:jH ay=true) (h4:text.size=0) (h5: -1152921504606846976<=value) (h6:value<=1152921504606846976):gI (⟨2,time,ay,text,value,null,maker,seq,place⟩:au)=(!null||decide (value=0)):=by simp[gI,h1,h2,h3,h4,h5,h6]
end
theorem yF {w:World} {D:Nat->Prop} (x:RV) (hx:x.ok w D) (hf:x.row.mid):
 Calls Tryz.prog 88 #[WC x] w fun e w'=>e=.returned (.bool (gI x.row))/\Nx w w':=by
 have HR:=ah (fun w' (c':Nx w w')=>z3B (c:=x.c) (hx.1.nx (by decide) c') rfl (by have:=hf.2;omega) hf.1.1);unfold WC;obtain ⟨⟨kind,time,ay,text,value,null,maker,seq,place⟩,A1,c1⟩:=x;simp only at HR ⊢;clear hx hf;have B1:=ah (aG.new w 56 #[.int .i64 kind,.int .i64 time,.slice A1 ay.length c1,.string text,.int .i64 value,.bool null]);have N1:=ah ((Ch.refl (fun _=>False) w).alloc (.cells #[.int .i64 kind,.int .i64 time,.slice A1 ay.length c1,.string text,.int .i64 value,.bool null] 56));by_cases h1:0<=time
 ·by_cases h2:time<1099511627776
  ·cases hr:jH ay
   ·rw[hr]at HR
    have HL:=ah hr;clear hr;go_enter Tryz.func88,Tryz.ntmps88;go_wp2_with fail;refine (HR.out _ N1.out).mono ?_;rintro e w2 ⟨rfl,n2⟩;have N2:=ah (N1.out.tr n2);clear n2;go_wp2_with fail;go_ret;exact ⟨by rw[adl HL.out];first|done|rfl,N2.out⟩
   ·rw[hr]at HR
    have HL:=ah hr;clear hr;by_cases hk1:kind=1
    ·subst hk1
     by_cases h4:text.size<=200
     ·by_cases h5:value=0
      ·subst h5
       cases null
       all_goals
        go_enter Tryz.func88,Tryz.ntmps88;go_wp2_with fail;refine (HR.out _ N1.out).mono ?_;rintro e w2 ⟨rfl,n2⟩;have N2:=ah (N1.out.tr n2);have b2:=B1.out.nx n2;have q0:w2.cell? ⟨w.heap.size,0,none⟩=some _:=b2.cell 0;have q3:w2.cell? ⟨w.heap.size,3,none⟩=some _:=b2.cell 3;have q4:w2.cell? ⟨w.heap.size,4,none⟩=some _:=b2.cell 4;have q5:w2.cell? ⟨w.heap.size,5,none⟩=some _:=b2.cell 5;clear n2 b2;go_wp2_with fail;go_ret;exact ⟨by rw[rec_1 h1 h2 HL.out h4 rfl];first|done|rfl,N2.out⟩
      ·have q9:(value==0)=false:=by simp[h5]
       go_enter Tryz.func88,Tryz.ntmps88;go_wp2_with fail;refine (HR.out _ N1.out).mono ?_;rintro e w2 ⟨rfl,n2⟩;have N2:=ah (N1.out.tr n2);have b2:=B1.out.nx n2;have q0:w2.cell? ⟨w.heap.size,0,none⟩=some _:=b2.cell 0;have q3:w2.cell? ⟨w.heap.size,3,none⟩=some _:=b2.cell 3;have q4:w2.cell? ⟨w.heap.size,4,none⟩=some _:=b2.cell 4;have q5:w2.cell? ⟨w.heap.size,5,none⟩=some _:=b2.cell 5;clear n2 b2;go_wp2_with fail;go_ret;exact ⟨by rw[ZM (by omega)];first|done|rfl,N2.out⟩
     ·go_enter Tryz.func88,Tryz.ntmps88
      go_wp2_with fail;refine (HR.out _ N1.out).mono ?_;rintro e w2 ⟨rfl,n2⟩;have N2:=ah (N1.out.tr n2);have b2:=B1.out.nx n2;have q0:w2.cell? ⟨w.heap.size,0,none⟩=some _:=b2.cell 0;have q3:w2.cell? ⟨w.heap.size,3,none⟩=some _:=b2.cell 3;have q4:w2.cell? ⟨w.heap.size,4,none⟩=some _:=b2.cell 4;have q5:w2.cell? ⟨w.heap.size,5,none⟩=some _:=b2.cell 5;clear n2 b2;go_wp2_with fail;go_ret;exact ⟨by rw[ZN (by omega)];first|done|rfl,N2.out⟩
    ·by_cases hk2:kind=2
     ·subst hk2
      have hE:(text.toList.isEmpty)=decide (text.size=0):=LM text;by_cases h4:text.size=0
      ·rw[decide_eq_true h4]at hE
       by_cases h5: -1152921504606846976<=value
       ·by_cases h6:value<=1152921504606846976
        ·cases null
         ·go_enter Tryz.func88,Tryz.ntmps88
          go_wp2_with fail;refine (HR.out _ N1.out).mono ?_;rintro e w2 ⟨rfl,n2⟩;have N2:=ah (N1.out.tr n2);have b2:=B1.out.nx n2;have q0:w2.cell? ⟨w.heap.size,0,none⟩=some _:=b2.cell 0;have q3:w2.cell? ⟨w.heap.size,3,none⟩=some _:=b2.cell 3;have q4:w2.cell? ⟨w.heap.size,4,none⟩=some _:=b2.cell 4;have q5:w2.cell? ⟨w.heap.size,5,none⟩=some _:=b2.cell 5;clear n2 b2;go_wp2_with fail;go_ret;exact ⟨by rw[rec_2 h1 h2 HL.out h4 h5 h6];first|done|rfl,N2.out⟩
         ·by_cases h7:value=0
          ·subst h7
           go_enter Tryz.func88,Tryz.ntmps88;go_wp2_with fail;refine (HR.out _ N1.out).mono ?_;rintro e w2 ⟨rfl,n2⟩;have N2:=ah (N1.out.tr n2);have b2:=B1.out.nx n2;have q0:w2.cell? ⟨w.heap.size,0,none⟩=some _:=b2.cell 0;have q3:w2.cell? ⟨w.heap.size,3,none⟩=some _:=b2.cell 3;have q4:w2.cell? ⟨w.heap.size,4,none⟩=some _:=b2.cell 4;have q5:w2.cell? ⟨w.heap.size,5,none⟩=some _:=b2.cell 5;clear n2 b2;go_wp2_with fail;go_ret;exact ⟨by rw[rec_2 h1 h2 HL.out h4 (by decide) (by decide)];rfl,N2.out⟩
          ·have q9:(value==0)=false:=by simp[h7]
           go_enter Tryz.func88,Tryz.ntmps88;go_wp2_with fail;refine (HR.out _ N1.out).mono ?_;rintro e w2 ⟨rfl,n2⟩;have N2:=ah (N1.out.tr n2);have b2:=B1.out.nx n2;have q0:w2.cell? ⟨w.heap.size,0,none⟩=some _:=b2.cell 0;have q3:w2.cell? ⟨w.heap.size,3,none⟩=some _:=b2.cell 3;have q4:w2.cell? ⟨w.heap.size,4,none⟩=some _:=b2.cell 4;have q5:w2.cell? ⟨w.heap.size,5,none⟩=some _:=b2.cell 5;clear n2 b2;go_wp2_with fail;go_ret;exact ⟨by rw[rec_2 h1 h2 HL.out h4 h5 h6];simp[h7],N2.out⟩
        ·go_enter Tryz.func88,Tryz.ntmps88
         go_wp2_with fail;refine (HR.out _ N1.out).mono ?_;rintro e w2 ⟨rfl,n2⟩;have N2:=ah (N1.out.tr n2);have b2:=B1.out.nx n2;have q0:w2.cell? ⟨w.heap.size,0,none⟩=some _:=b2.cell 0;have q3:w2.cell? ⟨w.heap.size,3,none⟩=some _:=b2.cell 3;have q4:w2.cell? ⟨w.heap.size,4,none⟩=some _:=b2.cell 4;have q5:w2.cell? ⟨w.heap.size,5,none⟩=some _:=b2.cell 5;clear n2 b2;go_wp2_with fail;go_ret;exact ⟨by rw[ZK (by omega)];first|done|rfl,N2.out⟩
       ·go_enter Tryz.func88,Tryz.ntmps88
        go_wp2_with fail;refine (HR.out _ N1.out).mono ?_;rintro e w2 ⟨rfl,n2⟩;have N2:=ah (N1.out.tr n2);have b2:=B1.out.nx n2;have q0:w2.cell? ⟨w.heap.size,0,none⟩=some _:=b2.cell 0;have q3:w2.cell? ⟨w.heap.size,3,none⟩=some _:=b2.cell 3;have q4:w2.cell? ⟨w.heap.size,4,none⟩=some _:=b2.cell 4;have q5:w2.cell? ⟨w.heap.size,5,none⟩=some _:=b2.cell 5;clear n2 b2;go_wp2_with fail;go_ret;exact ⟨by rw[ZL (by omega)];first|done|rfl,N2.out⟩
      ·rw[decide_eq_false h4]at hE
       go_enter Tryz.func88,Tryz.ntmps88;go_wp2_with fail;refine (HR.out _ N1.out).mono ?_;rintro e w2 ⟨rfl,n2⟩;have N2:=ah (N1.out.tr n2);have b2:=B1.out.nx n2;have q0:w2.cell? ⟨w.heap.size,0,none⟩=some _:=b2.cell 0;have q3:w2.cell? ⟨w.heap.size,3,none⟩=some _:=b2.cell 3;have q4:w2.cell? ⟨w.heap.size,4,none⟩=some _:=b2.cell 4;have q5:w2.cell? ⟨w.heap.size,5,none⟩=some _:=b2.cell 5;clear n2 b2;go_wp2_with fail;go_ret;exact ⟨by rw[ZJ (by omega)];first|done|rfl,N2.out⟩
     ·have q7:(kind==1)=false:=by simp[hk1]
      have q8:(kind==2)=false:=(by simp[hk2]);go_enter Tryz.func88,Tryz.ntmps88;go_wp2_with fail;refine (HR.out _ N1.out).mono ?_;rintro e w2 ⟨rfl,n2⟩;have N2:=ah (N1.out.tr n2);have b2:=B1.out.nx n2;have q0:w2.cell? ⟨w.heap.size,0,none⟩=some _:=b2.cell 0;have q3:w2.cell? ⟨w.heap.size,3,none⟩=some _:=b2.cell 3;have q4:w2.cell? ⟨w.heap.size,4,none⟩=some _:=b2.cell 4;have q5:w2.cell? ⟨w.heap.size,5,none⟩=some _:=b2.cell 5;clear n2 b2;go_wp2_with fail;go_ret;exact ⟨by rw[adn hk1 hk2];first|done|rfl,N2.out⟩
  ·go_enter Tryz.func88,Tryz.ntmps88
   go_wp2_with fail;go_wp2_with fail;go_ret;exact ⟨by rw[ZH (by omega)];first|done|rfl,N1.out⟩
 ·go_enter Tryz.func88,Tryz.ntmps88
  go_wp2_with fail;go_wp2_with fail;go_ret;exact ⟨by rw[ZI (by omega)];first|done|rfl,N1.out⟩
end Go.Proofs.YtpakjclpjcngmaaGreat
