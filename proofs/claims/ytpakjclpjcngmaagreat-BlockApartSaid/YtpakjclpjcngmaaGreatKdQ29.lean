/- Contracts and plain laws that the last text rests on. Conditions: each theorem states its own. -/
import Derived.Test.YtpakjclpjcngmaaGreatKdQ21
import Derived.Test.YtpakjclpjcngmaaGreatKdQ4
import Derived.Test.YtpakjclpjcngmaaGreatKdQ28
import Derived.Test.YtpakjclpjcngmaaGreatKdQ15
import Derived.Test.YtpakjclpjcngmaaGreatKdQ9
import Derived.Test.YtpakjclpjcngmaaGreatKdQ19
set_option maxRecDepth 100000
set_option maxHeartbeats 16000000
set_option linter.unusedVariables false
namespace Go.Proofs.YtpakjclpjcngmaaGreat
def gu (x:au):Bool:=
 decide (0<=x.time/\x.time<1099511627776)&&jU x.aB&&
  (if x.kind=1 then decide (x.text.size<=200/\x.value=0)&& !x.null
   else if x.kind=2 then decide (x.text.size=0/\ -1152921504606846976<=x.value/\x.value<=1152921504606846976)&&(!x.null||decide (x.value=0))
   else false)
def SH (x:au):Bool:=decide (1<=x.maker/\x.maker<=64/\1<=x.seq/\x.seq<1099511627776/\0<=x.place/\x.place<64)
def mW (l:List au) (i:Nat):Bool:=match l[i]? with
 |none=>false
 |some x=>gu x&&SH x&&(match i with|0=>true|j+1=>match l[j]? with|none=>false|some y=>iw y x)
def iP (l:List au):Bool:=decide (0<l.length)&&(List.range l.length).all (mW l)
def dG (x:au):ByteArray:=xW x.aB
def dA (x:List Nat):List Nat:=ak x.length++x
def bY (l:List au):List (List Nat):=
 [aA 1 (bI (l.map fun x=>x.time)),aA 1 (bI (l.map fun x=>x.maker)),aA 1 (bI (l.map fun x=>x.seq)),aA 1 (bI (l.map fun x=>x.place)),aA 1 (bI (l.map fun x=>x.kind)),
  aA 2 (bC (l.map dG)),aA 3 (bD (l.map fun x=>x.text)),aA 1 (bI (l.map fun x=>x.value)),aA 4 (bf (l.map fun x=>x.null))]
def fZ (l:List au):List Nat:=(bY l).flatMap dA
def bK {α:Type} (per:Nat) (l:List α):List (List α):=(List.range ((l.length+per-1) / per)).map fun i=>(l.drop (i * per)).take per
structure PostE where
 text:ByteArray
 gs:List Nat
def gq (s:aW):List Nat:=ak s.place.toNat++ak s.size.toNat++ak s.rows.toNat++ak s.lo.toNat++ak s.hi.toNat
def dU (p:PostE):List Nat:=ak p.text.size++kK p.text++ak p.gs.length++p.gs.flatMap ak
def iT (ss:List aW) (ps:List PostE):List Nat:=ak ss.length++ss.flatMap gq++ak ps.length++ps.flatMap dU
def headB:List Nat:=[69,78,84,82,1]
def PX (l:List au):Int:=match l.head? with|some x=>x.time|none=>0
def lastT (l:List au):Int:=match l.getLast? with|some x=>x.time|none=>0
def kS:Nat->List (List au)->List aW
 |_,[]=>[]
 |at_,g::gs=>⟨at_,(fZ g).length,g.length,PX g,lastT g⟩::kS (at_+(fZ g).length) gs
def fB (t:ByteArray) (k:Nat) (gs:List (List au)):List Nat:=((List.range gs.length).filter fun i=>(gs.getD i []).any fun x=>decide (dG x=t)).map (· +k)
def Po (gs:List (List au)):List PostE:=(bW (gs.flatten.map dG)).map fun t=>⟨t,fB t 0 gs⟩
def aP (gs:List (List au)):List Nat:=gs.flatMap fZ
def fD (gs:List (List au)):List Nat:=fC (iT (kS 5 gs) (Po gs))
def iF (gs:List (List au)):List Nat:=headB++aP gs++fD gs++four (fD gs).length++[69,78,84,82]
def aT (l:List au) (per:Nat):List Nat:=iF (bK per l)
abbrev iH:=Nat×Int
def lH (xs:List Nat) (s:iH):aW×iH:=
 let a:=aF xs s.1 s.2 262144
 let b:=aF xs a.2.1 a.2.2 262144
 let c:=aF xs b.2.1 b.2.2 262144
 let d:=aF xs c.2.1 c.2.2 1099511627775
 let e:=aF xs d.2.1 d.2.2 1099511627775
 (⟨a.1,b.1,c.1,d.1,e.1⟩,e.2)
def AY (xs:List Nat):Nat->iH->List aW×iH
 |0,s=>([],s)
 |n+1,s=>let a:=lH xs s;let b:=AY xs n a.2;(a.1::b.1,b.2)
def jM (xs:List Nat):Nat->iH->List Nat×iH
 |0,s=>([],s)
 |n+1,s=>let a:=aF xs s.1 s.2 262144;let b:=jM xs n a.2;(a.1::b.1,b.2)
def postS (xs:List Nat) (s:iH):PostE×iH:=
 let t:=bT xs s.1 s.2 1024
 let m:=aF xs t.2.1 t.2.2 2048
 let g:=jM xs m.1 m.2
 (⟨aX t.1,g.1⟩,g.2)
def Vf (xs:List Nat) (s:iH):Bool:=decide (bg xs.length s.1 s.2=0∨bg xs.length s.1 s.2=5)
def Fa (xs:List Nat):Nat->iH->List PostE×iH
 |0,s=>([],s)
 |n+1,s=>let a:=postS xs s;if Vf xs a.2=true then let b:=Fa xs n a.2;(a.1::b.1,b.2) else ([a.1],a.2)
def lM (xs:List Nat):List aW×List PostE×iH:=
 let n:=aF xs 0 0 2048
 let a:=AY xs n.1 n.2
 let m:=aF xs a.2.1 a.2.2 2048
 let b:=Fa xs m.1 m.2
 (a.1,b.1,b.2)
def dQ (b:List Nat):List aW×List PostE×Int:=
 if xK b then
  let t:=lM (b.take (b.length-4))
  if bg (b.length-4) t.2.2.1 t.2.2.2=0 then (t.1,t.2.1,0) else ([],[],4)
 else ([],[],if b.length<4 then 3 else 6)
/-! what was written is read -/
theorem z26 {xs rest:List Nat} {p v:Nat} {most:Int} (hd:xs.drop p=ak v++rest) (hp:p<=xs.length) (hv:(v:Int)<=most) (hm:most<=9223372036854775807):
 aF xs p 0 most=(v,p+(ak v).length,0)/\xs.drop (p+(ak v).length)=rest/\p+(ak v).length<=xs.length:=by
 have hr:=Vh (v:=v) (by omega) hp hd;refine ⟨?_,z15 hd,?_⟩
 ·unfold aF
  rw[if_neg (by simp),hr,if_neg (by simp),if_neg (by simp only;omega)]
 ·have:=congrArg List.length hd
  rw[List.length_drop,List.length_append]at this;have:=(z05 (n:=v) (by omega)).1;omega
theorem z6f {xs rest t:List Nat} {p m:Nat} (hd:xs.drop p=ak t.length++(t++rest)) (hp:p<=xs.length) (hv:t.length<=m) (hm:m<9223372036854775808):
 bT xs p 0 m=(t,p+(ak t.length).length+t.length,0)/\xs.drop (p+(ak t.length).length+t.length)=rest/\p+(ak t.length).length+t.length<=xs.length:=by
 have hr:=Vh (v:=t.length) (by omega) hp hd;have hl:=congrArg List.length hd;rw[List.length_drop,List.length_append,List.length_append]at hl;have h1:=(z05 (n:=t.length) (by omega)).1;have h2:=z15 hd;refine ⟨?_,z15 h2,by omega⟩;unfold bT;rw[if_neg (by simp),hr,if_neg (by simp),if_neg (by simp only;omega),if_neg (by simp only;omega)];simp only;rw[h2,List.take_left]
def aW.fits (s:aW):Prop:=(0<=s.place/\s.place<=262144)/\(0<=s.size/\s.size<=262144)/\(0<=s.rows/\s.rows<=262144)/\(0<=s.lo/\s.lo<=1099511627775)/\(0<=s.hi/\s.hi<=1099511627775)
theorem QC {xs rest:List Nat} {p:Nat} {s:aW} (hf:s.fits) (hd:xs.drop p=gq s++rest) (hp:p<=xs.length):
 lH xs (p,0)=(s,p+(gq s).length,0)/\xs.drop (p+(gq s).length)=rest/\p+(gq s).length<=xs.length:=by
 obtain ⟨a,b,c,d,e⟩:=s;obtain ⟨h1,h2,h3,h4,h5⟩:=hf;simp only at h1 h2 h3 h4 h5;obtain ⟨a,rfl⟩:=Int.eq_ofNat_of_zero_le h1.1;obtain ⟨b,rfl⟩:=Int.eq_ofNat_of_zero_le h2.1;obtain ⟨c,rfl⟩:=Int.eq_ofNat_of_zero_le h3.1;obtain ⟨d,rfl⟩:=Int.eq_ofNat_of_zero_le h4.1;obtain ⟨e,rfl⟩:=Int.eq_ofNat_of_zero_le h5.1;unfold gq at *;simp only[Int.toNat_natCast,List.append_assoc]at hd ⊢;obtain ⟨e1,d1,l1⟩:=z26 (most:=262144) hd hp h1.2 (by decide);obtain ⟨e2,d2,l2⟩:=z26 (most:=262144) d1 l1 h2.2 (by decide);obtain ⟨e3,d3,l3⟩:=z26 (most:=262144) d2 l2 h3.2 (by decide);obtain ⟨e4,d4,l4⟩:=z26 (most:=1099511627775) d3 l3 h4.2 (by decide);obtain ⟨e5,d5,l5⟩:=z26 (most:=1099511627775) d4 l4 h5.2 (by decide);simp only[List.length_append,←Nat.add_assoc];refine ⟨?_,d5,l5⟩;unfold lH;simp only[e1,e2,e3,e4,e5]
theorem vI {xs:List Nat}:∀{l:List aW} {rest:List Nat} {p:Nat},(∀s∈l,s.fits)->xs.drop p=l.flatMap gq++rest->p<=xs.length->
 AY xs l.length (p,0)=(l,p+(l.flatMap gq).length,0)/\xs.drop (p+(l.flatMap gq).length)=rest/\p+(l.flatMap gq).length<=xs.length
 |[],rest,p,_,hd,hp=>⟨rfl,hd,hp⟩
 |s::l,rest,p,hf,hd,hp=>by
  rw[List.flatMap_cons,List.append_assoc]at hd;obtain ⟨e1,d1,l1⟩:=QC (hf s List.mem_cons_self) hd hp;obtain ⟨e2,d2,l2⟩:=vI (fun t ht=>hf t (List.mem_cons_of_mem _ ht)) d1 l1;rw[List.flatMap_cons,List.length_append,←Nat.add_assoc];refine ⟨?_,d2,l2⟩;rw[List.length_cons,AY];simp only[e1,e2]
theorem CG {xs:List Nat}:∀{l:List Nat} {rest:List Nat} {p:Nat},(∀s∈l,s<=262144)->xs.drop p=l.flatMap ak++rest->p<=xs.length->
 jM xs l.length (p,0)=(l,p+(l.flatMap ak).length,0)/\xs.drop (p+(l.flatMap ak).length)=rest/\p+(l.flatMap ak).length<=xs.length
 |[],rest,p,_,hd,hp=>⟨rfl,hd,hp⟩
 |s::l,rest,p,hf,hd,hp=>by
  rw[List.flatMap_cons,List.append_assoc]at hd;obtain ⟨e1,d1,l1⟩:=z26 (most:=262144) hd hp (by have:=hf s List.mem_cons_self;omega) (by decide);obtain ⟨e2,d2,l2⟩:=CG (fun t ht=>hf t (List.mem_cons_of_mem _ ht)) d1 l1;rw[List.flatMap_cons,List.length_append,←Nat.add_assoc];refine ⟨?_,d2,l2⟩;rw[List.length_cons,jM];simp only[e1,e2]
def PostE.fits (p:PostE):Prop:=p.text.size<=1024/\p.gs.length<=2048/\∀g∈p.gs,g<=262144
theorem Rk {xs rest:List Nat} {p:Nat} {x:PostE} (hf:x.fits) (hd:xs.drop p=dU x++rest) (hp:p<=xs.length):
 postS xs (p,0)=(x,p+(dU x).length,0)/\xs.drop (p+(dU x).length)=rest/\p+(dU x).length<=xs.length:=by
 obtain ⟨t,gs⟩:=x;obtain ⟨h1,h2,h3⟩:=hf;simp only at h1 h2 h3;unfold dU at *;simp only[List.append_assoc]at hd ⊢;rw[←rY t]at hd h1 ⊢;obtain ⟨e1,d1,l1⟩:=z6f hd hp h1 (by decide);obtain ⟨e2,d2,l2⟩:=z26 (most:=2048) d1 l1 (by omega) (by decide);obtain ⟨e3,d3,l3⟩:=CG h3 d2 l2;simp only[List.length_append,←Nat.add_assoc];refine ⟨?_,d3,l3⟩;unfold postS;simp only[e1,e2,e3,z44]
theorem Oj (xs:List Nat) (p:Nat):Vf xs (p,0)=true:=by
 unfold Vf bg;rw[decide_eq_true_eq];simp only[ne_eq,not_true_eq_false,if_false];split
 ·exact .inr rfl
 ·exact .inl rfl
theorem vY {xs:List Nat}:∀{l:List PostE} {rest:List Nat} {p:Nat},(∀s∈l,s.fits)->xs.drop p=l.flatMap dU++rest->p<=xs.length->
 Fa xs l.length (p,0)=(l,p+(l.flatMap dU).length,0)/\xs.drop (p+(l.flatMap dU).length)=rest/\p+(l.flatMap dU).length<=xs.length
 |[],rest,p,_,hd,hp=>⟨rfl,hd,hp⟩
 |s::l,rest,p,hf,hd,hp=>by
  rw[List.flatMap_cons,List.append_assoc]at hd;obtain ⟨e1,d1,l1⟩:=Rk (hf s List.mem_cons_self) hd hp;obtain ⟨e2,d2,l2⟩:=vY (fun t ht=>hf t (List.mem_cons_of_mem _ ht)) d1 l1;rw[List.flatMap_cons,List.length_append,←Nat.add_assoc];refine ⟨?_,d2,l2⟩;rw[List.length_cons,Fa];simp only[e1,Oj,if_true,e2]
theorem TK {ss:List aW} {ps:List PostE} (hs:∀s∈ss,s.fits) (hp:∀p∈ps,p.fits) (h1:ss.length<=2048) (h2:ps.length<=2048):dQ (fC (iT ss ps))=(ss,ps,0):=by
 have hd0:(iT ss ps).drop 0=ak ss.length++(ss.flatMap gq++(ak ps.length++(ps.flatMap dU++[]))):=by simp[iT]
 obtain ⟨e1,d1,l1⟩:=z26 (most:=2048) hd0 (Nat.zero_le _) (by omega) (by decide);rw[Nat.zero_add]at e1 d1 l1;obtain ⟨e2,d2,l2⟩:=vI hs d1 l1;obtain ⟨e3,d3,l3⟩:=z26 (most:=2048) d2 l2 (by omega) (by decide);obtain ⟨e4,d4,l4⟩:=vY hp d3 l3;have hl:(fC (iT ss ps)).length-4=(iT ss ps).length:=by rw[PD];omega
 have ht:(fC (iT ss ps)).take (iT ss ps).length=iT ss ps:=by unfold fC;rw[List.take_left]
 unfold dQ;rw[if_pos (z3S _),hl,ht];unfold lM;simp only[e1,e2,e3,e4];have:=List.drop_eq_nil_iff.1 d4;rw[if_pos (by unfold bg;rw[if_neg (by simp),if_neg (by omega)])]
end Go.Proofs.YtpakjclpjcngmaaGreat
namespace Go.Proofs.YtpakjclpjcngmaaGreat
open Ps
theorem Gz (all:List ByteArray) (ha:all.length<=256):∀(n:Nat) (l:List ByteArray),l.length<=n->n<=256->(dB all l).length<=4 * l.length:=by
 intro n;induction n with
 |zero=>
  intro l h _;have:l=[]:=List.eq_nil_of_length_eq_zero (by omega);subst this;rw[Yw];exact Nat.zero_le _
 |succ n ih=>
  intro l h hn;cases l with
  |nil=>rw[Yw];exact Nat.zero_le _
  |cons x xs=>
   rw[dB];have h1:=z5N x xs;have h2:eF all x<=all.length:=List.findIdx_le_length;simp only[List.length_cons]at h;have h3:=ih (xs.drop (runN x xs)) (by rw[List.length_drop];omega) (by omega);have h4:=Zn (n:=eF all x) (by omega);have h5:=Zn (n:=runN x xs+1) (by omega);rw[List.length_drop]at h3;simp only[List.length_append,List.length_cons];omega
theorem z5x:∀{all:List ByteArray},(∀s∈all,s.size<=242)->(z18 all).length<=244 * all.length
 |[],_=>Nat.le_refl _
 |s::all,h=>by
  have h1:=z5x (all:=all) fun t ht=>h t (List.mem_cons_of_mem _ ht);have h2:=h s List.mem_cons_self;have h3:=Zn (n:=s.size) (by omega);rw[z1E,List.length_append,List.length_append,rY,List.length_cons];omega
theorem Fz {l:List ByteArray} (hl:l.length<=256) (hs:∀s∈l,s.size<=242):(bC l).length<=65536:=by
 have h1:=Qb l;have h2:=z5x (all:=bW l) fun s h=>hs s (z14.1 h);have h3:=Gz (bW l) (by omega) _ l (Nat.le_refl _) hl;have h4:=Zn (n:=(bW l).length) (by omega);have h5:=Zn (n:=l.length) (by omega);unfold bC;simp only[List.length_append];omega
theorem uZ:∀{l:List ByteArray},(∀s∈l,s.size<=200)->(iy l).length<=2 * l.length/\(gG l).length<=200 * l.length
 |[],_=>⟨Nat.le_refl _,Nat.le_refl _⟩
 |s::l,h=>by
  have h1:=uZ (l:=l) fun t ht=>h t (List.mem_cons_of_mem _ ht);have h2:=h s List.mem_cons_self;have h3:=Zn (n:=s.size) (by omega);unfold iy gG at *;simp only[List.flatMap_cons,List.length_append,List.length_cons,rY];omega
theorem FT {l:List ByteArray} (hl:l.length<=256) (hs:∀s∈l,s.size<=200):(bD l).length<=65536:=by
 have h1:=uZ hs;have h2:=Zn (n:=l.length) (by omega);unfold bD;simp only[List.length_append];omega
def uG (x:au):Prop:=gu x=true/\SH x=true
theorem PI {x:au} (h:gu x=true):0<=x.time/\x.time<1099511627776/\jU x.aB=true/\(x.kind=1∨x.kind=2)/\ -1152921504606846976<=x.value/\x.value<=1152921504606846976/\x.text.size<=200:=by
 unfold gu at h;rw[Bool.and_eq_true,Bool.and_eq_true,decide_eq_true_eq]at h;obtain ⟨⟨⟨h1,h2⟩,h3⟩,h4⟩:=h;refine ⟨h1,h2,h3,?_⟩;by_cases k1:x.kind=1
 ·rw[if_pos k1,Bool.and_eq_true,decide_eq_true_eq]at h4
  obtain ⟨⟨h5,h6⟩,_⟩:=h4;exact ⟨.inl k1,by omega,by omega,h5⟩
 ·rw[if_neg k1]at h4
  by_cases k2:x.kind=2
  ·rw[if_pos k2,Bool.and_eq_true,decide_eq_true_eq]at h4
   obtain ⟨⟨h5,h6,h7⟩,_⟩:=h4;exact ⟨.inr k2,h6,h7,by omega⟩
  ·rw[if_neg k2]at h4
   cases h4
theorem z64 {x:au} (h:SH x=true):1<=x.maker/\x.maker<=64/\1<=x.seq/\x.seq<1099511627776/\0<=x.place/\x.place<64:=by
 unfold SH at h;rw[decide_eq_true_eq]at h;exact h
theorem z4z {l:List dO} (h:jU l=true):l.length<=4/\∀x∈l,fM x.name=true/\x.value.size<=16:=by
 unfold jU at h;rw[Bool.and_eq_true,decide_eq_true_eq,z2C]at h;refine ⟨h.1,fun x hx=>?_⟩;obtain ⟨i,hi,rfl⟩:=List.mem_iff_getElem.1 hx;have h2:=h.2 i hi;unfold ni at h2;rw[zf hi,Bool.and_eq_true,Bool.and_eq_true,decide_eq_true_eq]at h2;exact h2.1
theorem z38 (x:au):(dG x).size<=242:=by
 unfold dG xW;split
 ·next h=>
  obtain ⟨h1,h2⟩:=z4z h;have h3:=z6s h2;show (textF x.aB).toArray.size<=242
  rw[List.size_toArray];unfold textF;simp only[List.length_cons,List.length_append,List.length_nil];omega
 ·exact Nat.zero_le _
theorem MS {l:List Int} (h1:l.length<=2048) (h2:∀x∈l,qG x):aS l=0:=by
 unfold aS;rw[if_neg (by omega),if_pos h2]
theorem z33 (l:List au):∀s∈l.map dG,s.size<=1024:=fun s hs=>by
 obtain ⟨x,_,rfl⟩:=List.mem_map.1 hs;have:=z38 x;omega
structure dN (l:List au):Prop where
 few:l.length<=256
 row:∀x∈l,uG x
theorem dN.ints {l:List au} (h:dN l) {f:au->Int} (hf:∀x,uG x->qG (f x)):aS (l.map f)=0:=
 MS (by rw[List.length_map];have:=h.few;omega) fun y hy=>by
  obtain ⟨x,hx,rfl⟩:=List.mem_map.1 hy;exact hf x (h.row x hx)
section
variable {l : List au} (h : dN l)
include h
theorem dN.time:aS (l.map fun x=>x.time)=0:=h.ints fun x hx=>by have:=PI hx.1;unfold qG;omega
theorem dN.maker:aS (l.map fun x=>x.maker)=0:=h.ints fun x hx=>by have:=z64 hx.2;unfold qG;omega
theorem dN.seq:aS (l.map fun x=>x.seq)=0:=h.ints fun x hx=>by have:=z64 hx.2;unfold qG;omega
theorem dN.place:aS (l.map fun x=>x.place)=0:=h.ints fun x hx=>by have:=z64 hx.2;unfold qG;omega
theorem dN.kind:aS (l.map fun x=>x.kind)=0:=h.ints fun x hx=>by have:=PI hx.1;unfold qG;omega
theorem dN.value:aS (l.map fun x=>x.value)=0:=h.ints fun x hx=>by have:=PI hx.1;unfold qG;omega
theorem dN.words:(bC (l.map dG)).length<=65536:=Fz (by rw[List.length_map];exact h.few) fun s hs=>by
 obtain ⟨x,_,rfl⟩:=List.mem_map.1 hs;exact z38 x
theorem dN.texts:(bD (l.map fun x=>x.text)).length<=65536:=FT (by rw[List.length_map];exact h.few) fun s hs=>by
 obtain ⟨x,hx,rfl⟩:=List.mem_map.1 hs;exact (PI (h.row x hx).1).2.2.2.2.2.2
theorem dN.text:∀s∈l.map (fun x=>x.text),s.size<=1024:=fun s hs=>by
 obtain ⟨x,hx,rfl⟩:=List.mem_map.1 hs;have:=(PI (h.row x hx).1).2.2.2.2.2.2;show x.text.size<=1024
 omega
end
theorem z3w {l:List au} {i:Nat} (h:i<l.length):mW l i=(gu l[i]&&SH l[i]&&(decide (i=0)||iw (l.getD (i-1) l[i]) l[i])):=by
 unfold mW;rw[List.getElem?_eq_getElem h];simp only;cases i with
 |zero=>simp
 |succ j=>
  simp only[List.getElem?_eq_getElem (show j<l.length by omega),Nat.add_sub_cancel,List.getD,Option.getD_some];simp
theorem JR {l:List au}:iP l=true↔0<l.length/\(∀x∈l,uG x)/\l.Pairwise (fun x y=>iw x y=true):=by
 unfold iP;rw[Bool.and_eq_true,decide_eq_true_eq,z2C];constructor
 ·rintro ⟨h1,h2⟩
  refine ⟨h1,fun x hx=>?_,?_⟩
  ·obtain ⟨i,hi,rfl⟩:=List.mem_iff_getElem.1 hx
   have h3:=h2 i hi;rw[z3w hi,Bool.and_eq_true,Bool.and_eq_true]at h3;exact h3.1
  ·have key:∀d i (hi:i+d+1<l.length),iw (l[i]'(by omega)) l[i+d+1]=true:=by
    intro d;induction d with
    |zero=>
     intro i hi;have h3:=h2 (i+1) hi;rw[z3w hi,Bool.and_eq_true,Bool.or_eq_true]at h3;rcases h3.2 with h3|h3
     ·simp at h3
     ·simpa [List.getD,List.getElem?_eq_getElem (show i<l.length by omega)]using h3
    |succ d ih=>
     intro i hi;have a:=ih i (by omega);have h3:=h2 (i+(d+1)+1) hi;rw[z3w hi,Bool.and_eq_true,Bool.or_eq_true]at h3
     have b:iw (l[i+d+1]'(by omega)) l[i+(d+1)+1]=true:=by
      rcases h3.2 with h3|h3
      ·simp at h3
      ·simpa [List.getD,List.getElem?_eq_getElem (show i+d+1<l.length by omega),show i+(d+1)=i+d+1 by omega]using h3
     exact z4e.trans _ _ _ a b
   rw[List.pairwise_iff_getElem];intro i j hi hj hij;have:=key (j-i-1) i (by omega);simpa [show i+(j-i-1)+1=j by omega]using this
 ·rintro ⟨h1,h2,h3⟩
  refine ⟨h1,fun i hi=>?_⟩;obtain ⟨h4,h5⟩:=h2 l[i] (List.getElem_mem hi);rw[z3w hi,h4,h5,Bool.and_eq_true,Bool.or_eq_true,decide_eq_true_eq];refine ⟨rfl,?_⟩;by_cases h0:i=0
  ·exact .inl h0
  ·right
   have:=List.pairwise_iff_getElem.1 h3 (i-1) i (by omega) hi (by omega);simpa [List.getD,List.getElem?_eq_getElem (show i-1<l.length by omega)]using this
end Go.Proofs.YtpakjclpjcngmaaGreat
namespace Go.Proofs.YtpakjclpjcngmaaGreat
open Go.RowKit
theorem LY (t:ByteArray):t.toList.isEmpty=decide (t.size=0):=by
 rw[Bool.eq_iff_iff,List.isEmpty_iff,decide_eq_true_iff,←List.length_eq_zero_iff];have:t.toList.length=t.size:=by rw[ByteArray.toList_eq,Array.length_toList];rfl
 omega
def Wy (x:RV):Value:=.agg #[.int .i64 x.row.kind,.int .i64 x.row.time,.slice x.A x.row.aB.length x.c,.string x.row.text,.int .i64 x.row.value,.bool x.row.null]
section
variable {kind time value maker seq place : Int} {aB : List dO} {text : ByteArray} {null : Bool}
theorem ZH (h:¬0<=time):gu (⟨kind,time,aB,text,value,null,maker,seq,place⟩:au)=false:=by simp[gu,h]
theorem ZG (h:¬time<1099511627776):gu (⟨kind,time,aB,text,value,null,maker,seq,place⟩:au)=false:=by simp[gu];omega
theorem adv (h:jU aB=false):gu (⟨kind,time,aB,text,value,null,maker,seq,place⟩:au)=false:=by simp[gu,h]
theorem adw (h1:kind≠1) (h2:kind≠2):gu (⟨kind,time,aB,text,value,null,maker,seq,place⟩:au)=false:=by simp[gu,h1,h2]
end
section
variable {time value maker seq place : Int} {aB : List dO} {text : ByteArray} {null : Bool}
theorem ZM (h:¬text.size<=200):gu (⟨1,time,aB,text,value,null,maker,seq,place⟩:au)=false:=by simp[gu,h]
theorem ZL (h:¬value=0):gu (⟨1,time,aB,text,value,null,maker,seq,place⟩:au)=false:=by simp[gu,h]
theorem rec_1 (h1:0<=time) (h2:time<1099511627776) (h3:jU aB=true) (h4:text.size<=200) (h5:value=0):gu (⟨1,time,aB,text,value,null,maker,seq,place⟩:au)= !null:=by simp[gu,h1,h2,h3,h4,h5]
theorem ZI (h:¬text.size=0):gu (⟨2,time,aB,text,value,null,maker,seq,place⟩:au)=false:=by simp[gu,h]
theorem ZK (h:¬ -1152921504606846976<=value):gu (⟨2,time,aB,text,value,null,maker,seq,place⟩:au)=false:=by simp[gu];omega
theorem ZJ (h:¬value<=1152921504606846976):gu (⟨2,time,aB,text,value,null,maker,seq,place⟩:au)=false:=by simp[gu];omega
theorem rec_2 (h1:0<=time) (h2:time<1099511627776) (h3:jU aB=true) (h4:text.size=0) (h5: -1152921504606846976<=value) (h6:value<=1152921504606846976):gu (⟨2,time,aB,text,value,null,maker,seq,place⟩:au)=(!null||decide (value=0)):=by simp[gu,h1,h2,h3,h4,h5,h6]
end
theorem yF {w:World} {D:Nat->Prop} (x:RV) (hx:x.ok w D) (hf:x.row.mid):
 Calls Tryz.prog 88 #[Wy x] w fun e w'=>e=.returned (.bool (gu x.row))/\Nx w w':=by
 have HR:=ah (fun w' (c':Nx w w')=>z5O (c:=x.c) (hx.1.nx (by decide) c') rfl (by have:=hf.2;omega) hf.1.1);unfold Wy;obtain ⟨⟨kind,time,aB,text,value,null,maker,seq,place⟩,A1,c1⟩:=x;simp only at HR ⊢;clear hx hf;have B1:=ah (aJ.new w 56 #[.int .i64 kind,.int .i64 time,.slice A1 aB.length c1,.string text,.int .i64 value,.bool null]);have N1:=ah ((Ch.refl (fun _=>False) w).alloc (.cells #[.int .i64 kind,.int .i64 time,.slice A1 aB.length c1,.string text,.int .i64 value,.bool null] 56));by_cases h1:0<=time
 ·by_cases h2:time<1099511627776
  ·cases hr:jU aB
   ·rw[hr]at HR
    have HL:=ah hr;clear hr;go_enter Tryz.func88,Tryz.ntmps88;go_wp2_with fail;refine (HR.out _ N1.out).mono ?_;rintro e w2 ⟨rfl,n2⟩;have N2:=ah (N1.out.tr n2);clear n2;go_wp2_with fail;go_ret;exact ⟨by rw[adv HL.out];first|done|rfl,N2.out⟩
   ·rw[hr]at HR
    have HL:=ah hr;clear hr;by_cases hk1:kind=1
    ·subst hk1
     by_cases h4:text.size<=200
     ·by_cases h5:value=0
      ·subst h5
       cases null
       all_goals
        go_enter Tryz.func88,Tryz.ntmps88;go_wp2_with fail;refine (HR.out _ N1.out).mono ?_;rintro e w2 ⟨rfl,n2⟩;have N2:=ah (N1.out.tr n2);have b2:=B1.out.nx n2;have q0:w2.cell? ⟨w.heap.size,0,none⟩=some _:=b2.cell 0;have q3:w2.cell? ⟨w.heap.size,3,none⟩=some _:=b2.cell 3;have q4:w2.cell? ⟨w.heap.size,4,none⟩=some _:=b2.cell 4;have q5:w2.cell? ⟨w.heap.size,5,none⟩=some _:=b2.cell 5;clear n2 b2;go_wp2_with fail;go_ret;exact ⟨by rw[rec_1 h1 h2 HL.out h4 rfl];first|done|rfl,N2.out⟩
      ·have q9:(value==0)=false:=by simp[h5]
       go_enter Tryz.func88,Tryz.ntmps88;go_wp2_with fail;refine (HR.out _ N1.out).mono ?_;rintro e w2 ⟨rfl,n2⟩;have N2:=ah (N1.out.tr n2);have b2:=B1.out.nx n2;have q0:w2.cell? ⟨w.heap.size,0,none⟩=some _:=b2.cell 0;have q3:w2.cell? ⟨w.heap.size,3,none⟩=some _:=b2.cell 3;have q4:w2.cell? ⟨w.heap.size,4,none⟩=some _:=b2.cell 4;have q5:w2.cell? ⟨w.heap.size,5,none⟩=some _:=b2.cell 5;clear n2 b2;go_wp2_with fail;go_ret;exact ⟨by rw[ZL (by omega)];first|done|rfl,N2.out⟩
     ·go_enter Tryz.func88,Tryz.ntmps88
      go_wp2_with fail;refine (HR.out _ N1.out).mono ?_;rintro e w2 ⟨rfl,n2⟩;have N2:=ah (N1.out.tr n2);have b2:=B1.out.nx n2;have q0:w2.cell? ⟨w.heap.size,0,none⟩=some _:=b2.cell 0;have q3:w2.cell? ⟨w.heap.size,3,none⟩=some _:=b2.cell 3;have q4:w2.cell? ⟨w.heap.size,4,none⟩=some _:=b2.cell 4;have q5:w2.cell? ⟨w.heap.size,5,none⟩=some _:=b2.cell 5;clear n2 b2;go_wp2_with fail;go_ret;exact ⟨by rw[ZM (by omega)];first|done|rfl,N2.out⟩
    ·by_cases hk2:kind=2
     ·subst hk2
      have hE:(text.toList.isEmpty)=decide (text.size=0):=LY text;by_cases h4:text.size=0
      ·rw[decide_eq_true h4]at hE
       by_cases h5: -1152921504606846976<=value
       ·by_cases h6:value<=1152921504606846976
        ·cases null
         ·go_enter Tryz.func88,Tryz.ntmps88
          go_wp2_with fail;refine (HR.out _ N1.out).mono ?_;rintro e w2 ⟨rfl,n2⟩;have N2:=ah (N1.out.tr n2);have b2:=B1.out.nx n2;have q0:w2.cell? ⟨w.heap.size,0,none⟩=some _:=b2.cell 0;have q3:w2.cell? ⟨w.heap.size,3,none⟩=some _:=b2.cell 3;have q4:w2.cell? ⟨w.heap.size,4,none⟩=some _:=b2.cell 4;have q5:w2.cell? ⟨w.heap.size,5,none⟩=some _:=b2.cell 5;clear n2 b2;go_wp2_with fail;go_ret;exact ⟨by rw[rec_2 h1 h2 HL.out h4 h5 h6];first|done|rfl,N2.out⟩
         ·by_cases h7:value=0
          ·subst h7
           go_enter Tryz.func88,Tryz.ntmps88;go_wp2_with fail;refine (HR.out _ N1.out).mono ?_;rintro e w2 ⟨rfl,n2⟩;have N2:=ah (N1.out.tr n2);have b2:=B1.out.nx n2;have q0:w2.cell? ⟨w.heap.size,0,none⟩=some _:=b2.cell 0;have q3:w2.cell? ⟨w.heap.size,3,none⟩=some _:=b2.cell 3;have q4:w2.cell? ⟨w.heap.size,4,none⟩=some _:=b2.cell 4;have q5:w2.cell? ⟨w.heap.size,5,none⟩=some _:=b2.cell 5;clear n2 b2;go_wp2_with fail;go_ret;exact ⟨by rw[rec_2 h1 h2 HL.out h4 (by decide) (by decide)];rfl,N2.out⟩
          ·have q9:(value==0)=false:=by simp[h7]
           go_enter Tryz.func88,Tryz.ntmps88;go_wp2_with fail;refine (HR.out _ N1.out).mono ?_;rintro e w2 ⟨rfl,n2⟩;have N2:=ah (N1.out.tr n2);have b2:=B1.out.nx n2;have q0:w2.cell? ⟨w.heap.size,0,none⟩=some _:=b2.cell 0;have q3:w2.cell? ⟨w.heap.size,3,none⟩=some _:=b2.cell 3;have q4:w2.cell? ⟨w.heap.size,4,none⟩=some _:=b2.cell 4;have q5:w2.cell? ⟨w.heap.size,5,none⟩=some _:=b2.cell 5;clear n2 b2;go_wp2_with fail;go_ret;exact ⟨by rw[rec_2 h1 h2 HL.out h4 h5 h6];simp[h7],N2.out⟩
        ·go_enter Tryz.func88,Tryz.ntmps88
         go_wp2_with fail;refine (HR.out _ N1.out).mono ?_;rintro e w2 ⟨rfl,n2⟩;have N2:=ah (N1.out.tr n2);have b2:=B1.out.nx n2;have q0:w2.cell? ⟨w.heap.size,0,none⟩=some _:=b2.cell 0;have q3:w2.cell? ⟨w.heap.size,3,none⟩=some _:=b2.cell 3;have q4:w2.cell? ⟨w.heap.size,4,none⟩=some _:=b2.cell 4;have q5:w2.cell? ⟨w.heap.size,5,none⟩=some _:=b2.cell 5;clear n2 b2;go_wp2_with fail;go_ret;exact ⟨by rw[ZJ (by omega)];first|done|rfl,N2.out⟩
       ·go_enter Tryz.func88,Tryz.ntmps88
        go_wp2_with fail;refine (HR.out _ N1.out).mono ?_;rintro e w2 ⟨rfl,n2⟩;have N2:=ah (N1.out.tr n2);have b2:=B1.out.nx n2;have q0:w2.cell? ⟨w.heap.size,0,none⟩=some _:=b2.cell 0;have q3:w2.cell? ⟨w.heap.size,3,none⟩=some _:=b2.cell 3;have q4:w2.cell? ⟨w.heap.size,4,none⟩=some _:=b2.cell 4;have q5:w2.cell? ⟨w.heap.size,5,none⟩=some _:=b2.cell 5;clear n2 b2;go_wp2_with fail;go_ret;exact ⟨by rw[ZK (by omega)];first|done|rfl,N2.out⟩
      ·rw[decide_eq_false h4]at hE
       go_enter Tryz.func88,Tryz.ntmps88;go_wp2_with fail;refine (HR.out _ N1.out).mono ?_;rintro e w2 ⟨rfl,n2⟩;have N2:=ah (N1.out.tr n2);have b2:=B1.out.nx n2;have q0:w2.cell? ⟨w.heap.size,0,none⟩=some _:=b2.cell 0;have q3:w2.cell? ⟨w.heap.size,3,none⟩=some _:=b2.cell 3;have q4:w2.cell? ⟨w.heap.size,4,none⟩=some _:=b2.cell 4;have q5:w2.cell? ⟨w.heap.size,5,none⟩=some _:=b2.cell 5;clear n2 b2;go_wp2_with fail;go_ret;exact ⟨by rw[ZI (by omega)];first|done|rfl,N2.out⟩
     ·have q7:(kind==1)=false:=by simp[hk1]
      have q8:(kind==2)=false:=(by simp[hk2]);go_enter Tryz.func88,Tryz.ntmps88;go_wp2_with fail;refine (HR.out _ N1.out).mono ?_;rintro e w2 ⟨rfl,n2⟩;have N2:=ah (N1.out.tr n2);have b2:=B1.out.nx n2;have q0:w2.cell? ⟨w.heap.size,0,none⟩=some _:=b2.cell 0;have q3:w2.cell? ⟨w.heap.size,3,none⟩=some _:=b2.cell 3;have q4:w2.cell? ⟨w.heap.size,4,none⟩=some _:=b2.cell 4;have q5:w2.cell? ⟨w.heap.size,5,none⟩=some _:=b2.cell 5;clear n2 b2;go_wp2_with fail;go_ret;exact ⟨by rw[adw hk1 hk2];first|done|rfl,N2.out⟩
  ·go_enter Tryz.func88,Tryz.ntmps88
   go_wp2_with fail;go_wp2_with fail;go_ret;exact ⟨by rw[ZG (by omega)];first|done|rfl,N1.out⟩
 ·go_enter Tryz.func88,Tryz.ntmps88
  go_wp2_with fail;go_wp2_with fail;go_ret;exact ⟨by rw[ZH (by omega)];first|done|rfl,N1.out⟩
end Go.Proofs.YtpakjclpjcngmaaGreat
