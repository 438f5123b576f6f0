/- Contracts and plain laws that the last text rests on. Conditions: each theorem states its own. -/
import Derived.Test.YtpakjclpjcngmaaGreatKbQ3
import Derived.Test.YtpakjclpjcngmaaGreatKbQ26
import Derived.Test.YtpakjclpjcngmaaGreatKbQ10
import Derived.Test.YtpakjclpjcngmaaGreatKbQ23
import Derived.Test.YtpakjclpjcngmaaGreatKbQ24
import Derived.Test.YtpakjclpjcngmaaGreatKbQ13
import Derived.Test.YtpakjclpjcngmaaGreatKbQ6
set_option maxRecDepth 100000
set_option maxHeartbeats 32000000
set_option linter.unusedVariables false
namespace Go.Proofs.YtpakjclpjcngmaaGreat
open Go.RowKit
def FX (j:Nat):TypeId:=if j<6 then 2 else if j<8 then 9 else 4
def iD {α:Type} (f:Nat->α) (i:Nat) (a:α):Nat->α:=fun j=>if j=i then a else f j
theorem z1n {α:Type} (f:Nat->α) (i:Nat) (a:α):iD f i a i=a:=if_pos rfl
theorem jq {α:Type} (f:Nat->α) {i j:Nat} (a:α) (h:j≠i):iD f i a j=f j:=if_neg h
structure iI (w W:World) (b3:Nat) (v:Nat->Value) (xs:Nat->List Value):Prop where
 own:∀j,j<9->ak w W (FX j) 1 (v j) (xs j).length (xs j)
 apart:∀i j,i<9->j<9->i≠j->∀k,(v i).ownBlock=some k->(v j).ownBlock≠some k
 blk:aG W b3 115 #[v 0,v 1,v 2,v 3,v 4,v 5]
 lb:w.heap.size<=b3
section
variable {w W W' : World} {b3 i : Nat} {v : Nat → Value} {xs : Nat → List Value} {u v' : Value}
theorem iI.nx (h:iI w W b3 v xs) (c:Nx W W'):iI w W' b3 v xs:=⟨fun j hj=>(h.own j hj).tr c,h.apart,h.blk.nx c,h.lb⟩
theorem LJ (j:Nat):FX j≠115:=by
 unfold FX;split
 ·decide
 ·split<;>decide
theorem iI.off (h:iI w W b3 v xs) {j:Nat} (hj:j<9):(v j).ownBlock≠some b3:=z03 (h.own j hj).own h.blk (LJ j)
theorem iI.grow (hi:i<9) (h:iI w W b3 v xs) (o:ak w W' (FX i) 1 v' ((xs i).length+1) (xs i++[u])) (m:Moved W W' (v i) v'):
 (∀j,j<9->ak w W' (FX j) 1 (iD v i v' j) (iD xs i (xs i++[u]) j).length (iD xs i (xs i++[u]) j))/\
 (∀j k,j<9->k<9->j≠k->∀b,(iD v i v' j).ownBlock=some b->(iD v i v' k).ownBlock≠some b)/\
 aG W' b3 115 #[v 0,v 1,v 2,v 3,v 4,v 5]:=by
 have hlt:∀j,j<9->∀b,(v j).ownBlock=some b->b<W.heap.size:=fun j hj b e=>((h.own j hj).lt b e).2
 have hnew:∀j,j<9->j≠i->∀b,v'.ownBlock=some b->(v j).ownBlock≠some b:=fun j hj hji b e e2=>by
  rcases m.at_ with e3|⟨k,e3,hk⟩
  ·rw[e3]at e
   exact h.apart j i hj hi hji b e2 e
  ·rw[e3]at e
   injection e with e;have:=hlt j hj b e2;omega
 refine ⟨fun j hj=>?_,fun j k hj hk hjk b e=>?_,h.blk.ch m.ch (fun e=>h.off hi e)⟩
 ·by_cases e:j=i
  ·subst e
   rw[z1n,z1n,List.length_append];exact o
  ·rw[jq _ _ e,jq _ _ e]
   exact (h.own j hj).ch m.ch (fun k hk hk2=>h.apart j i hj hi e k hk hk2) (fun k hk hk2=>by have:=((h.own i hi).lt k hk2).1;omega)
 ·by_cases e1:j=i
  ·subst e1
   rw[z1n]at e;rw[jq _ _ (Ne.symm hjk)];exact hnew k hk (Ne.symm hjk) b e
  ·rw[jq _ _ e1]at e
   by_cases e2:k=i
   ·subst e2
    rw[z1n];intro e3;exact hnew j hj e1 b e3 e
   ·rw[jq _ _ e2]
    exact h.apart j k hj hk hjk b e
theorem iI.put (h6:6<=i) (hi:i<9) (h:iI w W b3 v xs) (o:ak w W' (FX i) 1 v' ((xs i).length+1) (xs i++[u])) (m:Moved W W' (v i) v'):iI w W' b3 (iD v i v') (iD xs i (xs i++[u])):=by
 obtain ⟨a,b,c⟩:=h.grow hi o m;refine ⟨a,b,?_,h.lb⟩;rw[jq _ _ (show 0≠i by omega),jq _ _ (show 1≠i by omega),jq _ _ (show 2≠i by omega),jq _ _ (show 3≠i by omega),jq _ _ (show 4≠i by omega),jq _ _ (show 5≠i by omega)];exact c
theorem iI.sto (hi:i<6) (h:iI w W b3 v xs) (o:ak w W' (FX i) 1 v' ((xs i).length+1) (xs i++[u])) (m:Moved W W' (v i) v'):iI w (W'.setCell ⟨b3,i,none⟩ v') b3 (iD v i v') (iD xs i (xs i++[u])):=by
 obtain ⟨a,b,c⟩:=h.grow (by omega) o m;have cs:Ch (· =b3) W' (W'.setCell ⟨b3,i,none⟩ v'):=Ch.setCell (Ch.refl (· =b3) _) (p:=⟨b3,i,none⟩) (fun _=>rfl) _;have hoff:∀j,j<9->(iD v i v' j).ownBlock≠some b3:=fun j hj=>z03 (a j hj).own c (LJ j);refine ⟨fun j hj=>(a j hj).ch cs (fun k hk e=>hoff j hj (by rw[hk,e])) (fun k hk e=>by have:=h.lb;omega),b,?_,h.lb⟩;have hs:=c.dK i v';rcases (show i=0∨i=1∨i=2∨i=3∨i=4∨i=5 by omega) with rfl|rfl|rfl|rfl|rfl|rfl
 all_goals
  simpa [iD]using hs
end
end Go.Proofs.YtpakjclpjcngmaaGreat
namespace Go.Proofs.YtpakjclpjcngmaaGreat
abbrev gY:=Nat×Int
def jZ (xs:List Nat) (s:gY):aK×gY:=
 let a:=bF xs s.1 s.2 262144
 let b:=bF xs a.2.1 a.2.2 262144
 let c:=bF xs b.2.1 b.2.2 262144
 let d:=bF xs c.2.1 c.2.2 1099511627775
 let e:=bF xs d.2.1 d.2.2 1099511627775
 (⟨a.1,b.1,c.1,d.1,e.1⟩,e.2)
def yg (xs:List Nat):Nat->gY->List aK×gY
 |0,s=>([],s)
 |n+1,s=>let a:=jZ xs s;let b:=yg xs n a.2;(a.1::b.1,b.2)
def jr (xs:List Nat):Nat->gY->List Nat×gY
 |0,s=>([],s)
 |n+1,s=>let a:=bF xs s.1 s.2 262144;let b:=jr xs n a.2;(a.1::b.1,b.2)
def postS (xs:List Nat) (s:gY):PostE×gY:=
 let t:=dn xs s.1 s.2 1024
 let m:=bF xs t.2.1 t.2.2 2048
 let g:=jr xs m.1 m.2
 (⟨bf t.1,g.1⟩,g.2)
def QE (xs:List Nat) (s:gY):Bool:=decide (dh xs.length s.1 s.2=0∨dh xs.length s.1 s.2=5)
def CV (xs:List Nat):Nat->gY->List PostE×gY
 |0,s=>([],s)
 |n+1,s=>let a:=postS xs s;if QE xs a.2=true then let b:=CV xs n a.2;(a.1::b.1,b.2) else ([a.1],a.2)
def kE (xs:List Nat):List aK×List PostE×gY:=
 let n:=bF xs 0 0 2048
 let a:=yg xs n.1 n.2
 let m:=bF xs a.2.1 a.2.2 2048
 let b:=CV xs m.1 m.2
 (a.1,b.1,b.2)
def dX (b:List Nat):List aK×List PostE×Int:=
 if Cj b then
  let t:=kE (b.take (b.length-4))
  if dh (b.length-4) t.2.2.1 t.2.2.2=0 then (t.1,t.2.1,0) else ([],[],4)
 else ([],[],if b.length<4 then 3 else 6)
/-! what was written is read -/
theorem Rk {xs rest:List Nat} {p v:Nat} {most:Int} (hd:xs.drop p=aj v++rest) (hp:p<=xs.length) (hv:(v:Int)<=most) (hm:most<=9223372036854775807):
 bF xs p 0 most=(v,p+(aj v).length,0)/\xs.drop (p+(aj v).length)=rest/\p+(aj v).length<=xs.length:=by
 have hr:=QI (v:=v) (by omega) hp hd;refine ⟨?_,vJ hd,?_⟩
 ·unfold bF
  rw[if_neg (by simp),hr,if_neg (by simp),if_neg (by simp only;omega)]
 ·have:=congrArg List.length hd
  rw[List.length_drop,List.length_append]at this;have:=(z04 (n:=v) (by omega)).1;omega
theorem z4Z {xs rest t:List Nat} {p m:Nat} (hd:xs.drop p=aj t.length++(t++rest)) (hp:p<=xs.length) (hv:t.length<=m) (hm:m<9223372036854775808):
 dn xs p 0 m=(t,p+(aj t.length).length+t.length,0)/\xs.drop (p+(aj t.length).length+t.length)=rest/\p+(aj t.length).length+t.length<=xs.length:=by
 have hr:=QI (v:=t.length) (by omega) hp hd;have hl:=congrArg List.length hd;rw[List.length_drop,List.length_append,List.length_append]at hl;have h1:=(z04 (n:=t.length) (by omega)).1;have h2:=vJ hd;refine ⟨?_,vJ h2,by omega⟩;unfold dn;rw[if_neg (by simp),hr,if_neg (by simp),if_neg (by simp only;omega),if_neg (by simp only;omega)];simp only;rw[h2,List.take_left]
def aK.fits (s:aK):Prop:=(0<=s.place/\s.place<=262144)/\(0<=s.size/\s.size<=262144)/\(0<=s.rows/\s.rows<=262144)/\(0<=s.lo/\s.lo<=1099511627775)/\(0<=s.hi/\s.hi<=1099511627775)
theorem Md {xs rest:List Nat} {p:Nat} {s:aK} (hf:s.fits) (hd:xs.drop p=dV s++rest) (hp:p<=xs.length):
 jZ xs (p,0)=(s,p+(dV s).length,0)/\xs.drop (p+(dV s).length)=rest/\p+(dV s).length<=xs.length:=by
 obtain ⟨a,b,c,d,e⟩:=s;obtain ⟨h1,h2,h3,h4,h5⟩:=hf;simp only at h1 h2 h3 h4 h5;obtain ⟨a,rfl⟩:=Int.eq_ofNat_of_zero_le h1.1;obtain ⟨b,rfl⟩:=Int.eq_ofNat_of_zero_le h2.1;obtain ⟨c,rfl⟩:=Int.eq_ofNat_of_zero_le h3.1;obtain ⟨d,rfl⟩:=Int.eq_ofNat_of_zero_le h4.1;obtain ⟨e,rfl⟩:=Int.eq_ofNat_of_zero_le h5.1;unfold dV at *;simp only[Int.toNat_natCast,List.append_assoc]at hd ⊢;obtain ⟨e1,d1,l1⟩:=Rk (most:=262144) hd hp h1.2 (by decide);obtain ⟨e2,d2,l2⟩:=Rk (most:=262144) d1 l1 h2.2 (by decide);obtain ⟨e3,d3,l3⟩:=Rk (most:=262144) d2 l2 h3.2 (by decide);obtain ⟨e4,d4,l4⟩:=Rk (most:=1099511627775) d3 l3 h4.2 (by decide);obtain ⟨e5,d5,l5⟩:=Rk (most:=1099511627775) d4 l4 h5.2 (by decide);simp only[List.length_append,←Nat.add_assoc];refine ⟨?_,d5,l5⟩;unfold jZ;simp only[e1,e2,e3,e4,e5]
theorem tu {xs:List Nat}:∀{l:List aK} {rest:List Nat} {p:Nat},(∀s∈l,s.fits)->xs.drop p=l.flatMap dV++rest->p<=xs.length->
 yg xs l.length (p,0)=(l,p+(l.flatMap dV).length,0)/\xs.drop (p+(l.flatMap dV).length)=rest/\p+(l.flatMap dV).length<=xs.length
 |[],rest,p,_,hd,hp=>⟨rfl,hd,hp⟩
 |s::l,rest,p,hf,hd,hp=>by
  rw[List.flatMap_cons,List.append_assoc]at hd;obtain ⟨e1,d1,l1⟩:=Md (hf s List.mem_cons_self) hd hp;obtain ⟨e2,d2,l2⟩:=tu (fun t ht=>hf t (List.mem_cons_of_mem _ ht)) d1 l1;rw[List.flatMap_cons,List.length_append,←Nat.add_assoc];refine ⟨?_,d2,l2⟩;rw[List.length_cons,yg];simp only[e1,e2]
theorem zx {xs:List Nat}:∀{l:List Nat} {rest:List Nat} {p:Nat},(∀s∈l,s<=262144)->xs.drop p=l.flatMap aj++rest->p<=xs.length->
 jr xs l.length (p,0)=(l,p+(l.flatMap aj).length,0)/\xs.drop (p+(l.flatMap aj).length)=rest/\p+(l.flatMap aj).length<=xs.length
 |[],rest,p,_,hd,hp=>⟨rfl,hd,hp⟩
 |s::l,rest,p,hf,hd,hp=>by
  rw[List.flatMap_cons,List.append_assoc]at hd;obtain ⟨e1,d1,l1⟩:=Rk (most:=262144) hd hp (by have:=hf s List.mem_cons_self;omega) (by decide);obtain ⟨e2,d2,l2⟩:=zx (fun t ht=>hf t (List.mem_cons_of_mem _ ht)) d1 l1;rw[List.flatMap_cons,List.length_append,←Nat.add_assoc];refine ⟨?_,d2,l2⟩;rw[List.length_cons,jr];simp only[e1,e2]
def PostE.fits (p:PostE):Prop:=p.text.size<=1024/\p.gs.length<=2048/\∀g∈p.gs,g<=262144
theorem Nl {xs rest:List Nat} {p:Nat} {x:PostE} (hf:x.fits) (hd:xs.drop p=bY x++rest) (hp:p<=xs.length):
 postS xs (p,0)=(x,p+(bY x).length,0)/\xs.drop (p+(bY x).length)=rest/\p+(bY x).length<=xs.length:=by
 obtain ⟨t,gs⟩:=x;obtain ⟨h1,h2,h3⟩:=hf;simp only at h1 h2 h3;unfold bY at *;simp only[List.append_assoc]at hd ⊢;rw[←z09 t]at hd h1 ⊢;obtain ⟨e1,d1,l1⟩:=z4Z hd hp h1 (by decide);obtain ⟨e2,d2,l2⟩:=Rk (most:=2048) d1 l1 (by omega) (by decide);obtain ⟨e3,d3,l3⟩:=zx h3 d2 l2;simp only[List.length_append,←Nat.add_assoc];refine ⟨?_,d3,l3⟩;unfold postS;simp only[e1,e2,e3,z47]
theorem JY (xs:List Nat) (p:Nat):QE xs (p,0)=true:=by
 unfold QE dh;rw[decide_eq_true_eq];simp only[ne_eq,not_true_eq_false,if_false];split
 ·exact .inr rfl
 ·exact .inl rfl
theorem ug {xs:List Nat}:∀{l:List PostE} {rest:List Nat} {p:Nat},(∀s∈l,s.fits)->xs.drop p=l.flatMap bY++rest->p<=xs.length->
 CV xs l.length (p,0)=(l,p+(l.flatMap bY).length,0)/\xs.drop (p+(l.flatMap bY).length)=rest/\p+(l.flatMap bY).length<=xs.length
 |[],rest,p,_,hd,hp=>⟨rfl,hd,hp⟩
 |s::l,rest,p,hf,hd,hp=>by
  rw[List.flatMap_cons,List.append_assoc]at hd;obtain ⟨e1,d1,l1⟩:=Nl (hf s List.mem_cons_self) hd hp;obtain ⟨e2,d2,l2⟩:=ug (fun t ht=>hf t (List.mem_cons_of_mem _ ht)) d1 l1;rw[List.flatMap_cons,List.length_append,←Nat.add_assoc];refine ⟨?_,d2,l2⟩;rw[List.length_cons,CV];simp only[e1,JY,if_true,e2]
theorem OC {ss:List aK} {ps:List PostE} (hs:∀s∈ss,s.fits) (hp:∀p∈ps,p.fits) (h1:ss.length<=2048) (h2:ps.length<=2048):dX (dR (fM ss ps))=(ss,ps,0):=by
 have hd0:(fM ss ps).drop 0=aj ss.length++(ss.flatMap dV++(aj ps.length++(ps.flatMap bY++[]))):=by simp[fM]
 obtain ⟨e1,d1,l1⟩:=Rk (most:=2048) hd0 (Nat.zero_le _) (by omega) (by decide);rw[Nat.zero_add]at e1 d1 l1;obtain ⟨e2,d2,l2⟩:=tu hs d1 l1;obtain ⟨e3,d3,l3⟩:=Rk (most:=2048) d2 l2 (by omega) (by decide);obtain ⟨e4,d4,l4⟩:=ug hp d3 l3;have hl:(dR (fM ss ps)).length-4=(fM ss ps).length:=by rw[Iz];omega
 have ht:(dR (fM ss ps)).take (fM ss ps).length=fM ss ps:=by unfold dR;rw[List.take_left]
 unfold dX;rw[if_pos (z4L _),hl,ht];unfold kE;simp only[e1,e2,e3,e4];have:=List.drop_eq_nil_iff.1 d4;rw[if_pos (by unfold dh;rw[if_neg (by simp),if_neg (by omega)])]
/-! rows in groups -/
theorem Ro {α:Type} (per:Nat) (l:List α):(bT per l).length=(l.length+per-1) / per:=by simp[bT]
theorem z3k {α:Type} {per:Nat} {l:List α} {i:Nat} (h:i<(bT per l).length):(bT per l)[i]=(l.drop (i * per)).take per:=by simp[bT]
theorem YA {per n i:Nat} (hp:0<per):i<(n+per-1) / per↔i * per<n:=by
 rw[Nat.lt_div_iff_mul_lt hp];constructor
 ·intro h;omega
 ·intro h;omega
theorem z4Y {α:Type} {per:Nat} (hp:0<per):bT per ([]:List α)=[]:=by
 have:(bT per ([]:List α)).length=0:=by rw[Ro];simp;omega
 exact List.eq_nil_of_length_eq_zero this
theorem z3E {α:Type} {per:Nat} {l:List α} (hp:0<per) (hl:0<l.length):bT per l=l.take per::bT per (l.drop per):=by
 apply List.ext_getElem
 ·rw[List.length_cons,Ro,Ro,List.length_drop]
  by_cases h:per<=l.length
  ·rw[show l.length+per-1=(l.length-per+per-1)+per by omega,Nat.add_div_right _ hp]
  ·rw[show l.length-per=0 by omega,Nat.zero_add,Nat.div_eq_of_lt (show per-1<per by omega)]
   exact Nat.div_eq_of_lt_le (by omega) (by omega)
 ·intro i h1 h2
  rw[z3k h1];cases i with
  |zero=>simp
  |succ i=>
   rw[List.getElem_cons_succ,z3k,List.drop_drop];congr 2
   rw[Nat.succ_mul,Nat.add_comm]
theorem qh {α:Type} {per:Nat} (hp:0<per):∀(n:Nat) (l:List α),l.length<=n->(bT per l).flatten=l
 |0,l,h=>by
  have:l=[]:=List.eq_nil_of_length_eq_zero (by omega);subst this;rw[z4Y hp];rfl
 |n+1,l,h=>by
  by_cases h0:l.length=0
  ·have:l=[]:=List.eq_nil_of_length_eq_zero h0
   subst this;rw[z4Y hp];rfl
  ·rw[z3E hp (by omega),List.flatten_cons,qh hp n (l.drop per) (by rw[List.length_drop];omega),List.take_append_drop]
theorem z26 {α:Type} {per:Nat} (hp:0<per) (l:List α):(bT per l).flatten=l:=qh hp l.length l (Nat.le_refl _)
theorem OY {α:Type} {per:Nat} (hp:0<per) {l g:List α} (hg:g∈bT per l):0<g.length/\g.length<=per/\g.length<=l.length/\(∀x∈g,x∈l)/\g<:+:l:=by
 obtain ⟨i,hi,rfl⟩:=List.mem_iff_getElem.1 hg;have h2:=hi;rw[Ro,YA hp]at h2;rw[z3k hi];refine ⟨?_,?_,?_,fun x hx=>List.mem_of_mem_drop (List.mem_of_mem_take hx),(List.take_prefix _ _).isInfix.trans (List.drop_suffix _ _).isInfix⟩
 ·rw[List.length_take,List.length_drop];omega
 ·rw[List.length_take];omega
 ·rw[List.length_take,List.length_drop];omega
/-! the spans -/
theorem FU:∀(gs:List (List aA)) (a:Nat),(iw a gs).length=gs.length
 |[],_=>rfl
 |g::gs,a=>by rw[iw,List.length_cons,List.length_cons,FU gs]
theorem z2x:∀(gs:List (List aA)) (a k:Nat) (h:k<gs.length) (h2:k<(iw a gs).length),(iw a gs)[k]=⟨((a+(aN (gs.take k)).length:Nat):Int),(aF gs[k]).length,gs[k].length,FQ gs[k],lastT gs[k]⟩
 |g::gs,a,0,_,_=>by simp[iw,aN]
 |g::gs,a,k+1,h,h2=>by
  have ih:=z2x gs (a+(aF g).length) k (by simpa using h) (by rw[FU];simpa using h);simp only[iw,List.getElem_cons_succ,ih,aN,List.take_succ_cons,List.flatMap_cons,List.length_append,Nat.add_assoc]
theorem Uh {gs:List (List aA)} {k:Nat} (h:k<gs.length):(aN gs).drop (aN (gs.take k)).length=aF gs[k]++aN (gs.drop (k+1)):=by
 have e:aN gs=aN (gs.take k)++(aF gs[k]++aN (gs.drop (k+1))):=by
  unfold aN;rw[←List.flatMap_cons,←List.flatMap_append,←List.drop_eq_getElem_cons h,List.take_append_drop]
 conv=>lhs;arg 2;rw[e]
 rw[List.drop_left]
theorem Ig {gs:List (List aA)} {k:Nat} (h:k<gs.length):(aN (gs.take k)).length+(aF gs[k]).length<=(aN gs).length:=by
 have e:aN gs=aN (gs.take k)++(aF gs[k]++aN (gs.drop (k+1))):=by
  unfold aN;rw[←List.flatMap_cons,←List.flatMap_append,←List.drop_eq_getElem_cons h,List.take_append_drop]
 have:=congrArg List.length e;rw[List.length_append,List.length_append]at this;omega
theorem z4k (gs:List (List aA)):jl gs=headB++(aN gs++(fE gs++(four (fE gs).length++[69,78,84,82]))):=by simp[jl]
theorem Ih (gs:List (List aA)):(jl gs).length=5+(aN gs).length+(fE gs).length+8:=by
 rw[z4k];simp only[List.length_append,headB,four,List.length_cons,List.length_nil];omega
theorem KT {gs:List (List aA)} {k:Nat} (h:k<gs.length):((jl gs).drop (5+(aN (gs.take k)).length)).take (aF gs[k]).length=aF gs[k]:=by
 have h2:=Ig h;rw[z4k,←List.drop_drop,show (5:Nat)=headB.length from rfl,List.drop_left,List.drop_append_of_le_length (by omega),Uh h,List.append_assoc,List.take_left]
theorem Qb (gs:List (List aA)):((jl gs).drop (5+(aN gs).length)).take (fE gs).length=fE gs:=by
 rw[z4k,←List.drop_drop,show (5:Nat)=headB.length from rfl,List.drop_left,List.drop_left,List.take_left]
theorem P_ (gs:List (List aA)):(jl gs).drop (5+(aN gs).length+(fE gs).length)=four (fE gs).length++[69,78,84,82]:=by
 rw[z4k,←List.drop_drop,←List.drop_drop,show (5:Nat)=headB.length from rfl,List.drop_left,List.drop_left,List.drop_left]
theorem NQ {n:Nat} (h:n<4294967296) (r:List Nat):le4 (four n++r)=n:=by
 unfold le4 four;simp only[List.cons_append,List.getD_cons_zero,List.getD_cons_succ];omega
theorem OM {gs:List (List aA)} (h:(jl gs).length<=262144):jv ((jl gs).drop ((jl gs).length-8)) (jl gs).length=(((5+(aN gs).length:Nat):Int),(((fE gs).length:Nat):Int),0):=by
 have hl:=Ih gs;rw[show (jl gs).length-8=5+(aN gs).length+(fE gs).length by omega,P_];unfold jv;rw[if_pos ⟨by simp[four],by simp[four],by omega⟩,NQ (by omega),if_pos (by omega)];congr 1
 omega
end Go.Proofs.YtpakjclpjcngmaaGreat
namespace Go.Proofs.YtpakjclpjcngmaaGreat
open Go.RowKit
theorem sW {P:Program} {ops:Array Oper} {o:Oper} {a:Act} {K:Act->World->Prop} {Q:Exit->Act->World->Prop} {E:Prop} (hgd:o.guard=none) (sl x:Operand) (t u:TypeId)
 (ho:o.op=.call { callee:=.builtin .append,args:= #[sl,x],argTypes:= #[t,u]})
 (e:TypeId) (i:TypeInfo) (ht:P.underlying t=some (.slice e)) (hu:P.underlying u=some .string) (hi:P.info? e=some i) (hz:i.zero=some (.int .u8 0))
 (hsize:i.size=1) (hby:i.bytes=1)
 {W w:World} {v:Value} {n:Nat} {xs:List Nat} (hs:a.eval sl=v) (hown:ak W w e 1 v n (bl xs)) (s:ByteArray) (hx:a.eval x=.string s)
 (h63:n+s.size<=maxLen) (hbytes:n+s.size<=140737488355328)
 (h:∀v' w',ak W w' e 1 v' (n+s.size) (bl (xs++jg s))->w.grownBy w' v.ownBlock->K (a.put o.dst v') w'):if Region.wanted o (yielded ops a.tmps)=true then Oper.wp P o a w K Q else E:=by
 have hw:Region.wanted o (yielded ops a.tmps)=true:=by simp[Region.wanted,hgd]
 rw[if_pos hw];obtain ⟨v',w',hr,h2,h3,h4⟩:=Lib.run_append_own_string (P:=P) w W.heap.size t u o.type e i ht hu hi hz hsize hby v n (bl xs) hown.own s h63 hbytes hown.nx.size;unfold Oper.wp execOp;simp only[ho,resolve,invoke,builtin,Sem.run_bind,Sem.run_pure,Result.andThen_ok,List.map_toArray,List.map_cons,List.map_nil,hs,hx,hr];exact h v' w' ⟨by rw[show bl (xs++jg s)=bl xs++bl (jg s) by simp[bl],←z4w];exact h2,hown.nx.grown h3 fun k hk hlt=>by have:=hown.lt k hk;omega⟩ h3
def PV.e (x:PV):PostE:=⟨x.text,x.gs.map Int.toNat⟩
structure PV.fit (w:World) (D:Nat->Prop) (x:PV):Prop where
 rd:Rd w D 1 x.A x.gs.length (ints x.gs)
 tx:x.text.size<=1024
 gn:x.gs.length<=2048
 gi:∀g∈x.gs,0<=g/\g<=1000000
def aK.fit (s:aK):Prop:=(0<=s.place/\s.place<4611686018427387904)/\(0<=s.size/\s.size<4611686018427387904)/\(0<=s.rows/\s.rows<4611686018427387904)/\(0<=s.lo/\s.lo<4611686018427387904)/\(0<=s.hi/\s.hi<4611686018427387904)
theorem YR {α:Type} (f:α->List Nat) {l:List α} {k:Nat} (h:k<l.length):(l.drop k).flatMap f=f l[k]++(l.drop (k+1)).flatMap f:=by
 rw[List.drop_eq_getElem_cons h,List.flatMap_cons]
def Vz (w w':World):Prop:=∀b t cs,t≠5->aG w b t cs->aG w' b t cs
theorem ak.NY {W w w':World} {v v':Value} {n:Nat} {xs:List Value} (o:ak W w 5 1 v n xs) (m:Moved w w' v v'):Vz w w':=fun b t cs ht h=>h.ch m.ch (fun e=>z03 o.own h (Ne.symm ht) e)
def XY (W w:World) (T rest:List Nat) (e:Ending) (w':World):Prop:=∃v',e=.returned v'/\bJ W w' v' T rest/\Vz w w'
theorem QD {W w:World} {v:Value} {T rest:List Nat} {z:Nat} (h:bJ W w v T (aj z++rest)) (hz:z<9223372036854775808) (hT:T.length<=100000000):
 Calls Tryz.prog 113 #[v,.int .i64 (z:Int)] w (XY W w T rest):=by
 obtain ⟨X,o,e⟩:=h;refine (XU o hz (by rw[←e]at hT;simp only[List.length_append]at hT;omega)).mono ?_;rintro e2 w' ⟨v',rfl,o',m⟩;exact ⟨v',rfl,⟨_,o',by rw[←e];simp⟩,o.NY m⟩
theorem VO {α:Type} {f:α->List Nat} {l:List α} (h:∀x∈l,okB (f x)):okB (l.flatMap f):=fun y hy=>by
 obtain ⟨x,hx,hy⟩:=List.mem_flatMap.1 hy;exact h x hx y hy
theorem Oi {w:World} {D:Nat->Prop} {ss:List aK} {ps:List PV} (hf:∀s∈ss,s.fit) (hk:∀x∈ps,x.fit w D) (h1:ss.length<=2048) (h2:ps.length<=2048):okB (fM ss (ps.map PV.e)):=by
 unfold fM;refine jD (jD (jD (jJ (by omega)) (VO fun s hs=>?_)) (jJ (by rw[List.length_map];omega))) (VO fun x hx=>?_)
 ·obtain ⟨a,b,c,d,e⟩:=hf s hs
  unfold dV;exact jD (jD (jD (jD (jJ (by omega)) (jJ (by omega))) (jJ (by omega))) (jJ (by omega))) (jJ (by omega))
 ·obtain ⟨y,hy,rfl⟩:=List.mem_map.1 hx
  have hy:=hk y hy;have a:=hy.tx;have b:=hy.gn;unfold bY PV.e;refine jD (jD (jD (jJ (by simp only;omega)) (nH _)) (jJ (by simp only[List.length_map];omega))) (VO fun g hg=>?_);obtain ⟨z,hz,rfl⟩:=List.mem_map.1 hg;have:=hy.gi z hz;exact jJ (by omega)
theorem KN {w:World} {D:Nat->Prop} {As Ap:Option Addr} {cs cp:Nat} {ss:List aK} {ps:List PV} (hs:Rd w D 5 As ss.length (spl ss)) (hp:Rd w D 2 Ap ps.length (iM ps)) (hk:∀x∈ps,x.fit w D) (hf:∀s∈ss,s.fit) (h1:ss.length<=2048) (h2:ps.length<=2048) (hT:(fM ss (ps.map PV.e)).length<=100000000):
 Calls Tryz.prog 48 #[.agg #[.slice As ss.length cs,.slice Ap ps.length cp]] w (gQ w 5 1 ((fM ss (ps.map PV.e)).length+4) (bl (dR (fM ss (ps.map PV.e))))):=by
 obtain ⟨i0,hi0,hz0,hz1,hz2⟩:=info_parts Tryz.info5;have HT:=ah hT;have HS:=ah (fun w' (c':Nx w w')=>hs.nx (w':=w') (by decide) c');have HP:=ah (fun w' (c':Nx w w')=>hp.nx (w':=w') (by decide) c');have HF:=ah hf;have HK:=ah hk;have xK:=ah (Oi hf hk h1 h2);have HE:Hid (fM ss (ps.map PV.e)=[]++(aj ss.length++(ss.flatMap dV++(aj ps.length++ps.flatMap fun x=>bY x.e)))):=ah (by unfold fM;simp[List.flatMap_map]);clear hs hp hf hk hT;generalize fM ss (ps.map PV.e)=T at *;have B0:=ah (aG.new w 49 #[.slice As ss.length cs,.slice Ap ps.length cp]);have n0:Nx w (w.alloc (.cells #[.slice As ss.length cs,.slice Ap ps.length cp] 49)):=(Ch.refl _ w).alloc _;have O0:Hid (bJ w (w.alloc (.cells #[.slice As ss.length cs,.slice Ap ps.length cp] 49)) (.slice none 0 0) T (aj ss.length++(ss.flatMap dV++(aj ps.length++ps.flatMap fun x=>bY x.e)))):=ah ⟨[],ak.nil w _ _ 1 n0,HE.out.symm⟩;clear n0 HE;go_enter Tryz.func48,Tryz.ntmps48;go_wp2_with fail;refine (QD O0.out (by omega) HT.out).mono ?_;rintro e w2 ⟨v2,rfl,o2,kk2⟩;have B2:=ah (kk2 _ _ _ (by decide) B0.out);have c0:w2.cell? ⟨w.heap.size,0,none⟩=some (.slice As ss.length cs):=B2.out.cell 0;have c1:w2.cell? ⟨w.heap.size,1,none⟩=some (.slice Ap ps.length cp):=B2.out.cell 1;have O2:=ah o2;clear o2 kk2 O0 B0;go_wp2_with fail;clear c0 c1;go_loopw [3,17] (fun v i wr=>∃k:Nat,k<=ss.length/\i=.int .i64 (k:Int)/\Hid (bJ w wr v T ((ss.drop k).flatMap dV++(aj ps.length++ps.flatMap fun x=>bY x.e)))/\Hid (aG wr w.heap.size 49 #[.slice As ss.length cs,.slice Ap ps.length cp])) (fun _ i _=>ss.length-(intOf i).toNat)
 case atStart=>exact ⟨0,Nat.zero_le _,rfl,O2,B2⟩
 case round=>
  clear O2 B2;obtain ⟨w4,rfl⟩:∃w4:World,w4=wr:=⟨_,rfl⟩;obtain ⟨k,hkn,rfl,HO,IB0⟩:=hrel;by_cases hlt:k<ss.length
  ·obtain ⟨X0,oX, -⟩:=HO.out
   have N4:=ah oX.nx;clear oX;obtain ⟨ad,rfl, -,p0,p1,p2,p3,p4⟩:=mP (HS.out w4 N4.out) hlt;have HD:=ah (YR dV hlt);have hfit:=HF.out _ (List.getElem_mem hlt);generalize ss[k]=sp at *;obtain ⟨pl,sz,ro,lo,hi⟩:=sp;obtain ⟨⟨a0,b0⟩,⟨a1,b1⟩,⟨a2,b2⟩,⟨a3,b3⟩,⟨a4,b4⟩⟩:=hfit;simp only at p0 p1 p2 p3 p4 a0 a1 a2 a3 a4 b0 b1 b2 b3 b4;obtain ⟨z0,rfl⟩:=Int.eq_ofNat_of_zero_le a0;obtain ⟨z1,rfl⟩:=Int.eq_ofNat_of_zero_le a1;obtain ⟨z2,rfl⟩:=Int.eq_ofNat_of_zero_le a2;obtain ⟨z3,rfl⟩:=Int.eq_ofNat_of_zero_le a3;obtain ⟨z4,rfl⟩:=Int.eq_ofNat_of_zero_le a4
   have O5:Hid (bJ w (w4.alloc (.cells #[.int .i64 (z0:Int),.int .i64 (z1:Int),.int .i64 (z2:Int),.int .i64 (z3:Int),.int .i64 (z4:Int)] 53)).drew u3 T (aj z0++(aj z1++(aj z2++(aj z3++(aj z4++((ss.drop (k+1)).flatMap dV++(aj ps.length++ps.flatMap fun x=>bY x.e)))))))):=ah (by
    obtain ⟨X,o,e⟩:=HO.out;refine ⟨X,o.tr (((Ch.refl _ _).alloc _).drew),?_⟩;rw[←e,HD.out];simp[dV])
   have B5:=ah ((aG.new w4 53 #[.int .i64 (z0:Int),.int .i64 (z1:Int),.int .i64 (z2:Int),.int .i64 (z3:Int),.int .i64 (z4:Int)]).drew);have IB5:=ah ((IB0.out.alloc (.cells #[.int .i64 (z0:Int),.int .i64 (z1:Int),.int .i64 (z2:Int),.int .i64 (z3:Int),.int .i64 (z4:Int)] 53)).drew);go_wp2_with fail;clear p0 p1 p2 p3 p4 HO IB0 HD a0 a1 a2 a3 a4;refine Lh (fun w'=>w'.cell? ⟨w4.heap.size,0,none⟩=some (.int .i64 (z0:Int))/\w'.cell? ⟨w4.heap.size,1,none⟩=some (.int .i64 (z1:Int))/\w'.cell? ⟨w4.heap.size,2,none⟩=some (.int .i64 (z2:Int))/\w'.cell? ⟨w4.heap.size,3,none⟩=some (.int .i64 (z3:Int))/\w'.cell? ⟨w4.heap.size,4,none⟩=some (.int .i64 (z4:Int))) (fun _=>false) rfl ⟨B5.out.cell 0,B5.out.cell 1,B5.out.cell 2,B5.out.cell 3,B5.out.cell 4⟩ (fun hS0=>?_)
   try simp only[Act.put,dH,dF,dG]
   refine z00 (i:=0) (oi:=_) (v:=?_) rfl (fun _ _ _ h=>h) (Or.inl ⟨by rfl,?_⟩) ?_;rotate_left
   ·(intro w hSw;(try dsimp only at hSw);go_split_ands;go_simp;try with_reducible rfl)
   try simp only[Act.put,List.setIfInBounds_toArray]
   refine z00 (i:=1) (oi:=_) (v:=?_) rfl (fun _ _ _ h=>h) (Or.inl ⟨by rfl,?_⟩) ?_;rotate_left
   ·(intro w hSw;(try dsimp only at hSw);go_split_ands;go_simp;try with_reducible rfl)
   try simp only[Act.put]
   refine z00 (i:=2) (oi:=_) (v:=?_) rfl (fun _ _ _ h=>h) (Or.inl ⟨by rfl,?_⟩) ?_;rotate_left
   ·(intro w hSw;(try dsimp only at hSw);go_split_ands;go_simp;try with_reducible rfl)
   try simp only[Act.put]
   refine z00 (i:=4) (oi:=_) (v:=?_) rfl (fun _ _ _ h=>h) (Or.inl ⟨by rfl,?_⟩) ?_;rotate_left
   ·(intro w hSw;(try dsimp only at hSw);go_split_ands;go_simp;try with_reducible rfl)
   try simp only[Act.put]
   refine z00 (i:=5) (oi:=_) (v:=?_) rfl (fun _ _ _ h=>h) (Or.inl ⟨by rfl,?_⟩) ?_;rotate_left
   ·(intro w hSw;(try dsimp only at hSw);go_split_ands;go_simp;try with_reducible rfl)
   try simp only[Act.put]
   refine z00 (i:=7) (oi:=_) (v:=?_) rfl (fun _ _ _ h=>h) (Or.inl ⟨by rfl,?_⟩) ?_;rotate_left
   ·(intro w hSw;(try dsimp only at hSw);go_split_ands;go_simp;try with_reducible rfl)
   try simp only[Act.put]
   refine z00 (i:=8) (oi:=_) (v:=?_) rfl (fun _ _ _ h=>h) (Or.inl ⟨by rfl,?_⟩) ?_;rotate_left
   ·(intro w hSw;(try dsimp only at hSw);go_split_ands;go_simp;try with_reducible rfl)
   try simp only[Act.put]
   refine z00 (i:=10) (oi:=_) (v:=?_) rfl (fun _ _ _ h=>h) (Or.inl ⟨by rfl,?_⟩) ?_;rotate_left
   ·(intro w hSw;(try dsimp only at hSw);go_split_ands;go_simp;try with_reducible rfl)
   try simp only[Act.put]
   refine z00 (i:=11) (oi:=_) (v:=?_) rfl (fun _ _ _ h=>h) (Or.inl ⟨by rfl,?_⟩) ?_;rotate_left
   ·(intro w hSw;(try dsimp only at hSw);go_split_ands;go_simp;try with_reducible rfl)
   try simp only[Act.put]
   refine z00 (i:=13) (oi:=_) (v:=?_) rfl (fun _ _ _ h=>h) (Or.inl ⟨by rfl,?_⟩) ?_;rotate_left
   ·(intro w hSw;(try dsimp only at hSw);go_split_ands;go_simp;try with_reducible rfl)
   try simp only[Act.put]
   refine z00 (i:=14) (oi:=_) (v:=?_) rfl (fun _ _ _ h=>h) (Or.inl ⟨by rfl,?_⟩) ?_;rotate_left
   ·(intro w hSw;(try dsimp only at hSw);go_split_ands;go_simp;try with_reducible rfl)
   try simp only[Act.put]
   refine z02 (rs:=[3]) (by kernel_rfl) (by simp) (z01.cons (o:=_) rfl (fun K hK=>?_) z01.nil);go_simp;refine (QD O5.out (by omega) HT.out).mono ?_;rintro e w6 ⟨v6,rfl,o,kk⟩;have O6:=ah o;have B6:=ah (kk _ _ _ (by decide) B5.out);have IB6:=ah (kk _ _ _ (by decide) IB5.out);clear o kk;refine hK.out _ _ (fun _=>⟨B6.out.cell 0,B6.out.cell 1,B6.out.cell 2,B6.out.cell 3,B6.out.cell 4⟩) (fun au=>?_);have hHeld:=au (by decide);clear hK K au
   try simp only[Act.put,dH,dF,dG]
   refine z02 (rs:=[6]) (by kernel_rfl) (by simp) (z01.cons (o:=_) rfl (fun K hK=>?_) z01.nil);go_simp;refine (QD O6.out (by omega) HT.out).mono ?_;rintro e w7 ⟨v7,rfl,o,kk⟩;have O7:=ah o;have B7:=ah (kk _ _ _ (by decide) B6.out);have IB7:=ah (kk _ _ _ (by decide) IB6.out);clear o kk;refine hK.out _ _ (fun _=>⟨B7.out.cell 0,B7.out.cell 1,B7.out.cell 2,B7.out.cell 3,B7.out.cell 4⟩) (fun au=>?_);have hHeld:=au (by decide);clear hK K au
   try simp only[Act.put,dH,dF,dG]
   refine z02 (rs:=[9]) (by kernel_rfl) (by simp) (z01.cons (o:=_) rfl (fun K hK=>?_) z01.nil);go_simp;refine (QD O7.out (by omega) HT.out).mono ?_;rintro e w8 ⟨v8,rfl,o,kk⟩;have O8:=ah o;have B8:=ah (kk _ _ _ (by decide) B7.out);have IB8:=ah (kk _ _ _ (by decide) IB7.out);clear o kk;refine hK.out _ _ (fun _=>⟨B8.out.cell 0,B8.out.cell 1,B8.out.cell 2,B8.out.cell 3,B8.out.cell 4⟩) (fun au=>?_);have hHeld:=au (by decide);clear hK K au
   try simp only[Act.put,dH,dF,dG]
   refine z02 (rs:=[12]) (by kernel_rfl) (by simp) (z01.cons (o:=_) rfl (fun K hK=>?_) z01.nil);go_simp;refine (QD O8.out (by omega) HT.out).mono ?_;rintro e w9 ⟨v9,rfl,o,kk⟩;have O9:=ah o;have B9:=ah (kk _ _ _ (by decide) B8.out);have IB9:=ah (kk _ _ _ (by decide) IB8.out);clear o kk;refine hK.out _ _ (fun _=>⟨B9.out.cell 0,B9.out.cell 1,B9.out.cell 2,B9.out.cell 3,B9.out.cell 4⟩) (fun au=>?_);have hHeld:=au (by decide);clear hK K au
   try simp only[Act.put,dH,dF,dG]
   refine z02 (rs:=[15]) (by kernel_rfl) (by simp) (z01.cons (o:=_) rfl (fun K hK=>?_) z01.nil);go_simp;refine (QD O9.out (by omega) HT.out).mono ?_;rintro e w10 ⟨v10,rfl,o,kk⟩;have O10:=ah o;have B10:=ah (kk _ _ _ (by decide) B9.out);have IB10:=ah (kk _ _ _ (by decide) IB9.out);clear o kk;refine hK.out _ _ (fun _=>⟨B10.out.cell 0,B10.out.cell 1,B10.out.cell 2,B10.out.cell 3,B10.out.cell 4⟩) (fun au=>?_);have hHeld:=au (by decide);clear hK K au
   try simp only[Act.put,dH,dF,dG]
   refine z00 (i:=16) (oi:=_) (v:=?_) rfl (fun _ _ _ h=>h) (Or.inl ⟨by rfl,?_⟩) ?_;rotate_left
   ·(intro w hSw;(try dsimp only at hSw);go_split_ands;go_simp;try with_reducible rfl)
   try simp only[Act.put,List.setIfInBounds_toArray]
   refine CX (by kernel_rfl) ?_ _;go_wp2_with fail;go_roundw
   case rel=>exact ⟨k+1,by omega,by go_num,O10,IB10⟩
   case measure=>simp[intOf];omega
  ·have hkk:k=ss.length:=by omega
   have O3:Hid (bJ w w4 u3 T (aj ps.length++ps.flatMap fun x=>bY x.e)):=ah (by have:=HO.out;rw[hkk,List.drop_length]at this;exact this);have c0:w4.cell? ⟨w.heap.size,1,none⟩=some (.slice Ap ps.length cp):=IB0.out.cell 1;clear hkk HO;go_wp2_with fail;refine (QD O3.out (by omega) HT.out).mono ?_;rintro e w5 ⟨v5,rfl,o5,kk5⟩;have B5:=ah (kk5 _ _ _ (by decide) IB0.out);have c1:w5.cell? ⟨w.heap.size,1,none⟩=some (.slice Ap ps.length cp):=B5.out.cell 1;have O5:=ah o5;clear o5 kk5 O3 c0 IB0;go_wp2_with fail;clear c1;go_loopw [3,46] (fun v i wr=>∃k:Nat,k<=ps.length/\i=.int .i64 (k:Int)/\Hid (bJ w wr v T ((ps.drop k).flatMap fun x=>bY x.e))) (fun _ i _=>ps.length-(intOf i).toNat)
   case atStart=>exact ⟨0,Nat.zero_le _,rfl,O5⟩
   case round=>
    clear O5 B5;obtain ⟨w4,rfl⟩:∃w4:World,w4=wr:=⟨_,rfl⟩;obtain ⟨k,hkn,rfl,HO⟩:=hrel;by_cases hlt:k<ps.length
    ·obtain ⟨X0,oX, -⟩:=HO.out
     have N4:=ah oX.nx;clear oX;obtain ⟨ad,rfl, -,p0,p1⟩:=post_at (HP.out w4 N4.out) hlt;have HD:=ah (YR (fun x:PV=>bY x.e) hlt);have hfit:=HK.out _ (List.getElem_mem hlt);generalize ps[k]=x at *;obtain ⟨text,gs,A,c⟩:=x;obtain ⟨f1,f2,f3,f4⟩:=hfit;simp only at p0 p1 f1 f2 f3 f4;have F1:=ah f1;have F4:=ah f4
     have O5:Hid (bJ w (w4.alloc (.cells #[.string text,.slice A gs.length c] 90)).drew u3 T (aj text.size++(jg text++(aj gs.length++((gs.flatMap fun g=>aj g.toNat)++((ps.drop (k+1)).flatMap fun x=>bY x.e)))))):=ah (by
      obtain ⟨X,o,e⟩:=HO.out;refine ⟨X,o.tr (((Ch.refl _ _).alloc _).drew),?_⟩;rw[←e,HD.out];simp[bY,PV.e,List.flatMap_map])
     have B5:=ah ((aG.new w4 90 #[.string text,.slice A gs.length c]).drew);go_wp2_with fail;clear p0 p1 HO HD f1 f4;refine Lh (fun w'=>w'.cell? ⟨w4.heap.size,0,none⟩=some (.string text)/\w'.cell? ⟨w4.heap.size,1,none⟩=some (.slice A gs.length c)) (fun _=>false) rfl ⟨B5.out.cell 0,B5.out.cell 1⟩ (fun hS0=>?_)
     try simp only[Act.put,dH,dF,dG]
     refine z00 (i:=0) (oi:=_) (v:=?_) rfl (fun _ _ _ h=>h) (Or.inl ⟨by rfl,?_⟩) ?_;rotate_left
     ·(intro w hSw;(try dsimp only at hSw);go_split_ands;go_simp;try with_reducible rfl)
     try simp only[Act.put,List.setIfInBounds_toArray]
     refine z00 (i:=1) (oi:=_) (v:=?_) rfl (fun _ _ _ h=>h) (Or.inl ⟨by rfl,?_⟩) ?_;rotate_left
     ·(intro w hSw;(try dsimp only at hSw);go_split_ands;go_simp;try with_reducible rfl)
     try simp only[Act.put]
     refine z00 (i:=2) (oi:=_) (v:=?_) rfl (fun _ _ _ h=>h) (Or.inl ⟨by rfl,?_⟩) ?_;rotate_left
     ·(intro w hSw;(try dsimp only at hSw);go_split_ands;go_simp;try with_reducible rfl)
     try simp only[Act.put]
     refine z00 (i:=3) (oi:=_) (v:=?_) rfl (fun _ _ _ h=>h) (Or.inl ⟨by rfl,?_⟩) ?_;rotate_left
     ·(intro w hSw;(try dsimp only at hSw);go_split_ands;go_simp;try with_reducible rfl)
     try simp only[Act.put]
     refine z00 (i:=5) (oi:=_) (v:=?_) rfl (fun _ _ _ h=>h) (Or.inl ⟨by rfl,?_⟩) ?_;rotate_left
     ·(intro w hSw;(try dsimp only at hSw);go_split_ands;go_simp;try with_reducible rfl)
     try simp only[Act.put]
     refine z00 (i:=6) (oi:=_) (v:=?_) rfl (fun _ _ _ h=>h) (Or.inl ⟨by rfl,?_⟩) ?_;rotate_left
     ·(intro w hSw;(try dsimp only at hSw);go_split_ands;go_simp;try with_reducible rfl)
     try simp only[Act.put]
     refine z02 (rs:=[4]) (by kernel_rfl) (by simp) (z01.cons (o:=_) rfl (fun K hK=>?_) z01.nil);go_simp;refine (QD O5.out (by omega) HT.out).mono ?_;rintro e w6 ⟨v6,rfl,o,kk⟩;have O6:=ah o;have B6:=ah (kk _ _ _ (by decide) B5.out);clear o kk;refine hK.out _ _ (fun _=>⟨B6.out.cell 0,B6.out.cell 1⟩) (fun au=>?_);have hHeld:=au (by decide);clear hK K au
     try simp only[Act.put,dH,dF,dG]
     obtain ⟨X6,ox6,ex6⟩:=O6.out;have OX6:=ah ox6;have hl6:X6.length<=100000000:=by have:=HT.out;rw[←ex6,List.length_append]at this;omega
     have EX6:=ah ex6;clear ox6 ex6;refine z02 (rs:=[7]) (by kernel_rfl) (by simp) (z01.cons (o:=_) rfl (fun K hK=>?_) z01.nil);refine sW rfl (.tmp 54) (.tmp 56) _ _ rfl 5 i0 Tryz.underlying26 Tryz.underlying9 hi0 hz0 hz1 hz2 rfl OX6.out text rfl (by simp only[maxLen];omega) (by omega) ?_;intro v7 w7 o7 gr7;have O7:Hid (bJ w w7 v7 T (aj gs.length++((gs.flatMap fun g=>aj g.toNat)++((ps.drop (k+1)).flatMap fun x=>bY x.e)))):=ah ⟨X6++jg text,by rw[List.length_append,z09];exact o7,by rw[←EX6.out];simp⟩;have B7:=ah (B6.out.ch ((Ch.refl (fun k=>v6.ownBlock=some k) w6).grown gr7 fun k hk _=>hk) (fun e=>z03 OX6.out.own B6.out (by decide) e));clear o7 gr7;refine hK.out _ _ (fun _=>⟨B7.out.cell 0,B7.out.cell 1⟩) (fun au=>?_);have hHeld:=au (by decide);clear hK K au
     try simp only[Act.put,List.setIfInBounds_toArray]
     refine z00 (i:=8) (oi:=_) (v:=?_) rfl (fun _ _ _ h=>h) (Or.inl ⟨by rfl,?_⟩) ?_;rotate_left
     ·(intro w hSw;(try dsimp only at hSw);go_split_ands;go_simp;try with_reducible rfl)
     try simp only[Act.put]
     refine CX (by kernel_rfl) ?_ _;have c7:w7.cell? ⟨w4.heap.size,1,none⟩=some (.slice A gs.length c):=B7.out.cell 1;go_wp2_with fail;refine (QD O7.out (by omega) HT.out).mono ?_;rintro e w8 ⟨v8,rfl,o8,kk8⟩;have O8:=ah o8;have B8:=ah (kk8 _ _ _ (by decide) B7.out);have c8:w8.cell? ⟨w4.heap.size,1,none⟩=some (.slice A gs.length c):=B8.out.cell 1;clear o8 kk8 c7 B7 O7 O6 OX6 EX6 B6 O5 B5;go_wp2_with fail;clear c8 B8;go_loopw [3,66] (fun v i wr=>∃j:Nat,j<=gs.length/\i=.int .i64 (j:Int)/\Hid (bJ w wr v T (((gs.drop j).flatMap fun g=>aj g.toNat)++((ps.drop (k+1)).flatMap fun x=>bY x.e)))) (fun _ i _=>gs.length-(intOf i).toNat)
     case atStart=>exact ⟨0,Nat.zero_le _,rfl,O8⟩
     case round=>
      clear O8;obtain ⟨w9,rfl⟩:∃w9:World,w9=wr:=⟨_,rfl⟩;obtain ⟨j,hjn,rfl,HO⟩:=hrel;by_cases hlj:j<gs.length
      ·obtain ⟨X0,oX, -⟩:=HO.out
       obtain ⟨ad2,u,rfl, -,hu,hcg⟩:=(F1.out.nx (by decide) oX.nx).at_ hlj;clear oX;have hg:=F4.out _ (List.getElem_mem hlj);have HD:=ah (YR (fun g:Int=>aj g.toNat) hlj);rw[show (ints gs)[j]?=some (.int .i64 gs[j]) by simp[ints,hlj]]at hu;injection hu with hu;subst hu;generalize gs[j]=g at *;obtain ⟨z,rfl⟩:=Int.eq_ofNat_of_zero_le hg.1;have hz:z<9223372036854775808:=by have:=hg.2;omega
       have O9:Hid (bJ w w9 u3 T (aj z++(((gs.drop (j+1)).flatMap fun g=>aj g.toNat)++((ps.drop (k+1)).flatMap fun x=>bY x.e)))):=ah (by have:=HO.out;rw[HD.out]at this;simpa using this);clear HO HD hg;go_wp2_with fail;refine (QD O9.out hz HT.out).mono ?_;rintro e w10 ⟨v10,rfl,o10, -⟩;have O10:=ah o10;clear o10 hcg;go_wp2_with fail;go_roundw
       case rel=>exact ⟨j+1,by omega,by go_num,O10⟩
       case measure=>simp[intOf];omega
      ·have hjj:j=gs.length:=by omega
       have O9:Hid (bJ w w9 u3 T ((ps.drop (k+1)).flatMap fun x=>bY x.e)):=ah (by have:=HO.out;rw[hjj,List.drop_length]at this;exact this);clear hjj HO;go_wp2_with fail;go_roundw
       case rel=>exact ⟨k+1,by omega,by go_num,O9⟩
       case measure=>simp[intOf];omega
    ·have hkk:k=ps.length:=by omega
     obtain ⟨X,oX,eX⟩:=HO.out;rw[hkk,List.drop_length,List.flatMap_nil,List.append_nil]at eX;have Zk:X.length<=100000000:=by rw[eX];exact HT.out
     have okX:okB X:=by rw[eX];exact xK.out
     obtain ⟨A9,c9,rfl, -, -⟩:=oX.form;have HSL:=ah (Bh _ A9 X.length c9 X w4 oX.rd (fun j hj=>hj.2.2) okX rfl (by omega));have OX:=ah oX;have EX:=ah eX;clear hkk oX eX okX HO;go_wp2_with fail;refine HSL.out.mono ?_;rintro e w9 ⟨k9,xC,rfl,o9,q1,q2,q3,q4⟩;have O9:=ah o9;clear o9;go_wp2_with fail;go_ret;have hsz:=OX.out.nx.size;rw[←EX.out];exact ⟨k9,xC,rfl,⟨jM O9.out.own hsz,OX.out.nx.tr O9.out.nx⟩,by omega,q2,q3,q4⟩
end Go.Proofs.YtpakjclpjcngmaaGreat
