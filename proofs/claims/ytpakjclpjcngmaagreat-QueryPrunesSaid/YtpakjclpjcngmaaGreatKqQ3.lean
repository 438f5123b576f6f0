/- Contracts and plain laws that the last text rests on. Conditions: each theorem states its own. -/
import Derived.Test.YtpakjclpjcngmaaGreatKqQ2
set_option maxRecDepth 100000
set_option linter.unusedVariables false
namespace Go.Proofs.YtpakjclpjcngmaaGreat
def ak (n:Nat):List Nat:=if h:n<128 then [n] else (128+n % 128)::ak (n / 128)
termination_by n
decreasing_by omega
theorem Zy {n:Nat} (h:n<128):ak n=[n]:=by rw[ak,dif_pos h]
theorem z4F {n:Nat} (h:128<=n):ak n=(128+n % 128)::ak (n / 128):=by rw[ak,dif_neg (by omega)]
theorem WG:∀(f n:Nat),n<128 ^ (f+1)->okB (ak n):=by
 intro f;induction f with
 |zero=>
  intro n h x hx;rw[Zy (by simpa using h)]at hx;simp at hx;omega
 |succ f ih=>
  intro n h x hx;by_cases hn:n<128
  ·rw[Zy hn]at hx
   simp at hx;omega
  ·rw[z4F (by omega)]at hx
   rcases List.mem_cons.1 hx with h1|h1
   ·omega
   ·refine ih (n / 128) (Nat.div_lt_of_lt_mul ?_) x h1
    rw[Nat.pow_succ,Nat.mul_comm]at h;exact h
theorem jV {n:Nat} (h:n<18446744073709551616):okB (ak n):=WG 9 n (Nat.lt_of_lt_of_le h (by decide))
theorem BL:∀(f n:Nat),n<128 ^ (f+1)->1<=(ak n).length/\(ak n).length<=f+1:=by
 intro f;induction f with
 |zero=>intro n h;rw[Zy (by simpa using h)];simp
 |succ f ih=>
  intro n h;by_cases hn:n<128
  ·rw[Zy hn];simp
  ·rw[z4F (by omega),List.length_cons]
   have:=ih (n / 128) (Nat.div_lt_of_lt_mul (by rw[Nat.pow_succ,Nat.mul_comm]at h;exact h));omega
theorem z06 {n:Nat} (h:n<18446744073709551616):1<=(ak n).length/\(ak n).length<=10:=BL 9 n (Nat.lt_of_lt_of_le h (by decide))
def lQ:List Nat->Nat->Nat->Nat×Nat×Int
 |[],_,_=>(0,0,3)
 |x::xs,i,n=>
  if (i=9/\1<x)∨(x=0/\0<i) then (0,0,4)
  else if x<128 then (n+x * 2 ^ (7 * i),i+1,0)
  else lQ xs (i+1) (n+(x % 128) * 2 ^ (7 * i))
def aO (b:List Nat) (at_:Int):Nat×Nat×Int:=if at_<0∨(b.length:Int)<=at_ then (0,0,3) else lQ (b.drop at_.toNat) 0 0
theorem z4n:∀(l:List Nat) (i n:Nat),(lQ l i n).2.2=0∨((lQ l i n).1=0/\(lQ l i n).2.1=0/\((lQ l i n).2.2=3∨(lQ l i n).2.2=4)):=by
 intro l;induction l with
 |nil=>intro i n;simp[lQ]
 |cons x l ih=>
  intro i n;simp only[lQ];split
  ·simp
  ·split
   ·simp
   ·exact ih _ _
theorem yH:∀(l:List Nat) (i n:Nat),(lQ l i n).2.2=0->i<(lQ l i n).2.1/\(lQ l i n).2.1<=i+l.length:=by
 intro l;induction l with
 |nil=>intro i n h;simp[lQ]at h
 |cons x l ih=>
  intro i n;simp only[lQ,List.length_cons];split
  ·intro h;simp at h
  ·split
   ·intro h;simp only;omega
   ·intro h
    have:=ih _ _ h;omega
theorem ZO (i:Nat):2 ^ (7 * (i+1))=128 * 2 ^ (7 * i):=by rw[show 7 * (i+1)=7 * i+7 by omega,Nat.pow_add];omega
theorem z5h:∀(l:List Nat) (i n:Nat),okB l->i<=9->n<2 ^ (7 * i)->(lQ l i n).1<18446744073709551616:=by
 intro l;induction l with
 |nil=>intro i n _ _ _;simp[lQ]
 |cons x l ih=>
  intro i n ok hi hn;have hx:=ok x (by simp);simp only[lQ];by_cases h1:(i=9/\1<x)∨(x=0/\0<i)
  ·rw[if_pos h1];simp
  ·rw[if_neg h1]
   by_cases h2:x<128
   ·rw[if_pos h2]
    simp only;by_cases h9:i=9
    ·subst h9
     have hx1:x<=1:=(by omega);have:x * 2 ^ (7 * 9)<=1 * 2 ^ (7 * 9):=Nat.mul_le_mul_right _ hx1;have e:(2:Nat) ^ (7 * 9)=9223372036854775808:=(by decide);omega
    ·have h3:x * 2 ^ (7 * i)<=127 * 2 ^ (7 * i):=Nat.mul_le_mul_right _ (by omega)
     have h4:2 ^ (7 * i)<=2 ^ 56:=Nat.pow_le_pow_right (by decide) (by omega);have e:(2:Nat) ^ 56=72057594037927936:=(by decide);omega
   ·rw[if_neg h2]
    have h9:i≠9:=by rintro rfl;exact h1 (.inl ⟨rfl,by omega⟩)
    have hm:x % 128<128:=Nat.mod_lt _ (by decide);refine ih (i+1) _ (fun y hy=>ok y (by simp[hy])) (by omega) ?_;have h3:(x % 128) * 2 ^ (7 * i)<=127 * 2 ^ (7 * i):=Nat.mul_le_mul_right _ (by omega);rw[ZO];omega
theorem yG:∀(f v i n:Nat) (rest:List Nat),f+i=9->v<128 ^ f * 2->(0<i->0<v)->lQ (ak v++rest) i n=(n+v * 2 ^ (7 * i),i+(ak v).length,0):=by
 intro f;induction f with
 |zero=>
  intro v i n rest hi hv h0;rw[Zy (by omega)];simp only[List.cons_append,List.nil_append,lQ];have hi9:i=9:=(by omega);rw[if_neg (by omega),if_pos (by omega)];rfl
 |succ f ih=>
  intro v i n rest hi hv h0;by_cases h:v<128
  ·rw[Zy h]
   simp only[List.cons_append,List.nil_append,lQ];rw[if_neg (by omega),if_pos h];rfl
  ·rw[z4F (by omega)]
   simp only[List.cons_append,lQ];rw[if_neg (by omega),if_neg (by omega)];rw[Nat.pow_succ]at hv;rw[ih (v / 128) (i+1) _ rest (by omega) (Nat.div_lt_of_lt_mul (by rw[←Nat.mul_assoc,Nat.mul_comm 128];omega)) (fun _=>by omega)];rw[List.length_cons,ZO,show (128+v % 128) % 128=v % 128 by omega]
   have e:v % 128 * 2 ^ (7 * i)+v / 128 * (128 * 2 ^ (7 * i))=v * 2 ^ (7 * i):=by
    rw[←Nat.mul_assoc,←Nat.add_mul];congr 1
    omega
   rw[Nat.add_assoc,e,show i+1+(ak (v / 128)).length=i+((ak (v / 128)).length+1) by omega]
theorem z3C {v:Nat} (hv:v<18446744073709551616) (pre rest:List Nat):aO (pre++ak v++rest) (pre.length:Int)=(v,(ak v).length,0):=by
 have hl:=z06 hv;unfold aO;rw[if_neg (by simp only[List.length_append];omega),Int.toNat_natCast,List.append_assoc,List.drop_left,yG 9 v 0 0 rest (by omega) (by omega) (by omega)];simp
/-! ### signed ones -/
def zig (x:Int):Nat:=if 0<=x then (2 * x).toNat else (-2 * x-1).toNat
def zag (u:Nat):Int:=if u % 2=1 then -((u / 2:Nat):Int)-1 else ((u / 2:Nat):Int)
theorem xI (x:Int):zag (zig x)=x:=by
 unfold zag zig;split<;>split<;>omega
theorem lU {x:Int} (h0: -9223372036854775808<=x) (h1:x<=9223372036854775807):zig x<18446744073709551616:=by
 unfold zig;split<;>omega
structure Tok where
 len:Nat
 dist:Nat
 byte:Nat
def EP (b:List Nat) (i k:Nat):Nat->Nat->Nat
 |0,n=>n
 |f+1,n=>if k+n<b.length/\b.getD (i+n) 0=b.getD (k+n) 0 then EP b i k f (n+1) else n
def gW (b:List Nat) (i k:Nat):Nat:=EP b i k 258 0
def iO (b:List Nat) (i:Nat):Nat×Nat×Nat:=(b.getD i 0,b.getD (i+1) 0,b.getD (i+2) 0)
def Au (b:List Nat) (at_:Nat) (k:Nat×Nat×Nat):List Nat:=(List.range at_).filter fun i=>decide (i+2<b.length/\iO b i=k)
def EM (b:List Nat) (at_:Nat):List Nat->Nat×Nat->Nat×Nat
 |[],t=>t
 |i::r,t=>if at_-i<=32768/\t.1<258 then EM b at_ r (if t.1<gW b i at_ then (gW b i at_,at_-i) else t) else t
def gV (b:List Nat) (at_:Nat):Nat×Nat:=if at_+2<b.length then EM b at_ (Au b at_ (iO b at_)).reverse (0,0) else (0,0)
def tokF (b:List Nat) (at_:Nat) (t:Nat×Nat):Tok:=⟨t.1,t.2,if t.1=0 then b.getD at_ 0 else 0⟩
def aH (b:List Nat):Nat->Nat->List Tok
 |0,_=>[]
 |f+1,at_=>if b.length<=at_ then [] else tokF b at_ (gV b at_)::aH b f (at_+max (gV b at_).1 1)
theorem z5f (b:List Nat) (i k:Nat):∀f n,n<=EP b i k f n/\EP b i k f n<=n+f:=by
 intro f;induction f with
 |zero=>intro n;exact ⟨Nat.le_refl _,Nat.le_refl _⟩
 |succ f ih=>
  intro n;unfold EP;split
  ·have:=ih (n+1);omega
  ·omega
theorem Bv (b:List Nat) (i k:Nat):∀f n j,n<=j->j<EP b i k f n->k+j<b.length/\b.getD (i+j) 0=b.getD (k+j) 0:=by
 intro f;induction f with
 |zero=>intro n j h1 h2;unfold EP at h2;omega
 |succ f ih=>
  intro n j h1 h2;unfold EP at h2;split at h2
  ·next hc=>
   by_cases hj:j=n
   ·subst hj;exact hc
   ·exact ih (n+1) j (by omega) h2
  ·omega
theorem tC (b:List Nat) (i k:Nat):∀f n m,n<=m->m<=n+f->(∀j,n<=j->j<m->k+j<b.length/\b.getD (i+j) 0=b.getD (k+j) 0)->m<=EP b i k f n:=by
 intro f;induction f with
 |zero=>intro n m h1 h2 _;unfold EP;omega
 |succ f ih=>
  intro n m h1 h2 h;unfold EP;by_cases hm:m=n
  ·subst hm
   split
   ·have:=(z5f b i k f (m+1)).1;omega
   ·exact Nat.le_refl _
  ·rw[if_pos (h n (Nat.le_refl _) (by omega))]
   exact ih (n+1) m (by omega) (by omega) (fun j h3 h4=>h j (by omega) h4)
theorem Bz (b:List Nat) (i k:Nat):gW b i k<=258:=by have:=(z5f b i k 258 0).2;unfold gW;omega
theorem BA {b:List Nat} {i k j:Nat} (h:j<gW b i k):k+j<b.length/\b.getD (i+j) 0=b.getD (k+j) 0:=Bv b i k 258 0 j (Nat.zero_le _) h
theorem MC {b:List Nat} {i k:Nat} (hk:k+2<b.length) (h:iO b i=iO b k):3<=gW b i k:=by
 unfold iO at h;simp only[Prod.mk.injEq]at h;refine tC b i k 258 0 3 (by omega) (by omega) fun j _ hj=>⟨by omega,?_⟩;rcases (show j=0∨j=1∨j=2 by omega) with rfl|rfl|rfl
 ·exact h.1
 ·exact h.2.1
 ·exact h.2.2
theorem z5k {b:List Nat} {at_ i:Nat} {k:Nat×Nat×Nat} (h:i∈Au b at_ k):i<at_/\i+2<b.length/\iO b i=k:=by
 unfold Au at h;rw[List.mem_filter,List.mem_range]at h;exact ⟨h.1,by simpa using h.2⟩
theorem qo (b:List Nat) (at_:Nat) (k:Nat×Nat×Nat):(Au b at_ k).length<=at_:=by
 unfold Au;have:=List.length_filter_le (fun i=>decide (i+2<b.length/\iO b i=k)) (List.range at_);simpa using this
theorem z4o {b:List Nat} {at_:Nat} {k:Nat×Nat×Nat}:Au b (at_+1) k=Au b at_ k++if at_+2<b.length/\iO b at_=k then [at_] else []:=by
 unfold Au;rw[List.range_succ,List.filter_append];congr 1
 by_cases h:at_+2<b.length/\iO b at_=k
 ·rw[if_pos h];simp[h]
 ·rw[if_neg h];simp[h]
def Good (b:List Nat) (at_:Nat) (t:Nat×Nat):Prop:=t=(0,0)∨(3<=t.1/\t.1<=258/\1<=t.2/\t.2<=32768/\t.2<=at_/\at_+t.1<=b.length/\∀j,j<t.1->b.getD (at_-t.2+j) 0=b.getD (at_+j) 0)
theorem yt {b:List Nat} {at_:Nat} (hat:at_+2<b.length):∀(l:List Nat) (t:Nat×Nat),(∀i∈l,i<at_/\iO b i=iO b at_)->Good b at_ t->Good b at_ (EM b at_ l t):=by
 intro l;induction l with
 |nil=>intro t _ h;exact h
 |cons i r ih=>
  intro t hl h;unfold EM;by_cases hc:at_-i<=32768/\t.1<258
  ·rw[if_pos hc]
   refine ih _ (fun j hj=>hl j (by simp[hj])) ?_;have hi:=hl i (by simp);by_cases hs:t.1<gW b i at_
   ·rw[if_pos hs]
    have h3:=MC hat hi.2;have hlast:=BA (b:=b) (i:=i) (k:=at_) (j:=gW b i at_-1) (by omega);refine .inr ⟨h3,Bz _ _ _,by simp only;omega,hc.1,by simp only;omega,by simp only;omega,fun j hj=>?_⟩;simp only at hj ⊢;rw[show at_-(at_-i)=i by omega];exact (BA hj).2
   ·rw[if_neg hs];exact h
  ·rw[if_neg hc];exact h
theorem z4g (b:List Nat) (at_:Nat):Good b at_ (gV b at_):=by
 unfold gV;by_cases h:at_+2<b.length
 ·rw[if_pos h]
  refine yt h _ _ (fun i hi=>?_) (.inl rfl);have:=z5k (List.mem_reverse.1 hi);exact ⟨this.1,this.2.2⟩
 ·rw[if_neg h];exact .inl rfl
theorem z3m {b:List Nat}:∀f at_,(aH b f at_).length<=f:=by
 intro f;induction f with
 |zero=>intro at_;exact Nat.le_refl _
 |succ f ih=>
  intro at_;unfold aH;split
  ·simp
  ·simp only[List.length_cons];have:=ih (at_+max (gV b at_).1 1);omega
def CQ (s:Nat):Nat:=if s<144 then 48+s else if s<256 then 256+s else if s<280 then s-256 else s-88
def tK (s:Nat):Nat:=if s<144 then 8 else if s<256 then 9 else if s<280 then 7 else 8
def jc (s:Nat):List Bool:=sJ (CQ s) (tK s)
def nR (b m:Nat):Nat->Nat->Nat
 |0,x=>x
 |f+1,x=>if b * 2 ^ x<=m then nR b m f (x+1) else x
def jI (m:Nat):Nat:=nR 8 m 9 1
def iG (e:Nat):Nat:=nR 4 e 20 0
def nO (n:Nat):List Bool:=
 if n=258 then jc 285 else if n<11 then jc (254+n) else jc (257+4 * jI (n-3)+(n-3) / 2 ^ jI (n-3))++lV (n-3) (jI (n-3))
def AP (e:Nat):List Bool:=if e<2 then sJ e 5 else sJ (2 * iG e+e / 2 ^ iG e) 5++lV e (iG e)
def kX (t:Tok):List Bool:=if t.len=0 then jc t.byte else nO t.len++AP (t.dist-1)
def Ae (l:List Tok):List Bool:=lV 3 3++l.flatMap kX
def aI (l:List Tok):List Bool:=Ae l++jc 256
theorem Qb {b m:Nat}:∀f x,x<=nR b m f x/\nR b m f x<=x+f:=by
 intro f;induction f with
 |zero=>intro x;exact ⟨Nat.le_refl _,Nat.le_refl _⟩
 |succ f ih=>
  intro x;unfold nR;split
  ·have:=ih (x+1);omega
  ·omega
namespace Ps
def kK (n:Nat):UInt8:=UInt8.ofNat (if n<10 then 48+n else 87+n)
def wZ (c:UInt8):List UInt8:=if EU c.toNat=true then [c] else [92,kK (c.toNat / 16),kK (c.toNat % 16)]
def gu (v:List UInt8):List UInt8:=v.flatMap wZ
def labT (x:dP):List UInt8:=x.name.data.toList++61::34::(gu x.value.data.toList++[34])
def ig (l:List dP):List UInt8:=l.flatMap fun x=>44::labT x
def bodyT:List dP->List UInt8
 |[]=>[]
 |x::r=>labT x++ig r
def textF (l:List dP):List UInt8:=123::(bodyT l++[125])
theorem OJ (l:List dP) (x:dP):bodyT (l++[x])=bodyT l++((if l=[] then [] else [44])++labT x):=by
 cases l with
 |nil=>simp[bodyT,ig]
 |cons y r=>simp[bodyT,ig,List.flatMap_append]
theorem LJ (v:List UInt8) (c:UInt8):gu (v++[c])=gu v++wZ c:=by
 unfold gu;rw[List.flatMap_append];simp
theorem TL {n:Nat} (h:n<16):Ak (kK n).toNat=some n:=by
 have:∀n,n<16->Ak (kK n).toNat=some n:=by decide
 exact this n h
theorem ZV (c:UInt8) (r:List UInt8):iy (wZ c++r)=some (c,(wZ c).length):=by
 unfold wZ;have hc:=c.toNat_lt;by_cases h:EU c.toNat=true
 ·rw[if_pos h]
  have h92:c.toNat≠92:=by
   intro e;rw[e]at h;exact absurd h (by decide)
  show iy (c::r)=_
  unfold iy;simp only;rw[if_neg h92,if_pos h];rfl
 ·rw[if_neg h]
  show iy (92::kK (c.toNat / 16)::kK (c.toNat % 16)::r)=_
  unfold iy;simp only;rw[if_pos (by decide),TL (by omega),TL (by omega)];simp only;rw[show 16 * (c.toNat / 16)+c.toNat % 16=c.toNat by omega,if_neg h];simp
theorem XQ (c:UInt8):∃a r,wZ c=a::r/\a.toNat≠34:=by
 unfold wZ;by_cases h:EU c.toNat=true
 ·rw[if_pos h]
  refine ⟨c,[],rfl,fun e=>?_⟩;rw[e]at h;exact absurd h (by decide)
 ·rw[if_neg h]
  exact ⟨92,_,rfl,by decide⟩
theorem AX:∀(v r:List UInt8),fH (gu v++34::r)=some (v,r)
 |[],r=>Zr r (by decide)
 |c::v,r=>by
  obtain ⟨a,t,e,ha⟩:=XQ c;have h1:=ZV c (gu v++34::r)
  have e2:gu (c::v)++34::r=wZ c++(gu v++34::r):=by
   unfold gu;rw[List.flatMap_cons,List.append_assoc]
  rw[e2];rw[e]at h1 ⊢;rw[List.cons_append]at h1 ⊢;rw[Zt ha h1,←List.cons_append,List.drop_left,AX v r];rfl
theorem Dp:∀(n:List UInt8) (r:List UInt8),(∀c∈n,c.toNat≠61)->jA (n++61::34::r)=some n.length
 |[],r,_=>rfl
 |c::n,r,h=>by
  have ih:=Dp n r (fun d hd=>h d (List.mem_cons_of_mem _ hd));have hc:=h c List.mem_cons_self;show jA (c::(n++61::34::r))=_
  unfold jA
  have:jC (c::(n++61::34::r))=none:=by
   cases n with
   |nil=>show jC (c::61::34::r)=none;rw[z2p,if_neg (fun hh=>hc hh.1)]
   |cons d n=>show jC (c::d::(n++61::34::r))=none;rw[z2p,if_neg (fun hh=>hc hh.1)]
  rw[this,if_neg (by decide),ih];rfl
theorem qE (b:ByteArray):iW b.data.toList=b:=rfl
theorem Rx {n:ByteArray} (h:fE n=true):∀c∈n.data.toList,c.toNat≠61:=by
 intro c hc e
 have hb:nD c=false:=by
  unfold nD;rw[e];decide
 have:=Es hc hb;rw[qE,h]at this;cases this
theorem wE {f:Nat} {x:dP} {r:List UInt8} {out:List dP} (hn:fE x.name=true) (hl:out.length<=4):jy f (labT x++r) out=iV f r (out++[x]):=by
 have e:labT x++r=x.name.data.toList++61::34::(gu x.value.data.toList++34::r):=by simp[labT]
 unfold jy;rw[e,Dp _ _ (Rx hn)];simp only;rw[if_neg (by omega)]
 have e2:(x.name.data.toList++61::34::(gu x.value.data.toList++34::r)).drop (x.name.data.toList.length+2)=gu x.value.data.toList++34::r:=by
  rw[←List.drop_drop,List.drop_left];rfl
 rw[e2,AX];simp only;rw[List.take_left,qE,qE]
theorem uU:∀(r:List dP) (f:Nat) (out:List dP),(∀x∈r,fE x.name=true)->out≠[]->out.length+r.length<=4->r.length<f->iV f (ig r) out=if jH (out++r)=true then some (out++r) else none
 |[],f,out,_,_,_,hf=>by
  obtain ⟨g,rfl⟩:∃g,f=g+1:=⟨f-1,by simp only[List.length_nil]at hf;omega⟩;show iV (g+1) [] out=_
  unfold iV;rw[if_pos rfl,List.append_nil]
 |x::r,f,out,hn,ho,hl,hf=>by
  obtain ⟨g,rfl⟩:∃g,f=g+1:=⟨f-1,by omega⟩;simp only[List.length_cons]at hl hf;have e:ig (x::r)=44::(labT x++ig r):=(by simp[ig]);rw[e,z32 _ _ (by simp),if_neg ho];have ec:comma (44::(labT x++ig r))=some (labT x++ig r):=rfl;rw[ec];simp only;rw[wE (hn x List.mem_cons_self) (by omega),uU r g (out++[x]) (fun y hy=>hn y (List.mem_cons_of_mem _ hy)) (by simp) (by rw[List.length_append,List.length_singleton];omega) (by omega),List.append_assoc];rfl
theorem z2Q {l:List dP} (h:jH l=true) {x:dP} (hx:x∈l):fE x.name=true/\x.value.size<=16:=by
 obtain ⟨i,hi,rfl⟩:=List.mem_iff_getElem.1 hx;unfold jH at h;rw[Bool.and_eq_true,z2r]at h;have h1:=h.2 i hi;unfold nC jw at h1;rw[List.getD_eq_getElem?_getD,List.getElem?_eq_getElem hi,Option.getD_some]at h1;simp only[Bool.and_eq_true,decide_eq_true_eq]at h1;exact ⟨h1.1.1,h1.1.2⟩
theorem Ui {x:dP} {r:List dP}:bodyT (x::r)≠[]:=by
 simp[bodyT,labT]
theorem A_:∀(r:List dP),r.length<=(ig r).length
 |[]=>Nat.zero_le _
 |x::r=>by
  have:=A_ r;have e:ig (x::r)=44::(labT x++ig r):=(by simp[ig]);rw[e];simp only[List.length_cons,List.length_append];omega
theorem qp {l:List dP} (h:jH l=true):jT (textF l)=some l:=by
 have h4:l.length<=4:=by
  unfold jH at h;rw[Bool.and_eq_true,decide_eq_true_eq]at h;exact h.1
 have hlen:(textF l).length=(bodyT l).length+2:=by simp[textF]
 unfold jT
 rw[if_pos ⟨by omega,rfl,by
  rw[hlen];show (123::(bodyT l++[125]))[(bodyT l).length+2-1]?=some 125
  rw[show (bodyT l).length+2-1=(bodyT l).length+1 by omega,List.getElem?_cons_succ,List.getElem?_append_right (Nat.le_refl _)];simp⟩]
 have e:((textF l).drop 1).take ((textF l).length-2)=bodyT l:=by
  rw[hlen];show (bodyT l++[125]).take _=_
  rw[show (bodyT l).length+2-2=(bodyT l).length by omega,List.take_left]
 rw[e,hlen];cases l with
 |nil=>rfl
 |cons x r=>
  rw[z32 _ _ Ui,if_pos rfl];simp only[List.length_cons]at h4;have hr:=A_ r;have hb:bodyT (x::r)=labT x++ig r:=rfl;simp only;rw[hb,wE (z2Q h List.mem_cons_self).1 (by simp),List.nil_append,uU r _ [x] (fun y hy=>(z2Q h (List.mem_cons_of_mem _ hy)).1) (by simp) (by simp only[List.length_singleton];omega) (by simp only[List.length_append];omega),List.singleton_append,if_pos h]
theorem aaR (c:UInt8):(wZ c).length<=3:=by
 unfold wZ;split<;>simp
theorem z2V:∀(v:List UInt8),(gu v).length<=3 * v.length
 |[]=>Nat.le_refl _
 |c::v=>by
  have:=aaR c;have:=z2V v;have e:gu (c::v)=wZ c++gu v:=(by simp[gu]);rw[e,List.length_append,List.length_cons];omega
theorem CV {x:dP} (h:fE x.name=true) (h2:x.value.size<=16):(labT x).length<=59:=by
 have h1:=z2V x.value.data.toList
 have hn:x.name.size<=8:=by
  unfold fE at h;rw[Bool.and_eq_true,decide_eq_true_eq]at h;exact h.1.2
 have e1:x.value.data.toList.length=x.value.size:=Array.length_toList ..;have e2:x.name.data.toList.length=x.name.size:=Array.length_toList ..;unfold labT;simp only[List.length_append,List.length_cons,List.length_nil];omega
theorem uV:∀{r:List dP},(∀x∈r,fE x.name=true/\x.value.size<=16)->(ig r).length<=60 * r.length
 |[],_=>Nat.le_refl _
 |x::r,h=>by
  have h1:=CV (h x List.mem_cons_self).1 (h x List.mem_cons_self).2;have h2:=uV (r:=r) (fun y hy=>h y (List.mem_cons_of_mem _ hy));have e:ig (x::r)=44::(labT x++ig r):=(by simp[ig]);rw[e];simp only[List.length_cons,List.length_append];omega
/-! a part of a set -/
end Ps
end Go.Proofs.YtpakjclpjcngmaaGreat
namespace Go.Proofs.YtpakjclpjcngmaaGreat
open Ps
def NM:ByteArray:=⟨#[48,49,50,51,52,53,54,55,56,57,97,98,99,100,101,102]⟩
theorem KE {n:Nat} (h:n<16):NM[n]'h=kK n:=by
 have:∀n:Fin 16,NM[n.val]'n.isLt=kK n.val:=by decide
 exact this ⟨n,h⟩
end Go.Proofs.YtpakjclpjcngmaaGreat
namespace Go.Proofs.YtpakjclpjcngmaaGreat
def cnt (zs:List Int) (m:Nat):Nat:=zs.count (m:Int)
def rank (zs:List Int) (m s:Nat):Nat:=(zs.take s).count (m:Int)
def bT (zs:List Int):Nat->Nat
 |0=>0
 |j+1=>2 * bT zs j+cnt zs (j+1)
def dA (zs:List Int):Nat->Nat
 |0=>0
 |j+1=>dA zs j+cnt zs (j+1)
def lZ (zs:List Int):Nat->Nat
 |0=>0
 |j+1=>lZ zs j+cnt zs (j+1) * 2 ^ (14-j)
theorem Wi (zs:List Int) (j:Nat) (hj:j<=15):lZ zs j=bT zs j * 2 ^ (15-j):=by
 induction j with
 |zero=>simp[lZ,bT]
 |succ j ih=>
  have e:(2:Nat) ^ (15-j)=2 * 2 ^ (14-j):=by rw[←Nat.pow_succ'];congr 1;omega
  simp only[lZ,bT];rw[ih (by omega),e,show 15-(j+1)=14-j by omega,Nat.add_mul];congr 1
  rw[Nat.mul_comm 2 (bT zs j),Nat.mul_assoc]
def dR (zs:List Int) (s:Nat):Nat:=(zs.getD s 0).toNat
def iR (zs:List Int) (s:Nat):Nat:=2 * bT zs (dR zs s-1)+rank zs (dR zs s) s
def dV (zs:List Int):Int:=
 if 320<zs.length then 5 else if ∃z∈zs,z<0∨15<z then 1 else
 if 32768<bT zs 15∨(bT zs 15<32768/\0<dA zs 15/\¬(dA zs 15=1/\cnt zs 1=1)) then 4 else 0
theorem XD (zs:List Int) (m:Nat):cnt zs m<=zs.length:=by unfold cnt;exact List.count_le_length
theorem u_ (zs:List Int) (j:Nat) (hn:zs.length<=320):cnt zs (j+1) * 2 ^ (14-j)<=5242880:=by
 have h1:=XD zs (j+1);have h2:(2:Nat) ^ (14-j)<=2 ^ 14:=Nat.pow_le_pow_right (by omega) (by omega);have:=Nat.mul_le_mul (show cnt zs (j+1)<=320 by omega) h2;omega
theorem JK (zs:List Int) (j:Nat) (hj:j<=15) (hn:zs.length<=320):lZ zs j<=78643200:=by
 have h:lZ zs j<=j * 5242880:=by
  clear hj;induction j with
  |zero=>simp[lZ]
  |succ j ih=>
   have:=u_ zs j hn;simp only[lZ,Nat.succ_mul];omega
 omega
theorem z2O (zs:List Int) (m s:Nat) (h:s<zs.length):rank zs m (s+1)=rank zs m s+if zs[s]=(m:Int) then 1 else 0:=by
 unfold rank;rw[List.take_succ_eq_append_getElem h,List.count_append,List.count_singleton];congr 1
 by_cases e:zs[s]=(m:Int)<;>simp[e]
theorem z4E (zs:List Int) (m:Nat):rank zs m zs.length=cnt zs m:=by simp[rank,cnt]
theorem yJ (zs:List Int) (m s:Nat):rank zs m s<=cnt zs m:=by
 unfold rank cnt;exact List.Sublist.count_le (m:Int) (List.take_sublist s zs)
theorem cnt_le (zs:List Int) (m:Nat):cnt zs m<=zs.length:=by unfold cnt;exact List.count_le_length
theorem Yh (zs:List Int) (j:Nat):dA zs j<=j * zs.length:=by
 induction j with
 |zero=>simp[dA]
 |succ j ih=>
  have:=cnt_le zs (j+1);simp only[dA,Nat.succ_mul];omega
theorem z4R (zs:List Int) (j:Nat) (hj:j<=15) (hn:zs.length<=320):dA zs j<=4800:=by
 have h1:=Yh zs j;have:=Nat.mul_le_mul hj hn;omega
theorem wP (zs:List Int) (j k:Nat):2 ^ k * bT zs j<=bT zs (j+k):=by
 induction k with
 |zero=>simp
 |succ k ih=>
  have e:bT zs (j+(k+1))=2 * bT zs (j+k)+cnt zs (j+k+1):=rfl;rw[e,Nat.pow_succ,Nat.mul_comm (2 ^ k) 2,Nat.mul_assoc];omega
theorem KU {zs:List Int} (h:bT zs 15<=32768) (j:Nat) (hj:j<=15):bT zs j<=2 ^ j:=by
 have h1:=wP zs j (15-j);rw[show j+(15-j)=15 by omega]at h1;have h2:(2:Nat) ^ 15=2 ^ (15-j) * 2 ^ j:=by rw[←Nat.pow_add];congr 1;omega
 have h3:2 ^ (15-j) * bT zs j<=2 ^ (15-j) * 2 ^ j:=by rw[←h2];omega
 exact Nat.le_of_mul_le_mul_left h3 (Nat.two_pow_pos _)
theorem z5s {zs:List Int} {s:Nat} (hs:s<zs.length) (h0:0<=zs[s]):((dR zs s:Nat):Int)=zs[s]:=by
 have e:zs.getD s 0=zs[s]:=by simp[List.getD,hs]
 unfold dR;rw[e];omega
theorem yI {zs:List Int} {s:Nat} (hs:s<zs.length) (h0:0<=zs[s]):rank zs (dR zs s) s<cnt zs (dR zs s):=by
 have h1:=z2O zs (dR zs s) s hs;rw[if_pos (z5s hs h0).symm]at h1;have h2:=yJ zs (dR zs s) (s+1);omega
def AL (zs:List Int) (m k:Nat):List Int:=((List.range k).filter fun s=>zs.getD s 0==(m:Int)).map fun s:Nat=>(s:Int)
theorem z3o (zs:List Int) (m k:Nat) (h:k<zs.length):AL zs m (k+1)=AL zs m k++if zs[k]=(m:Int) then [(k:Int)] else []:=by
 have e:zs.getD k 0=zs[k]:=by simp[List.getD,h]
 simp only[AL,List.range_succ,List.filter_append,List.map_append];congr 1
 by_cases hz:zs[k]=(m:Int)
 ·simp[hz,List.getD,h]
 ·simp[hz,List.getD,h]
theorem z1Q (zs:List Int) (m k:Nat) (h:k<=zs.length):(AL zs m k).length=rank zs m k:=by
 induction k with
 |zero=>simp[AL,rank]
 |succ k ih=>
  rw[z3o zs m k (by omega),z2O zs m k (by omega),List.length_append,ih (by omega)];split<;>simp
def iT (zs:List Int):Nat->List Int
 |0=>[]
 |j+1=>iT zs j++AL zs (j+1) zs.length
theorem z1S (zs:List Int) (j:Nat):(iT zs j).length=dA zs j:=by
 induction j with
 |zero=>rfl
 |succ j ih=>simp only[iT,dA,List.length_append,ih,z1Q zs (j+1) zs.length (Nat.le_refl _),z4E]
theorem FN (zs:List Int) (m s:Nat) (hs:s<zs.length) (hz:zs[s]=(m:Int)):∀k,s<k->k<=zs.length->(AL zs m k)[rank zs m s]?=some (s:Int):=by
 intro k hsk hk;induction k with
 |zero=>omega
 |succ k ih=>
  rw[z3o zs m k (by omega)];by_cases h:s<k
  ·have:=ih h (by omega)
   rw[List.getElem?_append_left (List.getElem?_eq_some_iff.1 this).1];exact this
  ·obtain rfl:s=k:=by omega
   rw[List.getElem?_append_right (by rw[z1Q zs m s (by omega)];exact Nat.le_refl _),z1Q zs m s (by omega),Nat.sub_self,if_pos hz];rfl
theorem Gi (zs:List Int) (j k i:Nat) (h:i<(iT zs j).length):(iT zs (j+k))[i]?=(iT zs j)[i]?:=by
 induction k with
 |zero=>rfl
 |succ k ih=>
  have e:iT zs (j+(k+1))=iT zs (j+k)++AL zs (j+k+1) zs.length:=rfl
  have hl:(iT zs j).length<=(iT zs (j+k)).length:=by
   clear ih e;induction k with
   |zero=>exact Nat.le_refl _
   |succ k ih=>
    have e:iT zs (j+(k+1))=iT zs (j+k)++AL zs (j+k+1) zs.length:=rfl;rw[e,List.length_append];omega
  rw[e,List.getElem?_append_left (by omega),ih]
theorem pR (zs:List Int) (s:Nat) (hs:s<zs.length) (h0:0<zs[s]) (h15:zs[s]<=15):(iT zs 15)[dA zs (dR zs s-1)+rank zs (dR zs s) s]?=some (s:Int):=by
 have e1:=z5s hs (by omega);have hr:=yI hs (by omega);obtain ⟨m,hm⟩:∃m,dR zs s=m+1:=⟨dR zs s-1,by omega⟩;rw[hm]at e1 hr ⊢;have hlen:=z1S zs (m+1);have hlm:=z1S zs m;rw[show (15:Nat)=(m+1)+(14-m) by omega,Gi zs (m+1) (14-m) _ (by rw[hlen];simp only[dA];simp;omega)];simp only[iT,Nat.add_sub_cancel];rw[List.getElem?_append_right (by omega),hlm,Nat.add_sub_cancel_left];exact FN zs (m+1) s hs e1.symm _ hs (Nat.le_refl _)
def msb (f:Nat->Nat):Nat->Nat
 |0=>0
 |n+1=>2 * msb f n+f n
theorem Z_ (f:Nat->Nat) (hf:∀i,f i<2) (n:Nat):msb f n<2 ^ n:=by
 induction n with
 |zero=>simp[msb]
 |succ n ih=>
  have:=hf n;simp only[msb,Nat.pow_succ];omega
def Past (zs:List Int) (f:Nat->Nat) (n:Nat):Prop:=bT zs n<=msb f n
theorem MS (zs:List Int) (f:Nat->Nat):Past zs f 0:=by simp[Past,bT]
theorem Gu {zs:List Int} {f:Nat->Nat} {n:Nat} (h:Past zs f n):2 * bT zs n<=msb f (n+1):=by
 unfold Past at h;simp only[msb];omega
theorem MV {zs:List Int} {f:Nat->Nat} {n:Nat} (h:Past zs f n):(msb f (n+1)<2 * bT zs n+cnt zs (n+1))∨Past zs f (n+1):=by
 by_cases hl:msb f (n+1)<2 * bT zs n+cnt zs (n+1)
 ·exact .inl hl
 ·refine .inr ?_
  unfold Past;simp only[bT];omega
theorem z3R (zs:List Int) (j k:Nat):dA zs j<=dA zs (j+k):=by
 induction k with
 |zero=>exact Nat.le_refl _
 |succ k ih=>
  have e:dA zs (j+(k+1))=dA zs (j+k)+cnt zs (j+k+1):=rfl;omega
theorem QU {zs:List Int} {s:Nat} (hs:s<zs.length) (h0:0<zs[s]) {f:Nat->Nat} (hf:∀i,f i<2) (hw:msb f (dR zs s)=iR zs s) {n:Nat} (hn:n<dR zs s):Past zs f n:=by
 unfold Past;have h1:2 * bT zs (dR zs s-1)<=msb f (dR zs s):=by rw[hw];unfold iR;omega
 obtain ⟨m,hm⟩:∃m,dR zs s=m+1:=⟨dR zs s-1,by omega⟩;rw[hm]at h1 hn;simp only[msb,Nat.add_sub_cancel]at h1;have hfm:=hf m;have h2:bT zs m<=msb f m:=by omega
 rcases Nat.lt_or_ge (msb f n) (bT zs n) with h|h
 ·exfalso
  have e1:=wP zs n (m-n);rw[show n+(m-n)=m by omega]at e1
  -- the bits behind add less than one unit
  have e2:msb f m<2 ^ (m-n) * (msb f n+1):=by
   have key:∀k,msb f (n+k)<2 ^ k * (msb f n+1):=by
    intro k;induction k with
    |zero=>simp
    |succ k ih=>
     have e:msb f (n+(k+1))=2 * msb f (n+k)+f (n+k):=rfl;have:=hf (n+k);rw[e,Nat.pow_succ,Nat.mul_comm (2 ^ k) 2,Nat.mul_assoc];omega
   have:=key (m-n);rwa [show n+(m-n)=m by omega]at this
  have e3:2 ^ (m-n) * (msb f n+1)<=2 ^ (m-n) * bT zs n:=Nat.mul_le_mul_left _ h;omega
 ·exact h
theorem found {zs:List Int} (hl:zs.length<=320) {w n:Nat} (hn:n<=14) (h1:2 * bT zs n<=w) (h2:w<2 * bT zs n+cnt zs (n+1)):
 ∃s,∃hs:s<zs.length,zs[s]=((n+1:Nat):Int)/\iR zs s=w/\(iT zs 15)[dA zs n+(w-2 * bT zs n)]?=some (s:Int):=by
 -- the rank of each symbol of that length runs through all places
 have key:∀k,k<=zs.length->∀r,r<rank zs (n+1) k->∃s,∃hs:s<zs.length,s<k/\zs[s]=((n+1:Nat):Int)/\rank zs (n+1) s=r:=by
  intro k;induction k with
  |zero=>intro _ r hr;simp[rank]at hr
  |succ k ih=>
   intro hk r hr;rw[z2O zs (n+1) k (by omega)]at hr;by_cases hz:zs[k]=((n+1:Nat):Int)
   ·rw[if_pos hz]at hr
    by_cases he:r=rank zs (n+1) k
    ·exact ⟨k,by omega,by omega,hz,he.symm⟩
    ·obtain ⟨s,hs,h1,h2,h3⟩:=ih (by omega) r (by omega)
     exact ⟨s,hs,by omega,h2,h3⟩
   ·rw[if_neg hz]at hr
    obtain ⟨s,hs,h1,h2,h3⟩:=ih (by omega) r (by omega);exact ⟨s,hs,by omega,h2,h3⟩
 obtain ⟨s,hs,_,hz,hr⟩:=key zs.length (Nat.le_refl _) (w-2 * bT zs n) (by rw[z4E];omega)
 have hlen:dR zs s=n+1:=by
  have:=z5s hs (by omega);omega
 have hc:iR zs s=w:=by unfold iR;rw[hlen,Nat.add_sub_cancel,hr];omega
 have hg:=pR zs s hs (by omega) (by omega);rw[hlen,Nat.add_sub_cancel,hr]at hg;exact ⟨s,hs,hz,hc,hg⟩
theorem yE {q:dN} (h:kW q=true):0<=q.lo/\q.lo<=q.hi/\0<=q.limit/\q.limit<=2048:=by
 unfold kW at h;simp only[Bool.and_eq_true,decide_eq_true_eq]at h;exact ⟨h.1.1,h.1.2.1,h.1.2.2.2.2.1,h.1.2.2.2.2.2⟩
end Go.Proofs.YtpakjclpjcngmaaGreat
