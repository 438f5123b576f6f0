/- Contracts and plain laws that the last text rests on. Conditions: each theorem states its own. -/
import Derived.Test.YtpakjclpjcngmaaGreatKdQ3
set_option maxRecDepth 100000
set_option linter.unusedVariables false
namespace Go.Proofs.YtpakjclpjcngmaaGreat
def ak (n:Nat):List Nat:=if h:n<128 then [n] else (128+n % 128)::ak (n / 128)
termination_by n
decreasing_by omega
theorem Zz {n:Nat} (h:n<128):ak n=[n]:=by rw[ak,dif_pos h]
theorem z5h {n:Nat} (h:128<=n):ak n=(128+n % 128)::ak (n / 128):=by rw[ak,dif_neg (by omega)]
theorem WB:∀(f n:Nat),n<128 ^ (f+1)->okB (ak n):=by
 intro f;induction f with
 |zero=>
  intro n h x hx;rw[Zz (by simpa using h)]at hx;simp at hx;omega
 |succ f ih=>
  intro n h x hx;by_cases hn:n<128
  ·rw[Zz hn]at hx
   simp at hx;omega
  ·rw[z5h (by omega)]at hx
   rcases List.mem_cons.1 hx with h1|h1
   ·omega
   ·refine ih (n / 128) (Nat.div_lt_of_lt_mul ?_) x h1
    rw[Nat.pow_succ,Nat.mul_comm]at h;exact h
theorem jW {n:Nat} (h:n<18446744073709551616):okB (ak n):=WB 9 n (Nat.lt_of_lt_of_le h (by decide))
theorem BZ:∀(f n:Nat),n<128 ^ (f+1)->1<=(ak n).length/\(ak n).length<=f+1:=by
 intro f;induction f with
 |zero=>intro n h;rw[Zz (by simpa using h)];simp
 |succ f ih=>
  intro n h;by_cases hn:n<128
  ·rw[Zz hn];simp
  ·rw[z5h (by omega),List.length_cons]
   have:=ih (n / 128) (Nat.div_lt_of_lt_mul (by rw[Nat.pow_succ,Nat.mul_comm]at h;exact h));omega
theorem z05 {n:Nat} (h:n<18446744073709551616):1<=(ak n).length/\(ak n).length<=10:=BZ 9 n (Nat.lt_of_lt_of_le h (by decide))
def lT:List Nat->Nat->Nat->Nat×Nat×Int
 |[],_,_=>(0,0,3)
 |x::xs,i,n=>
  if (i=9/\1<x)∨(x=0/\0<i) then (0,0,4)
  else if x<128 then (n+x * 2 ^ (7 * i),i+1,0)
  else lT xs (i+1) (n+(x % 128) * 2 ^ (7 * i))
def aO (b:List Nat) (at_:Int):Nat×Nat×Int:=if at_<0∨(b.length:Int)<=at_ then (0,0,3) else lT (b.drop at_.toNat) 0 0
theorem z4S:∀(l:List Nat) (i n:Nat),(lT l i n).2.2=0∨((lT l i n).1=0/\(lT l i n).2.1=0/\((lT l i n).2.2=3∨(lT l i n).2.2=4)):=by
 intro l;induction l with
 |nil=>intro i n;simp[lT]
 |cons x l ih=>
  intro i n;simp only[lT];split
  ·simp
  ·split
   ·simp
   ·exact ih _ _
theorem yI:∀(l:List Nat) (i n:Nat),(lT l i n).2.2=0->i<(lT l i n).2.1/\(lT l i n).2.1<=i+l.length:=by
 intro l;induction l with
 |nil=>intro i n h;simp[lT]at h
 |cons x l ih=>
  intro i n;simp only[lT,List.length_cons];split
  ·intro h;simp at h
  ·split
   ·intro h;simp only;omega
   ·intro h
    have:=ih _ _ h;omega
theorem ZN (i:Nat):2 ^ (7 * (i+1))=128 * 2 ^ (7 * i):=by rw[show 7 * (i+1)=7 * i+7 by omega,Nat.pow_add];omega
theorem z5Q:∀(l:List Nat) (i n:Nat),okB l->i<=9->n<2 ^ (7 * i)->(lT l i n).1<18446744073709551616:=by
 intro l;induction l with
 |nil=>intro i n _ _ _;simp[lT]
 |cons x l ih=>
  intro i n ok hi hn;have hx:=ok x (by simp);simp only[lT];by_cases h1:(i=9/\1<x)∨(x=0/\0<i)
  ·rw[if_pos h1];simp
  ·rw[if_neg h1]
   by_cases h2:x<128
   ·rw[if_pos h2]
    simp only;by_cases h9:i=9
    ·subst h9
     have hx1:x<=1:=(by omega);have:x * 2 ^ (7 * 9)<=1 * 2 ^ (7 * 9):=Nat.mul_le_mul_right _ hx1;have e:(2:Nat) ^ (7 * 9)=9223372036854775808:=(by decide);omega
    ·have h3:x * 2 ^ (7 * i)<=127 * 2 ^ (7 * i):=Nat.mul_le_mul_right _ (by omega)
     have h4:2 ^ (7 * i)<=2 ^ 56:=Nat.pow_le_pow_right (by decide) (by omega);have e:(2:Nat) ^ 56=72057594037927936:=(by decide);omega
   ·rw[if_neg h2]
    have h9:i≠9:=by rintro rfl;exact h1 (.inl ⟨rfl,by omega⟩)
    have hm:x % 128<128:=Nat.mod_lt _ (by decide);refine ih (i+1) _ (fun y hy=>ok y (by simp[hy])) (by omega) ?_;have h3:(x % 128) * 2 ^ (7 * i)<=127 * 2 ^ (7 * i):=Nat.mul_le_mul_right _ (by omega);rw[ZN];omega
theorem yH:∀(f v i n:Nat) (rest:List Nat),f+i=9->v<128 ^ f * 2->(0<i->0<v)->lT (ak v++rest) i n=(n+v * 2 ^ (7 * i),i+(ak v).length,0):=by
 intro f;induction f with
 |zero=>
  intro v i n rest hi hv h0;rw[Zz (by omega)];simp only[List.cons_append,List.nil_append,lT];have hi9:i=9:=(by omega);rw[if_neg (by omega),if_pos (by omega)];rfl
 |succ f ih=>
  intro v i n rest hi hv h0;by_cases h:v<128
  ·rw[Zz h]
   simp only[List.cons_append,List.nil_append,lT];rw[if_neg (by omega),if_pos h];rfl
  ·rw[z5h (by omega)]
   simp only[List.cons_append,lT];rw[if_neg (by omega),if_neg (by omega)];rw[Nat.pow_succ]at hv;rw[ih (v / 128) (i+1) _ rest (by omega) (Nat.div_lt_of_lt_mul (by rw[←Nat.mul_assoc,Nat.mul_comm 128];omega)) (fun _=>by omega)];rw[List.length_cons,ZN,show (128+v % 128) % 128=v % 128 by omega]
   have e:v % 128 * 2 ^ (7 * i)+v / 128 * (128 * 2 ^ (7 * i))=v * 2 ^ (7 * i):=by
    rw[←Nat.mul_assoc,←Nat.add_mul];congr 1
    omega
   rw[Nat.add_assoc,e,show i+1+(ak (v / 128)).length=i+((ak (v / 128)).length+1) by omega]
theorem z2y {v:Nat} (hv:v<18446744073709551616) (pre rest:List Nat):aO (pre++ak v++rest) (pre.length:Int)=(v,(ak v).length,0):=by
 have hl:=z05 hv;unfold aO;rw[if_neg (by simp only[List.length_append];omega),Int.toNat_natCast,List.append_assoc,List.drop_left,yH 9 v 0 0 rest (by omega) (by omega) (by omega)];simp
/-! ### signed ones -/
def zig (x:Int):Nat:=if 0<=x then (2 * x).toNat else (-2 * x-1).toNat
def zag (u:Nat):Int:=if u % 2=1 then -((u / 2:Nat):Int)-1 else ((u / 2:Nat):Int)
theorem z5s (x:Int):zag (zig x)=x:=by
 unfold zag zig;split<;>split<;>omega
theorem Ym {x:Int} (h0: -9223372036854775808<=x) (h1:x<=9223372036854775807):zig x<18446744073709551616:=by
 unfold zig;split<;>omega
theorem Zg {u:Nat} (h:u<18446744073709551616): -9223372036854775808<=zag u/\zag u<=9223372036854775807:=by
 unfold zag;split<;>omega
def pU (n:Nat):Nat:=[0,0x1db71064,0x3b6e20c8,0x26d930ac,0x76dc4190,0x6b6b51f4,0x4db26158,0x5005713c,0xedb88320,0xf00f9344,0xd6d6a3e8,0xcb61b38c,0x9b64c2b0,0x86d3d2d4,0xa00ae278,0xbdbdf21c].getD n 0
def Ht (c:Nat):Nat:=c / 16 ^^^ pU (c % 16)
def Kv (c x:Nat):Nat:=Ht (Ht (c ^^^ x))
def lI (c:Nat) (xs:List Nat):Nat:=xs.foldl Kv c
def sumF (xs:List Nat):Nat:=4294967295-lI 4294967295 xs
theorem yB (n:Nat):pU n<4294967296:=by
 by_cases h:n<16
 ·have:∀n,n<16->pU n<4294967296:=by decide
  exact this n h
 ·unfold pU
  rw[List.getD_eq_getElem?_getD,List.getElem?_eq_none (by simp;omega)];decide
theorem nT {c:Nat} (h:c<4294967296):Ht c<4294967296:=Nat.xor_lt_two_pow (n:=32) (by omega) (yB _)
theorem Qy {c x:Nat} (h:c<4294967296) (hx:x<256):Kv c x<4294967296:=nT (nT (Nat.xor_lt_two_pow (n:=32) h (by omega)))
theorem Wv {xs:List Nat}:∀{c:Nat},c<4294967296->okB xs->lI c xs<4294967296:=by
 induction xs with
 |nil=>intro c h _;exact h
 |cons x xs ih=>
  intro c h ok;exact ih (Qy h (ok x (by simp))) fun y hy=>ok y (by simp[hy])
theorem QX (c:Nat) (xs ys:List Nat):lI c (xs++ys)=lI (lI c xs) ys:=by simp[lI,List.foldl_append]
theorem Kq (xs:List Nat):sumF xs<4294967296:=by unfold sumF;omega
def four (n:Nat):List Nat:=[n % 256,n / 256 % 256,n / 65536 % 256,n / 16777216 % 256]
theorem TJ {a b:Nat} (ha:a<4294967296) (hb:b<4294967296) (h:four a=four b):a=b:=by
 unfold four at h;simp only[List.cons.injEq,and_true]at h;omega
theorem Lc (n:Nat):okB (four n):=by
 intro x hx;simp only[four,List.mem_cons,List.not_mem_nil,or_false]at hx;rcases hx with rfl|rfl|rfl|rfl<;>omega
def fC (xs:List Nat):List Nat:=xs++four (sumF xs)
theorem PD (xs:List Nat):(fC xs).length=xs.length+4:=by simp[fC,four]
theorem z5d {xs:List Nat} (ok:okB xs):okB (fC xs):=fun x hx=>by
 rcases List.mem_append.1 hx with h|h
 ·exact ok x h
 ·exact Lc _ x h
def xK (b:List Nat):Prop:=4<=b.length/\b.drop (b.length-4)=four (sumF (b.take (b.length-4)))
instance (b:List Nat):Decidable (xK b):=by unfold xK;exact inferInstance
theorem z3S (xs:List Nat):xK (fC xs):=by
 have hl:=PD xs;refine ⟨by omega,?_⟩;rw[show (fC xs).length-4=xs.length by omega];unfold fC;rw[List.drop_left,List.take_left]
theorem MK {xs ys:List Nat} (h:fC xs=fC ys):xs=ys:=by
 have hl:xs.length=ys.length:=by have:=congrArg List.length h;rw[PD,PD]at this;omega
 exact (List.append_inj h hl).1
namespace Ps
def kP (n:Nat):UInt8:=UInt8.ofNat (if n<10 then 48+n else 87+n)
def xg (c:UInt8):List UInt8:=if EW c.toNat=true then [c] else [92,kP (c.toNat / 16),kP (c.toNat % 16)]
def f_ (v:List UInt8):List UInt8:=v.flatMap xg
def labT (x:dO):List UInt8:=x.name.data.toList++61::34::(f_ x.value.data.toList++[34])
def ig (l:List dO):List UInt8:=l.flatMap fun x=>44::labT x
def bodyT:List dO->List UInt8
 |[]=>[]
 |x::r=>labT x++ig r
def textF (l:List dO):List UInt8:=123::(bodyT l++[125])
theorem OU (l:List dO) (x:dO):bodyT (l++[x])=bodyT l++((if l=[] then [] else [44])++labT x):=by
 cases l with
 |nil=>simp[bodyT,ig]
 |cons y r=>simp[bodyT,ig,List.flatMap_append]
theorem LW (v:List UInt8) (c:UInt8):f_ (v++[c])=f_ v++xg c:=by
 unfold f_;rw[List.flatMap_append];simp
theorem TU {n:Nat} (h:n<16):AB (kP n).toNat=some n:=by
 have:∀n,n<16->AB (kP n).toNat=some n:=by decide
 exact this n h
theorem ZU (c:UInt8) (r:List UInt8):iC (xg c++r)=some (c,(xg c).length):=by
 unfold xg;have hc:=c.toNat_lt;by_cases h:EW c.toNat=true
 ·rw[if_pos h]
  have h92:c.toNat≠92:=by
   intro e;rw[e]at h;exact absurd h (by decide)
  show iC (c::r)=_
  unfold iC;simp only;rw[if_neg h92,if_pos h];rfl
 ·rw[if_neg h]
  show iC (92::kP (c.toNat / 16)::kP (c.toNat % 16)::r)=_
  unfold iC;simp only;rw[if_pos (by decide),TU (by omega),TU (by omega)];simp only;rw[show 16 * (c.toNat / 16)+c.toNat % 16=c.toNat by omega,if_neg h];simp
theorem XC (c:UInt8):∃a r,xg c=a::r/\a.toNat≠34:=by
 unfold xg;by_cases h:EW c.toNat=true
 ·rw[if_pos h]
  refine ⟨c,[],rfl,fun e=>?_⟩;rw[e]at h;exact absurd h (by decide)
 ·rw[if_neg h]
  exact ⟨92,_,rfl,by decide⟩
theorem Bf:∀(v r:List UInt8),fF (f_ v++34::r)=some (v,r)
 |[],r=>Zu r (by decide)
 |c::v,r=>by
  obtain ⟨a,t,e,ha⟩:=XC c;have h1:=ZU c (f_ v++34::r)
  have e2:f_ (c::v)++34::r=xg c++(f_ v++34::r):=by
   unfold f_;rw[List.flatMap_cons,List.append_assoc]
  rw[e2];rw[e]at h1 ⊢;rw[List.cons_append]at h1 ⊢;rw[Zv ha h1,←List.cons_append,List.drop_left,Bf v r];rfl
theorem Dv:∀(n:List UInt8) (r:List UInt8),(∀c∈n,c.toNat≠61)->jB (n++61::34::r)=some n.length
 |[],r,_=>rfl
 |c::n,r,h=>by
  have ih:=Dv n r (fun d hd=>h d (List.mem_cons_of_mem _ hd));have hc:=h c List.mem_cons_self;show jB (c::(n++61::34::r))=_
  unfold jB
  have:jC (c::(n++61::34::r))=none:=by
   cases n with
   |nil=>show jC (c::61::34::r)=none;rw[z2A,if_neg (fun hh=>hc hh.1)]
   |cons d n=>show jC (c::d::(n++61::34::r))=none;rw[z2A,if_neg (fun hh=>hc hh.1)]
  rw[this,if_neg (by decide),ih];rfl
theorem qw (b:ByteArray):jg b.data.toList=b:=rfl
theorem RQ {n:ByteArray} (h:fM n=true):∀c∈n.data.toList,c.toNat≠61:=by
 intro c hc e
 have hb:ny c=false:=by
  unfold ny;rw[e];decide
 have:=EF hc hb;rw[qw,h]at this;cases this
theorem wE {f:Nat} {x:dO} {r:List UInt8} {out:List dO} (hn:fM x.name=true) (hl:out.length<=4):jA f (labT x++r) out=je f r (out++[x]):=by
 have e:labT x++r=x.name.data.toList++61::34::(f_ x.value.data.toList++34::r):=by simp[labT]
 unfold jA;rw[e,Dv _ _ (RQ hn)];simp only;rw[if_neg (by omega)]
 have e2:(x.name.data.toList++61::34::(f_ x.value.data.toList++34::r)).drop (x.name.data.toList.length+2)=f_ x.value.data.toList++34::r:=by
  rw[←List.drop_drop,List.drop_left];rfl
 rw[e2,Bf];simp only;rw[List.take_left,qw,qw]
theorem uX:∀(r:List dO) (f:Nat) (out:List dO),(∀x∈r,fM x.name=true)->out≠[]->out.length+r.length<=4->r.length<f->je f (ig r) out=if jU (out++r)=true then some (out++r) else none
 |[],f,out,_,_,_,hf=>by
  obtain ⟨g,rfl⟩:∃g,f=g+1:=⟨f-1,by simp only[List.length_nil]at hf;omega⟩;show je (g+1) [] out=_
  unfold je;rw[if_pos rfl,List.append_nil]
 |x::r,f,out,hn,ho,hl,hf=>by
  obtain ⟨g,rfl⟩:∃g,f=g+1:=⟨f-1,by omega⟩;simp only[List.length_cons]at hl hf;have e:ig (x::r)=44::(labT x++ig r):=(by simp[ig]);rw[e,z3u _ _ (by simp),if_neg ho];have ec:comma (44::(labT x++ig r))=some (labT x++ig r):=rfl;rw[ec];simp only;rw[wE (hn x List.mem_cons_self) (by omega),uX r g (out++[x]) (fun y hy=>hn y (List.mem_cons_of_mem _ hy)) (by simp) (by rw[List.length_append,List.length_singleton];omega) (by omega),List.append_assoc];rfl
theorem z3d {l:List dO} (h:jU l=true) {x:dO} (hx:x∈l):fM x.name=true/\x.value.size<=16:=by
 obtain ⟨i,hi,rfl⟩:=List.mem_iff_getElem.1 hx;unfold jU at h;rw[Bool.and_eq_true,z2C]at h;have h1:=h.2 i hi;unfold ni jy at h1;rw[List.getD_eq_getElem?_getD,List.getElem?_eq_getElem hi,Option.getD_some]at h1;simp only[Bool.and_eq_true,decide_eq_true_eq]at h1;exact ⟨h1.1.1,h1.1.2⟩
theorem Uu {x:dO} {r:List dO}:bodyT (x::r)≠[]:=by
 simp[bodyT,labT]
theorem Bj:∀(r:List dO),r.length<=(ig r).length
 |[]=>Nat.zero_le _
 |x::r=>by
  have:=Bj r;have e:ig (x::r)=44::(labT x++ig r):=(by simp[ig]);rw[e];simp only[List.length_cons,List.length_append];omega
theorem lg {l:List dO} (h:jU l=true):jX (textF l)=some l:=by
 have h4:l.length<=4:=by
  unfold jU at h;rw[Bool.and_eq_true,decide_eq_true_eq]at h;exact h.1
 have hlen:(textF l).length=(bodyT l).length+2:=by simp[textF]
 unfold jX
 rw[if_pos ⟨by omega,rfl,by
  rw[hlen];show (123::(bodyT l++[125]))[(bodyT l).length+2-1]?=some 125
  rw[show (bodyT l).length+2-1=(bodyT l).length+1 by omega,List.getElem?_cons_succ,List.getElem?_append_right (Nat.le_refl _)];simp⟩]
 have e:((textF l).drop 1).take ((textF l).length-2)=bodyT l:=by
  rw[hlen];show (bodyT l++[125]).take _=_
  rw[show (bodyT l).length+2-2=(bodyT l).length by omega,List.take_left]
 rw[e,hlen];cases l with
 |nil=>rfl
 |cons x r=>
  rw[z3u _ _ Uu,if_pos rfl];simp only[List.length_cons]at h4;have hr:=Bj r;have hb:bodyT (x::r)=labT x++ig r:=rfl;simp only;rw[hb,wE (z3d h List.mem_cons_self).1 (by simp),List.nil_append,uX r _ [x] (fun y hy=>(z3d h (List.mem_cons_of_mem _ hy)).1) (by simp) (by simp only[List.length_singleton];omega) (by simp only[List.length_append];omega),List.singleton_append,if_pos h]
theorem aaS (c:UInt8):(xg c).length<=3:=by
 unfold xg;split<;>simp
theorem z3k:∀(v:List UInt8),(f_ v).length<=3 * v.length
 |[]=>Nat.le_refl _
 |c::v=>by
  have:=aaS c;have:=z3k v;have e:f_ (c::v)=xg c++f_ v:=(by simp[f_]);rw[e,List.length_append,List.length_cons];omega
theorem Dc {x:dO} (h:fM x.name=true) (h2:x.value.size<=16):(labT x).length<=59:=by
 have h1:=z3k x.value.data.toList
 have hn:x.name.size<=8:=by
  unfold fM at h;rw[Bool.and_eq_true,decide_eq_true_eq]at h;exact h.1.2
 have e1:x.value.data.toList.length=x.value.size:=Array.length_toList ..;have e2:x.name.data.toList.length=x.name.size:=Array.length_toList ..;unfold labT;simp only[List.length_append,List.length_cons,List.length_nil];omega
theorem uY:∀{r:List dO},(∀x∈r,fM x.name=true/\x.value.size<=16)->(ig r).length<=60 * r.length
 |[],_=>Nat.le_refl _
 |x::r,h=>by
  have h1:=Dc (h x List.mem_cons_self).1 (h x List.mem_cons_self).2;have h2:=uY (r:=r) (fun y hy=>h y (List.mem_cons_of_mem _ hy));have e:ig (x::r)=44::(labT x++ig r):=(by simp[ig]);rw[e];simp only[List.length_cons,List.length_append];omega
/-! a part of a set -/
end Ps
end Go.Proofs.YtpakjclpjcngmaaGreat
namespace Go.Proofs.YtpakjclpjcngmaaGreat
open Ps
def N_:ByteArray:=⟨#[48,49,50,51,52,53,54,55,56,57,97,98,99,100,101,102]⟩
theorem KU {n:Nat} (h:n<16):N_[n]'h=kP n:=by
 have:∀n:Fin 16,N_[n.val]'n.isLt=kP n.val:=by decide
 exact this ⟨n,h⟩
end Go.Proofs.YtpakjclpjcngmaaGreat
namespace Go.Proofs.YtpakjclpjcngmaaGreat
def qG (x:Int):Prop:= -1152921504606846976<=x/\x<=1152921504606846976
instance (x:Int):Decidable (qG x):=by unfold qG;exact inferInstance
def kY (l:List Int) (fr k:Nat):List Int:=(List.range l.length).map fun j=>if k<j/\fr<=j then l.getD j 0-l.getD (j-1) 0 else l.getD j 0
def uK (l:List Int) (fr:Nat):List Int:=(List.range l.length).map fun j=>if fr<=j then l.getD j 0-l.getD (j-1) 0 else l.getD j 0
def aQ (l:List Int):Nat->List Int
 |0=>l
 |k+1=>uK (aQ l k) (k+1)
theorem z47 (l:List Int) (fr k:Nat):(kY l fr k).length=l.length:=by simp[kY]
theorem sO (l:List Int) (fr:Nat):(uK l fr).length=l.length:=by simp[uK]
theorem Qa (l:List Int):∀k,(aQ l k).length=l.length:=by
 intro k;induction k with
 |zero=>rfl
 |succ k ih=>rw[aQ,sO,ih]
theorem yc (l:List Int) (fr k:Nat) (h:l.length<=k+1):kY l fr k=l:=by
 apply List.ext_getElem
 ·simp[kY]
 ·intro i h1 h2
  simp only[kY,List.getElem_map,List.getElem_range];rw[if_neg (by omega)];simp[List.getD,h2]
theorem Gl (l:List Int) (fr k:Nat) (h:k<fr):kY l fr k=uK l fr:=by
 unfold kY uK;refine List.map_congr_left fun j _=>?_;by_cases hj:fr<=j
 ·rw[if_pos ⟨by omega,hj⟩,if_pos hj]
 ·rw[if_neg (by omega),if_neg hj]
theorem z3o (l:List Int) (fr k j:Nat) (hj:j<l.length):(kY l fr k).getD j 0=if k<j/\fr<=j then l.getD j 0-l.getD (j-1) 0 else l.getD j 0:=by
 simp[kY,List.getD,hj]
theorem Gj (l:List Int) (fr k:Nat) (hk:k+1<l.length) (hf:fr<=k+1):(kY l fr (k+1)).set (k+1) ((kY l fr (k+1)).getD (k+1) 0-(kY l fr (k+1)).getD k 0)=kY l fr k:=by
 rw[z3o l fr (k+1) (k+1) hk,z3o l fr (k+1) k (by omega),if_neg (by omega),if_neg (by omega)];apply List.ext_getElem
 ·simp[kY]
 ·intro i h1 h2
  rw[List.getElem_set];simp only[kY,List.getElem_map,List.getElem_range];by_cases e:k+1=i
  ·subst e
   rw[if_pos rfl,if_pos ⟨by omega,hf⟩];simp
  ·rw[if_neg e]
   by_cases h:k+1<i/\fr<=i
   ·rw[if_pos h,if_pos (by omega)]
   ·rw[if_neg h,if_neg (by omega)]
def mG (B:Int) (l:List Int):Prop:=∀x∈l, -B<=x/\x<=B
theorem JV {B:Int} {l:List Int} (h:mG B l) (hB:0<=B) (i:Nat): -B<=l.getD i 0/\l.getD i 0<=B:=by
 by_cases hi:i<l.length
 ·have e:l.getD i 0=l[i]:=by simp[List.getD,hi]
  rw[e];exact h _ (List.getElem_mem hi)
 ·rw[List.getD_eq_getElem?_getD,List.getElem?_eq_none (by omega)]
  simp only[Option.getD_none];omega
theorem Gm {B:Int} {l:List Int} (h:mG B l) (hB:0<=B) (fr k:Nat):mG (2 * B) (kY l fr k):=by
 intro x hx;simp only[kY,List.mem_map]at hx;obtain ⟨j,_,rfl⟩:=hx;have h1:=JV h hB j;have h2:=JV h hB (j-1);split<;>omega
theorem z4u {B:Int} {l:List Int} (h:mG B l) (hB:0<=B) (fr:Nat):mG (2 * B) (uK l fr):=by
 intro x hx;simp only[uK,List.mem_map]at hx;obtain ⟨j,_,rfl⟩:=hx;have h1:=JV h hB j;have h2:=JV h hB (j-1);split<;>omega
theorem Yq {l:List Int} (h:∀x∈l,qG x):∀k,k<=2->mG 4611686018427387904 (aQ l k):=by
 have h0:mG 1152921504606846976 l:=fun x hx=>h x hx;have h1:=z4u h0 (by omega) 1;have h2:=z4u h1 (by omega) 2;intro k hk;match k,hk with
 |0,_=>intro x hx;have:=h0 x hx;omega
 |1,_=>intro x hx;have:=h1 x hx;omega
 |2,_=>intro x hx;have:=h2 x hx;omega
def jR (l:List Int):List Nat:=l.flatMap fun x=>ak (zig x)
def bP (l:List Int) (w:Nat):List Nat:=ak l.length++jR (aQ l w)
theorem z2B {l:List Int} {k:Nat} (h:k<l.length):jR (l.take (k+1))=jR (l.take k)++ak (zig (l.getD k 0)):=by
 have e:l.getD k 0=l[k]:=by simp[List.getD,h]
 rw[e,List.take_succ_eq_append_getElem h];unfold jR;rw[List.flatMap_append];simp
theorem JM {B:Int} {l:List Int} (h:mG B l) (hB:B<=4611686018427387904) {x:Int} (hx:x∈l):zig x<18446744073709551616:=by
 have:=h x hx;exact Ym (by omega) (by omega)
theorem IW {l:List Int} (h:mG 4611686018427387904 l):okB (jR l):=by
 intro x hx;simp only[jR,List.mem_flatMap]at hx;obtain ⟨y,hy,hx⟩:=hx;exact jW (JM h (Int.le_refl _) hy) x hx
theorem D_ {l:List Int} (h:mG 4611686018427387904 l):(jR l).length<=10 * l.length:=by
 induction l with
 |nil=>simp[jR]
 |cons x l ih=>
  have h1:=(z05 (JM h (Int.le_refl _) (x:=x) (by simp))).2;have h2:=ih (fun y hy=>h y (by simp[hy]));have e:jR (x::l)=ak (zig x)++jR l:=rfl;rw[e,List.length_append,List.length_cons];omega
theorem nZ {l:List Int} (h:∀x∈l,qG x) (hl:l.length<18446744073709551616) {k:Nat} (hk:k<=2):okB (bP l k):=fun x hx=>by
 rcases List.mem_append.1 hx with h1|h1
 ·exact jW hl x h1
 ·exact IW (Yq h k hk) x h1
theorem z3A {l:List Int} (h:∀x∈l,qG x) (hl:l.length<18446744073709551616) {k:Nat} (hk:k<=2):1<=(bP l k).length/\(bP l k).length<=10+10 * l.length:=by
 have h1:=z05 hl;have h2:=D_ (Yq h k hk);rw[Qa]at h2;unfold bP;rw[List.length_append];omega
def aS (l:List Int):Int:=if 2048<l.length then 5 else if ∀x∈l,qG x then 0 else 2
def bst (l:List Int):Nat->Nat×Int
 |0=>(0, -1)
 |k+1=>if (bst l k).2<0∨((bP l k).length:Int)<(bst l k).2 then (k,((bP l k).length:Int)) else bst l k
theorem aaV (l:List Int):∀k,(bst l k).1<=k-1:=by
 intro k;induction k with
 |zero=>exact Nat.le_refl _
 |succ k ih=>
  simp only[bst];split
  ·exact Nat.le_refl _
  ·omega
def bQ (l:List Int):Nat:=if aS l≠0 then 0 else (bst l 3).1
theorem VJ (l:List Int):bQ l<=2:=by
 unfold bQ;split
 ·omega
 ·exact aaV l 3
theorem JX {l:List Int} (h:aS l=0):l.length<=2048/\∀x∈l,qG x:=by
 unfold aS at h;split at h
 ·cases h
 ·split at h
  ·exact ⟨by omega,by assumption⟩
  ·cases h
section
variable {α : Type} {lt : α → α → Bool}
def kM (P:List (Tg α)) (x:Tg α) (B S:List (Tg α)) (a k:Nat):List (Tg α):=P++(B.take (k-a)++[x]++B.drop (k-a))++S
theorem kM.len {P B S:List (Tg α)} {x:Tg α} {a k:Nat}:(kM P x B S a k).length=P.length+(B.length+1)+S.length:=by
 unfold kM;simp
 omega
theorem kM.right {P B S:List (Tg α)} {x:Tg α} {a k:Nat} (ha:P.length=a) (hk:a<=k) (h:k<a+B.length):iI (kM P x B S a k) k (k+1)=kM P x B S a (k+1):=by
 have e:=Hw P S B x (k-a) (by omega);rw[show P.length+(k-a)=k by omega,show k-a+1=k+1-a by omega]at e;exact e
theorem kM.left {P B S:List (Tg α)} {x:Tg α} {a k:Nat} (ha:P.length=a) (hk:a<k) (h:k<=a+B.length):iI (kM P x B S a k) k (k-1)=kM P x B S a (k-1):=by
 have e:=Nv P S B x (k-1-a) (by omega);rw[show P.length+(k-1-a)+1=k by omega,show P.length+(k-1-a)=k-1 by omega,show k-1-a+1=k-a by omega]at e;exact e
def jE (lt:α->α->Bool) (x:Tg α) (B:List (Tg α)) (o i j:Nat):Prop:=
 o<=i/\i<=j/\j<=o+B.length/\(o<i->∃y,B[i-1-o]?=some y/\Rt lt y x)/\(j<o+B.length->∃y,B[j-o]?=some y/\Rt lt x y)
theorem jE.start (x:Tg α) (B:List (Tg α)) (o e:Nat) (he:e=o+B.length):jE lt x B o o e:=by
 subst he;exact ⟨Nat.le_refl _,by omega,Nat.le_refl _,fun h=>by omega,fun h=>by omega⟩
theorem jE.up {x y:Tg α} {B:List (Tg α)} {o i j h:Nat} (H:jE lt x B o i j) (h1:i<=h) (h2:h<j) (hy:B[h-o]?=some y) (hr:Rt lt y x):jE lt x B o (h+1) j:=
 ⟨by have:=H.1;omega,by omega,H.2.2.1,fun _=>⟨y,hy,hr⟩,H.2.2.2.2⟩
theorem jE.down {x y:Tg α} {B:List (Tg α)} {o i j h:Nat} (H:jE lt x B o i j) (h1:i<=h) (h2:h<j) (hy:B[h-o]?=some y) (hr:Rt lt x y):jE lt x B o i h:=
 ⟨H.1,h1,by have:=H.2.2.1;omega,H.2.2.2.1,fun _=>⟨y,hy,hr⟩⟩
theorem jE.NH (w:Weak lt) {x:Tg α} {B:List (Tg α)} {o i:Nat} (H:jE lt x B o i i) (sb:B.Pairwise (Rt lt)):oD lt [x] B (B.take (i-o)++[x]++B.drop (i-o)):=by
 refine CB w (by have:=H.2.2.1;omega) sb (fun h=>?_) (fun h=>?_)
 ·have:=H.2.2.2.1 (by omega)
  rwa [show i-1-o=i-o-1 by omega]at this
 ·exact H.2.2.2.2 (by have:=H.1;omega)
theorem jE.Ij (w:Weak lt) {x:Tg α} {A:List (Tg α)} {o i:Nat} (H:jE lt x A o i i) (sa:A.Pairwise (Rt lt)):oD lt A [x] (A.take (i-o)++[x]++A.drop (i-o)):=by
 refine Nq w (by have:=H.2.2.1;omega) sa (fun h=>?_) (fun h=>?_)
 ·have:=H.2.2.2.1 (by omega)
  rwa [show i-1-o=i-o-1 by omega]at this
 ·exact H.2.2.2.2 (by have:=H.1;omega)
def JC (lt:α->α->Bool) (ys:List (Tg α)) (n lo hi s r:Nat):Prop:=
 lo<=s/\s<=r/\r<=hi/\(lo<s->∃x y,ys[s-1]?=some x/\ys[n-s]?=some y/\lt y.row x.row=false)/\(r<hi->∃x y,ys[n-1-r]?=some x/\ys[r]?=some y/\lt x.row y.row=true)
theorem JC.start (ys:List (Tg α)) (n lo hi:Nat) (h:lo<=hi):JC lt ys n lo hi lo hi:=⟨Nat.le_refl _,h,Nat.le_refl _,fun h=>by omega,fun h=>by omega⟩
theorem JC.up {ys:List (Tg α)} {n lo hi s r c:Nat} (H:JC lt ys n lo hi s r) (h1:s<=c) (h2:c<r) (hc:c<ys.length) (hn:n-1-c<ys.length) (h:lt (ys[n-1-c]).row (ys[c]).row=false):JC lt ys n lo hi (c+1) r:=
 ⟨by have:=H.1;omega,by omega,H.2.2.1,fun _=>⟨ys[c],ys[n-1-c],List.getElem?_eq_getElem hc,by rw[show n-(c+1)=n-1-c by omega];exact List.getElem?_eq_getElem hn,h⟩,H.2.2.2.2⟩
theorem JC.down {ys:List (Tg α)} {n lo hi s r c:Nat} (H:JC lt ys n lo hi s r) (h1:s<=c) (h2:c<r) (hc:c<ys.length) (hn:n-1-c<ys.length) (h:lt (ys[n-1-c]).row (ys[c]).row=true):JC lt ys n lo hi s c:=
 ⟨H.1,h1,by have:=H.2.2.1;omega,H.2.2.2.1,fun _=>⟨ys[n-1-c],ys[c],List.getElem?_eq_getElem hn,List.getElem?_eq_getElem hc,h⟩⟩
theorem MW {α:Type} (l:List α) {a m b:Nat} (h1:a<=m) (h2:m<=b) (h:a=m∨m=b):rotL l a m b=l:=by
 unfold rotL;rcases h with rfl|rfl
 ·rw[Nat.sub_self,List.take_zero,List.append_nil,List.append_assoc]
  conv=>rhs;rw[←List.take_append_drop a l]
  congr 1
  conv=>rhs;rw[←List.take_append_drop (b-a) (l.drop a)]
  rw[List.drop_drop,show a+(b-a)=b by omega]
 ·rw[Nat.sub_self,List.take_zero,List.append_nil,List.append_assoc]
  conv=>rhs;rw[←List.take_append_drop a l]
  congr 1
  conv=>rhs;rw[←List.take_append_drop (m-a) (l.drop a)]
  rw[List.drop_drop,show a+(m-a)=m by omega]
theorem Runs.in_a {P A B S:List (Tg α)} {i:Nat} {x:Tg α} (h1:P.length<=i) (h2:i<P.length+A.length) (hx:(P++A++B++S)[i]?=some x):x∈A:=by
 rw[List.append_assoc,List.append_assoc,List.getElem?_append_right h1,List.getElem?_append_left (by omega)]at hx;exact List.mem_of_getElem? hx
theorem Runs.in_b {P A B S:List (Tg α)} {i:Nat} {x:Tg α} (h1:P.length+A.length<=i) (h2:i<P.length+A.length+B.length) (hx:(P++A++B++S)[i]?=some x):x∈B:=by
 rw[List.append_assoc,List.append_assoc,List.getElem?_append_right (by omega),List.getElem?_append_right (by omega),List.getElem?_append_left (by omega)]at hx;exact List.mem_of_getElem? hx
theorem JC.last (w:Weak lt) {P A B S:List (Tg α)} (hR:Runs lt P A B S) {a m b mid n lo hi s:Nat} (ha:P.length=a) (hm:a+A.length=m) (hb:m+B.length=b) (wL:2 * mid<=a+b) (Dx:a+b<=2 * mid+1) (hn:n=mid+m)
 (hlo:lo=if mid<m then n-b else a) (hhi:hi=if mid<m then mid else m) (h:JC lt (P++A++B++S) n lo hi s s):
 a<=s/\s<=m/\s<=mid/\m<=n-s/\n-s<=b/\mid<=n-s/\∃A1 A2 B1 B2:List (Tg α),A=A1++A2/\B=B1++B2/\A1.length=s-a/\A2.length=m-s/\B1.length=n-s-m/\B2.length=b-(n-s)/\
  rotL (P++A++B++S) s m (n-s)=P++(A1++B1)++(A2++B2)++S/\(∀x∈A1++B1,∀y∈A2++B2,Rt lt x y):=by
 obtain ⟨h1,_,h3,h4,h5⟩:=h
 have hbd:a<=s/\s<=m/\s<=mid/\m<=n-s/\n-s<=b/\mid<=n-s:=by
  by_cases e:mid<m
  ·rw[if_pos e]at hlo hhi;omega
  ·rw[if_neg e]at hlo hhi;omega
 obtain ⟨b1,b2,b3,b4,b5,b6⟩:=hbd;refine ⟨b1,b2,b3,b4,b5,b6,?_⟩;subst ha;refine MC w hR hm hb wL Dx (by omega) b1 b2 b4 b5 (fun hs he=>?_) (fun hs he=>?_)
 ·obtain ⟨x,y,hx,hy,hxy⟩:=h4 (by by_cases e:mid<m<;>simp only[e,if_true,if_false]at hlo<;>omega)
  exact ⟨x,y,hx,hy,Rt.qo w (hR.tg x (Runs.in_a (by omega) (by omega) hx) y (Runs.in_b (by omega) (by omega) hy)) hxy⟩
 ·obtain ⟨x,y,hx,hy,hxy⟩:=h5 (by by_cases e:mid<m<;>simp only[e,if_true,if_false]at hhi<;>omega)
  exact ⟨x,y,by rw[show n-s-1=n-1-s by omega];exact hx,hy,.inl hxy⟩
end
section
variable {α : Type} {lt : α → α → Bool}
theorem Qq {l:List α} {i:Nat} {x:Tg α} (h:(dW l)[i]?=some x):x.tag=i/\i<l.length:=by
 obtain ⟨h1,e⟩:=List.getElem?_eq_some_iff.1 h;rw[z42]at e;subst e;rw[Yo]at h1;exact ⟨rfl,h1⟩
structure St1 (lt:α->α->Bool) (l:List α) (a:Nat) (ys:List (Tg α)):Prop where
 md:a % 20=0
 pm:ys.Perm (dW l)
 bk:gQ lt 20 0 a ys
 tl:ys.drop a=(dW l).drop a
theorem St1.start (l:List α):St1 lt l 0 (dW l):=⟨rfl,List.Perm.refl _,fun i x _ h=>by omega,rfl⟩
theorem St1.len {l:List α} {a:Nat} {ys:List (Tg α)} (h:St1 lt l a ys):ys.length=l.length:=by
 rw[h.pm.length_eq,Yo]
theorem St1.cut {l:List α} {a:Nat} {ys:List (Tg α)} (h:St1 lt l a ys) {e:Nat} (h1:a<=e) (h2:e<=l.length) (h3:e<=a+20):∃P M S,ys=P++M++S/\P.length=a/\M.length=e-a/\S.length=l.length-e/\(M.Pairwise fun x y=>x.tag<y.tag)/\
 ∀C,C.Perm M->C.Pairwise (Rt lt)->(P++C++S).Perm (dW l)/\gQ lt 20 0 e (P++C++S)/\(P++C++S).drop e=(dW l).drop e:=by
 have hl:=h.len;have ht:=Yo l;have hP:(ys.take a).length=a:=by rw[List.length_take];omega
 have hM:(((dW l).drop a).take (e-a)).length=e-a:=by rw[List.length_take,List.length_drop];omega
 have hM0:∀i x,(((dW l).drop a).take (e-a))[i]?=some x->x.tag=a+i/\i<e-a:=fun i x hx=>by
  have hi:i<e-a:=by
   have:=(List.getElem?_eq_some_iff.1 hx).1;rwa [hM]at this
  rw[List.getElem?_take_of_lt hi,List.getElem?_drop]at hx;exact ⟨(Qq hx).1,hi⟩
 have hy:ys=ys.take a++((dW l).drop a).take (e-a)++(dW l).drop e:=by
  conv=>lhs;rw[←List.take_append_drop a ys,h.tl]
  rw[List.append_assoc];congr 1
  conv=>lhs;rw[←List.take_append_drop (e-a) ((dW l).drop a)]
  rw[List.drop_drop,show a+(e-a)=e by omega]
 refine ⟨ys.take a,((dW l).drop a).take (e-a),(dW l).drop e,hy,hP,hM,by rw[List.length_drop,ht],?_,fun C hp hs=>?_⟩
 ·refine List.pairwise_iff_getElem.2 fun i j hi hj hij=>?_
  have e1:=(hM0 i _ (List.getElem?_eq_getElem hi)).1;have e2:=(hM0 j _ (List.getElem?_eq_getElem hj)).1;omega
 ·have hCl:C.length=e-a:=by rw[hp.length_eq,hM]
  refine ⟨?_,?_,?_⟩
  ·refine List.Perm.trans ?_ h.pm
   conv=>rhs;rw[hy]
   exact (List.Perm.append_left _ hp).append_right _
  ·refine gQ.join (m:=a) (h.bk.same fun i _ hi=>?_) ?_ h.md (by decide)
   ·rw[z4A,if_pos (by omega),List.getElem?_take_of_lt hi]
   ·have:=Lr (bs':=20) (P:=ys.take a) (S:=(dW l).drop e) hp hs (by rw[hP];exact h.md) (by omega) (by decide) (fun x hx=>by
     obtain ⟨i,hi⟩:=List.mem_iff_getElem?.1 hx;obtain ⟨e1,e2⟩:=hM0 i x hi;rw[hP,hM];omega)
    rwa [hP,hM,show a+(e-a)=e by omega]at this
  ·rw[List.drop_append_of_le_length (by rw[List.length_append];omega),List.drop_eq_nil_of_le (by rw[List.length_append];omega),List.nil_append]
structure St2 (lt:α->α->Bool) (l:List α) (bs a:Nat) (ys:List (Tg α)):Prop where
 md:a % (2 * bs)=0
 pm:ys.Perm (dW l)
 bk:gQ lt (2 * bs) 0 a ys
 tl:gQ lt bs a l.length ys
structure St3 (lt:α->α->Bool) (l:List α) (bs:Nat) (ys:List (Tg α)):Prop where
 pm:ys.Perm (dW l)
 bk:gQ lt bs 0 l.length ys
theorem St2.start {l:List α} {bs:Nat} {ys:List (Tg α)} (h:St3 lt l bs ys):St2 lt l bs 0 ys:=⟨Nat.zero_mod _,h.pm,fun i x _ h=>by omega,h.bk⟩
theorem St3.last (w:Weak lt) {l:List α} {bs:Nat} {ys:List (Tg α)} (h:St3 lt l bs ys) (hn:l.length<=bs):ys.map (fun x=>x.row)=fK lt l:=
 z5K w h.pm (XF h.bk hn (by rw[h.pm.length_eq,Yo]))
theorem St2.len {l:List α} {bs a:Nat} {ys:List (Tg α)} (h:St2 lt l bs a ys):ys.length=l.length:=by
 rw[h.pm.length_eq,Yo]
theorem St2.end_ {l:List α} {bs a:Nat} {ys:List (Tg α)} (h:St2 lt l bs a ys) (hb:0<bs) (hn:l.length<=a+bs):St3 lt l (2 * bs) ys:=
 ⟨h.pm,gQ.join h.bk (Uz h.tl hb h.md hn) h.md (by omega)⟩
theorem St2.cut {l:List α} {bs a:Nat} {ys:List (Tg α)} (h:St2 lt l bs a ys) (hb:0<bs) {e:Nat} (h1:a+bs<e) (h4:e=a+2 * bs∨(e=l.length/\e<=a+2 * bs)) (h3:e<=l.length):∃P A B S,ys=P++A++B++S/\P.length=a/\A.length=bs/\B.length=e-(a+bs)/\S.length=l.length-e/\Runs lt P A B S/\
 ∀C,oD lt A B C->(P++C++S).Perm (dW l)/\gQ lt (2 * bs) 0 e (P++C++S)/\gQ lt bs e l.length (P++C++S):=by
 have hl:=h.len;have h2:e<=a+2 * bs:=by omega
 obtain ⟨P,A,B,S,rfl,hP,hA,hB,hS⟩:∃P A B S,ys=P++A++B++S/\P.length=a/\A.length=bs/\B.length=e-(a+bs)/\S.length=l.length-e:=by
  refine ⟨ys.take a,(ys.drop a).take bs,(ys.drop (a+bs)).take (e-(a+bs)),ys.drop e,?_,by simp;omega,by simp;omega,by simp;omega,by simp;omega⟩;conv=>lhs;rw[←List.take_append_drop a ys,←List.take_append_drop bs (ys.drop a),List.drop_drop,←List.take_append_drop (e-(a+bs)) (ys.drop (a+bs)),List.drop_drop,show a+bs+(e-(a+bs))=e by omega]
  simp only[List.append_assoc]
 have hab:a % bs=0:=by
  have h5:2 * bs∣a:=Nat.dvd_of_mod_eq_zero h.md;exact Nat.mod_eq_zero_of_dvd (Nat.dvd_trans (Nat.dvd_mul_left bs 2) h5)
 refine ⟨P,A,B,S,rfl,hP,hA,hB,hS,?_,fun C hM=>?_⟩
 ·have:=h.tl
  rw[←hP]at this hab;exact Ux this hb hab hA (by omega) (by omega)
 ·have hCl:=hM.1.length_eq
  rw[List.length_append]at hCl;refine ⟨?_,?_,?_⟩
  ·refine List.Perm.trans ?_ h.pm
   rw[List.append_assoc P A B];exact (List.Perm.append_left _ hM.1).append_right _
  ·refine gQ.join (m:=a) (h.bk.same fun i _ hi=>?_) ?_ h.md (by omega)
   ·rw[z4A,if_pos (by omega),List.append_assoc,List.append_assoc,List.getElem?_append_left (by omega)]
   ·have:=Lr (bs':=2 * bs) (P:=P) (S:=S) hM.1 hM.2 (by rw[hP];exact h.md) (by rw[List.length_append];omega) (by omega) (fun x hx=>by
     rw[List.length_append,hP,hA,hB];obtain ⟨i,hi⟩:=List.mem_iff_getElem?.1 hx
     have hil:i<A.length+B.length:=by
      have:=(List.getElem?_eq_some_iff.1 hi).1;rwa [List.length_append]at this
     have hx2:(P++A++B++S)[a+i]?=some x:=by
      rw[List.append_assoc P A B,z4A,if_neg (by omega),if_pos (by rw[List.length_append];omega),show a+i-P.length=i by omega];exact hi
     obtain ⟨t1,t2⟩:=qZ h.tl (by omega) (by omega) hx2 hb
     obtain ⟨q,hq⟩:∃q,a=bs * q:=by
      obtain ⟨q,hq⟩:=Nat.dvd_of_mod_eq_zero hab;exact ⟨q,hq⟩
     by_cases hib:i<bs
     ·have e1:(a+i) / bs=q:=by rw[hq,Nat.mul_add_div hb,Nat.div_eq_of_lt hib,Nat.add_zero]
      rw[e1,←hq]at t1 t2;omega
     ·have e1:(a+i) / bs=q+1:=by
       rw[hq,Nat.mul_add_div hb,show i=bs * 1+(i-bs) by omega,Nat.mul_add_div hb,Nat.div_eq_of_lt (by omega)]
      rw[e1,Nat.mul_add,←hq,Nat.mul_one]at t1 t2;have hin:=(h.tl (a+i) x (by omega) (by omega) hx2).1
      have ht:x.tag<l.length:=by
       have:=h.pm.subset (List.mem_of_getElem? hx2);obtain ⟨j,hj⟩:=List.mem_iff_getElem?.1 this;have:=Qq hj;omega
      omega)
    rw[List.length_append,hP,hA,hB]at this;rwa [show a+(bs+(e-(a+bs)))=e by omega]at this
  ·refine (h.tl.sub (lo':=e) (by omega) (Nat.le_refl _)).same fun i hi _=>?_
   rw[z4A,if_neg (by omega),if_neg (by omega),List.getElem?_append_right (by simp;omega)];congr 1
   simp
   omega
end
end Go.Proofs.YtpakjclpjcngmaaGreat
