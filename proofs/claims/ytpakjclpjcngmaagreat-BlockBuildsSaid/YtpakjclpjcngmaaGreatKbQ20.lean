/- Contracts and plain laws that the last text rests on. Conditions: each theorem states its own. -/
import Derived.Test.YtpakjclpjcngmaaGreatKbQ18
import Derived.Test.YtpakjclpjcngmaaGreatKbQ15
import Derived.Test.YtpakjclpjcngmaaGreatKbQ1
import Derived.Test.YtpakjclpjcngmaaGreatKbQ3
import Derived.Test.YtpakjclpjcngmaaGreatKbPcLaw
import Derived.Laws.IdiomStrings
import Derived.Deep.RegionLaw
import Derived.Deep.DeepCutAuto
import Derived.Deep.DrawnRows
import Derived.Laws.MakeOwn
import Derived.BigRegion
set_option maxRecDepth 100000
set_option maxHeartbeats 4000000
set_option linter.unusedVariables false
namespace Go.Proofs.YtpakjclpjcngmaaGreat
def chr (b:Bool):UInt8:=if b then 49 else 48
def txt (l:List Bool):ByteArray:=⟨(l.map chr).toArray⟩
theorem z29 (l:List Bool):(txt l).size=l.length:=by simp[txt,ByteArray.size]
theorem RG (l:List Bool) (i:Nat) (h:i<(txt l).size):(txt l)[i]=chr (l[i]'(by rw[z29]at h;exact h)):=by
 show (txt l).data[i]=_
 simp[txt]
theorem Uc (b:Bool):(chr b).toNat=48+kJ b:=by cases b<;>rfl
def numOf (l:List Bool) (k:Nat):Nat:=msb (fun i=>kJ (l.getD i false)) k
theorem yB {x j:Nat} (h:x.testBit j=false) (t:Nat):(x+2 ^ j).testBit t=if t=j then true else x.testBit t:=by
 have hx:x=2 ^ (j+1) * (x / 2 ^ (j+1))+x % 2 ^ (j+1):=(Nat.div_add_mod x (2 ^ (j+1))).symm
 have hr:x % 2 ^ (j+1)<2 ^ j:=by
  have h1:x % 2 ^ (j+1)<2 ^ (j+1):=Nat.mod_lt _ (Nat.two_pow_pos _);have h2:(x % 2 ^ (j+1)).testBit j=false:=by rw[Nat.testBit_mod_two_pow,h];simp
  refine Classical.byContradiction fun h3=>?_
  have h4:(x % 2 ^ (j+1)).testBit j=true:=by
   obtain ⟨y,hy⟩:∃y,x % 2 ^ (j+1)=2 ^ j+y:=⟨x % 2 ^ (j+1)-2 ^ j,by omega⟩;have hy2:y<2 ^ j:=by rw[Nat.pow_succ]at h1;omega
   rw[hy,Nat.testBit_two_pow_add_eq,Nat.testBit_lt_two_pow hy2];rfl
  rw[h2]at h4;cases h4
 generalize x / 2 ^ (j+1)=a at *;generalize x % 2 ^ (j+1)=r at *;subst hx;have hp:(2:Nat) ^ (j+1)=2 * 2 ^ j:=by rw[Nat.pow_succ];omega
 rw[Nat.add_assoc,Nat.testBit_two_pow_mul_add _ (by omega),Nat.testBit_two_pow_mul_add _ (by omega)];by_cases e:t=j
 ·subst e
  rw[if_pos (by omega),if_pos rfl,Nat.add_comm r,Nat.testBit_two_pow_add_eq,Nat.testBit_lt_two_pow hr];rfl
 ·rw[if_neg e]
  by_cases hl:t<j+1
  ·rw[if_pos hl,if_pos hl,Nat.add_comm r,Nat.testBit_two_pow_add_gt (by omega)]
  ·rw[if_neg hl,if_neg hl]
theorem Pz {x j n:Nat} (hj:j<n) (h:x.testBit j=false):(aC x n).set (n-1-j) true=aC (x+2 ^ j) n:=by
 rw[V_,V_];apply List.ext_getElem
 ·simp
 ·intro i h1 h2
  have hi:i<n:=by simpa using h2
  rw[List.getElem_set];simp only[List.getElem_map,List.getElem_range];rw[yB h];by_cases e:n-1-j=i
  ·rw[if_pos e,if_pos (by omega)]
  ·rw[if_neg e,if_neg (by omega)]
theorem BA {x j n:Nat} (hj:j<n) (h:x.testBit j=false):(aC (x+2 ^ j) n).set (n-1-j) false=aC x n:=by
 rw[V_,V_];apply List.ext_getElem
 ·simp
 ·intro i h1 h2
  have hi:i<n:=by simpa using h2
  rw[List.getElem_set];simp only[List.getElem_map,List.getElem_range];rw[yB h];by_cases e:n-1-j=i
  ·rw[if_pos e,←e,show n-1-(n-1-j)=j by omega,h]
  ·rw[if_neg e,if_neg (by omega)]
theorem KW {x j:Nat} (h:x.testBit j=true):∃y,x=y+2 ^ j/\y.testBit j=false:=by
 have hle:2 ^ j<=x:=Nat.ge_two_pow_of_testBit h;refine ⟨x-2 ^ j,by omega,?_⟩;obtain ⟨y,rfl⟩:∃y,x=y+2 ^ j:=⟨x-2 ^ j,by omega⟩;rw[Nat.add_sub_cancel];rw[Nat.testBit_eq_decide_div_mod_eq,Nat.add_div_right _ (Nat.two_pow_pos j)]at h;rw[Nat.testBit_eq_decide_div_mod_eq];simp at h ⊢;omega
theorem Rz:txt []=⟨#[]⟩:=by simp[txt]
theorem z43 (l:List Bool):txt l++⟨#[48]⟩=txt (l++[false]):=by
 apply ByteArray.ext
 simp[txt,chr]
theorem z3n (v n:Nat):aC v n++[false]=aC (2 * v) (n+1):=by
 rw[V_,V_];apply List.ext_getElem
 ·simp
 ·intro i h1 h2
  have hi:i<n+1:=by simpa using h2
  simp only[List.getElem_map,List.getElem_range];by_cases e:i<n
  ·rw[List.getElem_append_left (by simpa using e)]
   simp only[List.getElem_map,List.getElem_range];rw[show n+1-1-i=(n-1-i)+1 by omega,Nat.testBit_succ,Nat.mul_div_cancel_left _ (by omega:0<2)]
  ·obtain rfl:i=n:=by omega
   rw[List.getElem_append_right (by simp)];simp
theorem PD (v n i:Nat) (hi:i<(aC v n).length):(aC v n)[i]=v.testBit (n-1-i):=by
 have h:∀l:List Bool,l=aC v n->∀h:i<l.length,l[i]=v.testBit (n-1-i):=by
  intro l hl;rw[V_]at hl;subst hl;intro h;simp
 exact h _ rfl hi
def sH (zs:List Int) (i:Nat):List Bool:=if 0<zs.getD i 0 then aC (kF zs i) (iG zs i) else []
def fC (zs:List Int) (j s:Nat):List (List Bool):=(List.range zs.length).map fun i=>if (0<zs.getD i 0/\zs.getD i 0<(j:Int))∨(zs.getD i 0=(j:Int)/\i<s) then sH zs i else []
def strs (zs:List Int):List (List Bool):=(List.range zs.length).map fun i=>sH zs i
theorem yE {zs:List Int}:fC zs 1 0=List.replicate zs.length []:=by
 unfold fC;rw[List.map_congr_left (g:=fun _=>[]) (fun i hi=>by rw[if_neg (by omega)]),List.map_const'];simp
theorem IU {zs:List Int} (h:∀i,i<zs.length->0<=zs.getD i 0/\zs.getD i 0<=15):fC zs 16 0=strs zs:=by
 unfold fC strs;refine List.map_congr_left fun i hi=>?_;have:=h i (List.mem_range.1 hi);by_cases e:zs.getD i 0=0
 ·rw[if_neg (by omega)]
  unfold sH;rw[if_neg (by omega)]
 ·rw[if_pos (by omega)]
theorem Dx {zs:List Int} (j:Nat) (hj:0<j):fC zs (j+1) 0=fC zs j zs.length:=by
 unfold fC;refine List.map_congr_left fun i hi=>?_;have:=List.mem_range.1 hi;by_cases e:(0<zs.getD i 0/\zs.getD i 0<(j:Int))∨(zs.getD i 0=(j:Int)/\i<zs.length)
 ·rw[if_pos e,if_pos (by omega)]
 ·rw[if_neg e,if_neg (by omega)]
theorem Dw {zs:List Int} (j s:Nat) (hs:s<zs.length) (h:zs[s]≠(j:Int)):fC zs j (s+1)=fC zs j s:=by
 unfold fC;refine List.map_congr_left fun i hi=>?_;have hg:zs.getD s 0=zs[s]:=by simp[List.getD,hs]
 by_cases e:i=s
 ·subst e
  by_cases e2:0<zs.getD i 0/\zs.getD i 0<(j:Int)
  ·rw[if_pos (.inl e2),if_pos (.inl e2)]
  ·rw[if_neg (by omega),if_neg (by omega)]
 ·by_cases e2:(0<zs.getD i 0/\zs.getD i 0<(j:Int))∨(zs.getD i 0=(j:Int)/\i<s)
  ·rw[if_pos e2,if_pos (by omega)]
  ·rw[if_neg e2,if_neg (by omega)]
def dI (zs:List Int) (j s:Nat):Nat:=2 * iH zs (j-1)+rank zs j s
theorem qp {zs:List Int} {j s:Nat} (hs:s<zs.length) (h:zs[s]=(j:Int)):kF zs s=dI zs j s/\iG zs s=j:=by
 have hg:zs.getD s 0=zs[s]:=by simp[List.getD,hs]
 have e:iG zs s=j:=by unfold iG;rw[hg,h];simp
 unfold kF dI;rw[e];exact ⟨rfl,rfl⟩
theorem IQ {zs:List Int} (j s:Nat) (hs:s<zs.length) (h:zs[s]=(j:Int)) (hj:0<j):fC zs j (s+1)=(fC zs j s).set s (aC (dI zs j s) j):=by
 have hg:zs.getD s 0=zs[s]:=by simp[List.getD,hs]
 obtain ⟨hc,hl⟩:=qp hs h;apply List.ext_getElem
 ·simp[fC]
 ·intro i h1 h2
  rw[List.getElem_set];simp only[fC,List.getElem_map,List.getElem_range];by_cases e:s=i
  ·subst e
   rw[if_pos rfl,if_pos (.inr ⟨by rw[hg,h],by omega⟩)];unfold sH;rw[if_pos (by rw[hg,h];omega),hc,hl]
  ·rw[if_neg e]
   by_cases e2:(0<zs.getD i 0/\zs.getD i 0<(j:Int))∨(zs.getD i 0=(j:Int)/\i<s)
   ·rw[if_pos e2,if_pos (by omega)]
   ·rw[if_neg e2,if_neg (by omega)]
theorem NI {zs:List Int} (he:iH zs 15<=32768) {j s:Nat} (hs:s<zs.length) (h:zs[s]=(j:Int)) (hj:0<j) (hj15:j<=15):dI zs j s<2 ^ j:=by
 obtain ⟨hc,hl⟩:=qp hs h;have h1:=PE hs (by omega);have h2:=TQ he j hj15;rw[hc,hl]at h1;omega
theorem Es {zs:List Int} {j s:Nat} (hs:s<zs.length) (h:zs[s]≠(j:Int)):dI zs j (s+1)=dI zs j s:=by
 unfold dI;rw[ZJ zs j s hs,if_neg h];omega
theorem Ep {zs:List Int} {j s:Nat} (hs:s<zs.length) (h:zs[s]=(j:Int)):dI zs j (s+1)=dI zs j s+1:=by
 unfold dI;rw[ZJ zs j s hs,if_pos h];omega
theorem Eo (zs:List Int) (j:Nat) (hj:0<j):dI zs (j+1) 0=2 * dI zs j zs.length:=by
 obtain ⟨i,rfl⟩:∃i,j=i+1:=⟨j-1,by omega⟩;unfold dI;rw[oN,Jr,Nat.add_sub_cancel,Nat.add_sub_cancel];rfl
theorem zA (zs:List Int):dI zs 1 0=0:=by simp[dI,rank,iH]
def Last (first:Bool) (v m j e:Nat):Prop:=m<=j/\(first=true->v=0/\m=0/\e=0)/\(first=false->(v+1) * 2 ^ (j-m)=e)
theorem Last.turn {first:Bool} {v m j e:Nat} (h:Last first v m j e):Last first v m (j+1) (2 * e):=by
 obtain ⟨h1,h2,h3⟩:=h;refine ⟨by omega,fun h=>by have:=h2 h;omega,fun h=>?_⟩;rw[←h3 h,show j+1-m=(j-m)+1 by omega,Nat.pow_succ,←Nat.mul_assoc];omega
theorem Last.aai {v m j e:Nat} (h:Last false v m j e) (hlt:e<2 ^ j):v+1<2 ^ m/\(v+1) * 2 ^ (j-m)=e:=by
 obtain ⟨h1,_,h3⟩:=h;have:=h3 rfl;refine ⟨?_,this⟩;rw[←this,show j=m+(j-m) by omega,Nat.pow_add,show m+(j-m)-m=j-m by omega]at hlt;exact Nat.lt_of_mul_lt_mul_right hlt
theorem Last.rJ (j e:Nat):Last false e j j (e+1):=⟨Nat.le_refl _,(fun h=>by cases h),(fun _=>by simp)⟩
def jP (s:Nat):Int:=if 144<=s/\s<=255 then 9 else if 256<=s/\s<=279 then 7 else 8
def EN:List Int:=(List.range 288).map jP
def AV:List Int:=(List.range 32).map fun _=>5
theorem AA:EN.length=288:=by simp[EN]
theorem AU:AV.length=32:=by simp[AV]
theorem OJ:zB EN=0:=by decide+kernel
theorem OT:zB AV=0:=by decide+kernel
theorem OI:∀s,s<288->sH EN s=bG s:=by decide+kernel
theorem OQ:∀s,s<32->sH AV s=aC s 5:=by decide+kernel
theorem xq {s:Nat} (h:s<288):(strs EN)[s]?=some (bG s):=by
 unfold strs;rw[AA];simp[h,OI s h]
theorem TR {s:Nat} (h:s<32):(strs AV)[s]?=some (aC s 5):=by
 unfold strs;rw[AU];simp[h,OQ s h]
/-! ### lengths -/
def gZ:Nat->Nat×Nat
 |0=>(11,1)
 |j+1=>((gZ j).1+2 ^ (gZ j).2,if (8+j) % 4=3 then (gZ j).2+1 else (gZ j).2)
def yc (s:Nat):Nat×Nat:=if s<8 then (s+3,0) else if s=28 then (258,0) else gZ (s-8)
def yj (n:Nat):Nat->Nat
 |0=>0
 |s+1=>if (yc (s+1)).1<=n then s+1 else yj n s
def gV (n:Nat):Nat×Nat×Nat:=if n=258 then (28,0,0) else (yj n 27,n-(yc (yj n 27)).1,(yc (yj n 27)).2)
theorem zJ:∀j,j<20->(gZ j).1<=259/\(gZ j).2<=6:=by decide+kernel
theorem wU:∀s,s<29->(yc s).1<=259/\(yc s).2<=6:=by decide+kernel
theorem WU (n:Nat):∀s,yj n s<=s:=by
 intro s;induction s with
 |zero=>exact Nat.le_refl _
 |succ s ih=>unfold yj;split<;>omega
theorem oJ:∀m,m<256->yh (m+3)=bG (257+(gV (m+3)).1)++numBits (gV (m+3)).2.1 (gV (m+3)).2.2/\(gV (m+3)).1<=28/\(gV (m+3)).2.1<=258/\(gV (m+3)).2.2<=6/\(yc (yj (m+3) 27)).1<=m+3:=by decide+kernel
/-! ### distances -/
def extra (d:Nat):Nat:=if d<4 then 0 else d / 2-1
def dJ:Nat->Nat
 |0=>1
 |d+1=>dJ d+2 ^ extra d
def bQ (n:Nat):Nat->Nat
 |0=>0
 |s+1=>if dJ (s+1)<=n then s+1 else bQ n s
theorem ET (n:Nat):∀s,bQ n s<=s:=by
 intro s;induction s with
 |zero=>exact Nat.le_refl _
 |succ s ih=>unfold bQ;split<;>omega
theorem AY {n:Nat} (h1:1<=n):∀s,n<dJ (s+1)->dJ (bQ n s)<=n/\n<dJ (bQ n s+1):=by
 intro s;induction s with
 |zero=>intro h;exact ⟨h1,h⟩
 |succ s ih=>
  intro h;unfold bQ;split
  ·next h2=>exact ⟨h2,h⟩
  ·next h2=>exact ih (by omega)
theorem z2o:∀s,s<31->dJ s<=32769/\extra s<=14:=by decide+kernel
theorem ES:dJ 30=32769:=by decide+kernel
theorem AX:∀s,s<30->2<=s->dJ s=(2+s % 2) * 2 ^ extra s+1/\2 * extra s+(2+s % 2)=(if s<4 then s else s):=by decide+kernel
theorem Wj {b e x:Nat} (hlt:e<b * 2 ^ x):∀k f x0,k<=f->x0+k=x->(∀y,y<x->b * 2 ^ y<=e)->vP b e f x0=x:=by
 intro k;induction k with
 |zero=>
  intro f x0 _ hx _;obtain rfl:x0=x:=(by omega);cases f with
  |zero=>rfl
  |succ f=>unfold vP;rw[if_neg (by omega)]
 |succ k ih=>
  intro f x0 hf hx hy;obtain ⟨f,rfl⟩:∃g,f=g+1:=⟨f-1,by omega⟩;unfold vP;rw[if_pos (hy x0 (by omega))];exact ih f (x0+1) (by omega) (by omega) hy
theorem zy (a v x:Nat):numBits (a * 2 ^ x+v) x=numBits v x:=by
 unfold numBits;refine List.map_congr_left fun i hi=>?_;have hi:i<x:=List.mem_range.1 hi;obtain ⟨d,rfl⟩:∃d,x=i+1+d:=⟨x-(i+1),by omega⟩;have e:a * 2 ^ (i+1+d)+v=v+2 ^ i * (2 * (a * 2 ^ d)):=by rw[Nat.pow_add,Nat.pow_succ,Nat.add_comm];congr 1;ac_rfl
 rw[e,Nat.add_mul_div_left _ _ (Nat.two_pow_pos i),Nat.add_mul_mod_self_left]
theorem yU {n:Nat} (h1:1<=n) (h2:n<=32768):CY (n-1)=aC (bQ n 29) 5++numBits (n-dJ (bQ n 29)) (extra (bQ n 29))/\bQ n 29<=29/\dJ (bQ n 29)<=n:=by
 obtain ⟨g1,g2⟩:=AY h1 29 (by rw[ES];omega);have g3:=ET n 29;refine ⟨?_,g3,g1⟩;generalize bQ n 29=s at *;rw[show dJ (s+1)=dJ s+2 ^ extra s from rfl]at g2;by_cases hs:s<2
 ·have e:extra s=0:=by unfold extra;rw[if_pos (by omega)]
  have e2:dJ s=s+1:=by
   rcases (show s=0∨s=1 by omega) with rfl|rfl<;>rfl
  rw[e,e2]at g2;obtain rfl:n=s+1:=by omega
  unfold CY;rw[if_pos (by omega),e];simp[numBits]
 ·obtain ⟨f1,f2⟩:=AX s (by omega) (by omega)
  have f2:2 * extra s+(2+s % 2)=s:=by rw[f2];split<;>rfl
  obtain ⟨v,hv⟩:∃v,n=dJ s+v:=⟨n-dJ s,by omega⟩;have hv2:v<2 ^ extra s:=by omega
  obtain ⟨q,hq⟩:∃q,2+s % 2=q:=⟨_,rfl⟩;rw[hq]at f1 f2;have hn1:n-1=q * 2 ^ extra s+v:=by omega
  have hX:jH (n-1)=extra s:=by
   unfold jH;refine Wj (b:=4) (e:=n-1) (x:=extra s) ?_ (extra s) 20 0 (by omega) (by omega) ?_
   ·rw[hn1]
    have:q * 2 ^ extra s+2 ^ extra s<=4 * 2 ^ extra s:=by
     rw[show q * 2 ^ extra s+2 ^ extra s=(q+1) * 2 ^ extra s by rw[Nat.add_mul,Nat.one_mul]];exact Nat.mul_le_mul_right _ (by omega)
    omega
   ·intro y hy
    rw[hn1];have h3:2 * 2 ^ (y+1)<=q * 2 ^ extra s:=Nat.mul_le_mul (by omega) (Nat.pow_le_pow_right (by omega) (by omega));rw[Nat.pow_succ]at h3;omega
  have hge:¬n-1<2:=by
   rw[hn1];have h3:2 * 1<=q * 2 ^ extra s:=Nat.mul_le_mul (by omega) (Nat.two_pow_pos _);omega
  unfold CY;rw[if_neg hge,hX,hn1]
  have e1:(q * 2 ^ extra s+v) / 2 ^ extra s=q:=by
   rw[Nat.add_comm,Nat.add_mul_div_right _ _ (Nat.two_pow_pos _),Nat.div_eq_of_lt hv2,Nat.zero_add]
  rw[e1,f2,zy,hv,Nat.add_sub_cancel_left]
end Go.Proofs.YtpakjclpjcngmaaGreat
namespace Go.Proofs.YtpakjclpjcngmaaGreat
open Go.RowKit
def je (w:World) (g:Nat) (l:List Bool):Prop:=∃cs t lo hi,w.heap[g]?=some (.cells cs t (lo,hi))/\l.length<=lo/\∀i (h:i<l.length),cs[i]?=some (.int .u8 ((chr l[i]).toNat:Int))
theorem je.cell {w:World} {g:Nat} {l:List Bool} (h:je w g l) (i:Nat) (hi:i<l.length):w.cell? ⟨g,i,none⟩=some (.int .u8 ((chr l[i]).toNat:Int)):=by
 obtain ⟨cs,t,lo,hi',h1,h2,h3⟩:=h;rw[cell_of_row w g i cs t (lo,hi') h1];exact h3 i hi
theorem je.frozen {w:World} {g:Nat} {l:List Bool} (h:je w g l) (i:Nat) (hi:i<l.length):w.frozen? ⟨g,i,none⟩=false:=by
 obtain ⟨cs,t,lo,hi',h1,h2,h3⟩:=h;simp[World.frozen?,h1];omega
theorem je.dK {w:World} {g:Nat} {l:List Bool} (h:je w g l) (i:Nat) (hi:i<l.length) (b:Bool):je (w.setCell ⟨g,i,none⟩ (.int .u8 ((chr b).toNat:Int))) g (l.set i b):=by
 obtain ⟨cs,t,lo,hi',h1,h2,h3⟩:=h;refine ⟨cs.setIfInBounds i (.int .u8 ((chr b).toNat:Int)),t,lo,hi',?_,by simpa using h2,?_⟩
 ·simp[World.setCell,Array.getElem?_modify,h1]
 ·intro k hk
  have hk':k<l.length:=by simpa using hk
  have hc:=h3 k hk'
  have hcs:k<cs.size:=by
   rcases Nat.lt_or_ge k cs.size with hlt|hge
   ·exact hlt
   ·rw[Array.getElem?_eq_none hge]at hc;cases hc
  by_cases e:i=k
  ·subst e
   simp[hcs]
  ·simp[e,hc]
theorem je.new (w:World) (l:List Bool) (cap:Nat) (t:TypeId):je (w.drew.alloc (.cells (bytesRow (txt l) cap) t ((bytesRow (txt l) cap).size,(bytesRow (txt l) cap).size+1))) w.heap.size l:=by
 refine ⟨bytesRow (txt l) cap,t,_,_,heap_alloc_new w.drew _,?_,fun i h=>?_⟩
 ·simp[bytesRow,txt]
 ·rw[bytesRow_at (txt l) cap i (by simpa [txt]using h)]
  simp[txt]
theorem je.str {w:World} {g:Nat} {l:List Bool} (h:je w g l) (c:Nat):(convert 26 9 (.slice (some ⟨g,0,none⟩) l.length c)).run Tryz.prog w=.ok (.string (txt l)) w:=by
 have hr:Rd w (fun k=>k=g) 1 (some ⟨g,0,none⟩) l.length (bl (l.map fun b=>(chr b).toNat)):=by
  refine ⟨by simp[bl],fun _=>⟨_,rfl,rfl,fun j u hu=>?_⟩⟩
  have hj:j<l.length:=by
   rcases Nat.lt_or_ge j l.length with hj|hj
   ·exact hj
   ·rw[List.getElem?_eq_none (by simpa [bl]using hj)]at hu;cases hu
  simp[bl,hj]at hu;subst hu
  have ea:(Addr.mk g 0 none).add j=⟨g,j,none⟩:=by
   unfold Addr.add;split
   ·next e=>rw[e]
   ·simp
  rw[ea];exact h.cell j hj
 have e:bf (l.map fun b=>(chr b).toNat)=txt l:=by
  unfold bf txt;rw[List.map_map];congr 2
  refine List.map_congr_left fun b _=>?_;cases b<;>rfl
 have:=vI (P:=Tryz.prog) w 26 9 5 Tryz.underlying26 Tryz.underlying5 Tryz.underlying9 _ _ _ c _ hr;rw[e]at this;exact this
theorem MO (v m:Nat) (w:World) (hm:m<=15) (hv:v+1<2 ^ m):
 Calls Tryz.prog 298 #[.string (txt (aC v m))] w fun e w'=>e=.returned (.string (txt (aC (v+1) m)))/\Nx w w':=by
 have hs:=z29 (aC v m);rw[Ld]at hs;have hnew:=je.new w (aC v m) (grownCap w (txt (aC v m)).size 0 5) 5;have hconv:=run_bytes_of_string (P:=Tryz.prog) w 9 26 5 (txt (aC v m)) Tryz.underlying9 Tryz.underlying26 Tryz.underlying5;have hnx:Nx w (w.drew.alloc (.cells (bytesRow (txt (aC v m)) (grownCap w (txt (aC v m)).size 0 5)) 5 ((bytesRow (txt (aC v m)) (grownCap w (txt (aC v m)).size 0 5)).size,(bytesRow (txt (aC v m)) (grownCap w (txt (aC v m)).size 0 5)).size+1))):=((Ch.refl _ w).drew).alloc _;generalize w.drew.alloc (.cells (bytesRow (txt (aC v m)) (grownCap w (txt (aC v m)).size 0 5)) 5 ((bytesRow (txt (aC v m)) (grownCap w (txt (aC v m)).size 0 5)).size,(bytesRow (txt (aC v m)) (grownCap w (txt (aC v m)).size 0 5)).size+1))=w1 at *;generalize grownCap w (txt (aC v m)).size 0 5=cap at *;rw[hs]at hconv;clear hs;go_enter Tryz.func298,Tryz.ntmps298;go_wp2_with fail;go_loopw [4] (fun i wr=>∃d j:Nat,d+j=m/\i=.int .i64 ((d:Int)-1)/\2 ^ j<=v+1/\je wr w.heap.size (aC (v+1-2 ^ j) m)/\Nx w wr) (fun i _=>(intOf i+1).toNat)
 case atStart=>exact ⟨m,0,rfl,rfl,by simp,by simpa using hnew,hnx⟩
 case round=>
  clear hnew hnx;obtain ⟨wo,rfl⟩:∃wo:World,wo=wr:=⟨_,rfl⟩;obtain ⟨d,j,hdj,rfl,hp,ht,nx⟩:=hrel
  have hd:d≠0:=by
   rintro rfl;obtain rfl:j=m:=(by omega);omega
  obtain ⟨d,rfl⟩:∃e,d=e+1:=⟨d-1,by omega⟩;rw[show (((d+1:Nat):Int)-1)=(d:Int) by omega];clear hd;have hdl:d<(aC (v+1-2 ^ j) m).length:=by rw[Ld];omega
  have hcell:=ht.cell d hdl;have hfro:=ht.frozen d hdl
  have hget:(aC (v+1-2 ^ j) m)[d]=(v+1-2 ^ j).testBit j:=by
   have hg:=PD (v+1-2 ^ j) m d hdl;rw[show m-1-d=j by omega]at hg;exact hg
  rw[hget]at hcell;by_cases hb:(v+1-2 ^ j).testBit j=true
  ·obtain ⟨y,hy,hyj⟩:=KW hb
   have hset:=ht.dK d hdl false;rw[show d=m-1-j by omega,hy,BA (by omega) hyj,show m-1-j=d by omega]at hset;have hp2:2 ^ (j+1)<=v+1:=by rw[Nat.pow_succ];omega
   have hyv:y=v+1-2 ^ (j+1):=by rw[Nat.pow_succ];omega
   rw[hyv]at hset;rw[hb,show ((chr true).toNat:Int)=49 from rfl]at hcell;rw[show ((chr false).toNat:Int)=48 from rfl]at hset;have UD:=ah hset;clear hset hb hy hyj hyv hget;go_wp2_with fail;go_roundw
   case rel=>exact ⟨d,j+1,by omega,rfl,hp2,UD.out,nx.setCell (fun h=>absurd h (Nat.lt_irrefl _)) _⟩
   case measure=>simp[intOf]
  ·have hb':(v+1-2 ^ j).testBit j=false:=by simpa using hb
   have hset:=ht.dK d hdl true;rw[show d=m-1-j by omega,Pz (by omega) hb',show m-1-j=d by omega,show v+1-2 ^ j+2 ^ j=v+1 by omega]at hset;rw[hb',show ((chr false).toNat:Int)=48 from rfl]at hcell;rw[show ((chr true).toNat:Int)=49 from rfl]at hset;have hstr:=hset.str cap;rw[Ld]at hstr;clear hset hb hb' hget;go_wp2_with fail;go_ret;exact ⟨rfl,nx.setCell (fun h=>absurd h (Nat.lt_irrefl _)) _⟩
theorem Tryz.aan:(Tryz.prog.info? 9).map (fun i=>(i.zero,i.size,i.bytes))=some (some (.string ⟨#[]⟩),1,16):=by kernel_rfl
def sl (ls:List (List Bool)):List Value:=ls.map fun l=>.string (txt l)
theorem IX (ls:List (List Bool)):(sl ls).length=ls.length:=by simp[sl]
theorem wO (W w:World) (n:Nat) (c:Nx W w) (hn:n<=maxLen):ak W (w.alloc (.cells (madeCells #[.string ⟨#[]⟩] n) 9)) 9 1 (.slice (some ⟨w.heap.size,0,none⟩) n n) n (sl (List.replicate n [])):=by
 have e:sl (List.replicate n [])=(madeCells #[Value.string ⟨#[]⟩] n).toList:=by
  rw[toList_madeCells_one];simp[sl,Rz]
 rw[e];exact ⟨World.ownsRow_lit w _ n c.size hn (by simp[size_madeCells]),c.alloc _⟩
def wV (v:Value):Nat:=match v with| .string s=>s.size|_=>0
theorem ak.store2 {W w:World} {e:TypeId} {n g c:Nat} {xs:List Value} {size:Nat} (h:ak W w e size (.slice (some ⟨g,0,none⟩) n c) n xs) (j:Nat) (u:Value):
 ak W (w.setCell ⟨g,j,none⟩ u) e size (.slice (some ⟨g,0,none⟩) n c) n (xs.set j u):=
 ⟨(h.own.stored j u).1,h.nx.setCell (fun hlt=>absurd hlt (Nat.not_lt.2 (h.lt g rfl).1)) u⟩
theorem ak.at_ {W w:World} {e:TypeId} {n g c:Nat} {xs:List Value} (h:ak W w e 1 (.slice (some ⟨g,0,none⟩) n c) n xs) (j:Nat) (hj:j<n):
 ∃u,xs[j]?=some u/\w.cell? ⟨g,j,none⟩=some u/\w.frozen? ⟨g,j,none⟩=false:=by
 have hl:j<xs.length:=by have:=h.own.1;omega
 exact ⟨xs[j],List.getElem?_eq_getElem hl,(h.own.cellAt j (by omega)).trans (List.getElem?_eq_getElem hl),h.own.frozenAt j⟩
def WAt (W:World) (zs:List Int) (n j:Nat) (wd fi s:Value) (wr:World):Prop:=
 ∃(k v m:Nat) (b:Bool),k<=n/\s=.int .i64 k/\wd=.string (txt (aC v m))/\fi=.bool b/\Hid (Last b v m j (dI zs j k))/\ak W wr 9 1 (.slice (some ⟨W.heap.size,0,none⟩) n n) n (sl (fC zs j k))
set_option maxRecDepth 100000 in
theorem tN (D:Nat->Prop) (A:Option Addr) (n c:Nat) (zs:List Int) (W:World) (hr:Rd W D 1 A n (il zs)) (hl:zs.length=n) (he:zB zs=0):
 Calls Tryz.prog 271 #[.slice A n c] W (gQ W 9 1 n (sl (strs zs))):=by
 have hn:n<=320:=by have:=(oZ he).1;omega
 have hK:=(oZ he).2.2.1;have hall:=(oZ he).2.1
 have hzd:∀i,i<zs.length->0<=zs.getD i 0/\zs.getD i 0<=15:=fun i hi=>by
  have:=hall _ (List.getElem_mem hi);simpa [List.getD,hi]using this
 have Hzd:=ah hzd;have HK:=ah hK;have Hl:=ah hl;clear hl he hK hall hzd;obtain ⟨i0,hi0,hz0,hz1,hz2⟩:=info_parts Tryz.aan;have hmk:=fun w=>rD (P:=Tryz.prog) 80 9 i0 (.string ⟨#[]⟩) Tryz.underlying80 hi0 hz0 .i64 .i64 n n (Nat.le_refl _) (by rw[hz2];omega) (by omega) w;rw[hz1]at hmk;have hml:n<=maxLen:=by simp only[maxLen];omega
 have h0:=wO W W n (Ch.refl _ W) hml;rw[←Hl.out,←yE,Hl.out]at h0;go_enter Tryz.func271,Tryz.ntmps271;go_wp2_with fail;go_loopw [4,5,6] (fun wd fi jj wr=>∃(j v m:Nat) (b:Bool),1<=j/\j<=16/\jj=.int .i64 j/\wd=.string (txt (aC v m))/\fi=.bool b/\Hid (Last b v m j (dI zs j 0))/\ak W wr 9 1 (.slice (some ⟨W.heap.size,0,none⟩) n n) n (sl (fC zs j 0))) (fun _ _ jj _=>16-(intOf jj).toNat)
 case atStart=>exact ⟨1,0,0,true,by omega,by omega,rfl,by simp[txt,aC],rfl,ah ⟨by omega,(fun _=>⟨rfl,rfl,zA zs⟩),(fun h=>by cases h)⟩,by simpa using h0⟩
 case round=>
  clear h0 hmk;obtain ⟨w1,rfl⟩:∃w1:World,w1=wr:=⟨_,rfl⟩;obtain ⟨j,v,m,b,hj1,hj16,rfl,rfl,rfl,HL,ho⟩:=hrel;by_cases hj:j<=15
  ·go_wp2_with fail
   go_loopw [4,5,18] (WAt W zs n j) (fun _ _ s _=>n-(intOf s).toNat)
   case atStart=>exact ⟨0,v,m,b,by omega,rfl,rfl,rfl,HL,ho⟩
   case round=>
    clear ho HL;obtain ⟨w2,rfl⟩:∃w2:World,w2=wr:=⟨_,rfl⟩;obtain ⟨k,v,m,b,hk,rfl,rfl,rfl,HL,ho⟩:=hrel;by_cases hlt:k<n
    ·obtain ⟨ad,u,rfl,Ht,hu,hc⟩:=(hr.nx (by omega) ho.nx).at_ hlt
     have hkz:k<zs.length:=by rw[Hl.out];exact hlt
     rw[Xg hkz]at hu;injection hu with hu;subst hu;have Hk:=ah hkz;have hmle:=HL.out.1;obtain ⟨uo,hou,hoc,hof⟩:=ho.at_ k hlt;have Hou:=ah hou;clear hou
     have hyes:zs[k]=(j:Int)->dI zs j k<2 ^ j/\dI zs j (k+1)=dI zs j k+1/\fC zs j (k+1)=(fC zs j k).set k (aC (dI zs j k) j):=
      fun hz=>⟨NI HK.out hkz hz (by omega) hj,Ep hkz hz,IQ j k hkz hz (by omega)⟩
     have hno:zs[k]≠(j:Int)->dI zs j (k+1)=dI zs j k/\fC zs j (k+1)=fC zs j k:=fun hz=>⟨Es hkz hz,Dw j k hkz hz⟩;generalize zs[k]=z at *;by_cases hz:z=(j:Int)
     ·have Hlt2:=ah (hyes hz).1
      have qL:=ah (hyes hz).2.1;have UD:=ah (hyes hz).2.2;subst hz;clear hyes hno hkz;cases b
      ·obtain ⟨hv1,hv2⟩:=HL.out.aai Hlt2.out
       have Hv2:=ah hv2;clear hv2 HL;go_wp2_with fail;with_reducible refine (MO v m _ (by omega) hv1).mono ?_
       rintro e w3 ⟨rfl,n3⟩;have o3:=ho.tr n3;obtain ⟨uo3,_,hoc3,hof3⟩:=o3.at_ k hlt;clear hv1 hoc hof;generalize v+1=u at *;go_wp2_with fail;go_loop [4] (fun wd=>∃i:Nat,m+i<=j/\wd=.string (txt (aC (u * 2 ^ i) (m+i)))) (fun wd=>j-wV wd)
       case atStart=>exact ⟨0,by omega,by simp⟩
       case round=>
        obtain ⟨i,hi,rfl⟩:=hrel;have hsz:=z29 (aC (u * 2 ^ i) (m+i));rw[Ld]at hsz;by_cases hij:m+i<j
        ·go_wp2_with fail
         go_round
         case rel=>exact ⟨i+1,by omega,by rw[z43,z3n,show 2 * (u * 2 ^ i)=u * 2 ^ (i+1) by rw[Nat.pow_succ,Nat.mul_comm 2,Nat.mul_assoc],Nat.add_assoc]⟩
         case measure=>unfold wV;simp only[z43,z3n,z29,Ld];omega
        ·have hij2:m+i=j:=by omega
         have hpe:u * 2 ^ i=dI zs j k:=(by rw[←Hv2.out,show i=j-m by omega]);rw[hij2,hpe]at hsz ⊢;clear hij2 hpe;go_wp2_with fail;have o4:=o3.store2 k (.string (txt (aC (dI zs j k) j)));go_roundw
         case rel=>
          refine ⟨_,_,_,_,_,⟨k+1,dI zs j k,j,false,by omega,by go_num,rfl,rfl,?_,?_⟩,rfl,rfl,rfl,rfl,rfl⟩
          ·rw[qL.out];exact ah (Last.rJ _ _)
          ·rw[UD.out]
           have e:sl ((fC zs j k).set k (aC (dI zs j k) j))=(sl (fC zs j k)).set k (.string (txt (aC (dI zs j k) j))):=(by simp[sl,List.map_set]);rw[e];exact o4
         case measure=>simp[intOf];omega
      ·obtain ⟨rfl,rfl,hE⟩:=HL.out.2.1 rfl
       have Hv2:Hid (0 * 2 ^ (j-0)=dI zs j k):=ah (by rw[hE];simp);clear hE HL;have o3:=ho;obtain ⟨w3,rfl⟩:∃w3:World,w3=w2:=⟨_,rfl⟩;obtain ⟨u,m,hu,hm⟩:∃u m:Nat,u=0/\m=0:=⟨_,_,rfl,rfl⟩;rw[show txt (aC 0 0)=txt (aC u m) by rw[hu,hm]];have Hv3:Hid (u * 2 ^ (j-m)=dI zs j k):=ah (by rw[←Hv2.out,hu,hm]);have hmj:m<=j:=(by omega);clear hu hm Hv2 hmle;go_wp2_with fail;go_loop [4] (fun wd=>∃i:Nat,m+i<=j/\wd=.string (txt (aC (u * 2 ^ i) (m+i)))) (fun wd=>j-wV wd)
       case atStart=>exact ⟨0,by omega,by simp⟩
       case round=>
        obtain ⟨i,hi,rfl⟩:=hrel;have hsz:=z29 (aC (u * 2 ^ i) (m+i));rw[Ld]at hsz;by_cases hij:m+i<j
        ·go_wp2_with fail
         go_round
         case rel=>exact ⟨i+1,by omega,by rw[z43,z3n,show 2 * (u * 2 ^ i)=u * 2 ^ (i+1) by rw[Nat.pow_succ,Nat.mul_comm 2,Nat.mul_assoc],Nat.add_assoc]⟩
         case measure=>unfold wV;simp only[z43,z3n,z29,Ld];omega
        ·have hij2:m+i=j:=by omega
         have hpe:u * 2 ^ i=dI zs j k:=(by rw[←Hv3.out,show i=j-m by omega]);rw[hij2,hpe]at hsz ⊢;clear hij2 hpe;go_wp2_with fail;have o4:=o3.store2 k (.string (txt (aC (dI zs j k) j)));go_roundw
         case rel=>
          refine ⟨k+1,dI zs j k,j,false,by omega,by go_num,rfl,rfl,?_,?_⟩
          ·rw[qL.out];exact ah (Last.rJ _ _)
          ·rw[UD.out]
           have e:sl ((fC zs j k).set k (aC (dI zs j k) j))=(sl (fC zs j k)).set k (.string (txt (aC (dI zs j k) j))):=(by simp[sl,List.map_set]);rw[e];exact o4
         case measure=>simp[intOf];omega
     ·obtain ⟨hsk,aar⟩:=hno hz
      have hne:(z !=(j:Int))=true:=by rw[bne_iff_ne];exact hz
      have Hsk:=ah hsk;have Hsk2:=ah aar;clear hsk aar hz hkz hyes hno;go_wp2_with fail;go_roundw
      case rel=>exact ⟨k+1,v,m,b,by omega,by go_num,rfl,rfl,by rw[Hsk.out];exact HL,by rw[Hsk2.out];exact ho⟩
      case measure=>simp[intOf];omega
    ·obtain rfl:k=n:=by omega
     have hnx:=Eo zs j (by omega);have hsx:=Dx (zs:=zs) j (by omega);rw[Hl.out]at hnx hsx;have Ya:=ah hnx;have Hsx:=ah hsx;clear hnx hsx;go_wp2_with fail;go_roundw
     case rel=>exact ⟨j+1,v,m,b,by omega,by omega,by go_num,rfl,rfl,by rw[Ya.out];exact ah HL.out.turn,by rw[Hsx.out];exact ho⟩
     case measure=>simp[intOf];omega
  ·obtain rfl:j=16:=by omega
   go_wp2_with fail;go_ret;have e:=IU Hzd.out;exact ⟨_,n,rfl,by rw[←e];exact ho,by omega,(ho.lt _ rfl).2,by omega,hml⟩
end Go.Proofs.YtpakjclpjcngmaaGreat
