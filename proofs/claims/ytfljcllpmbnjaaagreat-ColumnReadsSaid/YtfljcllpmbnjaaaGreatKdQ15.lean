/- Contracts and plain laws that the last text rests on. Conditions: each theorem states its own. -/
import Derived.Test.YtfljcllpmbnjaaaGreatKdQ12
import Derived.Test.YtfljcllpmbnjaaaGreatKdQ6
import Derived.Test.YtfljcllpmbnjaaaGreatKdQ3
import Derived.Test.YtfljcllpmbnjaaaGreatKdPdLaw
import Derived.Laws.IdiomStrings
import Derived.Deep.RegionLaw
import Derived.Deep.DeepCutAuto
import Derived.Deep.DrawnRows
import Derived.Laws.MakeOwn
import Derived.BigRegion
set_option maxRecDepth 100000
set_option maxHeartbeats 4000000
set_option linter.unusedVariables false
namespace Go.Proofs.YtfljcllpmbnjaaaGreat
theorem z5a {α:Type} {l:List α} {i:Nat} {x d:α} (h:l[i]?=some x):l.getD i d=x:=by simp[List.getD,h]
theorem Qq {zs:List Int} {s:Nat} (hs:s<zs.length) (h0:0<zs[s]) (h15:zs[s]<=15) {n:Nat} (hn:n<aZ zs s):bZ zs n<bZ zs 15:=by
 have hle:=Jm hs (by omega);have hr:=lg hs (by omega);have h1:=XY zs n (aZ zs s-1-n);have h2:=XY zs (aZ zs s) (15-aZ zs s);rw[show n+(aZ zs s-1-n)=aZ zs s-1 by omega]at h1;rw[show aZ zs s+(15-aZ zs s)=15 by omega]at h2
 have e:bZ zs (aZ zs s)=bZ zs (aZ zs s-1)+cnt zs (aZ zs s):=by
  obtain ⟨m,hm⟩:∃m,aZ zs s=m+1:=⟨aZ zs s-1,by omega⟩;rw[hm];rfl
 omega
theorem sH {zs:List Int} {bs:List Nat} {p s:Nat} (hs:s<zs.length) (h0:0<zs[s]) (h15:zs[s]<=15) (hw:msb (jU bs p) (aZ zs s)=dI zs s) (hp:p+aZ zs s<=8 * bs.length):
 bg zs bs p 15 0=((s:Int),0,p+aZ zs s):=by
 have hle:=Jm hs (by omega)
 have key:∀k n,n+k=15->n<aZ zs s->bg zs bs p k n=((s:Int),0,p+aZ zs s):=by
  intro k;induction k with
  |zero=>intro n hn h;omega
  |succ k ih=>
   intro n hn h;have h1:=Qq hs h0 h15 h;unfold bg;rw[if_neg (by omega),if_neg (by omega)];by_cases hl:n+1=aZ zs s
   ·have hr:=lg hs (by omega)
    have hg:=mM zs s hs h0 h15;have hc:dI zs s=2 * bQ zs n+rank zs (n+1) s:=by unfold dI;rw[←hl,Nat.add_sub_cancel]
    rw[←hl]at hr hg hw ⊢;rw[hw,if_pos (by omega),hc,Nat.add_sub_cancel_left,z5a (by simpa using hg)];rfl
   ·have hpa:=KY hs h0 (Zu bs p) hw (n:=n+1) (by omega)
    unfold Past at hpa;simp only[bQ]at hpa;rw[if_neg (by omega)];exact ih (n+1) (by omega) (by omega)
 exact key 15 0 rfl (by omega)
theorem Et {zs:List Int} (j:Nat):bZ zs j=zs.countP fun z=>decide (0<z/\z<=(j:Int)):=by
 induction j with
 |zero=>
  have:(zs.countP fun z=>decide (0<z/\z<=((0:Nat):Int)))=0:=by
   rw[List.countP_eq_zero];intro z _;simp only[decide_eq_true_eq];omega
  rw[this];rfl
 |succ j ih=>
  simp only[bZ,ih,cnt];clear ih;induction zs with
  |nil=>rfl
  |cons z zs ih=>
   simp only[List.countP_cons,List.count_cons,decide_eq_true_eq,beq_iff_eq];split<;>split<;>split<;>omega
theorem NM {zs:List Int} (h:∀z∈zs,0<=z/\z<=15):bZ zs 15=zs.countP fun z=>decide (0<z):=by
 rw[Et];refine List.countP_congr fun z hz=>?_;have:=h z hz;simp only[decide_eq_true_eq];omega
theorem Lp {f:Nat->Nat} {v n:Nat} (h:∀i,i<n->f i=iZ (v.testBit (n-1-i))):∀k,k<=n->msb f k=v / 2 ^ (n-k) % 2 ^ k:=by
 intro k;induction k with
 |zero=>intro _;simp[msb,Nat.mod_one]
 |succ k ih=>
  intro hk;simp only[msb];rw[ih (by omega),h k (by omega),Nat.testBit_eq_decide_div_mod_eq,wS]
  have e1:v / 2 ^ (n-k)=v / 2 ^ (n-(k+1)) / 2:=by
   rw[Nat.div_div_eq_div_mul,←Nat.pow_succ];congr 2
   omega
  rw[e1,show n-1-k=n-(k+1) by omega,Nat.pow_succ,Nat.mul_comm (2 ^ k) 2,Nat.mod_mul];omega
def Ji (z:Int):Nat:=if 0<z then 2 ^ (15-z.toNat) else 0
def eu (zs:List Int) (k:Nat):Nat:=((zs.take k).map Ji).sum
theorem Zo (z:Int):Ji z<=16384:=by
 unfold Ji;split
 ·have h:(2:Nat) ^ (15-z.toNat)<=2 ^ 14:=Nat.pow_le_pow_right (by omega) (by omega)
  simpa using h
 ·omega
theorem Zz {zs:List Int} {k:Nat} (h:k<zs.length):eu zs (k+1)=eu zs k+Ji zs[k]:=by
 unfold eu;rw[List.take_succ_eq_append_getElem h];simp only[List.map_append,List.map_cons,List.map_nil,List.sum_append,List.sum_cons,List.sum_nil];omega
theorem Gv (zs:List Int) (k:Nat) (hk:k<=zs.length):eu zs k<=16384 * k:=by
 induction k with
 |zero=>simp[eu]
 |succ k ih=>
  rw[Zz hk];have:=Zo zs[k];have:=ih (by omega);omega
theorem Gh (z:Int) (zs:List Int) (j:Nat) (hj:j<=15):iy (z::zs) j=iy zs j+if 0<z/\z<=(j:Int) then 2 ^ (15-z.toNat) else 0:=by
 induction j with
 |zero=>simp[iy];omega
 |succ j ih=>
  simp only[iy];rw[ih (by omega)]
  have hc:cnt (z::zs) (j+1)=cnt zs (j+1)+if z=((j+1:Nat):Int) then 1 else 0:=by
   unfold cnt;rw[List.count_cons];simp
  rw[hc,Nat.add_mul];by_cases e:z=((j+1:Nat):Int)
  ·subst e
   rw[if_pos rfl,if_neg (by omega),if_pos ⟨by omega,by omega⟩];have e2:15-(((j+1:Nat):Int)).toNat=14-j:=(by omega);rw[e2];omega
  ·rw[if_neg e]
   by_cases h:0<z/\z<=(j:Int)
   ·rw[if_pos h,if_pos ⟨h.1,by omega⟩];omega
   ·rw[if_neg h,if_neg (by omega)];omega
theorem KE {zs:List Int} (h:∀z∈zs,z<=15):eu zs zs.length=bQ zs 15:=by
 have e:iy zs 15=bQ zs 15:=by rw[ES zs 15 (by omega)];simp
 rw[←e];unfold eu;rw[List.take_length];clear e;induction zs with
 |nil=>
  have:∀j,iy [] j=0:=by
   intro j;induction j with
   |zero=>rfl
   |succ j ih=>simp[iy,ih,cnt]
  rw[this];rfl
 |cons z zs ih=>
  rw[Gh z zs 15 (by omega),List.map_cons,List.sum_cons,ih (fun x hx=>h x (by simp[hx]))];have:=h z (by simp);unfold Ji;by_cases h0:0<z
  ·rw[if_pos h0,if_pos ⟨h0,by omega⟩];omega
  ·rw[if_neg h0,if_neg (by omega)];omega
def iQ (zs:List Int) (k:Nat):Nat:=(zs.take k).countP fun z=>decide (0<z)
theorem Zm {zs:List Int} {k:Nat} (h:k<zs.length):iQ zs (k+1)=iQ zs k+if 0<zs[k] then 1 else 0:=by
 unfold iQ;rw[List.take_succ_eq_append_getElem h,List.countP_append];simp
theorem EZ (zs:List Int) (k:Nat):iQ zs k<=k:=by
 unfold iQ;have:=List.countP_le_length (p:=fun z:Int=>decide (0<z)) (l:=zs.take k);simp at this;omega
theorem CG (zs:List Int) (k:Nat) (hk:k<=zs.length):eu zs k<=16384 * iQ zs k:=by
 induction k with
 |zero=>simp[eu]
 |succ k ih=>
  rw[Zz hk,Zm hk];have:=Zo zs[k];have:=ih (by omega);by_cases h:0<zs[k]
  ·rw[if_pos h];omega
  ·rw[if_neg h];unfold Ji;rw[if_neg h];omega
theorem KD {z:Int} (h0:0<z) (h:z<=15):(32768:Int) / 2 ^ z.toNat=(Ji z:Int):=by
 unfold Ji;rw[if_pos h0];obtain ⟨n,rfl⟩:=Int.eq_ofNat_of_zero_le (Int.le_of_lt h0);have hn:n<=15:=by omega
 have h1:(1:Nat)<=n:=by omega
 clear h h0;match n,hn,h1 with
 |1,_,_|2,_,_|3,_,_|4,_,_|5,_,_|6,_,_|7,_,_|8,_,_|9,_,_|10,_,_|11,_,_|12,_,_|13,_,_|14,_,_|15,_,_=>decide
def jf (zs:List Int):Nat->Bool
 |0=>false
 |k+1=>if 0<zs.getD k 0 then decide (zs.getD k 0=1) else jf zs k
theorem GZ (zs:List Int) (k:Nat) (hk:k<=zs.length):rank zs 1 k<=iQ zs k/\(iQ zs k=1->(jf zs k=true↔rank zs 1 k=1)):=by
 induction k with
 |zero=>simp[rank,iQ]
 |succ k ih=>
  obtain ⟨h1,h2⟩:=ih (by omega);have hk':k<zs.length:=hk;have hg:zs.getD k 0=zs[k]:=(by simp[List.getD,hk']);rw[Oj zs 1 k hk,Zm hk,jf,hg];by_cases h:0<zs[k]
  ·rw[if_pos h,if_pos h]
   by_cases e:zs[k]=((1:Nat):Int)
   ·rw[if_pos e]
    refine ⟨by omega,fun h3=>?_⟩;simp[e];omega
   ·rw[if_neg e]
    have e':¬zs[k]=1:=(by simpa using e);refine ⟨by omega,fun h3=>?_⟩;simp[e'];omega
  ·rw[if_neg h,if_neg h,if_neg (by omega)]
   exact ⟨by omega,by simpa using h2⟩
theorem H_ {zs:List Int} (hl:¬320<zs.length) (hall:∀z∈zs,0<=z/\z<=15):
 bH zs=if 0<iQ zs zs.length/\eu zs zs.length≠32768/\¬(iQ zs zs.length=1/\jf zs zs.length=true) then 4 else 0:=by
 have h1:=KE (fun z hz=>(hall z hz).2);have h2:=CG zs zs.length (Nat.le_refl _);obtain ⟨h3,h4⟩:=GZ zs zs.length (Nat.le_refl _)
 have h5:bZ zs 15=iQ zs zs.length:=by
  rw[NM hall];unfold iQ;rw[List.take_length]
 rw[z34]at h3 h4;unfold bH;rw[if_neg hl,if_neg (by rintro ⟨z,hz,h⟩;have:=hall z hz;omega),←h1,h5];by_cases hp:iQ zs zs.length=1
 ·have h6:=h4 hp
  by_cases ho:jf zs zs.length=true
  ·have h7:=h6.1 ho
   rw[if_neg (by omega),if_neg (by simp[hp,ho])]
  ·have h7:cnt zs 1≠1:=fun e=>ho (h6.2 e)
   by_cases hr:eu zs zs.length=32768
   ·rw[if_neg (by omega),if_neg (by simp[hr])]
   ·rw[if_pos (by omega),if_pos ⟨by omega,hr,by simp[ho]⟩]
 ·by_cases hr:eu zs zs.length=32768
  ·rw[if_neg (by omega),if_neg (by simp[hr])]
  ·by_cases h0:0<iQ zs zs.length
   ·rw[if_pos (by omega),if_pos ⟨h0,hr,by simp[hp]⟩]
   ·rw[if_neg (by omega),if_neg (fun h=>h0 h.1)]
def chr (b:Bool):UInt8:=if b then 49 else 48
def txt (l:List Bool):ByteArray:=⟨(l.map chr).toArray⟩
theorem FQ (l:List Bool):(txt l).size=l.length:=by simp[txt,ByteArray.size]
theorem OX (l:List Bool) (i:Nat) (h:i<(txt l).size):(txt l)[i]=chr (l[i]'(by rw[FQ]at h;exact h)):=by
 show (txt l).data[i]=_
 simp[txt]
theorem Qd (b:Bool):(chr b).toNat=48+iZ b:=by cases b<;>rfl
theorem EN {l m:List Bool} (h:txt l=txt m):l=m:=by
 have h2:=congrArg (fun x:ByteArray=>x.data.toList) h;simp only[txt]at h2;have hc:∀a b,chr a=chr b->a=b:=by decide
 exact List.map_inj_right hc |>.1 (by simpa using h2)
def numOf (l:List Bool) (k:Nat):Nat:=msb (fun i=>iZ (l.getD i false)) k
theorem xQ {x j:Nat} (h:x.testBit j=false) (t:Nat):(x+2 ^ j).testBit t=if t=j then true else x.testBit t:=by
 have hx:x=2 ^ (j+1) * (x / 2 ^ (j+1))+x % 2 ^ (j+1):=(Nat.div_add_mod x (2 ^ (j+1))).symm
 have hr:x % 2 ^ (j+1)<2 ^ j:=by
  have h1:x % 2 ^ (j+1)<2 ^ (j+1):=Nat.mod_lt _ (Nat.two_pow_pos _);have h2:(x % 2 ^ (j+1)).testBit j=false:=by rw[Nat.testBit_mod_two_pow,h];simp
  refine Classical.byContradiction fun h3=>?_
  have h4:(x % 2 ^ (j+1)).testBit j=true:=by
   obtain ⟨y,hy⟩:∃y,x % 2 ^ (j+1)=2 ^ j+y:=⟨x % 2 ^ (j+1)-2 ^ j,by omega⟩;have hy2:y<2 ^ j:=by rw[Nat.pow_succ]at h1;omega
   rw[hy,Nat.testBit_two_pow_add_eq,Nat.testBit_lt_two_pow hy2];rfl
  rw[h2]at h4;cases h4
 generalize x / 2 ^ (j+1)=a at *;generalize x % 2 ^ (j+1)=r at *;subst hx;have hp:(2:Nat) ^ (j+1)=2 * 2 ^ j:=by rw[Nat.pow_succ];omega
 rw[Nat.add_assoc,Nat.testBit_two_pow_mul_add _ (by omega),Nat.testBit_two_pow_mul_add _ (by omega)];by_cases e:t=j
 ·subst e
  rw[if_pos (by omega),if_pos rfl,Nat.add_comm r,Nat.testBit_two_pow_add_eq,Nat.testBit_lt_two_pow hr];rfl
 ·rw[if_neg e]
  by_cases hl:t<j+1
  ·rw[if_pos hl,if_pos hl,Nat.add_comm r,Nat.testBit_two_pow_add_gt (by omega)]
  ·rw[if_neg hl,if_neg hl]
theorem Nr {x j n:Nat} (hj:j<n) (h:x.testBit j=false):(ak x n).set (n-1-j) true=ak (x+2 ^ j) n:=by
 rw[Om,Om];apply List.ext_getElem
 ·simp
 ·intro i h1 h2
  have hi:i<n:=by simpa using h2
  rw[List.getElem_set];simp only[List.getElem_map,List.getElem_range];rw[xQ h];by_cases e:n-1-j=i
  ·rw[if_pos e,if_pos (by omega)]
  ·rw[if_neg e,if_neg (by omega)]
theorem zV {x j n:Nat} (hj:j<n) (h:x.testBit j=false):(ak (x+2 ^ j) n).set (n-1-j) false=ak x n:=by
 rw[Om,Om];apply List.ext_getElem
 ·simp
 ·intro i h1 h2
  have hi:i<n:=by simpa using h2
  rw[List.getElem_set];simp only[List.getElem_map,List.getElem_range];rw[xQ h];by_cases e:n-1-j=i
  ·rw[if_pos e,←e,show n-1-(n-1-j)=j by omega,h]
  ·rw[if_neg e,if_neg (by omega)]
theorem IY {x j:Nat} (h:x.testBit j=true):∃y,x=y+2 ^ j/\y.testBit j=false:=by
 have hle:2 ^ j<=x:=Nat.ge_two_pow_of_testBit h;refine ⟨x-2 ^ j,by omega,?_⟩;obtain ⟨y,rfl⟩:∃y,x=y+2 ^ j:=⟨x-2 ^ j,by omega⟩;rw[Nat.add_sub_cancel];rw[Nat.testBit_eq_decide_div_mod_eq,Nat.add_div_right _ (Nat.two_pow_pos j)]at h;rw[Nat.testBit_eq_decide_div_mod_eq];simp at h ⊢;omega
theorem EM:txt []=⟨#[]⟩:=by simp[txt]
theorem Ui (l:List Bool):txt l++⟨#[48]⟩=txt (l++[false]):=by
 apply ByteArray.ext
 simp[txt,chr]
theorem Yb (v n:Nat):ak v n++[false]=ak (2 * v) (n+1):=by
 rw[Om,Om];apply List.ext_getElem
 ·simp
 ·intro i h1 h2
  have hi:i<n+1:=by simpa using h2
  simp only[List.getElem_map,List.getElem_range];by_cases e:i<n
  ·rw[List.getElem_append_left (by simpa using e)]
   simp only[List.getElem_map,List.getElem_range];rw[show n+1-1-i=(n-1-i)+1 by omega,Nat.testBit_succ,Nat.mul_div_cancel_left _ (by omega:0<2)]
  ·obtain rfl:i=n:=by omega
   rw[List.getElem_append_right (by simp)];simp
theorem Nu (v n i:Nat) (hi:i<(ak v n).length):(ak v n)[i]=v.testBit (n-1-i):=by
 have h:∀l:List Bool,l=ak v n->∀h:i<l.length,l[i]=v.testBit (n-1-i):=by
  intro l hl;rw[Om]at hl;subst hl;intro h;simp
 exact h _ rfl hi
def gJ (zs:List Int) (i:Nat):List Bool:=if 0<zs.getD i 0 then ak (dI zs i) (aZ zs i) else []
def dY (zs:List Int) (j s:Nat):List (List Bool):=(List.range zs.length).map fun i=>if (0<zs.getD i 0/\zs.getD i 0<(j:Int))∨(zs.getD i 0=(j:Int)/\i<s) then gJ zs i else []
def strs (zs:List Int):List (List Bool):=(List.range zs.length).map fun i=>gJ zs i
theorem Yl (zs:List Int):(strs zs).length=zs.length:=by simp[strs]
theorem yh {zs:List Int}:dY zs 1 0=List.replicate zs.length []:=by
 unfold dY;rw[List.map_congr_left (g:=fun _=>[]) (fun i hi=>by rw[if_neg (by omega)]),List.map_const'];simp
theorem Gl {zs:List Int} (h:∀i,i<zs.length->0<=zs.getD i 0/\zs.getD i 0<=15):dY zs 16 0=strs zs:=by
 unfold dY strs;refine List.map_congr_left fun i hi=>?_;have:=h i (List.mem_range.1 hi);by_cases e:zs.getD i 0=0
 ·rw[if_neg (by omega)]
  unfold gJ;rw[if_neg (by omega)]
 ·rw[if_pos (by omega)]
theorem BN {zs:List Int} (j:Nat) (hj:0<j):dY zs (j+1) 0=dY zs j zs.length:=by
 unfold dY;refine List.map_congr_left fun i hi=>?_;have:=List.mem_range.1 hi;by_cases e:(0<zs.getD i 0/\zs.getD i 0<(j:Int))∨(zs.getD i 0=(j:Int)/\i<zs.length)
 ·rw[if_pos e,if_pos (by omega)]
 ·rw[if_neg e,if_neg (by omega)]
theorem BM {zs:List Int} (j s:Nat) (hs:s<zs.length) (h:zs[s]≠(j:Int)):dY zs j (s+1)=dY zs j s:=by
 unfold dY;refine List.map_congr_left fun i hi=>?_;have hg:zs.getD s 0=zs[s]:=by simp[List.getD,hs]
 by_cases e:i=s
 ·subst e
  by_cases e2:0<zs.getD i 0/\zs.getD i 0<(j:Int)
  ·rw[if_pos (.inl e2),if_pos (.inl e2)]
  ·rw[if_neg (by omega),if_neg (by omega)]
 ·by_cases e2:(0<zs.getD i 0/\zs.getD i 0<(j:Int))∨(zs.getD i 0=(j:Int)/\i<s)
  ·rw[if_pos e2,if_pos (by omega)]
  ·rw[if_neg e2,if_neg (by omega)]
def dn (zs:List Int) (j s:Nat):Nat:=2 * bQ zs (j-1)+rank zs j s
theorem oC {zs:List Int} {j s:Nat} (hs:s<zs.length) (h:zs[s]=(j:Int)):dI zs s=dn zs j s/\aZ zs s=j:=by
 have hg:zs.getD s 0=zs[s]:=by simp[List.getD,hs]
 have e:aZ zs s=j:=by unfold aZ;rw[hg,h];simp
 unfold dI dn;rw[e];exact ⟨rfl,rfl⟩
theorem Gj {zs:List Int} (j s:Nat) (hs:s<zs.length) (h:zs[s]=(j:Int)) (hj:0<j):dY zs j (s+1)=(dY zs j s).set s (ak (dn zs j s) j):=by
 have hg:zs.getD s 0=zs[s]:=by simp[List.getD,hs]
 obtain ⟨hc,hl⟩:=oC hs h;apply List.ext_getElem
 ·simp[dY]
 ·intro i h1 h2
  rw[List.getElem_set];simp only[dY,List.getElem_map,List.getElem_range];by_cases e:s=i
  ·subst e
   rw[if_pos rfl,if_pos (.inr ⟨by rw[hg,h],by omega⟩)];unfold gJ;rw[if_pos (by rw[hg,h];omega),hc,hl]
  ·rw[if_neg e]
   by_cases e2:(0<zs.getD i 0/\zs.getD i 0<(j:Int))∨(zs.getD i 0=(j:Int)/\i<s)
   ·rw[if_pos e2,if_pos (by omega)]
   ·rw[if_neg e2,if_neg (by omega)]
theorem Ll {zs:List Int} (he:bQ zs 15<=32768) {j s:Nat} (hs:s<zs.length) (h:zs[s]=(j:Int)) (hj:0<j) (hj15:j<=15):dn zs j s<2 ^ j:=by
 obtain ⟨hc,hl⟩:=oC hs h;have h1:=XK hs (by omega);have h2:=UW he j hj15;rw[hc,hl]at h1;omega
theorem Dk {zs:List Int} {j s:Nat} (hs:s<zs.length) (h:zs[s]≠(j:Int)):dn zs j (s+1)=dn zs j s:=by
 unfold dn;rw[Oj zs j s hs,if_neg h];omega
theorem Dj {zs:List Int} {j s:Nat} (hs:s<zs.length) (h:zs[s]=(j:Int)):dn zs j (s+1)=dn zs j s+1:=by
 unfold dn;rw[Oj zs j s hs,if_pos h];omega
theorem Di (zs:List Int) (j:Nat) (hj:0<j):dn zs (j+1) 0=2 * dn zs j zs.length:=by
 obtain ⟨i,rfl⟩:∃i,j=i+1:=⟨j-1,by omega⟩;unfold dn;rw[z34,GU,Nat.add_sub_cancel,Nat.add_sub_cancel];rfl
theorem yV (zs:List Int):dn zs 1 0=0:=by simp[dn,rank,bQ]
def Last (first:Bool) (v m j e:Nat):Prop:=m<=j/\(first=true->v=0/\m=0/\e=0)/\(first=false->(v+1) * 2 ^ (j-m)=e)
theorem Last.turn {first:Bool} {v m j e:Nat} (h:Last first v m j e):Last first v m (j+1) (2 * e):=by
 obtain ⟨h1,h2,h3⟩:=h;refine ⟨by omega,fun h=>by have:=h2 h;omega,fun h=>?_⟩;rw[←h3 h,show j+1-m=(j-m)+1 by omega,Nat.pow_succ,←Nat.mul_assoc];omega
theorem Last.Vz {v m j e:Nat} (h:Last false v m j e) (hlt:e<2 ^ j):v+1<2 ^ m/\(v+1) * 2 ^ (j-m)=e:=by
 obtain ⟨h1,_,h3⟩:=h;have:=h3 rfl;refine ⟨?_,this⟩;rw[←this,show j=m+(j-m) by omega,Nat.pow_add,show m+(j-m)-m=j-m by omega]at hlt;exact Nat.lt_of_mul_lt_mul_right hlt
theorem Last.jG (j e:Nat):Last false e j j (e+1):=⟨Nat.le_refl _,(fun h=>by cases h),(fun _=>by simp)⟩
end Go.Proofs.YtfljcllpmbnjaaaGreat
namespace Go.Proofs.YtfljcllpmbnjaaaGreat
open Go.RowKit
def iG (w:World) (g:Nat) (l:List Bool):Prop:=∃cs t lo hi,w.heap[g]?=some (.cells cs t (lo,hi))/\l.length<=lo/\∀i (h:i<l.length),cs[i]?=some (.int .u8 ((chr l[i]).toNat:Int))
theorem iG.cell {w:World} {g:Nat} {l:List Bool} (h:iG w g l) (i:Nat) (hi:i<l.length):w.cell? ⟨g,i,none⟩=some (.int .u8 ((chr l[i]).toNat:Int)):=by
 obtain ⟨cs,t,lo,hi',h1,h2,h3⟩:=h;rw[cell_of_row w g i cs t (lo,hi') h1];exact h3 i hi
theorem iG.frozen {w:World} {g:Nat} {l:List Bool} (h:iG w g l) (i:Nat) (hi:i<l.length):w.frozen? ⟨g,i,none⟩=false:=by
 obtain ⟨cs,t,lo,hi',h1,h2,h3⟩:=h;simp[World.frozen?,h1];omega
theorem iG.dZ {w:World} {g:Nat} {l:List Bool} (h:iG w g l) (i:Nat) (hi:i<l.length) (b:Bool):iG (w.setCell ⟨g,i,none⟩ (.int .u8 ((chr b).toNat:Int))) g (l.set i b):=by
 obtain ⟨cs,t,lo,hi',h1,h2,h3⟩:=h;refine ⟨cs.setIfInBounds i (.int .u8 ((chr b).toNat:Int)),t,lo,hi',?_,by simpa using h2,?_⟩
 ·simp[World.setCell,Array.getElem?_modify,h1]
 ·intro k hk
  have hk':k<l.length:=by simpa using hk
  have hc:=h3 k hk'
  have hcs:k<cs.size:=by
   rcases Nat.lt_or_ge k cs.size with hlt|hge
   ·exact hlt
   ·rw[Array.getElem?_eq_none hge]at hc;cases hc
  by_cases e:i=k
  ·subst e
   simp[hcs]
  ·simp[e,hc]
theorem iG.new (w:World) (l:List Bool) (cap:Nat) (t:TypeId):iG (w.drew.alloc (.cells (bytesRow (txt l) cap) t ((bytesRow (txt l) cap).size,(bytesRow (txt l) cap).size+1))) w.heap.size l:=by
 refine ⟨bytesRow (txt l) cap,t,_,_,heap_alloc_new w.drew _,?_,fun i h=>?_⟩
 ·simp[bytesRow,txt]
 ·rw[bytesRow_at (txt l) cap i (by simpa [txt]using h)]
  simp[txt]
theorem iG.str {w:World} {g:Nat} {l:List Bool} (h:iG w g l) (c:Nat):(convert 27 9 (.slice (some ⟨g,0,none⟩) l.length c)).run Tryz.prog w=.ok (.string (txt l)) w:=by
 have hr:Rd w (fun k=>k=g) 1 (some ⟨g,0,none⟩) l.length (bl (l.map fun b=>(chr b).toNat)):=by
  refine ⟨by simp[bl],fun _=>⟨_,rfl,rfl,fun j u hu=>?_⟩⟩
  have hj:j<l.length:=by
   rcases Nat.lt_or_ge j l.length with hj|hj
   ·exact hj
   ·rw[List.getElem?_eq_none (by simpa [bl]using hj)]at hu;cases hu
  simp[bl,hj]at hu;subst hu
  have ea:(Addr.mk g 0 none).add j=⟨g,j,none⟩:=by
   unfold Addr.add;split
   ·next e=>rw[e]
   ·simp
  rw[ea];exact h.cell j hj
 have e:b_ (l.map fun b=>(chr b).toNat)=txt l:=by
  unfold b_ txt;rw[List.map_map];congr 2
  refine List.map_congr_left fun b _=>?_;cases b<;>rfl
 have:=xB (P:=Tryz.prog) w 27 9 5 Tryz.underlying27 Tryz.underlying5 Tryz.underlying9 _ _ _ c _ hr;rw[e]at this;exact this
theorem KL (v m:Nat) (w:World) (hm:m<=15) (hv:v+1<2 ^ m):
 Calls Tryz.prog 139 #[.string (txt (ak v m))] w fun e w'=>e=.returned (.string (txt (ak (v+1) m)))/\Nx w w':=by
 have hs:=FQ (ak v m);rw[z03]at hs;have hnew:=iG.new w (ak v m) (grownCap w (txt (ak v m)).size 0 5) 5;have hconv:=run_bytes_of_string (P:=Tryz.prog) w 9 27 5 (txt (ak v m)) Tryz.underlying9 Tryz.underlying27 Tryz.underlying5;have hnx:Nx w (w.drew.alloc (.cells (bytesRow (txt (ak v m)) (grownCap w (txt (ak v m)).size 0 5)) 5 ((bytesRow (txt (ak v m)) (grownCap w (txt (ak v m)).size 0 5)).size,(bytesRow (txt (ak v m)) (grownCap w (txt (ak v m)).size 0 5)).size+1))):=((Ch.refl _ w).drew).alloc _;generalize w.drew.alloc (.cells (bytesRow (txt (ak v m)) (grownCap w (txt (ak v m)).size 0 5)) 5 ((bytesRow (txt (ak v m)) (grownCap w (txt (ak v m)).size 0 5)).size,(bytesRow (txt (ak v m)) (grownCap w (txt (ak v m)).size 0 5)).size+1))=w1 at *;generalize grownCap w (txt (ak v m)).size 0 5=cap at *;rw[hs]at hconv;clear hs;go_enter Tryz.func139,Tryz.ntmps139;go_wp2_with fail;go_loopw [4] (fun i wr=>∃d j:Nat,d+j=m/\i=.int .i64 ((d:Int)-1)/\2 ^ j<=v+1/\iG wr w.heap.size (ak (v+1-2 ^ j) m)/\Nx w wr) (fun i _=>(intOf i+1).toNat)
 case atStart=>exact ⟨m,0,rfl,rfl,by simp,by simpa using hnew,hnx⟩
 case round=>
  clear hnew hnx;obtain ⟨wo,rfl⟩:∃wo:World,wo=wr:=⟨_,rfl⟩;obtain ⟨d,j,hdj,rfl,hp,ht,nx⟩:=hrel
  have hd:d≠0:=by
   rintro rfl;obtain rfl:j=m:=(by omega);omega
  obtain ⟨d,rfl⟩:∃e,d=e+1:=⟨d-1,by omega⟩;rw[show (((d+1:Nat):Int)-1)=(d:Int) by omega];clear hd;have hdl:d<(ak (v+1-2 ^ j) m).length:=by rw[z03];omega
  have hcell:=ht.cell d hdl;have hfro:=ht.frozen d hdl
  have hget:(ak (v+1-2 ^ j) m)[d]=(v+1-2 ^ j).testBit j:=by
   have hg:=Nu (v+1-2 ^ j) m d hdl;rw[show m-1-d=j by omega]at hg;exact hg
  rw[hget]at hcell;by_cases hb:(v+1-2 ^ j).testBit j=true
  ·obtain ⟨y,hy,hyj⟩:=IY hb
   have hset:=ht.dZ d hdl false;rw[show d=m-1-j by omega,hy,zV (by omega) hyj,show m-1-j=d by omega]at hset;have hp2:2 ^ (j+1)<=v+1:=by rw[Nat.pow_succ];omega
   have hyv:y=v+1-2 ^ (j+1):=by rw[Nat.pow_succ];omega
   rw[hyv]at hset;rw[hb,show ((chr true).toNat:Int)=49 from rfl]at hcell;rw[show ((chr false).toNat:Int)=48 from rfl]at hset;have Jb:=ah hset;clear hset hb hy hyj hyv hget;go_wp2_with fail;go_roundw
   case rel=>exact ⟨d,j+1,by omega,rfl,hp2,Jb.out,nx.setCell (fun h=>absurd h (Nat.lt_irrefl _)) _⟩
   case measure=>simp[intOf]
  ·have hb':(v+1-2 ^ j).testBit j=false:=by simpa using hb
   have hset:=ht.dZ d hdl true;rw[show d=m-1-j by omega,Nr (by omega) hb',show m-1-j=d by omega,show v+1-2 ^ j+2 ^ j=v+1 by omega]at hset;rw[hb',show ((chr false).toNat:Int)=48 from rfl]at hcell;rw[show ((chr true).toNat:Int)=49 from rfl]at hset;have hstr:=hset.str cap;rw[z03]at hstr;clear hset hb hb' hget;go_wp2_with fail;go_ret;exact ⟨rfl,nx.setCell (fun h=>absurd h (Nat.lt_irrefl _)) _⟩
theorem Tryz.VD:(Tryz.prog.info? 9).map (fun i=>(i.zero,i.size,i.bytes))=some (some (.string ⟨#[]⟩),1,16):=by kernel_rfl
def sl (ls:List (List Bool)):List Value:=ls.map fun l=>.string (txt l)
theorem Gp (ls:List (List Bool)):(sl ls).length=ls.length:=by simp[sl]
theorem Kr {ls:List (List Bool)} {k:Nat} (h:k<ls.length):(sl ls)[k]?=some (.string (txt ls[k])):=by simp[sl,h]
theorem vC (W w:World) (n:Nat) (c:Nx W w) (hn:n<=maxLen):au W (w.alloc (.cells (madeCells #[.string ⟨#[]⟩] n) 9)) 9 1 (.slice (some ⟨w.heap.size,0,none⟩) n n) n (sl (List.replicate n [])):=by
 have e:sl (List.replicate n [])=(madeCells #[Value.string ⟨#[]⟩] n).toList:=by
  rw[toList_madeCells_one];simp[sl,EM]
 rw[e];exact ⟨World.ownsRow_lit w _ n c.size hn (by simp[size_madeCells]),c.alloc _⟩
def QC (v:Value):Nat:=match v with| .string s=>s.size|_=>0
theorem au.store2 {W w:World} {e:TypeId} {n g c:Nat} {xs:List Value} {size:Nat} (h:au W w e size (.slice (some ⟨g,0,none⟩) n c) n xs) (j:Nat) (u:Value):
 au W (w.setCell ⟨g,j,none⟩ u) e size (.slice (some ⟨g,0,none⟩) n c) n (xs.set j u):=
 ⟨(h.own.stored j u).1,h.nx.setCell (fun hlt=>absurd hlt (Nat.not_lt.2 (h.lt g rfl).1)) u⟩
theorem au.at_ {W w:World} {e:TypeId} {n g c:Nat} {xs:List Value} (h:au W w e 1 (.slice (some ⟨g,0,none⟩) n c) n xs) (j:Nat) (hj:j<n):
 ∃u,xs[j]?=some u/\w.cell? ⟨g,j,none⟩=some u/\w.frozen? ⟨g,j,none⟩=false:=by
 have hl:j<xs.length:=by have:=h.own.1;omega
 exact ⟨xs[j],List.getElem?_eq_getElem hl,(h.own.cellAt j (by omega)).trans (List.getElem?_eq_getElem hl),h.own.frozenAt j⟩
def WAt (W:World) (zs:List Int) (n j:Nat) (wd fi s:Value) (wr:World):Prop:=
 ∃(k v m:Nat) (b:Bool),k<=n/\s=.int .i64 k/\wd=.string (txt (ak v m))/\fi=.bool b/\Hid (Last b v m j (dn zs j k))/\au W wr 9 1 (.slice (some ⟨W.heap.size,0,none⟩) n n) n (sl (dY zs j k))
set_option maxRecDepth 100000 in
theorem Vm (D:Nat->Prop) (A:Option Addr) (n c:Nat) (zs:List Int) (W:World) (hr:Rd W D 1 A n (il zs)) (hl:zs.length=n) (he:bH zs=0):
 Calls Tryz.prog 112 #[.slice A n c] W (fZ W 9 1 n (sl (strs zs))):=by
 have hn:n<=320:=by have:=(JA he).1;omega
 have hK:=(JA he).2.2.1;have hall:=(JA he).2.1
 have hzd:∀i,i<zs.length->0<=zs.getD i 0/\zs.getD i 0<=15:=fun i hi=>by
  have:=hall _ (List.getElem_mem hi);simpa [List.getD,hi]using this
 have Xf:=ah hzd;have HK:=ah hK;have Hl:=ah hl;clear hl he hK hall hzd;obtain ⟨i0,hi0,hz0,hz1,hz2⟩:=info_parts Tryz.VD;have hmk:=fun w=>z3I (P:=Tryz.prog) 23 9 i0 (.string ⟨#[]⟩) Tryz.underlying23 hi0 hz0 .i64 .i64 n n (Nat.le_refl _) (by rw[hz2];omega) (by omega) w;rw[hz1]at hmk;have hml:n<=maxLen:=by simp only[maxLen];omega
 have h0:=vC W W n (Ch.refl _ W) hml;rw[←Hl.out,←yh,Hl.out]at h0;go_enter Tryz.func112,Tryz.ntmps112;go_wp2_with fail;go_loopw [4,5,6] (fun wd fi jj wr=>∃(j v m:Nat) (b:Bool),1<=j/\j<=16/\jj=.int .i64 j/\wd=.string (txt (ak v m))/\fi=.bool b/\Hid (Last b v m j (dn zs j 0))/\au W wr 9 1 (.slice (some ⟨W.heap.size,0,none⟩) n n) n (sl (dY zs j 0))) (fun _ _ jj _=>16-(intOf jj).toNat)
 case atStart=>exact ⟨1,0,0,true,by omega,by omega,rfl,by simp[txt,ak],rfl,ah ⟨by omega,(fun _=>⟨rfl,rfl,yV zs⟩),(fun h=>by cases h)⟩,by simpa using h0⟩
 case round=>
  clear h0 hmk;obtain ⟨w1,rfl⟩:∃w1:World,w1=wr:=⟨_,rfl⟩;obtain ⟨j,v,m,b,hj1,hj16,rfl,rfl,rfl,HL,ho⟩:=hrel;by_cases hj:j<=15
  ·go_wp2_with fail
   go_loopw [4,5,18] (WAt W zs n j) (fun _ _ s _=>n-(intOf s).toNat)
   case atStart=>exact ⟨0,v,m,b,by omega,rfl,rfl,rfl,HL,ho⟩
   case round=>
    clear ho HL;obtain ⟨w2,rfl⟩:∃w2:World,w2=wr:=⟨_,rfl⟩;obtain ⟨k,v,m,b,hk,rfl,rfl,rfl,HL,ho⟩:=hrel;by_cases hlt:k<n
    ·obtain ⟨ad,u,rfl,kN,hu,hc⟩:=(hr.nx (by omega) ho.nx).at_ hlt
     have hkz:k<zs.length:=by rw[Hl.out];exact hlt
     rw[Dx hkz]at hu;injection hu with hu;subst hu;have Hk:=ah hkz;have hmle:=HL.out.1;obtain ⟨uo,hou,hoc,hof⟩:=ho.at_ k hlt;have Hou:=ah hou;clear hou
     have hyes:zs[k]=(j:Int)->dn zs j k<2 ^ j/\dn zs j (k+1)=dn zs j k+1/\dY zs j (k+1)=(dY zs j k).set k (ak (dn zs j k) j):=
      fun hz=>⟨Ll HK.out hkz hz (by omega) hj,Dj hkz hz,Gj j k hkz hz (by omega)⟩
     have hno:zs[k]≠(j:Int)->dn zs j (k+1)=dn zs j k/\dY zs j (k+1)=dY zs j k:=fun hz=>⟨Dk hkz hz,BM j k hkz hz⟩;generalize zs[k]=z at *;by_cases hz:z=(j:Int)
     ·have Xn:=ah (hyes hz).1
      have pq:=ah (hyes hz).2.1;have Jb:=ah (hyes hz).2.2;subst hz;clear hyes hno hkz;cases b
      ·obtain ⟨hv1,hv2⟩:=HL.out.Vz Xn.out
       have Hv2:=ah hv2;clear hv2 HL;go_wp2_with fail;with_reducible refine (KL v m _ (by omega) hv1).mono ?_
       rintro e w3 ⟨rfl,n3⟩;have o3:=ho.tr n3;obtain ⟨uo3,_,hoc3,hof3⟩:=o3.at_ k hlt;clear hv1 hoc hof;generalize v+1=u at *;go_wp2_with fail;go_loop [4] (fun wd=>∃i:Nat,m+i<=j/\wd=.string (txt (ak (u * 2 ^ i) (m+i)))) (fun wd=>j-QC wd)
       case atStart=>exact ⟨0,by omega,by simp⟩
       case round=>
        obtain ⟨i,hi,rfl⟩:=hrel;have hsz:=FQ (ak (u * 2 ^ i) (m+i));rw[z03]at hsz;by_cases hij:m+i<j
        ·go_wp2_with fail
         go_round
         case rel=>exact ⟨i+1,by omega,by rw[Ui,Yb,show 2 * (u * 2 ^ i)=u * 2 ^ (i+1) by rw[Nat.pow_succ,Nat.mul_comm 2,Nat.mul_assoc],Nat.add_assoc]⟩
         case measure=>unfold QC;simp only[Ui,Yb,FQ,z03];omega
        ·have hij2:m+i=j:=by omega
         have hpe:u * 2 ^ i=dn zs j k:=(by rw[←Hv2.out,show i=j-m by omega]);rw[hij2,hpe]at hsz ⊢;clear hij2 hpe;go_wp2_with fail;have o4:=o3.store2 k (.string (txt (ak (dn zs j k) j)));go_roundw
         case rel=>
          refine ⟨_,_,_,_,_,⟨k+1,dn zs j k,j,false,by omega,by go_num,rfl,rfl,?_,?_⟩,rfl,rfl,rfl,rfl,rfl⟩
          ·rw[pq.out];exact ah (Last.jG _ _)
          ·rw[Jb.out]
           have e:sl ((dY zs j k).set k (ak (dn zs j k) j))=(sl (dY zs j k)).set k (.string (txt (ak (dn zs j k) j))):=(by simp[sl,List.map_set]);rw[e];exact o4
         case measure=>simp[intOf];omega
      ·obtain ⟨rfl,rfl,hE⟩:=HL.out.2.1 rfl
       have Hv2:Hid (0 * 2 ^ (j-0)=dn zs j k):=ah (by rw[hE];simp);clear hE HL;have o3:=ho;obtain ⟨w3,rfl⟩:∃w3:World,w3=w2:=⟨_,rfl⟩;obtain ⟨u,m,hu,hm⟩:∃u m:Nat,u=0/\m=0:=⟨_,_,rfl,rfl⟩;rw[show txt (ak 0 0)=txt (ak u m) by rw[hu,hm]];have Hv3:Hid (u * 2 ^ (j-m)=dn zs j k):=ah (by rw[←Hv2.out,hu,hm]);have hmj:m<=j:=(by omega);clear hu hm Hv2 hmle;go_wp2_with fail;go_loop [4] (fun wd=>∃i:Nat,m+i<=j/\wd=.string (txt (ak (u * 2 ^ i) (m+i)))) (fun wd=>j-QC wd)
       case atStart=>exact ⟨0,by omega,by simp⟩
       case round=>
        obtain ⟨i,hi,rfl⟩:=hrel;have hsz:=FQ (ak (u * 2 ^ i) (m+i));rw[z03]at hsz;by_cases hij:m+i<j
        ·go_wp2_with fail
         go_round
         case rel=>exact ⟨i+1,by omega,by rw[Ui,Yb,show 2 * (u * 2 ^ i)=u * 2 ^ (i+1) by rw[Nat.pow_succ,Nat.mul_comm 2,Nat.mul_assoc],Nat.add_assoc]⟩
         case measure=>unfold QC;simp only[Ui,Yb,FQ,z03];omega
        ·have hij2:m+i=j:=by omega
         have hpe:u * 2 ^ i=dn zs j k:=(by rw[←Hv3.out,show i=j-m by omega]);rw[hij2,hpe]at hsz ⊢;clear hij2 hpe;go_wp2_with fail;have o4:=o3.store2 k (.string (txt (ak (dn zs j k) j)));go_roundw
         case rel=>
          refine ⟨k+1,dn zs j k,j,false,by omega,by go_num,rfl,rfl,?_,?_⟩
          ·rw[pq.out];exact ah (Last.jG _ _)
          ·rw[Jb.out]
           have e:sl ((dY zs j k).set k (ak (dn zs j k) j))=(sl (dY zs j k)).set k (.string (txt (ak (dn zs j k) j))):=(by simp[sl,List.map_set]);rw[e];exact o4
         case measure=>simp[intOf];omega
     ·obtain ⟨hsk,VI⟩:=hno hz
      have hne:(z !=(j:Int))=true:=by rw[bne_iff_ne];exact hz
      have UL:=ah hsk;have Hsk2:=ah VI;clear hsk VI hz hkz hyes hno;go_wp2_with fail;go_roundw
      case rel=>exact ⟨k+1,v,m,b,by omega,by go_num,rfl,rfl,by rw[UL.out];exact HL,by rw[Hsk2.out];exact ho⟩
      case measure=>simp[intOf];omega
    ·obtain rfl:k=n:=by omega
     have hnx:=Di zs j (by omega);have hsx:=BN (zs:=zs) j (by omega);rw[Hl.out]at hnx hsx;have Jq:=ah hnx;have Xi:=ah hsx;clear hnx hsx;go_wp2_with fail;go_roundw
     case rel=>exact ⟨j+1,v,m,b,by omega,by omega,by go_num,rfl,rfl,by rw[Jq.out];exact ah HL.out.turn,by rw[Xi.out];exact ho⟩
     case measure=>simp[intOf];omega
  ·obtain rfl:j=16:=by omega
   go_wp2_with fail;go_ret;have e:=Gl Xf.out;exact ⟨_,n,rfl,by rw[←e];exact ho,by omega,(ho.lt _ rfl).2,by omega,hml⟩
end Go.Proofs.YtfljcllpmbnjaaaGreat
