/- Contracts and plain laws that the last text rests on. Conditions: each theorem states its own. -/
import Derived.Test.YtfljcllpmbnjaaaGreatKdPdStl
import Derived.Test.YtfljcllpmbnjaaaGreatKdQ2
import Derived.Lib.SlicesCompact
import Derived.Lib.RowBridge
set_option maxRecDepth 100000
set_option linter.unusedVariables false
namespace Go.Proofs.YtfljcllpmbnjaaaGreat
open Go.Lib
def iU (s:ByteArray):List Nat:=s.data.toList.map UInt8.toNat
theorem kJ (s:ByteArray):(iU s).length=s.size:=by
 unfold iU;rw[List.length_map,Array.length_toList];rfl
theorem JL (s:ByteArray):okB (iU s):=fun x hx=>by
 obtain ⟨u,_,rfl⟩:=List.mem_map.1 hx;exact u.toNat_lt
theorem Uh (s:ByteArray):b_ (iU s)=s:=by
 cases s with
 |mk d=>
  unfold b_ iU;rw[List.map_map,show (UInt8.ofNat ∘ UInt8.toNat)=id from funext fun u=>by simp,List.map_id,Array.toArray_toList]
theorem Bo (d:Array (List UInt8)) (hs:∀j,j+1<d.size->d[j]! <=d[j+1]!):∀m,m<=d.size->
 (compactUpTo d m).Pairwise (· < ·)/\(∀x∈compactUpTo d m,∃j,j<m/\x=d[j]!)/\(∀j,j<m->d[j]! ∈compactUpTo d m)/\(∀x∈compactUpTo d m,x<=d[m-1]!):=by
 intro m;induction m with
 |zero=>intro _;simp[compactUpTo]
 |succ m ih=>
  intro hm;obtain ⟨h1,h2,h3,h4⟩:=ih (by omega);rw[compactUpTo_succ]
  have hle:0<m->d[m-1]! <=d[m]! :=fun h=>by
   have:=hs (m-1) (by omega);rwa [show m-1+1=m by omega]at this
  have hmem:∀x∈compactUpTo d m,0<m:=fun x hx=>by
   obtain ⟨j,hj,_⟩:=h2 x hx;omega
  by_cases hk:keeps d m=true
  ·rw[if_pos hk]
   refine ⟨?_,?_,?_,?_⟩
   ·rw[List.pairwise_append]
    refine ⟨h1,List.pairwise_singleton _ _,fun x hx y hy=>?_⟩;rw[List.mem_singleton]at hy;subst hy;have hm0:=hmem x hx;have hxm:x<=d[m]! :=List.le_trans (h4 x hx) (hle hm0);by_cases hlt:x<d[m]!
    ·exact hlt
    ·exfalso
     have hmx:d[m]! <=x:=List.not_lt.1 hlt;have h5:d[m]! <=d[m-1]! :=List.le_trans hmx (h4 x hx);have h6:=List.le_antisymm h5 (hle hm0);unfold keeps at hk;rw[decide_eq_true_iff]at hk;rcases hk with hk|hk
     ·omega
     ·exact hk h6
   ·intro x hx
    rcases List.mem_append.1 hx with hx|hx
    ·obtain ⟨j,hj,e⟩:=h2 x hx
     exact ⟨j,by omega,e⟩
    ·rw[List.mem_singleton]at hx
     exact ⟨m,by omega,hx⟩
   ·intro j hj
    by_cases hjm:j=m
    ·subst hjm;simp
    ·exact List.mem_append_left _ (h3 j (by omega))
   ·intro x hx
    rw[Nat.add_sub_cancel];rcases List.mem_append.1 hx with hx|hx
    ·exact List.le_trans (h4 x hx) (hle (hmem x hx))
    ·rw[List.mem_singleton]at hx
     subst hx;exact List.le_refl _
  ·rw[if_neg hk,List.append_nil]
   have hk':0<m/\d[m]! =d[m-1]! :=by
    unfold keeps at hk;rw[decide_eq_true_iff]at hk;by_cases hm0:m=0
    ·exact absurd (.inl hm0) hk
    ·refine ⟨by omega,Classical.byContradiction fun e=>hk (.inr e)⟩
   refine ⟨h1,?_,?_,?_⟩
   ·intro x hx
    obtain ⟨j,hj,e⟩:=h2 x hx;exact ⟨j,by omega,e⟩
   ·intro j hj
    by_cases hjm:j=m
    ·subst hjm;rw[hk'.2];exact h3 _ (by omega)
    ·exact h3 j (by omega)
   ·intro x hx
    rw[Nat.add_sub_cancel,hk'.2];exact h4 x hx
def jy (l:List ByteArray):List (List UInt8):=(l.map fun s=>s.data.toList).mergeSort fun x y=>decide (x<=y)
def Eu (l:List ByteArray):List (List UInt8):=compact (jy l)
def bP (l:List ByteArray):List ByteArray:=(Eu l).map fun x=>⟨x.toArray⟩
theorem ZL (l:List ByteArray):(jy l).length=l.length:=by unfold jy;rw[List.length_mergeSort,List.length_map]
theorem Cc (l:List ByteArray) (j:Nat) (h:j+1<(jy l).toArray.size):(jy l).toArray[j]! <=(jy l).toArray[j+1]! :=by
 have hp:(jy l).Pairwise (fun a b=>decide (a<=b)=true):=by
  unfold jy;refine List.pairwise_mergeSort (fun a b c h1 h2=>?_) (fun a b=>?_) _
  ·rw[decide_eq_true_iff]at *
   exact List.le_trans h1 h2
  ·rw[Bool.or_eq_true,decide_eq_true_iff,decide_eq_true_iff]
   exact List.le_total a b
 have hj:j+1<(jy l).length:=by simpa using h
 have h1:=List.pairwise_iff_getElem.1 hp j (j+1) (by omega) hj (by omega);rw[getElem!_pos (jy l).toArray j (by simpa using (by omega:j<(jy l).length)),getElem!_pos (jy l).toArray (j+1) h];simpa using h1
theorem Zj (l:List ByteArray):(Eu l).Pairwise (· < ·)/\∀x,x∈Eu l↔x∈jy l:=by
 obtain ⟨h1,h2,h3,_⟩:=Bo (jy l).toArray (Cc l) (jy l).length (by simp);refine ⟨h1,fun x=>⟨fun hx=>?_,fun hx=>?_⟩⟩
 ·obtain ⟨j,hj,rfl⟩:=h2 x hx
  rw[getElem!_pos _ _ (by simpa using hj)];simp
 ·obtain ⟨j,hj,rfl⟩:=List.mem_iff_getElem.1 hx
  have:=h3 j hj;rw[getElem!_pos (jy l).toArray j (by simpa using hj)]at this;unfold Eu compact;simpa using this
theorem oM (s:ByteArray):(⟨s.data.toList.toArray⟩:ByteArray)=s:=by cases s;simp
theorem AZ {l:List ByteArray} {x:ByteArray}:x∈bP l↔x∈l:=by
 have hm:∀y:List UInt8,y∈jy l↔∃s∈l,s.data.toList=y:=fun y=>by
  unfold jy;rw[List.mem_mergeSort,List.mem_map]
 unfold bP;rw[List.mem_map];constructor
 ·rintro ⟨y,hy,rfl⟩
  obtain ⟨s,hs,rfl⟩:=(hm y).1 ((Zj l).2 y |>.1 hy);rw[oM];exact hs
 ·intro hx
  exact ⟨x.data.toList,((Zj l).2 _).2 ((hm _).2 ⟨x,hx,rfl⟩),oM x⟩
theorem z11 (l:List ByteArray):(bP l).length<=l.length:=by
 unfold bP;rw[List.length_map,←ZL l];exact compact_length_le _
theorem tC (l:List ByteArray):(bP l).Pairwise fun a b=>a.data.toList<b.data.toList:=by
 unfold bP;rw[List.pairwise_map];simpa using (Zj l).1
def dw (all:List ByteArray) (x:ByteArray):Nat:=all.findIdx fun y=>decide (y=x)
theorem Oh {all:List ByteArray} {x:ByteArray} (h:x∈all):dw all x<all.length:=
 List.findIdx_lt_length_of_exists ⟨x,h,by simp⟩
theorem lF {all:List ByteArray} {x:ByteArray} (h:x∈all):all.getD (dw all x) ByteArray.empty=x:=by
 have h1:=Oh h;have h2:=List.findIdx_getElem (w:=h1);rw[decide_eq_true_iff]at h2;rw[List.getD,List.getElem?_eq_getElem h1];exact h2
theorem Ik {all:List ByteArray} {x:ByteArray} (hr:all.Pairwise fun a b=>a.data.toList<b.data.toList) (h:x∈all) (t:Nat) (ht:t<dw all x):Op.bytesLess (all.getD t x).toList x.toList=true:=by
 have h1:=Oh h;have h2:=List.findIdx_getElem (w:=h1);rw[decide_eq_true_iff]at h2;have h3:=List.pairwise_iff_getElem.1 hr t (dw all x) (by omega) h1 ht;rw[List.getD,List.getElem?_eq_getElem (show t<all.length by omega),Proofs.bytesLess_eq,decide_eq_true_iff,Lib.toList_data,Lib.toList_data];have h4:all[dw all x]=x:=h2;rw[h4]at h3;exact h3
theorem Dy {all:List ByteArray} {x:ByteArray} (hr:all.Pairwise fun a b=>a.data.toList<b.data.toList) (h:x∈all) (t:Nat) (ht:dw all x<=t):Op.bytesLess (all.getD t x).toList x.toList=false:=by
 have h1:=Oh h;have h2:=List.findIdx_getElem (w:=h1);rw[decide_eq_true_iff]at h2;have h4:all[dw all x]=x:=h2;rw[Proofs.bytesLess_eq,decide_eq_false_iff_not,Lib.toList_data,Lib.toList_data];intro hlt;by_cases htl:t<all.length
 ·rw[List.getD,List.getElem?_eq_getElem htl]at hlt
  by_cases he:dw all x=t
  ·have:all[t]=x:=by rw[←h4];congr 1;exact he.symm
   simp only[Option.getD_some,this]at hlt;exact List.lt_irrefl _ hlt
  ·have h3:=List.pairwise_iff_getElem.1 hr (dw all x) t h1 htl (by omega)
   rw[h4]at h3;exact List.lt_irrefl _ (List.lt_trans h3 hlt)
 ·rw[List.getD,List.getElem?_eq_none (by omega)]at hlt
  exact List.lt_irrefl _ hlt
def runN (x:ByteArray) (l:List ByteArray):Nat:=(l.takeWhile fun y=>decide (y=x)).length
theorem kZ (x:ByteArray) (l:List ByteArray):runN x l<=l.length:=(List.takeWhile_sublist _).length_le
def bK (all:List ByteArray):List ByteArray->List Nat
 |[]=>[]
 |x::xs=>aj (dw all x)++aj (runN x xs+1)++bK all (xs.drop (runN x xs))
termination_by l=>l.length
decreasing_by simp;omega
theorem QH (all:List ByteArray):bK all []=[]:=by rw[bK]
theorem Pq {x:ByteArray}:∀{l:List ByteArray} {n:Nat},n<=l.length->(∀j,j<n->l.getD j ByteArray.empty=x)->(n=l.length∨l.getD n ByteArray.empty≠x)->runN x l=n:=by
 intro l;induction l with
 |nil=>intro n h _ _;simp at h;subst h;rfl
 |cons y l ih=>
  intro n hn h1 h2;cases n with
  |zero=>
   rcases h2 with h2|h2
   ·simp at h2
   ·have h3:y≠x:=by simpa using h2
    simp[runN,List.takeWhile,h3]
  |succ n=>
   have h3:y=x:=by simpa using h1 0 (by omega)
   have h4:=ih (n:=n) (by simpa using hn) (fun j hj=>by simpa using h1 (j+1) (by omega)) (by
    rcases h2 with h2|h2
    ·left;simpa using h2
    ·right;simpa using h2)
   unfold runN at h4 ⊢;simp[List.takeWhile,h3,h4]
theorem Un {all l:List ByteArray} {at_ n:Nat} (h0:0<n) (hn:at_+n<=l.length) (h1:∀j,j<n->l.getD (at_+j) ByteArray.empty=l.getD at_ ByteArray.empty)
 (h2:at_+n=l.length∨l.getD (at_+n) ByteArray.empty≠l.getD at_ ByteArray.empty):
 bK all (l.drop at_)=aj (dw all (l.getD at_ ByteArray.empty))++aj n++bK all (l.drop (at_+n)):=by
 have ha:at_<l.length:=by omega
 have e0:l.getD at_ ByteArray.empty=l[at_]:=by rw[List.getD,List.getElem?_eq_getElem ha];rfl
 have e1:=List.drop_eq_getElem_cons ha
 have e2:runN l[at_] (l.drop (at_+1))=n-1:=Pq (by rw[List.length_drop];omega) (fun j hj=>by
  rw[List.getD,List.getElem?_drop];have:=h1 (j+1) (by omega);rw[List.getD,e0]at this;rw[show at_+1+j=at_+(j+1) by omega];exact this) (by
  rcases h2 with h2|h2
  ·left;rw[List.length_drop];omega
  ·right
   rw[List.getD,List.getElem?_drop,show at_+1+(n-1)=at_+n by omega];rw[List.getD,e0]at h2;exact h2)
 rw[e1,bK,e2,e0,List.drop_drop,show at_+1+(n-1)=at_+n by omega,show n-1+1=n by omega]
def je (all:List ByteArray):List Nat:=all.flatMap fun s=>aj s.size++iU s
theorem Vr (s:ByteArray) (all:List ByteArray):je (s::all)=aj s.size++iU s++je all:=by simp[je]
theorem Ym {all:List ByteArray} {k:Nat} (h:k<all.length):je (all.drop k)=aj (all.getD k ByteArray.empty).size++iU (all.getD k ByteArray.empty)++je (all.drop (k+1)):=by
 have e0:all.getD k ByteArray.empty=all[k]:=by rw[List.getD,List.getElem?_eq_getElem h];rfl
 rw[List.drop_eq_getElem_cons h,Vr,e0]
def aV (l:List ByteArray):List Nat:=aj (bP l).length++je (bP l)++aj l.length++bK (bP l) l
theorem JD {xs ys:List Nat} (h:okB xs) (k:okB ys):okB (xs++ys):=fun x hx=>by
 rcases List.mem_append.1 hx with h1|h1
 ·exact h x h1
 ·exact k x h1
theorem FZ:∀{all:List ByteArray},(∀s∈all,s.size<=1024)->okB (je all):=by
 intro all;induction all with
 |nil=>intro _ x hx;simp[je]at hx
 |cons s all ih=>
  intro h;rw[Vr];have:=h s (by simp);exact JD (JD (z14 (by omega)) (JL s)) (ih fun t ht=>h t (by simp[ht]))
theorem Ky (all:List ByteArray) (ha:all.length<=2048):∀(n:Nat) (l:List ByteArray),l.length<=n->n<=2048->okB (bK all l):=by
 intro n;induction n with
 |zero=>
  intro l h _;have:l=[]:=List.eq_nil_of_length_eq_zero (by omega);subst this;rw[QH];intro x hx;cases hx
 |succ n ih=>
  intro l h hn;cases l with
  |nil=>rw[QH];intro x hx;cases hx
  |cons x xs=>
   rw[bK];have h1:=kZ x xs;have h2:dw all x<=all.length:=List.findIdx_le_length;simp only[List.length_cons]at h;exact JD (JD (z14 (by omega)) (z14 (by omega))) (ih _ (by rw[List.length_drop];omega) (by omega))
theorem RJ {l:List ByteArray} (hl:l.length<=2048) (hs:∀s∈l,s.size<=1024):okB (aV l):=by
 have h1:=z11 l;unfold aV;exact JD (JD (JD (z14 (by omega)) (FZ fun s h=>hs s (AZ.1 h))) (z14 (by omega))) (Ky _ (by omega) _ l (Nat.le_refl _) hl)
theorem Jk {xs rest:List Nat} {p v:Nat} (hv:v<18446744073709551616) (hp:p<=xs.length) (h:xs.drop p=aj v++rest):ay xs (p:Int)=(v,(aj v).length,0):=by
 have e:xs=xs.take p++aj v++rest:=by rw[List.append_assoc,←h,List.take_append_drop]
 have e2:(xs.take p).length=p:=by rw[List.length_take];omega
 have:=OQ hv (xs.take p) rest;rw[←e,e2]at this;exact this
theorem Aw {xs a rest:List Nat} {p:Nat} (h:xs.drop p=a++rest):xs.drop (p+a.length)=rest:=by
 rw[←List.drop_drop,h,List.drop_left]
end Go.Proofs.YtfljcllpmbnjaaaGreat
