/- Contracts and plain laws that the last text rests on. Conditions: each theorem states its own. -/
import Derived.Test.YtdbfejfhpkakhaaGreatKKd2PbStl
import Derived.Test.YtdbfejfhpkakhaaGreatKKd2Q3
import Derived.Lib.SlicesCompact
import Derived.Lib.RowBridge
import Derived.Test.YtdbfejfhpkakhaaGreatKKd2PbShl
import Derived.Test.YtdbfejfhpkakhaaGreatKKd2PbSeqS
import Derived.Sort.OwnSorted
set_option maxRecDepth 100000
set_option maxHeartbeats 1000000
set_option linter.unusedVariables false
set_option linter.unusedSimpArgs false
namespace Go.Proofs.YtdbfejfhpkakhaaGreat
open Go.Lib
def jP (s:ByteArray):List Nat:=s.data.toList.map UInt8.toNat
theorem Ob (s:ByteArray):(jP s).length=s.size:=by
 unfold jP;rw[List.length_map,Array.length_toList];rfl
theorem sK (s:ByteArray):okB (jP s):=fun x hx=>by
 obtain ⟨u,_,rfl⟩:=List.mem_map.1 hx;exact u.toNat_lt
theorem zJ (d:Array (List UInt8)) (hs:∀j,j+1<d.size->d[j]! <=d[j+1]!):∀m,m<=d.size->
 (compactUpTo d m).Pairwise (· < ·)/\(∀x∈compactUpTo d m,∃j,j<m/\x=d[j]!)/\(∀j,j<m->d[j]! ∈compactUpTo d m)/\(∀x∈compactUpTo d m,x<=d[m-1]!):=by
 intro m;induction m with
 |zero=>intro _;simp[compactUpTo]
 |succ m ih=>
  intro hm;obtain ⟨h1,h2,h3,h4⟩:=ih (by omega);rw[compactUpTo_succ]
  have hle:0<m->d[m-1]! <=d[m]! :=fun h=>by
   have:=hs (m-1) (by omega);rwa [show m-1+1=m by omega]at this
  have hmem:∀x∈compactUpTo d m,0<m:=fun x hx=>by
   obtain ⟨j,hj,_⟩:=h2 x hx;omega
  by_cases hk:keeps d m=true
  ·rw[if_pos hk]
   refine ⟨?_,?_,?_,?_⟩
   ·rw[List.pairwise_append]
    refine ⟨h1,List.pairwise_singleton _ _,fun x hx y hy=>?_⟩;rw[List.mem_singleton]at hy;subst hy;have hm0:=hmem x hx;have hxm:x<=d[m]! :=List.le_trans (h4 x hx) (hle hm0);by_cases hlt:x<d[m]!
    ·exact hlt
    ·exfalso
     have hmx:d[m]! <=x:=List.not_lt.1 hlt;have h5:d[m]! <=d[m-1]! :=List.le_trans hmx (h4 x hx);have h6:=List.le_antisymm h5 (hle hm0);unfold keeps at hk;rw[decide_eq_true_iff]at hk;rcases hk with hk|hk
     ·omega
     ·exact hk h6
   ·intro x hx
    rcases List.mem_append.1 hx with hx|hx
    ·obtain ⟨j,hj,e⟩:=h2 x hx
     exact ⟨j,by omega,e⟩
    ·rw[List.mem_singleton]at hx
     exact ⟨m,by omega,hx⟩
   ·intro j hj
    by_cases hjm:j=m
    ·subst hjm;simp
    ·exact List.mem_append_left _ (h3 j (by omega))
   ·intro x hx
    rw[Nat.add_sub_cancel];rcases List.mem_append.1 hx with hx|hx
    ·exact List.le_trans (h4 x hx) (hle (hmem x hx))
    ·rw[List.mem_singleton]at hx
     subst hx;exact List.le_refl _
  ·rw[if_neg hk,List.append_nil]
   have hk':0<m/\d[m]! =d[m-1]! :=by
    unfold keeps at hk;rw[decide_eq_true_iff]at hk;by_cases hm0:m=0
    ·exact absurd (.inl hm0) hk
    ·refine ⟨by omega,Classical.byContradiction fun e=>hk (.inr e)⟩
   refine ⟨h1,?_,?_,?_⟩
   ·intro x hx
    obtain ⟨j,hj,e⟩:=h2 x hx;exact ⟨j,by omega,e⟩
   ·intro j hj
    by_cases hjm:j=m
    ·subst hjm;rw[hk'.2];exact h3 _ (by omega)
    ·exact h3 j (by omega)
   ·intro x hx
    rw[Nat.add_sub_cancel,hk'.2];exact h4 x hx
def fJ (l:List ByteArray):List (List UInt8):=(l.map fun s=>s.data.toList).mergeSort fun x y=>decide (x<=y)
def nX (l:List ByteArray):List (List UInt8):=compact (fJ l)
def aY (l:List ByteArray):List ByteArray:=(nX l).map fun x=>⟨x.toArray⟩
theorem Zi (l:List ByteArray):(fJ l).length=l.length:=by unfold fJ;rw[List.length_mergeSort,List.length_map]
theorem Af (l:List ByteArray) (j:Nat) (h:j+1<(fJ l).toArray.size):(fJ l).toArray[j]! <=(fJ l).toArray[j+1]! :=by
 have hp:(fJ l).Pairwise (fun a b=>decide (a<=b)=true):=by
  unfold fJ;refine List.pairwise_mergeSort (fun a b c h1 h2=>?_) (fun a b=>?_) _
  ·rw[decide_eq_true_iff]at *
   exact List.le_trans h1 h2
  ·rw[Bool.or_eq_true,decide_eq_true_iff,decide_eq_true_iff]
   exact List.le_total a b
 have hj:j+1<(fJ l).length:=by simpa using h
 have h1:=List.pairwise_iff_getElem.1 hp j (j+1) (by omega) hj (by omega);rw[getElem!_pos (fJ l).toArray j (by simpa using (by omega:j<(fJ l).length)),getElem!_pos (fJ l).toArray (j+1) h];simpa using h1
theorem z2P (l:List ByteArray):(nX l).Pairwise (· < ·)/\∀x,x∈nX l↔x∈fJ l:=by
 obtain ⟨h1,h2,h3,_⟩:=zJ (fJ l).toArray (Af l) (fJ l).length (by simp);refine ⟨h1,fun x=>⟨fun hx=>?_,fun hx=>?_⟩⟩
 ·obtain ⟨j,hj,rfl⟩:=h2 x hx
  rw[getElem!_pos _ _ (by simpa using hj)];simp
 ·obtain ⟨j,hj,rfl⟩:=List.mem_iff_getElem.1 hx
  have:=h3 j hj;rw[getElem!_pos (fJ l).toArray j (by simpa using hj)]at this;unfold nX compact;simpa using this
theorem CG (s:ByteArray):(⟨s.data.toList.toArray⟩:ByteArray)=s:=by cases s;simp
theorem Q_ {l:List ByteArray} {x:ByteArray}:x∈aY l↔x∈l:=by
 have hm:∀y:List UInt8,y∈fJ l↔∃s∈l,s.data.toList=y:=fun y=>by
  unfold fJ;rw[List.mem_mergeSort,List.mem_map]
 unfold aY;rw[List.mem_map];constructor
 ·rintro ⟨y,hy,rfl⟩
  obtain ⟨s,hs,rfl⟩:=(hm y).1 ((z2P l).2 y |>.1 hy);rw[CG];exact hs
 ·intro hx
  exact ⟨x.data.toList,((z2P l).2 _).2 ((hm _).2 ⟨x,hx,rfl⟩),CG x⟩
theorem z16 (l:List ByteArray):(aY l).length<=l.length:=by
 unfold aY;rw[List.length_map,←Zi l];exact compact_length_le _
theorem ZP (l:List ByteArray):(aY l).Pairwise fun a b=>a.data.toList<b.data.toList:=by
 unfold aY;rw[List.pairwise_map];simpa using (z2P l).1
def dL (all:List ByteArray) (x:ByteArray):Nat:=all.findIdx fun y=>decide (y=x)
theorem kP {all:List ByteArray} {x:ByteArray} (h:x∈all):dL all x<all.length:=
 List.findIdx_lt_length_of_exists ⟨x,h,by simp⟩
theorem GN {all:List ByteArray} {x:ByteArray} (hr:all.Pairwise fun a b=>a.data.toList<b.data.toList) (h:x∈all) (t:Nat) (ht:t<dL all x):Op.bytesLess (all.getD t x).toList x.toList=true:=by
 have h1:=kP h;have h2:=List.findIdx_getElem (w:=h1);rw[decide_eq_true_iff]at h2;have h3:=List.pairwise_iff_getElem.1 hr t (dL all x) (by omega) h1 ht;rw[List.getD,List.getElem?_eq_getElem (show t<all.length by omega),Proofs.bytesLess_eq,decide_eq_true_iff,Lib.toList_data,Lib.toList_data];have h4:all[dL all x]=x:=h2;rw[h4]at h3;exact h3
theorem Bz {all:List ByteArray} {x:ByteArray} (hr:all.Pairwise fun a b=>a.data.toList<b.data.toList) (h:x∈all) (t:Nat) (ht:dL all x<=t):Op.bytesLess (all.getD t x).toList x.toList=false:=by
 have h1:=kP h;have h2:=List.findIdx_getElem (w:=h1);rw[decide_eq_true_iff]at h2;have h4:all[dL all x]=x:=h2;rw[Proofs.bytesLess_eq,decide_eq_false_iff_not,Lib.toList_data,Lib.toList_data];intro hlt;by_cases htl:t<all.length
 ·rw[List.getD,List.getElem?_eq_getElem htl]at hlt
  by_cases he:dL all x=t
  ·have:all[t]=x:=by rw[←h4];congr 1;exact he.symm
   simp only[Option.getD_some,this]at hlt;exact List.lt_irrefl _ hlt
  ·have h3:=List.pairwise_iff_getElem.1 hr (dL all x) t h1 htl (by omega)
   rw[h4]at h3;exact List.lt_irrefl _ (List.lt_trans h3 hlt)
 ·rw[List.getD,List.getElem?_eq_none (by omega)]at hlt
  exact List.lt_irrefl _ hlt
def runN (x:ByteArray) (l:List ByteArray):Nat:=(l.takeWhile fun y=>decide (y=x)).length
theorem Dy (x:ByteArray) (l:List ByteArray):runN x l<=l.length:=(List.takeWhile_sublist _).length_le
def dM (all:List ByteArray):List ByteArray->List Nat
 |[]=>[]
 |x::xs=>aB (dL all x)++aB (runN x xs+1)++dM all (xs.drop (runN x xs))
termination_by l=>l.length
decreasing_by simp;omega
theorem WX (all:List ByteArray):dM all []=[]:=by rw[dM]
theorem OC {x:ByteArray}:∀{l:List ByteArray} {n:Nat},n<=l.length->(∀j,j<n->l.getD j ByteArray.empty=x)->(n=l.length∨l.getD n ByteArray.empty≠x)->runN x l=n:=by
 intro l;induction l with
 |nil=>intro n h _ _;simp at h;subst h;rfl
 |cons y l ih=>
  intro n hn h1 h2;cases n with
  |zero=>
   rcases h2 with h2|h2
   ·simp at h2
   ·have h3:y≠x:=by simpa using h2
    simp[runN,List.takeWhile,h3]
  |succ n=>
   have h3:y=x:=by simpa using h1 0 (by omega)
   have h4:=ih (n:=n) (by simpa using hn) (fun j hj=>by simpa using h1 (j+1) (by omega)) (by
    rcases h2 with h2|h2
    ·left;simpa using h2
    ·right;simpa using h2)
   unfold runN at h4 ⊢;simp[List.takeWhile,h3,h4]
theorem lV {all l:List ByteArray} {at_ n:Nat} (h0:0<n) (hn:at_+n<=l.length) (h1:∀j,j<n->l.getD (at_+j) ByteArray.empty=l.getD at_ ByteArray.empty)
 (h2:at_+n=l.length∨l.getD (at_+n) ByteArray.empty≠l.getD at_ ByteArray.empty):
 dM all (l.drop at_)=aB (dL all (l.getD at_ ByteArray.empty))++aB n++dM all (l.drop (at_+n)):=by
 have ha:at_<l.length:=by omega
 have e0:l.getD at_ ByteArray.empty=l[at_]:=by rw[List.getD,List.getElem?_eq_getElem ha];rfl
 have e1:=List.drop_eq_getElem_cons ha
 have e2:runN l[at_] (l.drop (at_+1))=n-1:=OC (by rw[List.length_drop];omega) (fun j hj=>by
  rw[List.getD,List.getElem?_drop];have:=h1 (j+1) (by omega);rw[List.getD,e0]at this;rw[show at_+1+j=at_+(j+1) by omega];exact this) (by
  rcases h2 with h2|h2
  ·left;rw[List.length_drop];omega
  ·right
   rw[List.getD,List.getElem?_drop,show at_+1+(n-1)=at_+n by omega];rw[List.getD,e0]at h2;exact h2)
 rw[e1,dM,e2,e0,List.drop_drop,show at_+1+(n-1)=at_+n by omega,show n-1+1=n by omega]
def Df (all:List ByteArray):List Nat:=all.flatMap fun s=>aB s.size++jP s
theorem z2i (s:ByteArray) (all:List ByteArray):Df (s::all)=aB s.size++jP s++Df all:=by simp[Df]
theorem vT {all:List ByteArray} {k:Nat} (h:k<all.length):Df (all.drop k)=aB (all.getD k ByteArray.empty).size++jP (all.getD k ByteArray.empty)++Df (all.drop (k+1)):=by
 have e0:all.getD k ByteArray.empty=all[k]:=by rw[List.getD,List.getElem?_eq_getElem h];rfl
 rw[List.drop_eq_getElem_cons h,z2i,e0]
def dO (l:List ByteArray):List Nat:=aB (aY l).length++Df (aY l)++aB l.length++dM (aY l) l
theorem iF {xs ys:List Nat} (h:okB xs) (k:okB ys):okB (xs++ys):=fun x hx=>by
 rcases List.mem_append.1 hx with h1|h1
 ·exact h x h1
 ·exact k x h1
theorem Fb:∀{all:List ByteArray},(∀s∈all,s.size<=1024)->okB (Df all):=by
 intro all;induction all with
 |nil=>intro _ x hx;simp[Df]at hx
 |cons s all ih=>
  intro h;rw[z2i];have:=h s (by simp);exact iF (iF (iG (by omega)) (sK s)) (ih fun t ht=>h t (by simp[ht]))
theorem JB (all:List ByteArray) (ha:all.length<=2048):∀(n:Nat) (l:List ByteArray),l.length<=n->n<=2048->okB (dM all l):=by
 intro n;induction n with
 |zero=>
  intro l h _;have:l=[]:=List.eq_nil_of_length_eq_zero (by omega);subst this;rw[WX];intro x hx;cases hx
 |succ n ih=>
  intro l h hn;cases l with
  |nil=>rw[WX];intro x hx;cases hx
  |cons x xs=>
   rw[dM];have h1:=Dy x xs;have h2:dL all x<=all.length:=List.findIdx_le_length;simp only[List.length_cons]at h;exact iF (iF (iG (by omega)) (iG (by omega))) (ih _ (by rw[List.length_drop];omega) (by omega))
theorem qh {l:List ByteArray} (hl:l.length<=2048) (hs:∀s∈l,s.size<=1024):okB (dO l):=by
 have h1:=z16 l;unfold dO;exact iF (iF (iF (iG (by omega)) (Fb fun s h=>hs s (Q_.1 h))) (iG (by omega))) (JB _ (by omega) _ l (Nat.le_refl _) hl)
theorem Tj {n:Nat} (h:n<16384):(aB n).length<=2:=(wH 1 n (by omega)).2
end Go.Proofs.YtdbfejfhpkakhaaGreat
namespace Go.Proofs.YtdbfejfhpkakhaaGreat
open Go.RowKit Go.Sort Go.Proofs
theorem sU (zs:List (List UInt8)):zs.map encStr=dK (zs.map fun x=>⟨x.toArray⟩):=by simp[dK,encStr]
theorem Jm (zs:List ByteArray):dK zs=(zs.map fun s=>s.data.toList).map encStr:=by
 unfold dK;rw[List.map_map];apply List.map_congr_left
 intro s _;show Value.string s=Value.string ⟨s.data.toList.toArray⟩
 rw[CG]
theorem lN (Bs:Nat) (A:Option Addr) (len cap:Nat) (zs:List ByteArray) (hlen:zs.length=len) (hreach:len<=1000000) (hle:len<=cap) (w:World)
 (hc:w.cell? ⟨Bs,0,none⟩=some (.slice A len cap)) (hrd:Rd w (· <w.heap.size) 1 A len (dK zs)):
 Calls Tryz.prog 57 #[.func (.func 133) #[] #[.pointer (some ⟨Bs,0,none⟩)]] w fun e W'=>∃v,e=.returned v/\aF w W' 9 1 v len ((fJ zs).map encStr):=by
 have Hcol:=ah (yj Bs A len cap zs hlen hreach hle w hc hrd);have hsl:(fJ zs).length=len:=by rw[Zi,hlen]
 have hml:(zs.map fun s=>s.data.toList).length=len:=by rw[List.length_map,hlen]
 clear hc hrd;go_enter Tryz.func57,Tryz.ntmps57;go_wp2_with fail;with_reducible refine Hcol.out.mono ?_
 rintro e w1 ⟨v1,rfl,o1⟩;rcases o1.own.2 with ⟨rfl,hz⟩|⟨gb,cap',cur,rfl,hbase,hgb,r1,r2,r3,r4⟩
 ·subst hz
  have h0:zs=[]:=List.eq_nil_of_length_eq_zero hlen;subst h0;go_wp2_with fail;refine (Tryz.slices_Sort_string_none none 0 w1).mono ?_;rintro e w2 ⟨rfl,rfl⟩;go_wp2_with fail;go_ret;exact ⟨_,rfl,by rw[show (fJ []).map encStr=dK [] by simp[fJ,dK]];exact o1⟩
 ·have hH:Holds encStr w1 gb 0 (zs.map fun s=>s.data.toList).toArray:=holds_of_block hgb (by rw[hml];rw[Jm,Nat.mul_one]at r4;exact r4)
  have hgl:gb<w1.heap.size:=(Array.getElem?_eq_some_iff.1 hgb).1;have cS:=Tryz.slices_Sort_string gb 0 cap' _ w1 hH hgl (by rw[hml];omega);rw[hml]at cS;have HS:=ah cS;clear cS hH
  have fin:∀k os,aF w (grow (putRow encStr (Sort.ahead w1 k) gb 0 (fJ zs).toArray) os) 9 1 (.slice (some ⟨gb,0,none⟩) len cap') len ((fJ zs).map encStr):=fun k os=>by
   have h1:=ownsRow_sorted (n:=k) (os:=os) (ss:=zs.map fun s=>s.data.toList) (ts:=fJ zs) (by rw[hml,hsl]) hbase hgb (by rw[hml];exact r1) r2 r3;rw[hml]at h1;exact ⟨h1,o1.nx.grown (grownBy_sorted _) fun j hj hlt=>by injection hj with hj;omega⟩
  have Fin:=ah fin;clear fin o1 hgb r3 r4;go_wp2_with fail;refine HS.out.mono ?_;rintro e w2 ⟨rfl,k,os,e2⟩;have o2:=Fin.out k os;unfold fJ at o2;rw[←e2]at o2;clear e2;go_wp2_with fail;go_ret;exact ⟨_,rfl,o2⟩
def Nk (W:World) (zs:List (List UInt8)) (e:Ending) (w':World):Prop:=
 ∃A c,e=.returned (.slice A (Lib.compact zs).length c)/\Rd w' (fun k=>W.heap.size<=k/\k<w'.heap.size) 1 A (Lib.compact zs).length ((Lib.compact zs).map encStr)/\Nx W w'/\(0<(Lib.compact zs).length->∃b,A=some ⟨b,0,none⟩)/\(Lib.compact zs).length<=c
theorem yg (W w:World) (v:Value) (n:Nat) (zs:List (List UInt8)) (hl:zs.length=n) (hn:n<=1000000) (o:aF W w 9 1 v n (zs.map encStr)):
 Calls Tryz.prog 92 #[v] w (Nk W zs):=by
 subst hl;rcases o.own.2 with ⟨rfl,hz⟩|⟨gb,cap',cur,rfl,hbase,hgb,r1,r2,r3,r4⟩
 ·have h0:zs=[]:=List.eq_nil_of_length_eq_zero hz
  subst h0;refine (Tryz.slices_Compact_string_empty none 0 w).mono ?_;rintro e w' ⟨rfl,rfl⟩;exact ⟨none,0,rfl,Rd.none_ _ _ _ _,o.nx,by simp[Lib.compact,Lib.compactUpTo],by simp[Lib.compact,Lib.compactUpTo]⟩
 ·have hH:Holds encStr w gb 0 zs.toArray:=holds_of_block hgb (by rw[Nat.mul_one]at r4;exact r4)
  refine (Tryz.slices_Compact_string gb 0 cap' zs w hH (by omega) r1).mono ?_;rintro e w' ⟨rfl,q,rfl⟩;have hle:=Lib.compact_length_le zs;have hgl:gb<w.heap.size:=(Array.getElem?_eq_some_iff.1 hgb).1;have e1:putRow encStr (Sort.ahead w q) gb 0 (Lib.compact zs++List.replicate (zs.length-(Lib.compact zs).length) []).toArray=grow (putRow encStr (Sort.ahead w q) gb 0 (Lib.compact zs++List.replicate (zs.length-(Lib.compact zs).length) []).toArray) #[]:=(grow_empty _).symm;have h1:=ownsRow_sorted (n:=q) (os:= #[]) (ss:=zs) (ts:=Lib.compact zs++List.replicate (zs.length-(Lib.compact zs).length) []) (by simp;omega) hbase hgb r1 r2 r3;have h2:=grownBy_sorted (w:=w) (g:=gb) (n:=q) (os:= #[]) (Lib.compact zs++List.replicate (zs.length-(Lib.compact zs).length) []).toArray;rw[←e1]at h1 h2;generalize putRow encStr (Sort.ahead w q) gb 0 (Lib.compact zs++List.replicate (zs.length-(Lib.compact zs).length) []).toArray=w' at *;have h3:=(Rd.bW h1).take (k:=(Lib.compact zs).length) hle;rw[Nat.mul_one,List.map_append,List.take_left' (by simp)]at h3;exact ⟨some ⟨gb,0,none⟩,cap',rfl,h3.more fun k hk=>⟨hk.2.1,hk.2.2⟩,o.nx.grown h2 (fun j hj hlt=>by injection hj with hj;omega),fun _=>⟨gb,rfl⟩,by omega⟩
theorem z3R (D:Nat->Prop) (b m c:Nat) (all:List ByteArray) (x:ByteArray) (w:World) (hr:Rd w D 1 (some ⟨b,0,none⟩) m (dK all)) (hl:all.length=m) (hrise:all.Pairwise fun a b=>a.data.toList<b.data.toList) (hx:x∈all) (hm:m<=1000000):
 Calls Tryz.prog 176 #[.slice (some ⟨b,0,none⟩) m c,.string x] w fun e w'=>(∃ok,e=.returned (.tuple #[.int .i64 (dL all x:Int),.bool ok]))/\∃q,w'=w.drewN q:=by
 have hlt:=kP hx
 have hc:∀j,j<m->w.cell? ⟨b,0+j,none⟩=some (.string (all.getD j x)):=fun j hj=>by
  obtain ⟨ad,e,_,hcell⟩:=hr.2 (by omega);injection e with e;subst e;have:=hcell j (.string (all.getD j x)) (by simp[dK,List.getD,show j<all.length by omega]);rw[←this];congr 1
  unfold Addr.add;split
  ·next h=>subst h;rfl
  ·rfl
 refine (Tryz.slices_BinarySearch_string b 0 m c (fun t=>all.getD t x) x w (by omega) hc).mono ?_;rintro e w' ⟨rfl,q,rfl⟩;rw[Lib.bsGo_spec (fun t=>Op.bytesLess (all.getD t x).toList x.toList) (dL all x) (fun t ht=>GN hrise hx t ht) (fun t ht=>Bz hrise hx t ht) m 0 m (by omega) (by omega) (by omega)];exact ⟨⟨_,rfl⟩,q,rfl⟩
end Go.Proofs.YtdbfejfhpkakhaaGreat
