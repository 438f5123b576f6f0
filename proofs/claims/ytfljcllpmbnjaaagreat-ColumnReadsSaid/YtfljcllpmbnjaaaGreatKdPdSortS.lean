/- Contracts and plain laws that the last text rests on. Conditions: each theorem states its own. -/
import Derived.Test.YtfljcllpmbnjaaaGreatKdPdShl
import Derived.Test.YtfljcllpmbnjaaaGreatKdPdSeqS
import Derived.Test.YtfljcllpmbnjaaaGreatKdPdPlainWd
import Derived.Sort.OwnSorted
set_option maxRecDepth 100000
set_option maxHeartbeats 1000000
set_option linter.unusedVariables false
namespace Go.Proofs.YtfljcllpmbnjaaaGreat
open Go.RowKit Go.Sort Go.Proofs
theorem Pj (zs:List (List UInt8)):zs.map encStr=bW (zs.map fun x=>⟨x.toArray⟩):=by simp[bW,encStr]
theorem JY (zs:List ByteArray):bW zs=(zs.map fun s=>s.data.toList).map encStr:=by
 unfold bW;rw[List.map_map];apply List.map_congr_left
 intro s _;show Value.string s=Value.string ⟨s.data.toList.toArray⟩
 rw[oM]
theorem Cb (Bs:Nat) (A:Option Addr) (len cap:Nat) (zs:List ByteArray) (hlen:zs.length=len) (hreach:len<=1000000) (hle:len<=cap) (w:World)
 (hc:w.cell? ⟨Bs,0,none⟩=some (.slice A len cap)) (hrd:Rd w (· <w.heap.size) 1 A len (bW zs)):
 Calls Tryz.prog 42 #[.func (.func 87) #[] #[.pointer (some ⟨Bs,0,none⟩)]] w fun e W'=>∃v,e=.returned v/\au w W' 9 1 v len ((jy zs).map encStr):=by
 have Hcol:=ah (zT Bs A len cap zs hlen hreach hle w hc hrd);have hsl:(jy zs).length=len:=by rw[ZL,hlen]
 have hml:(zs.map fun s=>s.data.toList).length=len:=by rw[List.length_map,hlen]
 clear hc hrd;go_enter Tryz.func42,Tryz.ntmps42;go_wp2_with fail;with_reducible refine Hcol.out.mono ?_
 rintro e w1 ⟨v1,rfl,o1⟩;rcases o1.own.2 with ⟨rfl,hz⟩|⟨gb,cap',cur,rfl,hbase,hgb,r1,r2,r3,r4⟩
 ·subst hz
  have h0:zs=[]:=List.eq_nil_of_length_eq_zero hlen;subst h0;go_wp2_with fail;refine (Tryz.slices_Sort_string_none none 0 w1).mono ?_;rintro e w2 ⟨rfl,rfl⟩;go_wp2_with fail;go_ret;exact ⟨_,rfl,by rw[show (jy []).map encStr=bW [] by simp[jy,bW]];exact o1⟩
 ·have hH:Holds encStr w1 gb 0 (zs.map fun s=>s.data.toList).toArray:=holds_of_block hgb (by rw[hml];rw[JY,Nat.mul_one]at r4;exact r4)
  have hgl:gb<w1.heap.size:=(Array.getElem?_eq_some_iff.1 hgb).1;have cS:=Tryz.slices_Sort_string gb 0 cap' _ w1 hH hgl (by rw[hml];omega);rw[hml]at cS;have HS:=ah cS;clear cS hH
  have fin:∀k os,au w (grow (putRow encStr (Sort.ahead w1 k) gb 0 (jy zs).toArray) os) 9 1 (.slice (some ⟨gb,0,none⟩) len cap') len ((jy zs).map encStr):=fun k os=>by
   have h1:=ownsRow_sorted (n:=k) (os:=os) (ss:=zs.map fun s=>s.data.toList) (ts:=jy zs) (by rw[hml,hsl]) hbase hgb (by rw[hml];exact r1) r2 r3;rw[hml]at h1;exact ⟨h1,o1.nx.grown (grownBy_sorted _) fun j hj hlt=>by injection hj with hj;omega⟩
  have Fin:=ah fin;clear fin o1 hgb r3 r4;go_wp2_with fail;refine HS.out.mono ?_;rintro e w2 ⟨rfl,k,os,e2⟩;have o2:=Fin.out k os;unfold jy at o2;rw[←e2]at o2;clear e2;go_wp2_with fail;go_ret;exact ⟨_,rfl,o2⟩
def N_ (W:World) (zs:List (List UInt8)) (e:Ending) (w':World):Prop:=
 ∃A c,e=.returned (.slice A (Lib.compact zs).length c)/\Rd w' (fun k=>W.heap.size<=k/\k<w'.heap.size) 1 A (Lib.compact zs).length ((Lib.compact zs).map encStr)/\Nx W w'/\(0<(Lib.compact zs).length->∃b,A=some ⟨b,0,none⟩)/\(Lib.compact zs).length<=c
theorem zQ (W w:World) (v:Value) (n:Nat) (zs:List (List UInt8)) (hl:zs.length=n) (hn:n<=1000000) (o:au W w 9 1 v n (zs.map encStr)):
 Calls Tryz.prog 41 #[v] w (N_ W zs):=by
 subst hl;rcases o.own.2 with ⟨rfl,hz⟩|⟨gb,cap',cur,rfl,hbase,hgb,r1,r2,r3,r4⟩
 ·have h0:zs=[]:=List.eq_nil_of_length_eq_zero hz
  subst h0;refine (Tryz.slices_Compact_string_empty none 0 w).mono ?_;rintro e w' ⟨rfl,rfl⟩;exact ⟨none,0,rfl,Rd.none_ _ _ _ _,o.nx,by simp[Lib.compact,Lib.compactUpTo],by simp[Lib.compact,Lib.compactUpTo]⟩
 ·have hH:Holds encStr w gb 0 zs.toArray:=holds_of_block hgb (by rw[Nat.mul_one]at r4;exact r4)
  refine (Tryz.slices_Compact_string gb 0 cap' zs w hH (by omega) r1).mono ?_;rintro e w' ⟨rfl,q,rfl⟩;have hle:=Lib.compact_length_le zs;have hgl:gb<w.heap.size:=(Array.getElem?_eq_some_iff.1 hgb).1;have e1:putRow encStr (Sort.ahead w q) gb 0 (Lib.compact zs++List.replicate (zs.length-(Lib.compact zs).length) []).toArray=grow (putRow encStr (Sort.ahead w q) gb 0 (Lib.compact zs++List.replicate (zs.length-(Lib.compact zs).length) []).toArray) #[]:=(grow_empty _).symm;have h1:=ownsRow_sorted (n:=q) (os:= #[]) (ss:=zs) (ts:=Lib.compact zs++List.replicate (zs.length-(Lib.compact zs).length) []) (by simp;omega) hbase hgb r1 r2 r3;have h2:=grownBy_sorted (w:=w) (g:=gb) (n:=q) (os:= #[]) (Lib.compact zs++List.replicate (zs.length-(Lib.compact zs).length) []).toArray;rw[←e1]at h1 h2;generalize putRow encStr (Sort.ahead w q) gb 0 (Lib.compact zs++List.replicate (zs.length-(Lib.compact zs).length) []).toArray=w' at *;have h3:=(Rd.bY h1).take (k:=(Lib.compact zs).length) hle;rw[Nat.mul_one,List.map_append,List.take_left' (by simp)]at h3;exact ⟨some ⟨gb,0,none⟩,cap',rfl,h3.more fun k hk=>⟨hk.2.1,hk.2.2⟩,o.nx.grown h2 (fun j hj hlt=>by injection hj with hj;omega),fun _=>⟨gb,rfl⟩,by omega⟩
theorem z5s (D:Nat->Prop) (b m c:Nat) (all:List ByteArray) (x:ByteArray) (w:World) (hr:Rd w D 1 (some ⟨b,0,none⟩) m (bW all)) (hl:all.length=m) (hrise:all.Pairwise fun a b=>a.data.toList<b.data.toList) (hx:x∈all) (hm:m<=1000000):
 Calls Tryz.prog 45 #[.slice (some ⟨b,0,none⟩) m c,.string x] w fun e w'=>(∃ok,e=.returned (.tuple #[.int .i64 (dw all x:Int),.bool ok]))/\∃q,w'=w.drewN q:=by
 have hlt:=Oh hx
 have hc:∀j,j<m->w.cell? ⟨b,0+j,none⟩=some (.string (all.getD j x)):=fun j hj=>by
  obtain ⟨ad,e,_,hcell⟩:=hr.2 (by omega);injection e with e;subst e;have:=hcell j (.string (all.getD j x)) (by simp[bW,List.getD,show j<all.length by omega]);rw[←this];congr 1
  unfold Addr.add;split
  ·next h=>subst h;rfl
  ·rfl
 refine (Tryz.slices_BinarySearch_string b 0 m c (fun t=>all.getD t x) x w (by omega) hc).mono ?_;rintro e w' ⟨rfl,q,rfl⟩;rw[Lib.bsGo_spec (fun t=>Op.bytesLess (all.getD t x).toList x.toList) (dw all x) (fun t ht=>Ik hrise hx t ht) (fun t ht=>Dy hrise hx t ht) m 0 m (by omega) (by omega) (by omega)];exact ⟨⟨_,rfl⟩,q,rfl⟩
end Go.Proofs.YtfljcllpmbnjaaaGreat
