/- Contracts and plain laws that the last text rests on. Conditions: each theorem states its own. -/
import Derived.Test.YtpakjclpjcngmaaGreatKbPcShl
import Derived.Test.YtpakjclpjcngmaaGreatKbPcSeqS
import Derived.Test.YtpakjclpjcngmaaGreatKbQ8
import Derived.Sort.OwnSorted
import Derived.Test.YtpakjclpjcngmaaGreatKbQ17
import Derived.Test.YtpakjclpjcngmaaGreatKbQ23
import Derived.Lib.AppendStr
set_option maxRecDepth 100000
set_option maxHeartbeats 16000000
set_option linter.unusedVariables false
namespace Go.Proofs.YtpakjclpjcngmaaGreat
open Go.RowKit Go.Sort Go.Proofs
theorem Gg (zs:List (List UInt8)):zs.map encStr=b_ (zs.map fun x=>⟨x.toArray⟩):=by simp[b_,encStr]
theorem LX (zs:List ByteArray):b_ zs=(zs.map fun s=>s.data.toList).map encStr:=by
 unfold b_;rw[List.map_map];apply List.map_congr_left
 intro s _;show Value.string s=Value.string ⟨s.data.toList.toArray⟩
 rw[qG]
theorem nX (Bs:Nat) (A:Option Addr) (len cap:Nat) (zs:List ByteArray) (hlen:zs.length=len) (hreach:len<=1000000) (hle:len<=cap) (w:World)
 (hc:w.cell? ⟨Bs,0,none⟩=some (.slice A len cap)) (hrd:Rd w (· <w.heap.size) 1 A len (b_ zs)):
 Calls Tryz.prog 42 #[.func (.func 109) #[] #[.pointer (some ⟨Bs,0,none⟩)]] w fun e W'=>∃v,e=.returned v/\ak w W' 9 1 v len ((gK zs).map encStr):=by
 have Hcol:=ah (Bz Bs A len cap zs hlen hreach hle w hc hrd);have hsl:(gK zs).length=len:=by rw[z1L,hlen]
 have hml:(zs.map fun s=>s.data.toList).length=len:=by rw[List.length_map,hlen]
 clear hc hrd;go_enter Tryz.func42,Tryz.ntmps42;go_wp2_with fail;with_reducible refine Hcol.out.mono ?_
 rintro e w1 ⟨v1,rfl,o1⟩;rcases o1.own.2 with ⟨rfl,hz⟩|⟨gb,cap',cur,rfl,hbase,hgb,r1,r2,r3,r4⟩
 ·subst hz
  have h0:zs=[]:=List.eq_nil_of_length_eq_zero hlen;subst h0;go_wp2_with fail;refine (Tryz.slices_Sort_string_none none 0 w1).mono ?_;rintro e w2 ⟨rfl,rfl⟩;go_wp2_with fail;go_ret;exact ⟨_,rfl,by rw[show (gK []).map encStr=b_ [] by simp[gK,b_]];exact o1⟩
 ·have hH:Holds encStr w1 gb 0 (zs.map fun s=>s.data.toList).toArray:=holds_of_block hgb (by rw[hml];rw[LX,Nat.mul_one]at r4;exact r4)
  have hgl:gb<w1.heap.size:=(Array.getElem?_eq_some_iff.1 hgb).1;have cS:=Tryz.slices_Sort_string gb 0 cap' _ w1 hH hgl (by rw[hml];omega);rw[hml]at cS;have HS:=ah cS;clear cS hH
  have fin:∀k os,ak w (grow (putRow encStr (Sort.ahead w1 k) gb 0 (gK zs).toArray) os) 9 1 (.slice (some ⟨gb,0,none⟩) len cap') len ((gK zs).map encStr):=fun k os=>by
   have h1:=ownsRow_sorted (n:=k) (os:=os) (ss:=zs.map fun s=>s.data.toList) (ts:=gK zs) (by rw[hml,hsl]) hbase hgb (by rw[hml];exact r1) r2 r3;rw[hml]at h1;exact ⟨h1,o1.nx.grown (grownBy_sorted _) fun j hj hlt=>by injection hj with hj;omega⟩
  have Fin:=ah fin;clear fin o1 hgb r3 r4;go_wp2_with fail;refine HS.out.mono ?_;rintro e w2 ⟨rfl,k,os,e2⟩;have o2:=Fin.out k os;unfold gK at o2;rw[←e2]at o2;clear e2;go_wp2_with fail;go_ret;exact ⟨_,rfl,o2⟩
def QB (W:World) (zs:List (List UInt8)) (e:Ending) (w':World):Prop:=
 ∃A c,e=.returned (.slice A (Lib.compact zs).length c)/\Rd w' (fun k=>W.heap.size<=k/\k<w'.heap.size) 1 A (Lib.compact zs).length ((Lib.compact zs).map encStr)/\Nx W w'/\(0<(Lib.compact zs).length->∃b,A=some ⟨b,0,none⟩)/\(Lib.compact zs).length<=c
theorem Bv (W w:World) (v:Value) (n:Nat) (zs:List (List UInt8)) (hl:zs.length=n) (hn:n<=1000000) (o:ak W w 9 1 v n (zs.map encStr)):
 Calls Tryz.prog 41 #[v] w (QB W zs):=by
 subst hl;rcases o.own.2 with ⟨rfl,hz⟩|⟨gb,cap',cur,rfl,hbase,hgb,r1,r2,r3,r4⟩
 ·have h0:zs=[]:=List.eq_nil_of_length_eq_zero hz
  subst h0;refine (Tryz.slices_Compact_string_empty none 0 w).mono ?_;rintro e w' ⟨rfl,rfl⟩;exact ⟨none,0,rfl,Rd.none_ _ _ _ _,o.nx,by simp[Lib.compact,Lib.compactUpTo],by simp[Lib.compact,Lib.compactUpTo]⟩
 ·have hH:Holds encStr w gb 0 zs.toArray:=holds_of_block hgb (by rw[Nat.mul_one]at r4;exact r4)
  refine (Tryz.slices_Compact_string gb 0 cap' zs w hH (by omega) r1).mono ?_;rintro e w' ⟨rfl,q,rfl⟩;have hle:=Lib.compact_length_le zs;have hgl:gb<w.heap.size:=(Array.getElem?_eq_some_iff.1 hgb).1;have e1:putRow encStr (Sort.ahead w q) gb 0 (Lib.compact zs++List.replicate (zs.length-(Lib.compact zs).length) []).toArray=grow (putRow encStr (Sort.ahead w q) gb 0 (Lib.compact zs++List.replicate (zs.length-(Lib.compact zs).length) []).toArray) #[]:=(grow_empty _).symm;have h1:=ownsRow_sorted (n:=q) (os:= #[]) (ss:=zs) (ts:=Lib.compact zs++List.replicate (zs.length-(Lib.compact zs).length) []) (by simp;omega) hbase hgb r1 r2 r3;have h2:=grownBy_sorted (w:=w) (g:=gb) (n:=q) (os:= #[]) (Lib.compact zs++List.replicate (zs.length-(Lib.compact zs).length) []).toArray;rw[←e1]at h1 h2;generalize putRow encStr (Sort.ahead w q) gb 0 (Lib.compact zs++List.replicate (zs.length-(Lib.compact zs).length) []).toArray=w' at *;have h3:=(Rd.fH h1).take (k:=(Lib.compact zs).length) hle;rw[Nat.mul_one,List.map_append,List.take_left' (by simp)]at h3;exact ⟨some ⟨gb,0,none⟩,cap',rfl,h3.more fun k hk=>⟨hk.2.1,hk.2.2⟩,o.nx.grown h2 (fun j hj hlt=>by injection hj with hj;omega),fun _=>⟨gb,rfl⟩,by omega⟩
theorem z5h (D:Nat->Prop) (b m c:Nat) (all:List ByteArray) (x:ByteArray) (w:World) (hr:Rd w D 1 (some ⟨b,0,none⟩) m (b_ all)) (hl:all.length=m) (hrise:all.Pairwise fun a b=>a.data.toList<b.data.toList) (hx:x∈all) (hm:m<=1000000):
 Calls Tryz.prog 168 #[.slice (some ⟨b,0,none⟩) m c,.string x] w fun e w'=>(∃ok,e=.returned (.tuple #[.int .i64 (dB all x:Int),.bool ok]))/\∃q,w'=w.drewN q:=by
 have hlt:=VP hx
 have hc:∀j,j<m->w.cell? ⟨b,0+j,none⟩=some (.string (all.getD j x)):=fun j hj=>by
  obtain ⟨ad,e,_,hcell⟩:=hr.2 (by omega);injection e with e;subst e;have:=hcell j (.string (all.getD j x)) (by simp[b_,List.getD,show j<all.length by omega]);rw[←this];congr 1
  unfold Addr.add;split
  ·next h=>subst h;rfl
  ·rfl
 refine (Tryz.slices_BinarySearch_string b 0 m c (fun t=>all.getD t x) x w (by omega) hc).mono ?_;rintro e w' ⟨rfl,q,rfl⟩;rw[Lib.bsGo_spec (fun t=>Op.bytesLess (all.getD t x).toList x.toList) (dB all x) (fun t ht=>JI hrise hx t ht) (fun t ht=>ED hrise hx t ht) m 0 m (by omega) (by omega) (by omega)];exact ⟨⟨_,rfl⟩,q,rfl⟩
end Go.Proofs.YtpakjclpjcngmaaGreat
namespace Go.Proofs.YtpakjclpjcngmaaGreat
open Go.RowKit
def IdxL (l:List ByteArray) (W:World) (e:Ending) (w':World):Prop:=
 ∃r:Int,e=.returned (.int .i64 r)/\W=w'/\(decide (0<=r)=l.any fun s=>decide (1024<s.size))
theorem LK (s:ByteArray) (w:World):Calls Tryz.prog 216 #[.string s] w fun e w'=>e=.returned (.bool (decide (1024<s.size)))/\w=w':=by
 go_enter Tryz.func216,Tryz.ntmps216;go_wp2_with fail;go_ret;exact ⟨by show Ending.returned (Value.bool (decide ((1024:Int)<(s.size:Int))))=_;rw[decide_eq_decide.2 (show (1024:Int)<(s.size:Int)↔1024<s.size from ⟨fun h=>by omega,fun h=>by omega⟩)],rfl⟩
theorem index_long (D:Nat->Prop) (A:Option Addr) (n c:Nat) (l:List ByteArray) (W:World) (hr:Rd W D 1 A n (b_ l)) (hl:l.length=n) (hn:n<=1000000):
 Calls Tryz.prog 264 #[.slice A n c,.func (.func 216) #[] #[]] W (IdxL l W):=by
 subst hl;have hcl:=fun s=>LK s W;have Ll:=ah hcl;clear hcl;go_enter Tryz.func264,Tryz.ntmps264;go_wp2_with fail;go_loop [8] (fun i=>∃k:Nat,k<=l.length/\i=.int .i64 k/\Hid (∀j,j<k->(l.getD j ByteArray.empty).size<=1024)) (fun i=>l.length-(intOf i).toNat)
 case atStart=>exact ⟨0,by omega,rfl,ah (fun j hj=>by omega)⟩
 case round=>
  obtain ⟨k,hk,rfl,He⟩:=hrel;by_cases hlt:k<l.length
  ·obtain ⟨ad,rfl, -,hcell⟩:=hr.2 (by omega)
   have hc0:=hcell _ _ (Dy hlt);have HK:=ah (show l.getD k ByteArray.empty=l.getD k ByteArray.empty from rfl)
   have hany:1024<(l.getD k ByteArray.empty).size->(l.any fun s=>decide (1024<s.size))=true:=fun h=>by
    rw[List.any_eq_true];refine ⟨l[k],List.getElem_mem hlt,?_⟩;have e0:l.getD k ByteArray.empty=l[k]:=by rw[List.getD,List.getElem?_eq_getElem hlt];rfl
    rw[e0]at h;simpa using h
   have Yg:=ah hany
   have hnx:(l.getD k ByteArray.empty).size<=1024->Hid (∀j,j<k+1->(l.getD j ByteArray.empty).size<=1024):=fun h=>ah fun j hj=>by
    by_cases e:j=k
    ·subst e;exact h
    ·exact He.out j (by omega)
   have Ya:=ah hnx;clear hcell hany hnx HK;generalize l.getD k ByteArray.empty=s at *;by_cases hs:1024<s.size
   ·have hd:decide (1024<s.size)=true:=decide_eq_true hs
    have hfin:=Yg.out hs;have UF:=ah hfin;have hcall:=Ll.out s;rw[hd]at hcall;have eP:=ah hcall;clear hfin Yg Ya hcall;go_wp2_with fail;refine eP.out.mono ?_;rintro e w1 ⟨rfl,rfl⟩;go_wp2_with fail;go_ret;exact ⟨_,rfl,rfl,by rw[UF.out];simp⟩
   ·have hd:decide (1024<s.size)=false:=decide_eq_false hs
    have hnx:=Ya.out (by omega);have hcall:=Ll.out s;rw[hd]at hcall;have eP:=ah hcall;clear Yg Ya hcall;go_wp2_with fail;refine eP.out.mono ?_;rintro e w1 ⟨rfl,rfl⟩;go_wp2_with fail;go_round
    case rel=>exact ⟨k+1,by omega,by go_num,hnx⟩
    case measure=>simp[intOf];omega
  ·obtain rfl:k=l.length:=by omega
   have hno:(l.any fun s=>decide (1024<s.size))=false:=by
    rw[List.any_eq_false];intro s hs;obtain ⟨j,hj,rfl⟩:=List.mem_iff_getElem.1 hs;have:=He.out j hj;rw[List.getD,List.getElem?_eq_getElem hj]at this;simpa using this
   have Hno:=ah hno;clear hno;go_wp2_with fail;go_ret;exact ⟨_,rfl,rfl,by rw[Hno.out];simp⟩
theorem rV (D:Nat->Prop) (A:Option Addr) (n c:Nat) (l:List ByteArray) (W:World) (hr:Rd W D 1 A n (b_ l)) (hl:l.length=n) (hn:n<=1000000):
 Calls Tryz.prog 215 #[.slice A n c,.func (.func 216) #[] #[]] W fun e w'=>e=.returned (.bool (l.any fun s=>decide (1024<s.size)))/\W=w':=by
 have Hi:=ah (index_long D A n c l W hr hl hn);clear hr;go_enter Tryz.func215,Tryz.ntmps215;go_wp2_with fail;with_reducible refine Hi.out.mono ?_
 rintro e w1 ⟨r,rfl,rfl,hd⟩;have Hd:=ah hd;clear hd;go_wp2_with fail;go_ret;rw[←Hd.out];exact ⟨rfl,rfl⟩
theorem z52 (D:Nat->Prop) (A:Option Addr) (n c:Nat) (l:List ByteArray) (W:World) (hr:Rd W D 1 A n (b_ l)) (hl:l.length=n) (hn:n<=2048):
 Calls Tryz.prog 167 #[.slice A n c] W fun e w'=>e=.returned (.bool (l.any fun s=>decide (1024<s.size)))/\W=w':=by
 have Hi:=ah (rV D A n c l W hr hl (by omega));clear hr;have q1:decide ((2048:Int)<(n:Int))=false:=by rw[decide_eq_false_iff_not];omega
 generalize (l.any fun s=>decide (1024<s.size))=bb at *;go_enter Tryz.func167,Tryz.ntmps167;go_wp2_with fail;refine Hi.out.mono ?_;rintro e w1 ⟨rfl,rfl⟩;go_wp2_with fail;go_ret;exact ⟨rfl,rfl⟩
theorem z4w (s:ByteArray):Lib.strCells s=bl (jg s):=by
 unfold Lib.strCells bl jg;rw[List.map_map];rfl
theorem QM (a b:ByteArray):(a.toList==b.toList)=decide (a=b):=by
 rw[Bool.eq_iff_iff,beq_iff_eq,decide_eq_true_iff];constructor
 ·intro h
  rw[ByteArray.toList_eq,ByteArray.toList_eq]at h;cases a;cases b
  simpa [Array.ext_iff]using congrArg List.toArray h
 ·rintro rfl;rfl
theorem ZO {P:Program} {ops:Array Oper} {rest:List Oper} {o:Oper} {a:Act} {Q:Exit->Act->World->Prop} (hgd:o.guard=none) (sl x:Operand) (t u:TypeId)
 (ho:o.op=.call { callee:=.builtin .append,args:= #[sl,x],argTypes:= #[t,u]})
 (e:TypeId) (i:TypeInfo) (ht:P.underlying t=some (.slice e)) (hu:P.underlying u=some .string) (hi:P.info? e=some i) (hz:i.zero=some (.int .u8 0))
 (hsize:i.size=1) (hby:i.bytes=1)
 {W w:World} {v:Value} {n:Nat} {xs:List Nat} (hs:a.eval sl=v) (hown:ak W w e 1 v n (bl xs)) (s:ByteArray) (hx:a.eval x=.string s)
 (h63:n+s.size<=maxLen) (hbytes:n+s.size<=140737488355328)
 (h:∀v' w',ak W w' e 1 v' (n+s.size) (bl (xs++jg s))->wpList P ops Q rest (a.put o.dst v') w'):wpList P ops Q (o::rest) a w:=
 Lib.wpList_append_own_string w hgd sl x t u ho W.heap.size e i ht hu hi hz hsize hby v n (bl xs) hs hown.own s hx h63 hbytes hown.nx.size fun v' w' h2 h3 h4=>
  h v' w' ⟨by rw[show bl (xs++jg s)=bl xs++bl (jg s) by simp[bl],←z4w];exact h2,hown.nx.grown h3 fun k hk hlt=>by have:=hown.lt k hk;omega⟩
def bJ (w0 w:World) (v:Value) (T rest:List Nat):Prop:=∃X,ak w0 w 5 1 v X.length (bl X)/\X++rest=T
theorem bJ.len {w0 w:World} {v:Value} {T rest:List Nat} (h:bJ w0 w v T rest):∃X,ak w0 w 5 1 v X.length (bl X)/\X++rest=T/\X.length+rest.length=T.length:=by
 obtain ⟨X,o,e⟩:=h;exact ⟨X,o,e,by rw[←e,List.length_append]⟩
def jQ (W:World) (kind:Nat) (xs:List Nat) (e:Ending) (w':World):Prop:=
 (xs.length<=65536->UW W (ay kind xs) e w')/\(65536<xs.length->e=.returned (.tuple #[.slice none 0 0,.int .i64 5])/\Nx W w')
theorem jQ.later {W w w':World} {kind:Nat} {xs:List Nat} {e:Ending} (n:Nx W w) (h:jQ w kind xs e w'):jQ W kind xs e w':=by
 refine ⟨fun hl=>?_,fun hl=>?_⟩
 ·obtain ⟨k,cap,he,o,hc⟩:=h.1 hl
  exact ⟨k,cap,he,⟨jM o.own n.size,n.tr o.nx⟩,hc⟩
 ·exact ⟨(h.2 hl).1,n.tr (h.2 hl).2⟩
theorem uU (D:Nat->Prop) (A:Option Addr) (n c kind:Nat) (xs:List Nat) (W:World) (hr:Rd W D 1 A n (bl xs)) (QS:∀k,D k->k<W.heap.size) (ok:okB xs) (hl:xs.length=n) (hc:n<=c) (hk:kind<256):
 Calls Tryz.prog 165 #[.int .u8 (kind:Int),.slice A n c] W (jQ W kind xs):=by
 by_cases h:n<=65536
 ·exact (z56 D A n c kind xs W hr QS ok hl hc h hk).mono fun _ _ h2=>⟨fun _=>h2,fun h3=>by omega⟩
 ·exact (ql A n c kind W (by omega)).mono fun _ _ h2=>⟨fun h3=>by omega,fun _=>h2⟩
theorem qm (D:Nat->Prop) (A:Option Addr) (n c:Nat) (l:List ByteArray) (W:World) (hr:Rd W D 1 A n (b_ l)) (hl:l.length=n) (hn:n<=2048) (hs:∀s∈l,s.size<=1024) (hc:n<=c) (hC:(aQ l).length<=100000000):
 Calls Tryz.prog 100 #[.slice A n c] W (jQ W 2 (aQ l)):=by
 obtain ⟨i0,hi0,hz0,hz1,hz2⟩:=info_parts Tryz.info5;have htl:=z52 D A n c l W hr hl hn
 have hno:(l.any fun s=>decide (1024<s.size))=false:=by
  rw[List.any_eq_false];intro s h;have:=hs s h;simpa using this
 rw[hno]at htl;have kT:=ah htl;have hrb:=hr.below_ (by decide);have okC:=z30 (by omega) hs;have xU:aQ l=aj (bM l).length++kW (bM l)++aj l.length++bW (bM l) l:=rfl
 have hsz:∀k,k<(bM l).length->((bM l).getD k ByteArray.empty).size<=1024:=fun k hk=>by
  rw[List.getD,List.getElem?_eq_getElem hk];exact hs _ (yt.1 (List.getElem_mem hk))
 have lK:=Iw l
 have hmem:∀k,k<n->l.getD k ByteArray.empty∈bM l:=fun k hk=>by
  rw[List.getD,List.getElem?_eq_getElem (by omega)];exact yt.2 (List.getElem_mem _)
 have hrise:=z3t l;have GZ:(qH l).map Go.Proofs.encStr=b_ (bM l):=by rw[Gg];rfl
 have hallL:(qH l).length=(bM l).length:=by simp[bM]
 have hcmp:∀w v,ak W w 9 1 v n ((gK l).map Go.Proofs.encStr)->Calls Tryz.prog 41 #[v] w fun e w'=>
  ∃A c,e=.returned (.slice A (bM l).length c)/\Rd w' (fun k=>W.heap.size<=k/\k<w'.heap.size) 1 A (bM l).length (b_ (bM l))/\Nx W w'/\(0<(bM l).length->∃b,A=some ⟨b,0,none⟩)/\(bM l).length<=c:=fun w v o=>by
  have:=Bv W w v n (gK l) (by rw[z1L,hl]) (by omega) o;unfold QB at this;have e1:Lib.compact (gK l)=qH l:=rfl;rw[e1,hallL,GZ]at this;exact this
 have Hcmp:=ah hcmp;have mF:=ah hmem;have VA:=ah hrise;have HC:=ah xU;have xJ:=ah hsz;have hidx:∀x,x∈bM l->dB (bM l) x<(bM l).length:=fun x hx=>VP hx;have KZ:=ah hidx;generalize bM l=all at *;clear htl hcmp hmem hrise xU hsz GZ hallL hno hidx hs;have hpu:=fun (v:Nat) (w:World) (hv:v<18446744073709551616)=>U_ v w hv;have mD:=ah hpu;clear hpu;have kD:∀v,v<18446744073709551616->1<=(aj v).length/\(aj v).length<=10:=fun v hv=>z04 hv;have Hpl:=ah kD;clear kD;generalize aQ l=T at *;go_enter Tryz.func100,Tryz.ntmps100;go_wp2_with fail;with_reducible refine kT.out.mono ?_
 rintro e w1 ⟨rfl,rfl⟩;go_wp2_with fail;with_reducible refine (nI A n c _).mono ?_
 rintro e w1 ⟨rfl,rfl⟩;have hb0:(W.alloc (.cells #[.slice A n c] 80)).cell? ⟨W.heap.size,0,none⟩=some (.slice A n c):=(aG.new W 80 #[.slice A n c]).cell 0;have hn0:Nx W (W.alloc (.cells #[.slice A n c] 80)):=(Ch.refl _ W).alloc _;have hr0:=(hrb.nx (by decide) hn0).below_ (by decide);have Hso:=ah (nX W.heap.size A n c l hl (by omega) hc _ hb0 hr0);clear hb0 hr0;go_wp2_with fail;with_reducible refine Hso.out.mono ?_
 rintro e w1 ⟨v1,rfl,o1⟩;have hcall:=Hcmp.out w1 v1 ⟨jM o1.own hn0.size,hn0.tr o1.nx⟩;clear o1 hn0 Hso;go_wp2_with fail;with_reducible refine hcall.mono ?_
 rintro e w2 ⟨Aa,ca,rfl,ra,n2,hab,hca⟩;have hr2:=hr.nx (by decide) n2;obtain ⟨m,hm⟩:∃m,all.length=m:=⟨_,rfl⟩;rw[hm]at ra hab hca;have Hm:=ah hm;have hmn:m<=n:=by omega
 clear hcall hm;rw[Hm.out];clear lK;have hcall:=mD.out m w2 (by omega);go_wp2_with fail;with_reducible refine hcall.mono ?_
 rintro e w3 ⟨k3,cap3,rfl,o3,hk3,hk3',hc3,_⟩;have hO:bJ w2 w3 (.slice (some ⟨k3,0,none⟩) (aj m).length cap3) T (kW (all.drop 0)++(aj l.length++bW all l)):=⟨aj m,o3,by rw[HC.out,Hm.out,List.drop_zero];simp only[List.append_assoc]⟩;have HO:=ah hO;clear hO o3 hcall;go_wp2_with fail;go_loopw [5,24] (fun v i wr=>∃k:Nat,k<=m/\i=.int .i64 (k:Int)/\bJ w2 wr v T (kW (all.drop k)++(aj l.length++bW all l))) (fun _ i _=>m-(intOf i).toNat)
 case atStart=>exact ⟨0,Nat.zero_le _,rfl,HO.out⟩
 case round=>
  clear HO;obtain ⟨w4,rfl⟩:∃w4:World,w4=wr:=⟨_,rfl⟩;obtain ⟨k,hk,rfl,hout⟩:=hrel;obtain ⟨X,oX,eX,lX⟩:=hout.len;by_cases hlt:k<m
  ·have e1:=z2R (all:=all) (k:=k) (by rw[Hm.out];exact hlt)
   have hs1:=xJ.out k (by rw[Hm.out];exact hlt);obtain ⟨ad,rfl,_,hcell⟩:=(ra.nx (by decide) oX.nx).2 (by omega);have hc0:=hcell k _ (Dy (by rw[Hm.out];exact hlt));rw[e1]at eX;have E:=ah eX;have hlen:=congrArg List.length eX;simp only[List.length_append,z09]at hlen;clear hcell e1 eX hout lX;generalize all.getD k ByteArray.empty=s at *;have hp:=Hpl.out s.size (by omega);have hcall:=mD.out s.size w4 (by omega);have hlb:X.length+(aj s.size).length+s.size<=100000000:=(by omega);clear hlen;go_wp2_with fail;with_reducible refine hcall.mono ?_
   rintro e w5 ⟨k5,cap5,rfl,o5,hk5,hk5',hc5,_⟩;have oX5:=oX.tr o5.nx;have r5:=o5.iy;clear o5 oX hcall;have fin:∀v w,ak w2 w 5 1 v ((X++aj s.size).length+s.size) (bl (X++aj s.size++jg s))->bJ w2 w v T (kW (all.drop (k+1))++(aj l.length++bW all l)):=fun v w o=>⟨X++aj s.size++jg s,by rw[List.length_append,z09];exact o,by rw[←E.out];simp only[List.append_assoc]⟩;have Fin:=ah fin;clear fin E
   go_wp2_with (at_builtin;first
    |(refine z05 rfl (.tmp 28) (.tmp 32) _ rfl 5 i0 _ 1 1 Tryz.underlying26 hi0 hz0 hz1 hz2 rfl (by omega) rfl oX5 _ (some ⟨k5,0,none⟩) (aj s.size).length cap5 (bl (aj s.size)) rfl r5 (iL _) (by simp only[maxLen];omega) (by omega) ?_;intro v7 w7 o7 m7;rw[←List.length_append,show bl X++bl (aj s.size)=bl (X++aj s.size) by simp[bl]]at o7)
    |(refine ZO rfl (.tmp 33) (.tmp 34) _ 9 rfl 5 i0 Tryz.underlying26 Tryz.underlying9 hi0 hz0 hz1 hz2 rfl o7 s rfl (by rw[List.length_append];simp only[maxLen];omega) (by rw[List.length_append];omega) ?_;intro v8 w8 o8;have Ho8:=ah (Fin.out v8 w8 o8);clear o8))
   go_roundw
   case rel=>exact ⟨k+1,by omega,by go_num,Ho8.out⟩
   case measure=>simp[intOf];omega
  ·obtain rfl:m=k:=by omega
   have e1:kW (all.drop m)=[]:=by
    rw[List.drop_of_length_le (by rw[Hm.out];omega)];rfl
   rw[e1,List.nil_append]at eX;have E:=ah eX;have hlen:=congrArg List.length eX;simp only[List.length_append]at hlen;have hp:=Hpl.out l.length (by omega);have hlb:X.length+(aj l.length).length<=100000000:=(by omega);clear hlen e1 eX hout lX;have hcall:=mD.out l.length w4 (by omega);rw[hl]at hcall hp hlb;go_wp2_with fail;with_reducible refine hcall.mono ?_
   rintro e w5 ⟨k5,cap5,rfl,o5,hk5,hk5',hc5,_⟩;have oX5:=oX.tr o5.nx;have r5:=o5.iy;clear o5 oX hcall;have fin:∀v w,ak w2 w 5 1 v (X.length+(aj n).length) (bl X++bl (aj n))->bJ w2 w v T (bW all (l.drop 0)):=fun v w o=>⟨X++aj n,by rw[List.length_append,show bl (X++aj n)=bl X++bl (aj n) by simp[bl]];exact o,by rw[←E.out,List.drop_zero,hl];simp only[List.append_assoc]⟩;have Fin:=ah fin;clear fin E;go_wp2_with (at_builtin;(refine z05 rfl (.tmp 37) (.tmp 41) _ rfl 5 i0 _ 1 1 Tryz.underlying26 hi0 hz0 hz1 hz2 rfl (by omega) rfl oX5 _ (some ⟨k5,0,none⟩) (aj n).length cap5 (bl (aj n)) rfl r5 (iL _) (by simp only[maxLen];omega) (by omega) ?_;intro v7 w7 o7 m7;have Ho7:=ah (Fin.out v7 w7 o7);clear o7 m7))
   clear Fin r5 oX5 hp hlb;go_loopw [5,8] (fun v i wr=>∃a:Nat,a<=n/\i=.int .i64 (a:Int)/\bJ w2 wr v T (bW all (l.drop a))) (fun _ i _=>n-(intOf i).toNat)
   case atStart=>exact ⟨0,Nat.zero_le _,rfl,Ho7.out⟩
   case round=>
    clear Ho7;obtain ⟨w8,rfl⟩:∃w8:World,w8=wr:=⟨_,rfl⟩;obtain ⟨a,ha,rfl,hout⟩:=hrel;obtain ⟨Y,oY,eY,lY⟩:=hout.len;by_cases hlt:a<n
    ·have hrl:=hr2.nx (by decide) oY.nx
     obtain ⟨ad,rfl,_,hcell⟩:=hrl.2 (by omega);have HY:=ah eY;have Yb:=ah (fun j (hj:j<n)=>hcell j _ (Dy (by omega)));have c0:w8.cell? (ad.add a)=some (.string (l.getD a ByteArray.empty)):=Yb.out a hlt;clear hcell eY hout hrl lY;go_wp2_with fail;go_loopw [9] (fun j wr=>∃k q:Nat,1<=k/\a+k<=n/\j=.int .i64 (k:Int)/\wr=w8.drewN q/\Hid (∀i,i<k->l.getD (a+i) ByteArray.empty=l.getD a ByteArray.empty)) (fun j _=>n-(intOf j).toNat)
     case atStart=>exact ⟨1,0,by omega,by omega,rfl,rfl,ah (fun i hi=>by rw[show i=0 by omega];rfl)⟩
     case round=>
      obtain ⟨k,q,hk1,hk2,rfl,rfl,He⟩:=hrel;have kw:IntKind.i64.wrap ((a:Int)+(k:Int))=(a:Int)+(k:Int):=IntWalk.i64_in _ (by omega);have b4:((a:Int)+(k:Int)).toNat=a+k:=(by omega);have b5:(0:Int)<=(a:Int)+(k:Int):=by omega
      have key:(a+k<n/\l.getD (a+k) ByteArray.empty=l.getD a ByteArray.empty)∨(a+k<n/\l.getD (a+k) ByteArray.empty≠l.getD a ByteArray.empty)∨a+k=n:=by
       by_cases h1:a+k<n
       ·by_cases h2:l.getD (a+k) ByteArray.empty=l.getD a ByteArray.empty
        ·exact .inl ⟨h1,h2⟩
        ·exact .inr (.inl ⟨h1,h2⟩)
       ·exact .inr (.inr (by omega))
      rcases key with ⟨hlt2,he⟩|⟨hlt2,he⟩|he
      ·have q1:decide ((a:Int)+(k:Int)<(n:Int))=true:=by rw[decide_eq_true_iff];omega
       have q2:(a:Int)+(k:Int)<(n:Int):=(by omega);have ck:=Yb.out (a+k) hlt2
       have hn2:Hid (∀i,i<k+1->l.getD (a+i) ByteArray.empty=l.getD a ByteArray.empty):=ah fun i hi=>by
        by_cases e:i=k
        ·subst e;exact he
        ·exact He.out i (by omega)
       rw[he]at ck;have hq:((l.getD a ByteArray.empty).toList==(l.getD a ByteArray.empty).toList)=true:=(by simp);clear he He;generalize l.getD a ByteArray.empty=x at *;go_wp2_with fail;go_quiet (fail)
       go_wp2_with fail;go_roundw
       case rel=>exact ⟨k+1,_,by omega,by omega,by go_num,rfl,hn2⟩
       case measure=>simp[intOf];omega
      ·have hor:a+k=l.length∨l.getD (a+k) ByteArray.empty≠l.getD a ByteArray.empty:=.inr he
       have hx:=mF.out a hlt;have hid:=KZ.out _ hx;rw[Hm.out]at hid;have step:=ZM (all:=all) (l:=l) (at_:=a) (n:=k) (by omega) (by omega) He.out hor;have E:Y++(aj (dB all (l.getD a ByteArray.empty))++aj k++bW all (l.drop (a+k)))=T:=by rw[←step];exact HY.out
       have hlen:=congrArg List.length E;simp only[List.length_append]at hlen;have hp1:=Hpl.out (dB all (l.getD a ByteArray.empty)) (by omega);have hp2:=Hpl.out k (by omega);have hlb:Y.length+(aj (dB all (l.getD a ByteArray.empty))).length+(aj k).length<=100000000:=(by omega);obtain ⟨b,rfl⟩:=hab (by omega);have hbs:=fun q=>z5h _ b m ca all _ (w8.drewN q) (((ra.nx (by decide) oY.nx).drewN q)) Hm.out VA.out hx (by omega);have VE:=ah hbs;have fin:∀v w,ak w2 w 5 1 v (Y.length+(aj (dB all (l.getD a ByteArray.empty))).length+(aj k).length) (bl Y++bl (aj (dB all (l.getD a ByteArray.empty)))++bl (aj k))->bJ w2 w v T (bW all (l.drop (a+k))):=fun v w o=>⟨Y++aj (dB all (l.getD a ByteArray.empty))++aj k,by rw[List.length_append,List.length_append,show bl (Y++aj (dB all (l.getD a ByteArray.empty))++aj k)=bl Y++bl (aj (dB all (l.getD a ByteArray.empty)))++bl (aj k) by simp[bl]];exact o,by rw[←E];simp only[List.append_assoc]⟩;have Fin:=ah fin;clear fin hbs hlen E step hx HY He;generalize dB all (l.getD a ByteArray.empty)=ix at *;have q1:decide ((a:Int)+(k:Int)<(n:Int))=true:=by rw[decide_eq_true_iff];omega
       have q2:(a:Int)+(k:Int)<(n:Int):=(by omega);have ck:=Yb.out (a+k) hlt2;have hq:((l.getD (a+k) ByteArray.empty).toList==(l.getD a ByteArray.empty).toList)=false:=by rw[QM];exact decide_eq_false he
       clear hor he;generalize l.getD (a+k) ByteArray.empty=y at *;generalize l.getD a ByteArray.empty=x at *;go_wp2_with fail;go_quiet (fail)
       go_wp2_with fail;with_reducible refine (VE.out _).mono ?_
       rintro e w9 ⟨⟨okb,rfl⟩,q2,rfl⟩;go_wp2_with fail;with_reducible refine (mD.out ix _ (by omega)).mono ?_
       rintro e w10 ⟨k10,BJ,rfl,o10,hk10,hk10',hc10,_⟩;have oY10:=(oY.tr ((Ch.refl _ w8).drewN _)).tr o10.nx;have r10:=o10.iy;clear o10 VE;go_wp2_with (at_builtin;(refine z05 rfl (.tmp 77) (.tmp 80) _ rfl 5 i0 _ 1 1 Tryz.underlying26 hi0 hz0 hz1 hz2 rfl (by omega) rfl oY10 _ (some ⟨k10,0,none⟩) (aj ix).length BJ (bl (aj ix)) rfl r10 (iL _) (by simp only[maxLen];omega) (by omega) ?_;intro v11 w11 o11 m11))
       with_reducible refine (mD.out k _ (by omega)).mono ?_
       rintro e w12 ⟨k12,PN,rfl,o12,hk12,hk12',hc12,_⟩;have oY12:=o11.tr o12.nx;have r12:=o12.iy;clear o12 o11 m11 r10 oY10;go_wp2_with (at_builtin;(refine z05 rfl (.tmp 81) (.tmp 84) _ rfl 5 i0 _ 1 1 Tryz.underlying26 hi0 hz0 hz1 hz2 rfl (by omega) rfl oY12 _ (some ⟨k12,0,none⟩) (aj k).length PN (bl (aj k)) rfl r12 (iL _) (by simp only[maxLen];omega) (by omega) ?_;intro v13 w13 o13 m13;have Ho13:=ah (Fin.out v13 w13 o13);clear o13 m13))
       go_roundw
       case rel=>exact ⟨a+k,by omega,by go_num,Ho13.out⟩
       case measure=>simp[intOf];omega
      ·have hor:a+k=l.length∨l.getD (a+k) ByteArray.empty≠l.getD a ByteArray.empty:=.inl (by omega)
       have hx:=mF.out a hlt;have hid:=KZ.out _ hx;rw[Hm.out]at hid;have step:=ZM (all:=all) (l:=l) (at_:=a) (n:=k) (by omega) (by omega) He.out hor;have E:Y++(aj (dB all (l.getD a ByteArray.empty))++aj k++bW all (l.drop (a+k)))=T:=by rw[←step];exact HY.out
       have hlen:=congrArg List.length E;simp only[List.length_append]at hlen;have hp1:=Hpl.out (dB all (l.getD a ByteArray.empty)) (by omega);have hp2:=Hpl.out k (by omega);have hlb:Y.length+(aj (dB all (l.getD a ByteArray.empty))).length+(aj k).length<=100000000:=(by omega);obtain ⟨b,rfl⟩:=hab (by omega);have hbs:=fun q=>z5h _ b m ca all _ (w8.drewN q) (((ra.nx (by decide) oY.nx).drewN q)) Hm.out VA.out hx (by omega);have VE:=ah hbs;have fin:∀v w,ak w2 w 5 1 v (Y.length+(aj (dB all (l.getD a ByteArray.empty))).length+(aj k).length) (bl Y++bl (aj (dB all (l.getD a ByteArray.empty)))++bl (aj k))->bJ w2 w v T (bW all (l.drop (a+k))):=fun v w o=>⟨Y++aj (dB all (l.getD a ByteArray.empty))++aj k,by rw[List.length_append,List.length_append,show bl (Y++aj (dB all (l.getD a ByteArray.empty))++aj k)=bl Y++bl (aj (dB all (l.getD a ByteArray.empty)))++bl (aj k) by simp[bl]];exact o,by rw[←E];simp only[List.append_assoc]⟩;have Fin:=ah fin;clear fin hbs hlen E step hx HY He;generalize dB all (l.getD a ByteArray.empty)=ix at *;have q1:decide ((a:Int)+(k:Int)<(n:Int))=false:=by rw[decide_eq_false_iff_not];omega
       have q2:¬(a:Int)+(k:Int)<(n:Int):=(by omega);clear hor he;generalize l.getD a ByteArray.empty=x at *;go_wp2_with fail;go_quiet (fail)
       go_wp2_with fail;with_reducible refine (VE.out _).mono ?_
       rintro e w9 ⟨⟨okb,rfl⟩,q2,rfl⟩;go_wp2_with fail;with_reducible refine (mD.out ix _ (by omega)).mono ?_
       rintro e w10 ⟨k10,BJ,rfl,o10,hk10,hk10',hc10,_⟩;have oY10:=(oY.tr ((Ch.refl _ w8).drewN _)).tr o10.nx;have r10:=o10.iy;clear o10 VE;go_wp2_with (at_builtin;(refine z05 rfl (.tmp 77) (.tmp 80) _ rfl 5 i0 _ 1 1 Tryz.underlying26 hi0 hz0 hz1 hz2 rfl (by omega) rfl oY10 _ (some ⟨k10,0,none⟩) (aj ix).length BJ (bl (aj ix)) rfl r10 (iL _) (by simp only[maxLen];omega) (by omega) ?_;intro v11 w11 o11 m11))
       with_reducible refine (mD.out k _ (by omega)).mono ?_
       rintro e w12 ⟨k12,PN,rfl,o12,hk12,hk12',hc12,_⟩;have oY12:=o11.tr o12.nx;have r12:=o12.iy;clear o12 o11 m11 r10 oY10;go_wp2_with (at_builtin;(refine z05 rfl (.tmp 81) (.tmp 84) _ rfl 5 i0 _ 1 1 Tryz.underlying26 hi0 hz0 hz1 hz2 rfl (by omega) rfl oY12 _ (some ⟨k12,0,none⟩) (aj k).length PN (bl (aj k)) rfl r12 (iL _) (by simp only[maxLen];omega) (by omega) ?_;intro v13 w13 o13 m13;have Ho13:=ah (Fin.out v13 w13 o13);clear o13 m13))
       go_roundw
       case rel=>exact ⟨a+k,by omega,by go_num,Ho13.out⟩
       case measure=>simp[intOf];omega
    ·obtain rfl:n=a:=by omega
     have e1:bW all (l.drop n)=[]:=(by rw[List.drop_of_length_le (by omega),Rq]);rw[e1,List.append_nil]at eY;subst eY
     have hpos:0<Y.length:=by
      rw[HC.out];have:=(Hpl.out all.length (by rw[Hm.out];omega)).1;simp only[List.length_append];omega
     obtain ⟨g,cap,hv,hg,hgl⟩:=oY.own.form hpos;subst hv;have hcap:=z08 oY.own;obtain ⟨_,_,hv2,hcp,_⟩:=hcap;injection hv2 with hv1 _ hv3;subst hv1 hv3;have nY:=n2.tr oY.nx;have hch:Calls Tryz.prog 165 #[.int .u8 2,.slice (some ⟨g,0,none⟩) Y.length cap] w8 (jQ w8 2 Y):=uU (fun j=>j=g) (some ⟨g,0,none⟩) Y.length cap 2 Y w8 oY.iy (fun j e=>by omega) okC rfl hcp (by omega);have Hch:=ah (hch.mono fun _ _ h=>jQ.later nY h);clear hch e1;go_wp2_with fail;with_reducible refine Hch.out.mono ?_
     rintro e w9 h9;by_cases hs:Y.length<=65536
     ·obtain ⟨k9,xC,rfl,o9,hc9⟩:=h9.1 hs
      go_wp2_with fail;go_ret2;exact ⟨fun _=>⟨k9,xC,rfl,o9,hc9⟩,fun h=>by omega⟩
     ·obtain ⟨rfl,n9⟩:=h9.2 (by omega)
      go_wp2_with fail;go_ret2;exact ⟨fun h=>by omega,fun _=>⟨rfl,n9⟩⟩
theorem Dp:∀{all:List ByteArray},(∀s∈all,s.size<=1024)->(kW all).length<=1034 * all.length:=by
 intro all;induction all with
 |nil=>intro _;simp[kW]
 |cons s all ih=>
  intro h;have h1:=ih fun t ht=>h t (by simp[ht]);have h2:=h s (by simp);have h3:=(z04 (n:=s.size) (by omega)).2;rw[z2b,List.length_append,List.length_append,z09,List.length_cons];omega
theorem Ja (all:List ByteArray) (ha:all.length<=2048):∀(n:Nat) (l:List ByteArray),l.length<=n->n<=2048->(bW all l).length<=20 * l.length:=by
 intro n;induction n with
 |zero=>
  intro l h _;have:l=[]:=List.eq_nil_of_length_eq_zero (by omega);subst this;simp[Rq]
 |succ n ih=>
  intro l h hn;cases l with
  |nil=>simp[Rq]
  |cons x xs=>
   rw[bW];have h1:=wz x xs;have h2:dB all x<=all.length:=List.findIdx_le_length;simp only[List.length_cons]at h;have h3:=(z04 (n:=dB all x) (by omega)).2;have h4:=(z04 (n:=runN x xs+1) (by omega)).2;have h5:=ih (xs.drop (runN x xs)) (by rw[List.length_drop];omega) (by omega);rw[List.length_drop]at h5;simp only[List.length_append,List.length_cons];omega
theorem Dc {l:List ByteArray} (hl:l.length<=2048) (hs:∀s∈l,s.size<=1024):(aQ l).length<=100000000:=by
 have h1:=Iw l;have h2:=Dp (all:=bM l) fun s h=>hs s (yt.1 h);have h3:=Ja (bM l) (by omega) _ l (Nat.le_refl _) hl;have h4:=(z04 (n:=(bM l).length) (by omega)).2;have h5:=(z04 (n:=l.length) (by omega)).2;unfold aQ;simp only[List.length_append];omega
theorem z3V (D:Nat->Prop) (A:Option Addr) (n c:Nat) (l:List ByteArray) (W:World) (hr:Rd W D 1 A n (b_ l)) (hl:l.length=n) (hn:n<=2048) (hs:∀s∈l,s.size<=1024) (hc:n<=c) (hC:(aQ l).length<=65536):
 Calls Tryz.prog 100 #[.slice A n c] W (UW W (ay 2 (aQ l))):=
 (qm D A n c l W hr hl hn hs hc (by omega)).mono fun _ _ h=>h.1 hC
end Go.Proofs.YtpakjclpjcngmaaGreat
