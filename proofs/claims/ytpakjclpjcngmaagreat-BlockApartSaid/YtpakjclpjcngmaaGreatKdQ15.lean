/- Contracts and plain laws that the last text rests on. Conditions: each theorem states its own. -/
import Derived.Test.YtpakjclpjcngmaaGreatKdPdShl
import Derived.Test.YtpakjclpjcngmaaGreatKdPdSeqS
import Derived.Test.YtpakjclpjcngmaaGreatKdQ8
import Derived.Sort.OwnSorted
import Derived.Test.YtpakjclpjcngmaaGreatKdQ14
import Derived.Test.YtpakjclpjcngmaaGreatKdQ9
import Derived.Lib.AppendStr
import Derived.Test.YtpakjclpjcngmaaGreatKdQ7
import Derived.Laws.IdiomStrings
set_option maxRecDepth 100000
set_option maxHeartbeats 16000000
set_option linter.unusedVariables false
namespace Go.Proofs.YtpakjclpjcngmaaGreat
open Go.RowKit Go.Sort Go.Proofs
theorem Ku (zs:List (List UInt8)):zs.map encStr=dM (zs.map fun x=>⟨x.toArray⟩):=by simp[dM,encStr]
theorem Qw (zs:List ByteArray):dM zs=(zs.map fun s=>s.data.toList).map encStr:=by
 unfold dM;rw[List.map_map];apply List.map_congr_left
 intro s _;show Value.string s=Value.string ⟨s.data.toList.toArray⟩
 rw[Jz]
theorem pJ (Bs:Nat) (A:Option Addr) (len cap:Nat) (zs:List ByteArray) (hlen:zs.length=len) (hreach:len<=1000000) (hle:len<=cap) (w:World)
 (hc:w.cell? ⟨Bs,0,none⟩=some (.slice A len cap)) (hrd:Rd w (· <w.heap.size) 1 A len (dM zs)):
 Calls Tryz.prog 42 #[.func (.func 109) #[] #[.pointer (some ⟨Bs,0,none⟩)]] w fun e W'=>∃v,e=.returned v/\ay w W' 9 1 v len ((iE zs).map encStr):=by
 have Hcol:=ah (Ej Bs A len cap zs hlen hreach hle w hc hrd);have hsl:(iE zs).length=len:=by rw[z2m,hlen]
 have hml:(zs.map fun s=>s.data.toList).length=len:=by rw[List.length_map,hlen]
 clear hc hrd;go_enter Tryz.func42,Tryz.ntmps42;go_wp2_with fail;with_reducible refine Hcol.out.mono ?_
 rintro e w1 ⟨v1,rfl,o1⟩;rcases o1.own.2 with ⟨rfl,hz⟩|⟨gb,cap',cur,rfl,hbase,hgb,r1,r2,r3,r4⟩
 ·subst hz
  have h0:zs=[]:=List.eq_nil_of_length_eq_zero hlen;subst h0;go_wp2_with fail;refine (Tryz.slices_Sort_string_none none 0 w1).mono ?_;rintro e w2 ⟨rfl,rfl⟩;go_wp2_with fail;go_ret;exact ⟨_,rfl,by rw[show (iE []).map encStr=dM [] by simp[iE,dM]];exact o1⟩
 ·have hH:Holds encStr w1 gb 0 (zs.map fun s=>s.data.toList).toArray:=holds_of_block hgb (by rw[hml];rw[Qw,Nat.mul_one]at r4;exact r4)
  have hgl:gb<w1.heap.size:=(Array.getElem?_eq_some_iff.1 hgb).1;have cS:=Tryz.slices_Sort_string gb 0 cap' _ w1 hH hgl (by rw[hml];omega);rw[hml]at cS;have HS:=ah cS;clear cS hH
  have fin:∀k os,ay w (grow (putRow encStr (Sort.ahead w1 k) gb 0 (iE zs).toArray) os) 9 1 (.slice (some ⟨gb,0,none⟩) len cap') len ((iE zs).map encStr):=fun k os=>by
   have h1:=ownsRow_sorted (n:=k) (os:=os) (ss:=zs.map fun s=>s.data.toList) (ts:=iE zs) (by rw[hml,hsl]) hbase hgb (by rw[hml];exact r1) r2 r3;rw[hml]at h1;exact ⟨h1,o1.nx.grown (grownBy_sorted _) fun j hj hlt=>by injection hj with hj;omega⟩
  have Fin:=ah fin;clear fin o1 hgb r3 r4;go_wp2_with fail;refine HS.out.mono ?_;rintro e w2 ⟨rfl,k,os,e2⟩;have o2:=Fin.out k os;unfold iE at o2;rw[←e2]at o2;clear e2;go_wp2_with fail;go_ret;exact ⟨_,rfl,o2⟩
def U_ (W:World) (zs:List (List UInt8)) (e:Ending) (w':World):Prop:=
 ∃A c,e=.returned (.slice A (Lib.compact zs).length c)/\Rd w' (fun k=>W.heap.size<=k/\k<w'.heap.size) 1 A (Lib.compact zs).length ((Lib.compact zs).map encStr)/\Nx W w'/\(0<(Lib.compact zs).length->∃b,A=some ⟨b,0,none⟩)/\(Lib.compact zs).length<=c
theorem Ei (W w:World) (v:Value) (n:Nat) (zs:List (List UInt8)) (hl:zs.length=n) (hn:n<=1000000) (o:ay W w 9 1 v n (zs.map encStr)):
 Calls Tryz.prog 41 #[v] w (U_ W zs):=by
 subst hl;rcases o.own.2 with ⟨rfl,hz⟩|⟨gb,cap',cur,rfl,hbase,hgb,r1,r2,r3,r4⟩
 ·have h0:zs=[]:=List.eq_nil_of_length_eq_zero hz
  subst h0;refine (Tryz.slices_Compact_string_empty none 0 w).mono ?_;rintro e w' ⟨rfl,rfl⟩;exact ⟨none,0,rfl,Rd.none_ _ _ _ _,o.nx,by simp[Lib.compact,Lib.compactUpTo],by simp[Lib.compact,Lib.compactUpTo]⟩
 ·have hH:Holds encStr w gb 0 zs.toArray:=holds_of_block hgb (by rw[Nat.mul_one]at r4;exact r4)
  refine (Tryz.slices_Compact_string gb 0 cap' zs w hH (by omega) r1).mono ?_;rintro e w' ⟨rfl,q,rfl⟩;have hle:=Lib.compact_length_le zs;have hgl:gb<w.heap.size:=(Array.getElem?_eq_some_iff.1 hgb).1;have e1:putRow encStr (Sort.ahead w q) gb 0 (Lib.compact zs++List.replicate (zs.length-(Lib.compact zs).length) []).toArray=grow (putRow encStr (Sort.ahead w q) gb 0 (Lib.compact zs++List.replicate (zs.length-(Lib.compact zs).length) []).toArray) #[]:=(grow_empty _).symm;have h1:=ownsRow_sorted (n:=q) (os:= #[]) (ss:=zs) (ts:=Lib.compact zs++List.replicate (zs.length-(Lib.compact zs).length) []) (by simp;omega) hbase hgb r1 r2 r3;have h2:=grownBy_sorted (w:=w) (g:=gb) (n:=q) (os:= #[]) (Lib.compact zs++List.replicate (zs.length-(Lib.compact zs).length) []).toArray;rw[←e1]at h1 h2;generalize putRow encStr (Sort.ahead w q) gb 0 (Lib.compact zs++List.replicate (zs.length-(Lib.compact zs).length) []).toArray=w' at *;have h3:=(Rd.dh h1).take (k:=(Lib.compact zs).length) hle;rw[Nat.mul_one,List.map_append,List.take_left' (by simp)]at h3;exact ⟨some ⟨gb,0,none⟩,cap',rfl,h3.more fun k hk=>⟨hk.2.1,hk.2.2⟩,o.nx.grown h2 (fun j hj hlt=>by injection hj with hj;omega),fun _=>⟨gb,rfl⟩,by omega⟩
theorem z6r (D:Nat->Prop) (b m c:Nat) (all:List ByteArray) (x:ByteArray) (w:World) (hr:Rd w D 1 (some ⟨b,0,none⟩) m (dM all)) (hl:all.length=m) (hrise:all.Pairwise fun a b=>a.data.toList<b.data.toList) (hx:x∈all) (hm:m<=1000000):
 Calls Tryz.prog 168 #[.slice (some ⟨b,0,none⟩) m c,.string x] w fun e w'=>(∃ok,e=.returned (.tuple #[.int .i64 (eF all x:Int),.bool ok]))/\∃q,w'=w.drewN q:=by
 have hlt:=Yn hx
 have hc:∀j,j<m->w.cell? ⟨b,0+j,none⟩=some (.string (all.getD j x)):=fun j hj=>by
  obtain ⟨ad,e,_,hcell⟩:=hr.2 (by omega);injection e with e;subst e;have:=hcell j (.string (all.getD j x)) (by simp[dM,List.getD,show j<all.length by omega]);rw[←this];congr 1
  unfold Addr.add;split
  ·next h=>subst h;rfl
  ·rfl
 refine (Tryz.slices_BinarySearch_string b 0 m c (fun t=>all.getD t x) x w (by omega) hc).mono ?_;rintro e w' ⟨rfl,q,rfl⟩;rw[Lib.bsGo_spec (fun t=>Op.bytesLess (all.getD t x).toList x.toList) (eF all x) (fun t ht=>NP hrise hx t ht) (fun t ht=>Iq hrise hx t ht) m 0 m (by omega) (by omega) (by omega)];exact ⟨⟨_,rfl⟩,q,rfl⟩
end Go.Proofs.YtpakjclpjcngmaaGreat
namespace Go.Proofs.YtpakjclpjcngmaaGreat
open Go.RowKit
def IdxL (l:List ByteArray) (W:World) (e:Ending) (w':World):Prop:=
 ∃r:Int,e=.returned (.int .i64 r)/\W=w'/\(decide (0<=r)=l.any fun s=>decide (1024<s.size))
theorem Qm (s:ByteArray) (w:World):Calls Tryz.prog 216 #[.string s] w fun e w'=>e=.returned (.bool (decide (1024<s.size)))/\w=w':=by
 go_enter Tryz.func216,Tryz.ntmps216;go_wp2_with fail;go_ret;exact ⟨by show Ending.returned (Value.bool (decide ((1024:Int)<(s.size:Int))))=_;rw[decide_eq_decide.2 (show (1024:Int)<(s.size:Int)↔1024<s.size from ⟨fun h=>by omega,fun h=>by omega⟩)],rfl⟩
theorem index_long (D:Nat->Prop) (A:Option Addr) (n c:Nat) (l:List ByteArray) (W:World) (hr:Rd W D 1 A n (dM l)) (hl:l.length=n) (hn:n<=1000000):
 Calls Tryz.prog 264 #[.slice A n c,.func (.func 216) #[] #[]] W (IdxL l W):=by
 subst hl;have hcl:=fun s=>Qm s W;have AL:=ah hcl;clear hcl;go_enter Tryz.func264,Tryz.ntmps264;go_wp2_with fail;go_loop [8] (fun i=>∃k:Nat,k<=l.length/\i=.int .i64 k/\Hid (∀j,j<k->(l.getD j ByteArray.empty).size<=1024)) (fun i=>l.length-(intOf i).toNat)
 case atStart=>exact ⟨0,by omega,rfl,ah (fun j hj=>by omega)⟩
 case round=>
  obtain ⟨k,hk,rfl,He⟩:=hrel;by_cases hlt:k<l.length
  ·obtain ⟨ad,rfl, -,hcell⟩:=hr.2 (by omega)
   have hc0:=hcell _ _ (Yx hlt);have HK:=ah (show l.getD k ByteArray.empty=l.getD k ByteArray.empty from rfl)
   have hany:1024<(l.getD k ByteArray.empty).size->(l.any fun s=>decide (1024<s.size))=true:=fun h=>by
    rw[List.any_eq_true];refine ⟨l[k],List.getElem_mem hlt,?_⟩;have e0:l.getD k ByteArray.empty=l[k]:=by rw[List.getD,List.getElem?_eq_getElem hlt];rfl
    rw[e0]at h;simpa using h
   have abl:=ah hany
   have hnx:(l.getD k ByteArray.empty).size<=1024->Hid (∀j,j<k+1->(l.getD j ByteArray.empty).size<=1024):=fun h=>ah fun j hj=>by
    by_cases e:j=k
    ·subst e;exact h
    ·exact He.out j (by omega)
   have Vu:=ah hnx;clear hcell hany hnx HK;generalize l.getD k ByteArray.empty=s at *;by_cases hs:1024<s.size
   ·have hd:decide (1024<s.size)=true:=decide_eq_true hs
    have hfin:=abl.out hs;have fG:=ah hfin;have hcall:=AL.out s;rw[hd]at hcall;have jP:=ah hcall;clear hfin abl Vu hcall;go_wp2_with fail;refine jP.out.mono ?_;rintro e w1 ⟨rfl,rfl⟩;go_wp2_with fail;go_ret;exact ⟨_,rfl,rfl,by rw[fG.out];simp⟩
   ·have hd:decide (1024<s.size)=false:=decide_eq_false hs
    have hnx:=Vu.out (by omega);have hcall:=AL.out s;rw[hd]at hcall;have jP:=ah hcall;clear abl Vu hcall;go_wp2_with fail;refine jP.out.mono ?_;rintro e w1 ⟨rfl,rfl⟩;go_wp2_with fail;go_round
    case rel=>exact ⟨k+1,by omega,by go_num,hnx⟩
    case measure=>simp[intOf];omega
  ·obtain rfl:k=l.length:=by omega
   have hno:(l.any fun s=>decide (1024<s.size))=false:=by
    rw[List.any_eq_false];intro s hs;obtain ⟨j,hj,rfl⟩:=List.mem_iff_getElem.1 hs;have:=He.out j hj;rw[List.getD,List.getElem?_eq_getElem hj]at this;simpa using this
   have Hno:=ah hno;clear hno;go_wp2_with fail;go_ret;exact ⟨_,rfl,rfl,by rw[Hno.out];simp⟩
theorem uh (D:Nat->Prop) (A:Option Addr) (n c:Nat) (l:List ByteArray) (W:World) (hr:Rd W D 1 A n (dM l)) (hl:l.length=n) (hn:n<=1000000):
 Calls Tryz.prog 215 #[.slice A n c,.func (.func 216) #[] #[]] W fun e w'=>e=.returned (.bool (l.any fun s=>decide (1024<s.size)))/\W=w':=by
 have Hi:=ah (index_long D A n c l W hr hl hn);clear hr;go_enter Tryz.func215,Tryz.ntmps215;go_wp2_with fail;with_reducible refine Hi.out.mono ?_
 rintro e w1 ⟨r,rfl,rfl,hd⟩;have Hd:=ah hd;clear hd;go_wp2_with fail;go_ret;rw[←Hd.out];exact ⟨rfl,rfl⟩
theorem z2T (D:Nat->Prop) (A:Option Addr) (n c:Nat) (l:List ByteArray) (W:World) (hr:Rd W D 1 A n (dM l)) (hl:l.length=n) (hn:n<=2048):
 Calls Tryz.prog 167 #[.slice A n c] W fun e w'=>e=.returned (.bool (l.any fun s=>decide (1024<s.size)))/\W=w':=by
 have Hi:=ah (uh D A n c l W hr hl (by omega));clear hr;have q1:decide ((2048:Int)<(n:Int))=false:=by rw[decide_eq_false_iff_not];omega
 generalize (l.any fun s=>decide (1024<s.size))=bb at *;go_enter Tryz.func167,Tryz.ntmps167;go_wp2_with fail;refine Hi.out.mono ?_;rintro e w1 ⟨rfl,rfl⟩;go_wp2_with fail;go_ret;exact ⟨rfl,rfl⟩
theorem z5C (s:ByteArray):Lib.strCells s=bl (kK s):=by
 unfold Lib.strCells bl kK;rw[List.map_map];rfl
theorem nP (a b:ByteArray):(a.toList==b.toList)=decide (a=b):=by
 rw[Bool.eq_iff_iff,beq_iff_eq,decide_eq_true_iff];constructor
 ·intro h
  rw[ByteArray.toList_eq,ByteArray.toList_eq]at h;cases a;cases b
  simpa [Array.ext_iff]using congrArg List.toArray h
 ·rintro rfl;rfl
theorem z5t {P:Program} {ops:Array Oper} {rest:List Oper} {o:Oper} {a:Act} {Q:Exit->Act->World->Prop} (hgd:o.guard=none) (sl x:Operand) (t u:TypeId)
 (ho:o.op=.call { callee:=.builtin .append,args:= #[sl,x],argTypes:= #[t,u]})
 (e:TypeId) (i:TypeInfo) (ht:P.underlying t=some (.slice e)) (hu:P.underlying u=some .string) (hi:P.info? e=some i) (hz:i.zero=some (.int .u8 0))
 (hsize:i.size=1) (hby:i.bytes=1)
 {W w:World} {v:Value} {n:Nat} {xs:List Nat} (hs:a.eval sl=v) (hown:ay W w e 1 v n (bl xs)) (s:ByteArray) (hx:a.eval x=.string s)
 (h63:n+s.size<=maxLen) (hbytes:n+s.size<=140737488355328)
 (h:∀v' w',ay W w' e 1 v' (n+s.size) (bl (xs++kK s))->wpList P ops Q rest (a.put o.dst v') w'):wpList P ops Q (o::rest) a w:=
 Lib.wpList_append_own_string w hgd sl x t u ho W.heap.size e i ht hu hi hz hsize hby v n (bl xs) hs hown.own s hx h63 hbytes hown.nx.size fun v' w' h2 h3 h4=>
  h v' w' ⟨by rw[show bl (xs++kK s)=bl xs++bl (kK s) by simp[bl],←z5C];exact h2,hown.nx.grown h3 fun k hk hlt=>by have:=hown.lt k hk;omega⟩
def eU (w0 w:World) (v:Value) (T rest:List Nat):Prop:=∃X,ay w0 w 5 1 v X.length (bl X)/\X++rest=T
theorem eU.len {w0 w:World} {v:Value} {T rest:List Nat} (h:eU w0 w v T rest):∃X,ay w0 w 5 1 v X.length (bl X)/\X++rest=T/\X.length+rest.length=T.length:=by
 obtain ⟨X,o,e⟩:=h;exact ⟨X,o,e,by rw[←e,List.length_append]⟩
def kG (W:World) (kind:Nat) (xs:List Nat) (e:Ending) (w':World):Prop:=
 (xs.length<=65536->VB W (aA kind xs) e w')/\(65536<xs.length->e=.returned (.tuple #[.slice none 0 0,.int .i64 5])/\Nx W w')
theorem kG.later {W w w':World} {kind:Nat} {xs:List Nat} {e:Ending} (n:Nx W w) (h:kG w kind xs e w'):kG W kind xs e w':=by
 refine ⟨fun hl=>?_,fun hl=>?_⟩
 ·obtain ⟨k,cap,he,o,hc⟩:=h.1 hl
  exact ⟨k,cap,he,⟨kX o.own n.size,n.tr o.nx⟩,hc⟩
 ·exact ⟨(h.2 hl).1,n.tr (h.2 hl).2⟩
theorem wZ (D:Nat->Prop) (A:Option Addr) (n c kind:Nat) (xs:List Nat) (W:World) (hr:Rd W D 1 A n (bl xs)) (iJ:∀k,D k->k<W.heap.size) (ok:okB xs) (hl:xs.length=n) (hc:n<=c) (hk:kind<256):
 Calls Tryz.prog 165 #[.int .u8 (kind:Int),.slice A n c] W (kG W kind xs):=by
 by_cases h:n<=65536
 ·exact (z6i D A n c kind xs W hr iJ ok hl hc h hk).mono fun _ _ h2=>⟨fun _=>h2,fun h3=>by omega⟩
 ·exact (qV A n c kind W (by omega)).mono fun _ _ h2=>⟨fun h3=>by omega,fun _=>h2⟩
theorem z3J (D:Nat->Prop) (A:Option Addr) (n c:Nat) (l:List ByteArray) (W:World) (hr:Rd W D 1 A n (dM l)) (hl:l.length=n) (hn:n<=2048) (hs:∀s∈l,s.size<=1024) (hc:n<=c) (hC:(bC l).length<=100000000):
 Calls Tryz.prog 100 #[.slice A n c] W (kG W 2 (bC l)):=by
 obtain ⟨i0,hi0,hz0,hz1,hz2⟩:=info_parts Tryz.info5;have htl:=z2T D A n c l W hr hl hn
 have hno:(l.any fun s=>decide (1024<s.size))=false:=by
  rw[List.any_eq_false];intro s h;have:=hs s h;simpa using this
 rw[hno]at htl;have zY:=ah htl;have hrb:=hr.below_ (by decide);have okC:=z32 (by omega) hs;have Tz:bC l=ak (bW l).length++z18 (bW l)++ak l.length++dB (bW l) l:=rfl
 have hsz:∀k,k<(bW l).length->((bW l).getD k ByteArray.empty).size<=1024:=fun k hk=>by
  rw[List.getD,List.getElem?_eq_getElem hk];exact hs _ (z14.1 (List.getElem_mem hk))
 have DK:=Qb l
 have hmem:∀k,k<n->l.getD k ByteArray.empty∈bW l:=fun k hk=>by
  rw[List.getD,List.getElem?_eq_getElem (by omega)];exact z14.2 (List.getElem_mem _)
 have hrise:=z6w l;have KZ:(rD l).map Go.Proofs.encStr=dM (bW l):=by rw[Ku];rfl
 have hallL:(rD l).length=(bW l).length:=by simp[bW]
 have hcmp:∀w v,ay W w 9 1 v n ((iE l).map Go.Proofs.encStr)->Calls Tryz.prog 41 #[v] w fun e w'=>
  ∃A c,e=.returned (.slice A (bW l).length c)/\Rd w' (fun k=>W.heap.size<=k/\k<w'.heap.size) 1 A (bW l).length (dM (bW l))/\Nx W w'/\(0<(bW l).length->∃b,A=some ⟨b,0,none⟩)/\(bW l).length<=c:=fun w v o=>by
  have:=Ei W w v n (iE l) (by rw[z2m,hl]) (by omega) o;unfold U_ at this;have e1:Lib.compact (iE l)=rD l:=rfl;rw[e1,hallL,KZ]at this;exact this
 have jr:=ah hcmp;have UO:=ah hmem;have YX:=ah hrise;have HC:=ah Tz;have PN:=ah hsz;have hidx:∀x,x∈bW l->eF (bW l) x<(bW l).length:=fun x hx=>Yn hx;have aeT:=ah hidx;generalize bW l=all at *;clear htl hcmp hmem hrise Tz hsz KZ hallL hno hidx hs;have hpu:=fun (v:Nat) (w:World) (hv:v<18446744073709551616)=>Yv v w hv;have EY:=ah hpu;clear hpu;have kE:∀v,v<18446744073709551616->1<=(ak v).length/\(ak v).length<=10:=fun v hv=>z05 hv;have Hpl:=ah kE;clear kE;generalize bC l=T at *;go_enter Tryz.func100,Tryz.ntmps100;go_wp2_with fail;with_reducible refine zY.out.mono ?_
 rintro e w1 ⟨rfl,rfl⟩;go_wp2_with fail;with_reducible refine (oK A n c _).mono ?_
 rintro e w1 ⟨rfl,rfl⟩;have hb0:(W.alloc (.cells #[.slice A n c] 80)).cell? ⟨W.heap.size,0,none⟩=some (.slice A n c):=(aJ.new W 80 #[.slice A n c]).cell 0;have hn0:Nx W (W.alloc (.cells #[.slice A n c] 80)):=(Ch.refl _ W).alloc _;have hr0:=(hrb.nx (by decide) hn0).below_ (by decide);have Hso:=ah (pJ W.heap.size A n c l hl (by omega) hc _ hb0 hr0);clear hb0 hr0;go_wp2_with fail;with_reducible refine Hso.out.mono ?_
 rintro e w1 ⟨v1,rfl,o1⟩;have hcall:=jr.out w1 v1 ⟨kX o1.own hn0.size,hn0.tr o1.nx⟩;clear o1 hn0 Hso;go_wp2_with fail;with_reducible refine hcall.mono ?_
 rintro e w2 ⟨Aa,ca,rfl,ra,n2,hab,hca⟩;have hr2:=hr.nx (by decide) n2;obtain ⟨m,hm⟩:∃m,all.length=m:=⟨_,rfl⟩;rw[hm]at ra hab hca;have Hm:=ah hm;have hmn:m<=n:=by omega
 clear hcall hm;rw[Hm.out];clear DK;have hcall:=EY.out m w2 (by omega);go_wp2_with fail;with_reducible refine hcall.mono ?_
 rintro e w3 ⟨k3,cap3,rfl,o3,hk3,hk3',hc3,_⟩;have hO:eU w2 w3 (.slice (some ⟨k3,0,none⟩) (ak m).length cap3) T (z18 (all.drop 0)++(ak l.length++dB all l)):=⟨ak m,o3,by rw[HC.out,Hm.out,List.drop_zero];simp only[List.append_assoc]⟩;have HO:=ah hO;clear hO o3 hcall;go_wp2_with fail;go_loopw [5,24] (fun v i wr=>∃k:Nat,k<=m/\i=.int .i64 (k:Int)/\eU w2 wr v T (z18 (all.drop k)++(ak l.length++dB all l))) (fun _ i _=>m-(intOf i).toNat)
 case atStart=>exact ⟨0,Nat.zero_le _,rfl,HO.out⟩
 case round=>
  clear HO;obtain ⟨w4,rfl⟩:∃w4:World,w4=wr:=⟨_,rfl⟩;obtain ⟨k,hk,rfl,hout⟩:=hrel;obtain ⟨X,oX,eX,lX⟩:=hout.len;by_cases hlt:k<m
  ·have e1:=z5y (all:=all) (k:=k) (by rw[Hm.out];exact hlt)
   have hs1:=PN.out k (by rw[Hm.out];exact hlt);obtain ⟨ad,rfl,_,hcell⟩:=(ra.nx (by decide) oX.nx).2 (by omega);have hc0:=hcell k _ (Yx (by rw[Hm.out];exact hlt));rw[e1]at eX;have E:=ah eX;have hlen:=congrArg List.length eX;simp only[List.length_append,rY]at hlen;clear hcell e1 eX hout lX;generalize all.getD k ByteArray.empty=s at *;have hp:=Hpl.out s.size (by omega);have hcall:=EY.out s.size w4 (by omega);have hlb:X.length+(ak s.size).length+s.size<=100000000:=(by omega);clear hlen;go_wp2_with fail;with_reducible refine hcall.mono ?_
   rintro e w5 ⟨k5,cap5,rfl,o5,hk5,hk5',hc5,_⟩;have oX5:=oX.tr o5.nx;have r5:=o5.jZ;clear o5 oX hcall;have fin:∀v w,ay w2 w 5 1 v ((X++ak s.size).length+s.size) (bl (X++ak s.size++kK s))->eU w2 w v T (z18 (all.drop (k+1))++(ak l.length++dB all l)):=fun v w o=>⟨X++ak s.size++kK s,by rw[List.length_append,rY];exact o,by rw[←E.out];simp only[List.append_assoc]⟩;have Fin:=ah fin;clear fin E
   go_wp2_with (at_builtin;first
    |(refine z07 rfl (.tmp 28) (.tmp 32) _ rfl 5 i0 _ 1 1 Tryz.underlying26 hi0 hz0 hz1 hz2 rfl (by omega) rfl oX5 _ (some ⟨k5,0,none⟩) (ak s.size).length cap5 (bl (ak s.size)) rfl r5 (kR _) (by simp only[maxLen];omega) (by omega) ?_;intro v7 w7 o7 m7;rw[←List.length_append,show bl X++bl (ak s.size)=bl (X++ak s.size) by simp[bl]]at o7)
    |(refine z5t rfl (.tmp 33) (.tmp 34) _ 9 rfl 5 i0 Tryz.underlying26 Tryz.underlying9 hi0 hz0 hz1 hz2 rfl o7 s rfl (by rw[List.length_append];simp only[maxLen];omega) (by rw[List.length_append];omega) ?_;intro v8 w8 o8;have Ho8:=ah (Fin.out v8 w8 o8);clear o8))
   go_roundw
   case rel=>exact ⟨k+1,by omega,by go_num,Ho8.out⟩
   case measure=>simp[intOf];omega
  ·obtain rfl:m=k:=by omega
   have e1:z18 (all.drop m)=[]:=by
    rw[List.drop_of_length_le (by rw[Hm.out];omega)];rfl
   rw[e1,List.nil_append]at eX;have E:=ah eX;have hlen:=congrArg List.length eX;simp only[List.length_append]at hlen;have hp:=Hpl.out l.length (by omega);have hlb:X.length+(ak l.length).length<=100000000:=(by omega);clear hlen e1 eX hout lX;have hcall:=EY.out l.length w4 (by omega);rw[hl]at hcall hp hlb;go_wp2_with fail;with_reducible refine hcall.mono ?_
   rintro e w5 ⟨k5,cap5,rfl,o5,hk5,hk5',hc5,_⟩;have oX5:=oX.tr o5.nx;have r5:=o5.jZ;clear o5 oX hcall;have fin:∀v w,ay w2 w 5 1 v (X.length+(ak n).length) (bl X++bl (ak n))->eU w2 w v T (dB all (l.drop 0)):=fun v w o=>⟨X++ak n,by rw[List.length_append,show bl (X++ak n)=bl X++bl (ak n) by simp[bl]];exact o,by rw[←E.out,List.drop_zero,hl];simp only[List.append_assoc]⟩;have Fin:=ah fin;clear fin E;go_wp2_with (at_builtin;(refine z07 rfl (.tmp 37) (.tmp 41) _ rfl 5 i0 _ 1 1 Tryz.underlying26 hi0 hz0 hz1 hz2 rfl (by omega) rfl oX5 _ (some ⟨k5,0,none⟩) (ak n).length cap5 (bl (ak n)) rfl r5 (kR _) (by simp only[maxLen];omega) (by omega) ?_;intro v7 w7 o7 m7;have Ho7:=ah (Fin.out v7 w7 o7);clear o7 m7))
   clear Fin r5 oX5 hp hlb;go_loopw [5,8] (fun v i wr=>∃a:Nat,a<=n/\i=.int .i64 (a:Int)/\eU w2 wr v T (dB all (l.drop a))) (fun _ i _=>n-(intOf i).toNat)
   case atStart=>exact ⟨0,Nat.zero_le _,rfl,Ho7.out⟩
   case round=>
    clear Ho7;obtain ⟨w8,rfl⟩:∃w8:World,w8=wr:=⟨_,rfl⟩;obtain ⟨a,ha,rfl,hout⟩:=hrel;obtain ⟨Y,oY,eY,lY⟩:=hout.len;by_cases hlt:a<n
    ·have hrl:=hr2.nx (by decide) oY.nx
     obtain ⟨ad,rfl,_,hcell⟩:=hrl.2 (by omega);have HY:=ah eY;have Hlc:=ah (fun j (hj:j<n)=>hcell j _ (Yx (by omega)));have c0:w8.cell? (ad.add a)=some (.string (l.getD a ByteArray.empty)):=Hlc.out a hlt;clear hcell eY hout hrl lY;go_wp2_with fail;go_loopw [9] (fun j wr=>∃k q:Nat,1<=k/\a+k<=n/\j=.int .i64 (k:Int)/\wr=w8.drewN q/\Hid (∀i,i<k->l.getD (a+i) ByteArray.empty=l.getD a ByteArray.empty)) (fun j _=>n-(intOf j).toNat)
     case atStart=>exact ⟨1,0,by omega,by omega,rfl,rfl,ah (fun i hi=>by rw[show i=0 by omega];rfl)⟩
     case round=>
      obtain ⟨k,q,hk1,hk2,rfl,rfl,He⟩:=hrel;have kw:IntKind.i64.wrap ((a:Int)+(k:Int))=(a:Int)+(k:Int):=IntWalk.i64_in _ (by omega);have b4:((a:Int)+(k:Int)).toNat=a+k:=(by omega);have b5:(0:Int)<=(a:Int)+(k:Int):=by omega
      have key:(a+k<n/\l.getD (a+k) ByteArray.empty=l.getD a ByteArray.empty)∨(a+k<n/\l.getD (a+k) ByteArray.empty≠l.getD a ByteArray.empty)∨a+k=n:=by
       by_cases h1:a+k<n
       ·by_cases h2:l.getD (a+k) ByteArray.empty=l.getD a ByteArray.empty
        ·exact .inl ⟨h1,h2⟩
        ·exact .inr (.inl ⟨h1,h2⟩)
       ·exact .inr (.inr (by omega))
      rcases key with ⟨hlt2,he⟩|⟨hlt2,he⟩|he
      ·have q1:decide ((a:Int)+(k:Int)<(n:Int))=true:=by rw[decide_eq_true_iff];omega
       have q2:(a:Int)+(k:Int)<(n:Int):=(by omega);have ck:=Hlc.out (a+k) hlt2
       have hn2:Hid (∀i,i<k+1->l.getD (a+i) ByteArray.empty=l.getD a ByteArray.empty):=ah fun i hi=>by
        by_cases e:i=k
        ·subst e;exact he
        ·exact He.out i (by omega)
       rw[he]at ck;have hq:((l.getD a ByteArray.empty).toList==(l.getD a ByteArray.empty).toList)=true:=(by simp);clear he He;generalize l.getD a ByteArray.empty=x at *;go_wp2_with fail;go_quiet (fail)
       go_wp2_with fail;go_roundw
       case rel=>exact ⟨k+1,_,by omega,by omega,by go_num,rfl,hn2⟩
       case measure=>simp[intOf];omega
      ·have hor:a+k=l.length∨l.getD (a+k) ByteArray.empty≠l.getD a ByteArray.empty:=.inr he
       have hx:=UO.out a hlt;have hid:=aeT.out _ hx;rw[Hm.out]at hid;have step:=z4w (all:=all) (l:=l) (at_:=a) (n:=k) (by omega) (by omega) He.out hor;have E:Y++(ak (eF all (l.getD a ByteArray.empty))++ak k++dB all (l.drop (a+k)))=T:=by rw[←step];exact HY.out
       have hlen:=congrArg List.length E;simp only[List.length_append]at hlen;have hp1:=Hpl.out (eF all (l.getD a ByteArray.empty)) (by omega);have hp2:=Hpl.out k (by omega);have hlb:Y.length+(ak (eF all (l.getD a ByteArray.empty))).length+(ak k).length<=100000000:=(by omega);obtain ⟨b,rfl⟩:=hab (by omega);have hbs:=fun q=>z6r _ b m ca all _ (w8.drewN q) (((ra.nx (by decide) oY.nx).drewN q)) Hm.out YX.out hx (by omega);have Za:=ah hbs;have fin:∀v w,ay w2 w 5 1 v (Y.length+(ak (eF all (l.getD a ByteArray.empty))).length+(ak k).length) (bl Y++bl (ak (eF all (l.getD a ByteArray.empty)))++bl (ak k))->eU w2 w v T (dB all (l.drop (a+k))):=fun v w o=>⟨Y++ak (eF all (l.getD a ByteArray.empty))++ak k,by rw[List.length_append,List.length_append,show bl (Y++ak (eF all (l.getD a ByteArray.empty))++ak k)=bl Y++bl (ak (eF all (l.getD a ByteArray.empty)))++bl (ak k) by simp[bl]];exact o,by rw[←E];simp only[List.append_assoc]⟩;have Fin:=ah fin;clear fin hbs hlen E step hx HY He;generalize eF all (l.getD a ByteArray.empty)=ix at *;have q1:decide ((a:Int)+(k:Int)<(n:Int))=true:=by rw[decide_eq_true_iff];omega
       have q2:(a:Int)+(k:Int)<(n:Int):=(by omega);have ck:=Hlc.out (a+k) hlt2;have hq:((l.getD (a+k) ByteArray.empty).toList==(l.getD a ByteArray.empty).toList)=false:=by rw[nP];exact decide_eq_false he
       clear hor he;generalize l.getD (a+k) ByteArray.empty=y at *;generalize l.getD a ByteArray.empty=x at *;go_wp2_with fail;go_quiet (fail)
       go_wp2_with fail;with_reducible refine (Za.out _).mono ?_
       rintro e w9 ⟨⟨okb,rfl⟩,q2,rfl⟩;go_wp2_with fail;with_reducible refine (EY.out ix _ (by omega)).mono ?_
       rintro e w10 ⟨k10,Uo,rfl,o10,hk10,hk10',hc10,_⟩;have oY10:=(oY.tr ((Ch.refl _ w8).drewN _)).tr o10.nx;have r10:=o10.jZ;clear o10 Za;go_wp2_with (at_builtin;(refine z07 rfl (.tmp 77) (.tmp 80) _ rfl 5 i0 _ 1 1 Tryz.underlying26 hi0 hz0 hz1 hz2 rfl (by omega) rfl oY10 _ (some ⟨k10,0,none⟩) (ak ix).length Uo (bl (ak ix)) rfl r10 (kR _) (by simp only[maxLen];omega) (by omega) ?_;intro v11 w11 o11 m11))
       with_reducible refine (EY.out k _ (by omega)).mono ?_
       rintro e w12 ⟨k12,Un,rfl,o12,hk12,hk12',hc12,_⟩;have oY12:=o11.tr o12.nx;have r12:=o12.jZ;clear o12 o11 m11 r10 oY10;go_wp2_with (at_builtin;(refine z07 rfl (.tmp 81) (.tmp 84) _ rfl 5 i0 _ 1 1 Tryz.underlying26 hi0 hz0 hz1 hz2 rfl (by omega) rfl oY12 _ (some ⟨k12,0,none⟩) (ak k).length Un (bl (ak k)) rfl r12 (kR _) (by simp only[maxLen];omega) (by omega) ?_;intro v13 w13 o13 m13;have Ho13:=ah (Fin.out v13 w13 o13);clear o13 m13))
       go_roundw
       case rel=>exact ⟨a+k,by omega,by go_num,Ho13.out⟩
       case measure=>simp[intOf];omega
      ·have hor:a+k=l.length∨l.getD (a+k) ByteArray.empty≠l.getD a ByteArray.empty:=.inl (by omega)
       have hx:=UO.out a hlt;have hid:=aeT.out _ hx;rw[Hm.out]at hid;have step:=z4w (all:=all) (l:=l) (at_:=a) (n:=k) (by omega) (by omega) He.out hor;have E:Y++(ak (eF all (l.getD a ByteArray.empty))++ak k++dB all (l.drop (a+k)))=T:=by rw[←step];exact HY.out
       have hlen:=congrArg List.length E;simp only[List.length_append]at hlen;have hp1:=Hpl.out (eF all (l.getD a ByteArray.empty)) (by omega);have hp2:=Hpl.out k (by omega);have hlb:Y.length+(ak (eF all (l.getD a ByteArray.empty))).length+(ak k).length<=100000000:=(by omega);obtain ⟨b,rfl⟩:=hab (by omega);have hbs:=fun q=>z6r _ b m ca all _ (w8.drewN q) (((ra.nx (by decide) oY.nx).drewN q)) Hm.out YX.out hx (by omega);have Za:=ah hbs;have fin:∀v w,ay w2 w 5 1 v (Y.length+(ak (eF all (l.getD a ByteArray.empty))).length+(ak k).length) (bl Y++bl (ak (eF all (l.getD a ByteArray.empty)))++bl (ak k))->eU w2 w v T (dB all (l.drop (a+k))):=fun v w o=>⟨Y++ak (eF all (l.getD a ByteArray.empty))++ak k,by rw[List.length_append,List.length_append,show bl (Y++ak (eF all (l.getD a ByteArray.empty))++ak k)=bl Y++bl (ak (eF all (l.getD a ByteArray.empty)))++bl (ak k) by simp[bl]];exact o,by rw[←E];simp only[List.append_assoc]⟩;have Fin:=ah fin;clear fin hbs hlen E step hx HY He;generalize eF all (l.getD a ByteArray.empty)=ix at *;have q1:decide ((a:Int)+(k:Int)<(n:Int))=false:=by rw[decide_eq_false_iff_not];omega
       have q2:¬(a:Int)+(k:Int)<(n:Int):=(by omega);clear hor he;generalize l.getD a ByteArray.empty=x at *;go_wp2_with fail;go_quiet (fail)
       go_wp2_with fail;with_reducible refine (Za.out _).mono ?_
       rintro e w9 ⟨⟨okb,rfl⟩,q2,rfl⟩;go_wp2_with fail;with_reducible refine (EY.out ix _ (by omega)).mono ?_
       rintro e w10 ⟨k10,Uo,rfl,o10,hk10,hk10',hc10,_⟩;have oY10:=(oY.tr ((Ch.refl _ w8).drewN _)).tr o10.nx;have r10:=o10.jZ;clear o10 Za;go_wp2_with (at_builtin;(refine z07 rfl (.tmp 77) (.tmp 80) _ rfl 5 i0 _ 1 1 Tryz.underlying26 hi0 hz0 hz1 hz2 rfl (by omega) rfl oY10 _ (some ⟨k10,0,none⟩) (ak ix).length Uo (bl (ak ix)) rfl r10 (kR _) (by simp only[maxLen];omega) (by omega) ?_;intro v11 w11 o11 m11))
       with_reducible refine (EY.out k _ (by omega)).mono ?_
       rintro e w12 ⟨k12,Un,rfl,o12,hk12,hk12',hc12,_⟩;have oY12:=o11.tr o12.nx;have r12:=o12.jZ;clear o12 o11 m11 r10 oY10;go_wp2_with (at_builtin;(refine z07 rfl (.tmp 81) (.tmp 84) _ rfl 5 i0 _ 1 1 Tryz.underlying26 hi0 hz0 hz1 hz2 rfl (by omega) rfl oY12 _ (some ⟨k12,0,none⟩) (ak k).length Un (bl (ak k)) rfl r12 (kR _) (by simp only[maxLen];omega) (by omega) ?_;intro v13 w13 o13 m13;have Ho13:=ah (Fin.out v13 w13 o13);clear o13 m13))
       go_roundw
       case rel=>exact ⟨a+k,by omega,by go_num,Ho13.out⟩
       case measure=>simp[intOf];omega
    ·obtain rfl:n=a:=by omega
     have e1:dB all (l.drop n)=[]:=(by rw[List.drop_of_length_le (by omega),Yw]);rw[e1,List.append_nil]at eY;subst eY
     have hpos:0<Y.length:=by
      rw[HC.out];have:=(Hpl.out all.length (by rw[Hm.out];omega)).1;simp only[List.length_append];omega
     obtain ⟨g,cap,hv,hg,hgl⟩:=oY.own.form hpos;subst hv;have hcap:=z04 oY.own;obtain ⟨_,_,hv2,hcp,_⟩:=hcap;injection hv2 with hv1 _ hv3;subst hv1 hv3;have nY:=n2.tr oY.nx;have hch:Calls Tryz.prog 165 #[.int .u8 2,.slice (some ⟨g,0,none⟩) Y.length cap] w8 (kG w8 2 Y):=wZ (fun j=>j=g) (some ⟨g,0,none⟩) Y.length cap 2 Y w8 oY.jZ (fun j e=>by omega) okC rfl hcp (by omega);have Hch:=ah (hch.mono fun _ _ h=>kG.later nY h);clear hch e1;go_wp2_with fail;with_reducible refine Hch.out.mono ?_
     rintro e w9 h9;by_cases hs:Y.length<=65536
     ·obtain ⟨k9,Um,rfl,o9,hc9⟩:=h9.1 hs
      go_wp2_with fail;go_ret2;exact ⟨fun _=>⟨k9,Um,rfl,o9,hc9⟩,fun h=>by omega⟩
     ·obtain ⟨rfl,n9⟩:=h9.2 (by omega)
      go_wp2_with fail;go_ret2;exact ⟨fun h=>by omega,fun _=>⟨rfl,n9⟩⟩
theorem FP:∀{all:List ByteArray},(∀s∈all,s.size<=1024)->(z18 all).length<=1034 * all.length:=by
 intro all;induction all with
 |nil=>intro _;simp[z18]
 |cons s all ih=>
  intro h;have h1:=ih fun t ht=>h t (by simp[ht]);have h2:=h s (by simp);have h3:=(z05 (n:=s.size) (by omega)).2;rw[z1E,List.length_append,List.length_append,rY,List.length_cons];omega
theorem MP (all:List ByteArray) (ha:all.length<=2048):∀(n:Nat) (l:List ByteArray),l.length<=n->n<=2048->(dB all l).length<=20 * l.length:=by
 intro n;induction n with
 |zero=>
  intro l h _;have:l=[]:=List.eq_nil_of_length_eq_zero (by omega);subst this;simp[Yw]
 |succ n ih=>
  intro l h hn;cases l with
  |nil=>simp[Yw]
  |cons x xs=>
   rw[dB];have h1:=z5N x xs;have h2:eF all x<=all.length:=List.findIdx_le_length;simp only[List.length_cons]at h;have h3:=(z05 (n:=eF all x) (by omega)).2;have h4:=(z05 (n:=runN x xs+1) (by omega)).2;have h5:=ih (xs.drop (runN x xs)) (by rw[List.length_drop];omega) (by omega);rw[List.length_drop]at h5;simp only[List.length_append,List.length_cons];omega
theorem Fq {l:List ByteArray} (hl:l.length<=2048) (hs:∀s∈l,s.size<=1024):(bC l).length<=100000000:=by
 have h1:=Qb l;have h2:=FP (all:=bW l) fun s h=>hs s (z14.1 h);have h3:=MP (bW l) (by omega) _ l (Nat.le_refl _) hl;have h4:=(z05 (n:=(bW l).length) (by omega)).2;have h5:=(z05 (n:=l.length) (by omega)).2;unfold bC;simp only[List.length_append];omega
theorem z4X (D:Nat->Prop) (A:Option Addr) (n c:Nat) (l:List ByteArray) (W:World) (hr:Rd W D 1 A n (dM l)) (hl:l.length=n) (hn:n<=2048) (hs:∀s∈l,s.size<=1024) (hc:n<=c) (hC:(bC l).length<=65536):
 Calls Tryz.prog 100 #[.slice A n c] W (VB W (aA 2 (bC l))):=
 (z3J D A n c l W hr hl hn hs hc (by omega)).mono fun _ _ h=>h.1 hC
theorem z57 (D:Nat->Prop) (A:Option Addr) (n c:Nat) (l:List ByteArray) (W:World) (hr:Rd W D 1 A n (dM l)) (hl:l.length=n) (hn:n<=2048) (hs:¬∀s∈l,s.size<=1024):
 Calls Tryz.prog 100 #[.slice A n c] W fun e w'=>e=.returned (.tuple #[.slice none 0 0,.int .i64 5])/\Nx W w':=by
 have htl:=z2T D A n c l W hr hl hn
 have hyes:(l.any fun s=>decide (1024<s.size))=true:=by
  rw[List.any_eq_true];apply Classical.byContradiction
  intro h;refine hs fun s hm=>Classical.byContradiction fun h2=>h ⟨s,hm,?_⟩;rw[decide_eq_true_iff];omega
 rw[hyes]at htl;have zY:=ah htl;clear htl hr hs hl;go_enter Tryz.func100,Tryz.ntmps100;go_wp2_with fail;with_reducible refine zY.out.mono ?_
 rintro e w1 ⟨rfl,rfl⟩;go_wp2_with fail;go_ret2;exact ⟨rfl,Ch.refl _ _⟩
end Go.Proofs.YtpakjclpjcngmaaGreat
namespace Go.Proofs.YtpakjclpjcngmaaGreat
open Go.Lib
theorem zS {t:List Nat} (ok:okB t) (cap j:Nat) (u:Value) (h:(bl t)[j]?=some u):(bytesRow (aX t) cap).toList[j]?=some u:=by
 have hj:j<t.length:=by
  have:=(List.getElem?_eq_some_iff.1 h).1;simpa [bl]using this
 have e:(bytesRow (aX t) cap).toList=bl t++List.replicate (cap-(aX t).size) (.int .u8 0):=by
  unfold bytesRow bl aX;simp only[Array.toList_append,Array.toList_map,Array.toList_replicate,List.map_map];congr 1
  apply List.map_congr_left
  intro x hx;have:=ok x hx;simp
  omega
 rw[e,List.getElem?_append_left (by simpa [bl]using hj)];exact h
theorem Rd.ofText (w:World) {t:List Nat} (ok:okB t) (cap:Nat) (fz:Nat×Nat):Rd (w.drew.alloc (.cells (bytesRow (aX t) cap) 5 fz)) (fun k=>k=w.heap.size) 1 (some ⟨w.heap.size,0,none⟩) t.length (bl t):=by
 refine ⟨by simp[bl],fun hn=>⟨_,rfl,rfl,fun j u hu=>?_⟩⟩;have h:=Rd.lit w.drew (bytesRow (aX t) cap) 5 fz;have hg:=zS ok cap j u hu
 have hpos:0<(bytesRow (aX t) cap).size:=by
  have:=(List.getElem?_eq_some_iff.1 hg).1;simp at this;omega
 obtain ⟨ad,e,hD,hc⟩:=h.2 (by omega);injection e with e;subst e;exact hc j u hg
theorem wW {xs:List Nat} (ok:okB xs) (p:Nat) (e:Int) (m:Nat):okB (bT xs p e m).1:=by
 unfold bT;split
 ·exact fun x hx=>absurd hx (by simp)
 ·split
  ·exact fun x hx=>absurd hx (by simp)
  ·split
   ·exact fun x hx=>absurd hx (by simp)
   ·first
    |exact fun x hx=>ok x (List.mem_of_mem_drop (List.mem_of_mem_take hx))
    |(split
      ·exact fun x hx=>absurd hx (by simp)
      ·exact fun x hx=>ok x (List.mem_of_mem_drop (List.mem_of_mem_take hx)))
section
variable {W : World} {D : Nat → Prop} {g b4 : Nat} {A : Option Addr} {c : Nat} {xs : List Nat} {p : Nat} {e : Int}
theorem TB (h:aH W D g A c xs p e) (hb:aJ W b4 111 #[.pointer (some ⟨g,0,none⟩)]):Calls Tryz.prog 59 #[.pointer (some ⟨b4,0,none⟩)] W fun en W'=>
 ∃A' c',en=.returned (.slice A' (bT xs p e 262144).1.length c')/\Rd W' (fun k=>W.heap.size<=k/\k<W'.heap.size) 1 A' (bT xs p e 262144).1.length (bl (bT xs p e 262144).1)/\(bT xs p e 262144).1.length<=c'/\cO W D g A c xs (bT xs p e 262144).2.1 (bT xs p e 262144).2.2 W':=by
 have ht:=ah (qQ h 262144 (by decide));have hok:=wW h.ok p e 262144;have c4:W.cell? ⟨b4,0,none⟩=some (.pointer (some ⟨g,0,none⟩)):=hb.cell 0;clear h hb;generalize bT xs p e 262144=t at *;obtain ⟨t,q,r⟩:=t;simp only at hok;have hconv:=fun w=>run_bytes_of_string (P:=Tryz.prog) w 9 26 5 (aX t) Tryz.underlying9 Tryz.underlying26 Tryz.underlying5;have HR:=ah (fun w cap fz=>Rd.ofText w hok cap fz);have hsz:(aX t).size=t.length:=z5D t;clear hok;go_enter Tryz.func59,Tryz.ntmps59;go_wp2_with fail;refine ht.out.mono ?_;rintro en w2 ⟨rfl,k2⟩;have K2:=ah k2;have hc2:=hconv w2;have hz:W.heap.size<=w2.heap.size:=k2.2.size
 have hle:t.length<=grownCap w2 (aX t).size 0 5:=by
  rw[←hsz];exact grownCap_ge _ _ _ _
 have HR2:=ah (HR.out w2 (grownCap w2 (aX t).size 0 5) ((bytesRow (aX t) (grownCap w2 (aX t).size 0 5)).size,(bytesRow (aX t) (grownCap w2 (aX t).size 0 5)).size+1));have NX:Nx w2 (w2.drew.alloc (.cells (bytesRow (aX t) (grownCap w2 (aX t).size 0 5)) 5 ((bytesRow (aX t) (grownCap w2 (aX t).size 0 5)).size,(bytesRow (aX t) (grownCap w2 (aX t).size 0 5)).size+1))):=((Ch.refl (fun _=>False) w2).drew).alloc _;have hz3:(w2.drew.alloc (.cells (bytesRow (aX t) (grownCap w2 (aX t).size 0 5)) 5 ((bytesRow (aX t) (grownCap w2 (aX t).size 0 5)).size,(bytesRow (aX t) (grownCap w2 (aX t).size 0 5)).size+1))).heap.size=w2.heap.size+1:=by simp
 have K3:=ah (show cO W D g A c xs q r _ from ⟨K2.out.1.nx NX,K2.out.2.trans NX (fun _ _ hf=>hf.elim)⟩);rw[hsz]at hc2 hle HR2 K3 hz3;clear hconv HR k2 K2 NX c4 ht;generalize grownCap w2 t.length 0 5=cap at *;generalize (bytesRow (aX t) cap)=C at *;go_wp2_with fail;go_ret;exact ⟨_,_,rfl,HR2.out.more fun k hk=>⟨by omega,by subst hk;exact Nat.lt_of_lt_of_eq (Nat.lt_succ_self _) hz3.symm⟩,hle,K3.out⟩
end
end Go.Proofs.YtpakjclpjcngmaaGreat
namespace Go.Proofs.YtpakjclpjcngmaaGreat
open Go.RowKit
def iy (l:List ByteArray):List Nat:=l.flatMap fun s=>ak s.size
def gG (l:List ByteArray):List Nat:=l.flatMap kK
def bD (l:List ByteArray):List Nat:=ak l.length++iy l++gG l
theorem u_ {l:List ByteArray} {k:Nat} (h:k<l.length):iy (l.drop k)=ak (l.getD k ByteArray.empty).size++iy (l.drop (k+1)):=by
 have e0:l.getD k ByteArray.empty=l[k]:=by rw[List.getD,List.getElem?_eq_getElem h];rfl
 rw[List.drop_eq_getElem_cons h,e0];unfold iy;rw[List.flatMap_cons]
theorem w_ {l:List ByteArray} {k:Nat} (h:k<l.length):gG (l.drop k)=kK (l.getD k ByteArray.empty)++gG (l.drop (k+1)):=by
 have e0:l.getD k ByteArray.empty=l[k]:=by rw[List.getD,List.getElem?_eq_getElem h];rfl
 rw[List.drop_eq_getElem_cons h,e0];unfold gG;rw[List.flatMap_cons]
theorem VU:∀{l:List ByteArray},(∀s∈l,s.size<=1024)->okB (iy l)/\(iy l).length<=10 * l.length:=by
 intro l;induction l with
 |nil=>intro _;exact ⟨fun x hx=>by simp[iy]at hx,by simp[iy]⟩
 |cons s l ih=>
  intro h;obtain ⟨h1,h2⟩:=ih fun t ht=>h t (by simp[ht]);have h3:=h s (by simp);have h4:=(z05 (n:=s.size) (by omega)).2;have e:iy (s::l)=ak s.size++iy l:=(by simp[iy]);rw[e,List.length_append,List.length_cons];exact ⟨jV (jW (by omega)) h1,by omega⟩
theorem XB:∀{l:List ByteArray},(∀s∈l,s.size<=1024)->okB (gG l)/\(gG l).length<=1024 * l.length:=by
 intro l;induction l with
 |nil=>intro _;exact ⟨fun x hx=>by simp[gG]at hx,by simp[gG]⟩
 |cons s l ih=>
  intro h;obtain ⟨h1,h2⟩:=ih fun t ht=>h t (by simp[ht]);have h3:=h s (by simp);have e:gG (s::l)=kK s++gG l:=(by simp[gG]);rw[e,List.length_append,List.length_cons,rY];exact ⟨jV (xR s) h1,by omega⟩
theorem z2t {l:List ByteArray} (hl:l.length<=2048) (hs:∀s∈l,s.size<=1024):okB (bD l)/\(bD l).length<=100000000/\0<(bD l).length:=by
 obtain ⟨h1,h2⟩:=VU hs;obtain ⟨h3,h4⟩:=XB hs;have h5:=z05 (n:=l.length) (by omega);unfold bD;refine ⟨jV (jV (jW (by omega)) h1) h3,?_⟩;rw[List.length_append,List.length_append];omega
theorem z3K (D:Nat->Prop) (A:Option Addr) (n c:Nat) (l:List ByteArray) (W:World) (hr:Rd W D 1 A n (dM l)) (hl:l.length=n) (hn:n<=2048) (hs:∀s∈l,s.size<=1024) (hc:n<=c):
 Calls Tryz.prog 101 #[.slice A n c] W (kG W 3 (bD l)):=by
 obtain ⟨i0,hi0,hz0,hz1,hz2⟩:=info_parts Tryz.info5;have htl:=z2T D A n c l W hr hl hn
 have hno:(l.any fun s=>decide (1024<s.size))=false:=by
  rw[List.any_eq_false];intro s h;have:=hs s h;simpa using this
 rw[hno]at htl;have zY:=ah htl;obtain ⟨okC,hC,hpos⟩:=z2t (by omega) hs;have Tz:bD l=ak l.length++iy l++gG l:=rfl
 have hsz:∀k,k<l.length->(l.getD k ByteArray.empty).size<=1024:=fun k hk=>by
  rw[List.getD,List.getElem?_eq_getElem hk];exact hs _ (List.getElem_mem hk)
 have HC:=ah Tz;have PN:=ah hsz;have hpu:=fun (v:Nat) (w:World) (hv:v<18446744073709551616)=>Yv v w hv;have EY:=ah hpu;have kE:∀v,v<18446744073709551616->1<=(ak v).length/\(ak v).length<=10:=fun v hv=>z05 hv;have Hpl:=ah kE;clear hpu kE htl Tz hsz hno hs;generalize bD l=T at *;have Hl:=ah hl;rw[hl]at HC PN;clear hl;go_enter Tryz.func101,Tryz.ntmps101;go_wp2_with fail;with_reducible refine zY.out.mono ?_
 rintro e w1 ⟨rfl,rfl⟩;have hcall:=EY.out n W (by omega);go_wp2_with fail;with_reducible refine hcall.mono ?_
 rintro e w3 ⟨k3,cap3,rfl,o3,hk3,hk3',hc3,_⟩;have hO:eU W w3 (.slice (some ⟨k3,0,none⟩) (ak n).length cap3) T (iy (l.drop 0)++gG l):=⟨ak n,o3,by rw[HC.out,List.drop_zero];simp only[List.append_assoc]⟩;have HO:=ah hO;clear hO o3 hcall;go_wp2_with fail;go_loopw [4,17] (fun v i wr=>∃k:Nat,k<=n/\i=.int .i64 (k:Int)/\eU W wr v T (iy (l.drop k)++gG l)) (fun _ i _=>n-(intOf i).toNat)
 case atStart=>exact ⟨0,Nat.zero_le _,rfl,HO.out⟩
 case round=>
  clear HO;obtain ⟨w4,rfl⟩:∃w4:World,w4=wr:=⟨_,rfl⟩;obtain ⟨k,hk,rfl,hout⟩:=hrel;obtain ⟨X,oX,eX,lX⟩:=hout.len;by_cases hlt:k<n
  ·have e1:=u_ (l:=l) (k:=k) (by rw[Hl.out];exact hlt)
   have hs1:=PN.out k hlt;obtain ⟨ad,rfl,_,hcell⟩:=(hr.nx (by decide) oX.nx).2 (by omega);have hc0:=hcell k _ (Yx (by rw[Hl.out];exact hlt));rw[e1]at eX;have E:=ah eX;have hlen:=congrArg List.length eX;simp only[List.length_append]at hlen;clear hcell e1 eX hout lX;generalize l.getD k ByteArray.empty=s at *;have hp:=Hpl.out s.size (by omega);have hcall:=EY.out s.size w4 (by omega);have hlb:X.length+(ak s.size).length<=100000000:=(by omega);clear hlen;go_wp2_with fail;with_reducible refine hcall.mono ?_
   rintro e w5 ⟨k5,cap5,rfl,o5,hk5,hk5',hc5,_⟩;have oX5:=oX.tr o5.nx;have r5:=o5.jZ;clear o5 oX hcall;have fin:∀v w,ay W w 5 1 v (X.length+(ak s.size).length) (bl X++bl (ak s.size))->eU W w v T (iy (l.drop (k+1))++gG l):=fun v w o=>⟨X++ak s.size,by rw[List.length_append,show bl (X++ak s.size)=bl X++bl (ak s.size) by simp[bl]];exact o,by rw[←E.out];simp only[List.append_assoc]⟩;have Fin:=ah fin;clear fin E;go_wp2_with (at_builtin;(refine z07 rfl (.tmp 21) (.tmp 25) _ rfl 5 i0 _ 1 1 Tryz.underlying26 hi0 hz0 hz1 hz2 rfl (by omega) rfl oX5 _ (some ⟨k5,0,none⟩) (ak s.size).length cap5 (bl (ak s.size)) rfl r5 (kR _) (by simp only[maxLen];omega) (by omega) ?_;intro v7 w7 o7 m7;have Ho7:=ah (Fin.out v7 w7 o7);clear o7 m7))
   go_roundw
   case rel=>exact ⟨k+1,by omega,by go_num,Ho7.out⟩
   case measure=>simp[intOf];omega
  ·obtain rfl:n=k:=by omega
   have e1:iy (l.drop n)=[]:=by
    rw[List.drop_of_length_le (by rw[Hl.out];omega)];rfl
   have hO2:eU W w4 u4 T (gG (l.drop 0)):=⟨X,oX,by rw[List.drop_zero,←eX,e1];rfl⟩;have HO2:=ah hO2;clear e1 eX hout lX hO2 oX;go_wp2_with fail;go_loopw [4,30] (fun v i wr=>∃k:Nat,k<=n/\i=.int .i64 (k:Int)/\eU W wr v T (gG (l.drop k))) (fun _ i _=>n-(intOf i).toNat)
   case atStart=>exact ⟨0,Nat.zero_le _,rfl,HO2.out⟩
   case round=>
    clear HO2;obtain ⟨w8,rfl⟩:∃w8:World,w8=wr:=⟨_,rfl⟩;obtain ⟨k,hk,rfl,hout⟩:=hrel;obtain ⟨Y,oY,eY,lY⟩:=hout.len;by_cases hlt:k<n
    ·have e1:=w_ (l:=l) (k:=k) (by rw[Hl.out];exact hlt)
     have hs1:=PN.out k hlt;obtain ⟨ad,rfl,_,hcell⟩:=(hr.nx (by decide) oY.nx).2 (by omega);have hc0:=hcell k _ (Yx (by rw[Hl.out];exact hlt));rw[e1]at eY;have E:=ah eY;have hlen:=congrArg List.length eY;simp only[List.length_append,rY]at hlen;clear hcell e1 eY hout lY;generalize l.getD k ByteArray.empty=s at *;have hlb:Y.length+s.size<=100000000:=(by omega);clear hlen;have fin:∀v w,ay W w 5 1 v (Y.length+s.size) (bl (Y++kK s))->eU W w v T (gG (l.drop (k+1))):=fun v w o=>⟨Y++kK s,by rw[List.length_append,rY];exact o,by rw[←E.out];simp only[List.append_assoc]⟩;have Fin:=ah fin;clear fin E;go_wp2_with (at_builtin;(refine z5t rfl (.tmp 34) (.tmp 35) _ 9 rfl 5 i0 Tryz.underlying26 Tryz.underlying9 hi0 hz0 hz1 hz2 rfl oY s rfl (by simp only[maxLen];omega) (by omega) ?_;intro v8 w8 o8;have Ho8:=ah (Fin.out v8 w8 o8);clear o8))
     go_roundw
     case rel=>exact ⟨k+1,by omega,by go_num,Ho8.out⟩
     case measure=>simp[intOf];omega
    ·obtain rfl:n=k:=by omega
     have e1:gG (l.drop n)=[]:=by
      rw[List.drop_of_length_le (by rw[Hl.out];omega)];rfl
     rw[e1,List.append_nil]at eY;subst eY;obtain ⟨g,cap,hv,hg,hgl⟩:=oY.own.form hpos;subst hv;have hcap:=z04 oY.own;obtain ⟨_,_,hv2,hcp,_⟩:=hcap;injection hv2 with hv1 _ hv3;subst hv1 hv3;have nY:=oY.nx;have hch:Calls Tryz.prog 165 #[.int .u8 3,.slice (some ⟨g,0,none⟩) Y.length cap] w8 (kG w8 3 Y):=wZ (fun j=>j=g) (some ⟨g,0,none⟩) Y.length cap 3 Y w8 oY.jZ (fun j e=>by omega) okC rfl hcp (by omega);have Hch:=ah (hch.mono fun _ _ h=>kG.later nY h);clear hch e1;go_wp2_with fail;with_reducible refine Hch.out.mono ?_
     rintro e w9 h9;by_cases hs:Y.length<=65536
     ·obtain ⟨k9,Um,rfl,o9,hc9⟩:=h9.1 hs
      go_wp2_with fail;go_ret2;exact ⟨fun _=>⟨k9,Um,rfl,o9,hc9⟩,fun h=>by omega⟩
     ·obtain ⟨rfl,n9⟩:=h9.2 (by omega)
      go_wp2_with fail;go_ret2;exact ⟨fun h=>by omega,fun _=>⟨rfl,n9⟩⟩
theorem z4Y (D:Nat->Prop) (A:Option Addr) (n c:Nat) (l:List ByteArray) (W:World) (hr:Rd W D 1 A n (dM l)) (hl:l.length=n) (hn:n<=2048) (hs:∀s∈l,s.size<=1024) (hc:n<=c) (hC:(bD l).length<=65536):
 Calls Tryz.prog 101 #[.slice A n c] W (VB W (aA 3 (bD l))):=
 (z3K D A n c l W hr hl hn hs hc).mono fun _ _ h=>h.1 hC
theorem z58 (D:Nat->Prop) (A:Option Addr) (n c:Nat) (l:List ByteArray) (W:World) (hr:Rd W D 1 A n (dM l)) (hl:l.length=n) (hn:n<=2048) (hs:¬∀s∈l,s.size<=1024):
 Calls Tryz.prog 101 #[.slice A n c] W fun e w'=>e=.returned (.tuple #[.slice none 0 0,.int .i64 5])/\Nx W w':=by
 have htl:=z2T D A n c l W hr hl hn
 have hyes:(l.any fun s=>decide (1024<s.size))=true:=by
  rw[List.any_eq_true];apply Classical.byContradiction
  intro h;refine hs fun s hm=>Classical.byContradiction fun h2=>h ⟨s,hm,?_⟩;rw[decide_eq_true_iff];omega
 rw[hyes]at htl;have zY:=ah htl;clear htl hr hs hl;go_enter Tryz.func101,Tryz.ntmps101;go_wp2_with fail;with_reducible refine zY.out.mono ?_
 rintro e w1 ⟨rfl,rfl⟩;go_wp2_with fail;go_ret2;exact ⟨rfl,Ch.refl _ _⟩
end Go.Proofs.YtpakjclpjcngmaaGreat
