/- Contracts and plain laws that the last text rests on. Conditions: each theorem states its own. -/
import Derived.Test.YtpakjclpjcngmaaGreatKqPbSortS
import Derived.Test.YtpakjclpjcngmaaGreatKqQ14
import Derived.Test.YtpakjclpjcngmaaGreatKqQ9
import Derived.Lib.AppendStr
import Derived.Test.YtpakjclpjcngmaaGreatKqQ7
import Derived.Laws.IdiomStrings
set_option maxRecDepth 100000
set_option maxHeartbeats 16000000
set_option linter.unusedVariables false
namespace Go.Proofs.YtpakjclpjcngmaaGreat
open Go.RowKit
def IdxL (l:List ByteArray) (W:World) (e:Ending) (w':World):Prop:=
 ∃r:Int,e=.returned (.int .i64 r)/\W=w'/\(decide (0<=r)=l.any fun s=>decide (1024<s.size))
theorem Qd (s:ByteArray) (w:World):Calls Tryz.prog 216 #[.string s] w fun e w'=>e=.returned (.bool (decide (1024<s.size)))/\w=w':=by
 go_enter Tryz.func216,Tryz.ntmps216;go_wp2_with fail;go_ret;exact ⟨by show Ending.returned (Value.bool (decide ((1024:Int)<(s.size:Int))))=_;rw[decide_eq_decide.2 (show (1024:Int)<(s.size:Int)↔1024<s.size from ⟨fun h=>by omega,fun h=>by omega⟩)],rfl⟩
theorem index_long (D:Nat->Prop) (A:Option Addr) (n c:Nat) (l:List ByteArray) (W:World) (hr:Rd W D 1 A n (fJ l)) (hl:l.length=n) (hn:n<=1000000):
 Calls Tryz.prog 264 #[.slice A n c,.func (.func 216) #[] #[]] W (IdxL l W):=by
 subst hl;have hcl:=fun s=>Qd s W;have Vw:=ah hcl;clear hcl;go_enter Tryz.func264,Tryz.ntmps264;go_wp2_with fail;go_loop [8] (fun i=>∃k:Nat,k<=l.length/\i=.int .i64 k/\Hid (∀j,j<k->(l.getD j ByteArray.empty).size<=1024)) (fun i=>l.length-(intOf i).toNat)
 case atStart=>exact ⟨0,by omega,rfl,ah (fun j hj=>by omega)⟩
 case round=>
  obtain ⟨k,hk,rfl,He⟩:=hrel;by_cases hlt:k<l.length
  ·obtain ⟨ad,rfl, -,hcell⟩:=hr.2 (by omega)
   have hc0:=hcell _ _ (ZE hlt);have HK:=ah (show l.getD k ByteArray.empty=l.getD k ByteArray.empty from rfl)
   have hany:1024<(l.getD k ByteArray.empty).size->(l.any fun s=>decide (1024<s.size))=true:=fun h=>by
    rw[List.any_eq_true];refine ⟨l[k],List.getElem_mem hlt,?_⟩;have e0:l.getD k ByteArray.empty=l[k]:=by rw[List.getD,List.getElem?_eq_getElem hlt];rfl
    rw[e0]at h;simpa using h
   have abl:=ah hany
   have hnx:(l.getD k ByteArray.empty).size<=1024->Hid (∀j,j<k+1->(l.getD j ByteArray.empty).size<=1024):=fun h=>ah fun j hj=>by
    by_cases e:j=k
    ·subst e;exact h
    ·exact He.out j (by omega)
   have zO:=ah hnx;clear hcell hany hnx HK;generalize l.getD k ByteArray.empty=s at *;by_cases hs:1024<s.size
   ·have hd:decide (1024<s.size)=true:=decide_eq_true hs
    have hfin:=abl.out hs;have fG:=ah hfin;have hcall:=Vw.out s;rw[hd]at hcall;have jO:=ah hcall;clear hfin abl zO hcall;go_wp2_with fail;refine jO.out.mono ?_;rintro e w1 ⟨rfl,rfl⟩;go_wp2_with fail;go_ret;exact ⟨_,rfl,rfl,by rw[fG.out];simp⟩
   ·have hd:decide (1024<s.size)=false:=decide_eq_false hs
    have hnx:=zO.out (by omega);have hcall:=Vw.out s;rw[hd]at hcall;have jO:=ah hcall;clear abl zO hcall;go_wp2_with fail;refine jO.out.mono ?_;rintro e w1 ⟨rfl,rfl⟩;go_wp2_with fail;go_round
    case rel=>exact ⟨k+1,by omega,by go_num,hnx⟩
    case measure=>simp[intOf];omega
  ·obtain rfl:k=l.length:=by omega
   have hno:(l.any fun s=>decide (1024<s.size))=false:=by
    rw[List.any_eq_false];intro s hs;obtain ⟨j,hj,rfl⟩:=List.mem_iff_getElem.1 hs;have:=He.out j hj;rw[List.getD,List.getElem?_eq_getElem hj]at this;simpa using this
   have Hno:=ah hno;clear hno;go_wp2_with fail;go_ret;exact ⟨_,rfl,rfl,by rw[Hno.out];simp⟩
theorem uj (D:Nat->Prop) (A:Option Addr) (n c:Nat) (l:List ByteArray) (W:World) (hr:Rd W D 1 A n (fJ l)) (hl:l.length=n) (hn:n<=1000000):
 Calls Tryz.prog 215 #[.slice A n c,.func (.func 216) #[] #[]] W fun e w'=>e=.returned (.bool (l.any fun s=>decide (1024<s.size)))/\W=w':=by
 have Hi:=ah (index_long D A n c l W hr hl hn);clear hr;go_enter Tryz.func215,Tryz.ntmps215;go_wp2_with fail;with_reducible refine Hi.out.mono ?_
 rintro e w1 ⟨r,rfl,rfl,hd⟩;have Hd:=ah hd;clear hd;go_wp2_with fail;go_ret;rw[←Hd.out];exact ⟨rfl,rfl⟩
theorem z5G (D:Nat->Prop) (A:Option Addr) (n c:Nat) (l:List ByteArray) (W:World) (hr:Rd W D 1 A n (fJ l)) (hl:l.length=n) (hn:n<=2048):
 Calls Tryz.prog 167 #[.slice A n c] W fun e w'=>e=.returned (.bool (l.any fun s=>decide (1024<s.size)))/\W=w':=by
 have Hi:=ah (uj D A n c l W hr hl (by omega));clear hr;have q1:decide ((2048:Int)<(n:Int))=false:=by rw[decide_eq_false_iff_not];omega
 generalize (l.any fun s=>decide (1024<s.size))=bb at *;go_enter Tryz.func167,Tryz.ntmps167;go_wp2_with fail;refine Hi.out.mono ?_;rintro e w1 ⟨rfl,rfl⟩;go_wp2_with fail;go_ret;exact ⟨rfl,rfl⟩
theorem z56 (s:ByteArray):Lib.strCells s=bl (kP s):=by
 unfold Lib.strCells bl kP;rw[List.map_map];rfl
theorem xX (a b:ByteArray):(a.toList==b.toList)=decide (a=b):=by
 rw[Bool.eq_iff_iff,beq_iff_eq,decide_eq_true_iff];constructor
 ·intro h
  rw[ByteArray.toList_eq,ByteArray.toList_eq]at h;cases a;cases b
  simpa [Array.ext_iff]using congrArg List.toArray h
 ·rintro rfl;rfl
theorem z4S {P:Program} {ops:Array Oper} {rest:List Oper} {o:Oper} {a:Act} {Q:Exit->Act->World->Prop} (hgd:o.guard=none) (sl x:Operand) (t u:TypeId)
 (ho:o.op=.call { callee:=.builtin .append,args:= #[sl,x],argTypes:= #[t,u]})
 (e:TypeId) (i:TypeInfo) (ht:P.underlying t=some (.slice e)) (hu:P.underlying u=some .string) (hi:P.info? e=some i) (hz:i.zero=some (.int .u8 0))
 (hsize:i.size=1) (hby:i.bytes=1)
 {W w:World} {v:Value} {n:Nat} {xs:List Nat} (hs:a.eval sl=v) (hown:aA W w e 1 v n (bl xs)) (s:ByteArray) (hx:a.eval x=.string s)
 (h63:n+s.size<=maxLen) (hbytes:n+s.size<=140737488355328)
 (h:∀v' w',aA W w' e 1 v' (n+s.size) (bl (xs++kP s))->wpList P ops Q rest (a.put o.dst v') w'):wpList P ops Q (o::rest) a w:=
 Lib.wpList_append_own_string w hgd sl x t u ho W.heap.size e i ht hu hi hz hsize hby v n (bl xs) hs hown.own s hx h63 hbytes hown.nx.size fun v' w' h2 h3 h4=>
  h v' w' ⟨by rw[show bl (xs++kP s)=bl xs++bl (kP s) by simp[bl],←z56];exact h2,hown.nx.grown h3 fun k hk hlt=>by have:=hown.lt k hk;omega⟩
def fA (w0 w:World) (v:Value) (T rest:List Nat):Prop:=∃X,aA w0 w 5 1 v X.length (bl X)/\X++rest=T
theorem fA.len {w0 w:World} {v:Value} {T rest:List Nat} (h:fA w0 w v T rest):∃X,aA w0 w 5 1 v X.length (bl X)/\X++rest=T/\X.length+rest.length=T.length:=by
 obtain ⟨X,o,e⟩:=h;exact ⟨X,o,e,by rw[←e,List.length_append]⟩
def kS (W:World) (kind:Nat) (xs:List Nat) (e:Ending) (w':World):Prop:=
 (xs.length<=65536->Yz W (aB kind xs) e w')/\(65536<xs.length->e=.returned (.tuple #[.slice none 0 0,.int .i64 5])/\Nx W w')
theorem kS.later {W w w':World} {kind:Nat} {xs:List Nat} {e:Ending} (n:Nx W w) (h:kS w kind xs e w'):kS W kind xs e w':=by
 refine ⟨fun hl=>?_,fun hl=>?_⟩
 ·obtain ⟨k,cap,he,o,hc⟩:=h.1 hl
  exact ⟨k,cap,he,⟨sK o.own n.size,n.tr o.nx⟩,hc⟩
 ·exact ⟨(h.2 hl).1,n.tr (h.2 hl).2⟩
theorem wX (D:Nat->Prop) (A:Option Addr) (n c kind:Nat) (xs:List Nat) (W:World) (hr:Rd W D 1 A n (bl xs)) (tX:∀k,D k->k<W.heap.size) (ok:okB xs) (hl:xs.length=n) (hc:n<=c) (hk:kind<256):
 Calls Tryz.prog 165 #[.int .u8 (kind:Int),.slice A n c] W (kS W kind xs):=by
 by_cases h:n<=65536
 ·exact (z5I D A n c kind xs W hr tX ok hl hc h hk).mono fun _ _ h2=>⟨fun _=>h2,fun h3=>by omega⟩
 ·exact (rC A n c kind W (by omega)).mono fun _ _ h2=>⟨fun h3=>by omega,fun _=>h2⟩
theorem rD (D:Nat->Prop) (A:Option Addr) (n c:Nat) (l:List ByteArray) (W:World) (hr:Rd W D 1 A n (fJ l)) (hl:l.length=n) (hn:n<=2048) (hs:∀s∈l,s.size<=1024) (hc:n<=c) (hC:(aZ l).length<=100000000):
 Calls Tryz.prog 100 #[.slice A n c] W (kS W 2 (aZ l)):=by
 obtain ⟨i0,hi0,hz0,hz1,hz2⟩:=info_parts Tryz.info5;have htl:=z5G D A n c l W hr hl hn
 have hno:(l.any fun s=>decide (1024<s.size))=false:=by
  rw[List.any_eq_false];intro s h;have:=hs s h;simpa using this
 rw[hno]at htl;have Jt:=ah htl;have hrb:=hr.below_ (by decide);have okC:=z4T (by omega) hs;have Td:aZ l=ak (bU l).length++uJ (bU l)++ak l.length++dQ (bU l) l:=rfl
 have hsz:∀k,k<(bU l).length->((bU l).getD k ByteArray.empty).size<=1024:=fun k hk=>by
  rw[List.getD,List.getElem?_eq_getElem hk];exact hs _ (PO.1 (List.getElem_mem hk))
 have DC:=z12 l
 have hmem:∀k,k<n->l.getD k ByteArray.empty∈bU l:=fun k hk=>by
  rw[List.getD,List.getElem?_eq_getElem (by omega)];exact PO.2 (List.getElem_mem _)
 have hrise:=z5W l;have KI:(rQ l).map Go.Proofs.encStr=fJ (bU l):=by rw[JM];rfl
 have hallL:(rQ l).length=(bU l).length:=by simp[bU]
 have hcmp:∀w v,aA W w 9 1 v n ((iC l).map Go.Proofs.encStr)->Calls Tryz.prog 41 #[v] w fun e w'=>
  ∃A c,e=.returned (.slice A (bU l).length c)/\Rd w' (fun k=>W.heap.size<=k/\k<w'.heap.size) 1 A (bU l).length (fJ (bU l))/\Nx W w'/\(0<(bU l).length->∃b,A=some ⟨b,0,none⟩)/\(bU l).length<=c:=fun w v o=>by
  have:=Eb W w v n (iC l) (by rw[z2c,hl]) (by omega) o;unfold UZ at this;have e1:Lib.compact (iC l)=rQ l:=rfl;rw[e1,hallL,KI]at this;exact this
 have jl:=ah hcmp;have UH:=ah hmem;have Za:=ah hrise;have HC:=ah Td;have Pz:=ah hsz;have hidx:∀x,x∈bU l->fB (bU l) x<(bU l).length:=fun x hx=>z48 hx;have aeM:=ah hidx;generalize bU l=all at *;clear htl hcmp hmem hrise Td hsz KI hallL hno hidx hs;have hpu:=fun (v:Nat) (w:World) (hv:v<18446744073709551616)=>YE v w hv;have EW:=ah hpu;clear hpu;have kC:∀v,v<18446744073709551616->1<=(ak v).length/\(ak v).length<=10:=fun v hv=>z06 hv;have Hpl:=ah kC;clear kC;generalize aZ l=T at *;go_enter Tryz.func100,Tryz.ntmps100;go_wp2_with fail;with_reducible refine Jt.out.mono ?_
 rintro e w1 ⟨rfl,rfl⟩;go_wp2_with fail;with_reducible refine (oP A n c _).mono ?_
 rintro e w1 ⟨rfl,rfl⟩;have hb0:(W.alloc (.cells #[.slice A n c] 80)).cell? ⟨W.heap.size,0,none⟩=some (.slice A n c):=(aG.new W 80 #[.slice A n c]).cell 0;have hn0:Nx W (W.alloc (.cells #[.slice A n c] 80)):=(Ch.refl _ W).alloc _;have hr0:=(hrb.nx (by decide) hn0).below_ (by decide);have Hso:=ah (pU W.heap.size A n c l hl (by omega) hc _ hb0 hr0);clear hb0 hr0;go_wp2_with fail;with_reducible refine Hso.out.mono ?_
 rintro e w1 ⟨v1,rfl,o1⟩;have hcall:=jl.out w1 v1 ⟨sK o1.own hn0.size,hn0.tr o1.nx⟩;clear o1 hn0 Hso;go_wp2_with fail;with_reducible refine hcall.mono ?_
 rintro e w2 ⟨Aa,ca,rfl,ra,n2,hab,hca⟩;have hr2:=hr.nx (by decide) n2;obtain ⟨m,hm⟩:∃m,all.length=m:=⟨_,rfl⟩;rw[hm]at ra hab hca;have Hm:=ah hm;have hmn:m<=n:=by omega
 clear hcall hm;rw[Hm.out];clear DC;have hcall:=EW.out m w2 (by omega);go_wp2_with fail;with_reducible refine hcall.mono ?_
 rintro e w3 ⟨k3,cap3,rfl,o3,hk3,hk3',hc3,_⟩;have hO:fA w2 w3 (.slice (some ⟨k3,0,none⟩) (ak m).length cap3) T (uJ (all.drop 0)++(ak l.length++dQ all l)):=⟨ak m,o3,by rw[HC.out,Hm.out,List.drop_zero];simp only[List.append_assoc]⟩;have HO:=ah hO;clear hO o3 hcall;go_wp2_with fail;go_loopw [5,24] (fun v i wr=>∃k:Nat,k<=m/\i=.int .i64 (k:Int)/\fA w2 wr v T (uJ (all.drop k)++(ak l.length++dQ all l))) (fun _ i _=>m-(intOf i).toNat)
 case atStart=>exact ⟨0,Nat.zero_le _,rfl,HO.out⟩
 case round=>
  clear HO;obtain ⟨w4,rfl⟩:∃w4:World,w4=wr:=⟨_,rfl⟩;obtain ⟨k,hk,rfl,hout⟩:=hrel;obtain ⟨X,oX,eX,lX⟩:=hout.len;by_cases hlt:k<m
  ·have e1:=z4Y (all:=all) (k:=k) (by rw[Hm.out];exact hlt)
   have hs1:=Pz.out k (by rw[Hm.out];exact hlt);obtain ⟨ad,rfl,_,hcell⟩:=(ra.nx (by decide) oX.nx).2 (by omega);have hc0:=hcell k _ (ZE (by rw[Hm.out];exact hlt));rw[e1]at eX;have E:=ah eX;have hlen:=congrArg List.length eX;simp only[List.length_append,AO]at hlen;clear hcell e1 eX hout lX;generalize all.getD k ByteArray.empty=s at *;have hp:=Hpl.out s.size (by omega);have hcall:=EW.out s.size w4 (by omega);have hlb:X.length+(ak s.size).length+s.size<=100000000:=(by omega);clear hlen;go_wp2_with fail;with_reducible refine hcall.mono ?_
   rintro e w5 ⟨k5,cap5,rfl,o5,hk5,hk5',hc5,_⟩;have oX5:=oX.tr o5.nx;have r5:=o5.lC;clear o5 oX hcall;have fin:∀v w,aA w2 w 5 1 v ((X++ak s.size).length+s.size) (bl (X++ak s.size++kP s))->fA w2 w v T (uJ (all.drop (k+1))++(ak l.length++dQ all l)):=fun v w o=>⟨X++ak s.size++kP s,by rw[List.length_append,AO];exact o,by rw[←E.out];simp only[List.append_assoc]⟩;have Fin:=ah fin;clear fin E
   go_wp2_with (at_builtin;first
    |(refine z05 rfl (.tmp 28) (.tmp 32) _ rfl 5 i0 _ 1 1 Tryz.underlying26 hi0 hz0 hz1 hz2 rfl (by omega) rfl oX5 _ (some ⟨k5,0,none⟩) (ak s.size).length cap5 (bl (ak s.size)) rfl r5 (kY _) (by simp only[maxLen];omega) (by omega) ?_;intro v7 w7 o7 m7;rw[←List.length_append,show bl X++bl (ak s.size)=bl (X++ak s.size) by simp[bl]]at o7)
    |(refine z4S rfl (.tmp 33) (.tmp 34) _ 9 rfl 5 i0 Tryz.underlying26 Tryz.underlying9 hi0 hz0 hz1 hz2 rfl o7 s rfl (by rw[List.length_append];simp only[maxLen];omega) (by rw[List.length_append];omega) ?_;intro v8 w8 o8;have Ho8:=ah (Fin.out v8 w8 o8);clear o8))
   go_roundw
   case rel=>exact ⟨k+1,by omega,by go_num,Ho8.out⟩
   case measure=>simp[intOf];omega
  ·obtain rfl:m=k:=by omega
   have e1:uJ (all.drop m)=[]:=by
    rw[List.drop_of_length_le (by rw[Hm.out];omega)];rfl
   rw[e1,List.nil_append]at eX;have E:=ah eX;have hlen:=congrArg List.length eX;simp only[List.length_append]at hlen;have hp:=Hpl.out l.length (by omega);have hlb:X.length+(ak l.length).length<=100000000:=(by omega);clear hlen e1 eX hout lX;have hcall:=EW.out l.length w4 (by omega);rw[hl]at hcall hp hlb;go_wp2_with fail;with_reducible refine hcall.mono ?_
   rintro e w5 ⟨k5,cap5,rfl,o5,hk5,hk5',hc5,_⟩;have oX5:=oX.tr o5.nx;have r5:=o5.lC;clear o5 oX hcall;have fin:∀v w,aA w2 w 5 1 v (X.length+(ak n).length) (bl X++bl (ak n))->fA w2 w v T (dQ all (l.drop 0)):=fun v w o=>⟨X++ak n,by rw[List.length_append,show bl (X++ak n)=bl X++bl (ak n) by simp[bl]];exact o,by rw[←E.out,List.drop_zero,hl];simp only[List.append_assoc]⟩;have Fin:=ah fin;clear fin E;go_wp2_with (at_builtin;(refine z05 rfl (.tmp 37) (.tmp 41) _ rfl 5 i0 _ 1 1 Tryz.underlying26 hi0 hz0 hz1 hz2 rfl (by omega) rfl oX5 _ (some ⟨k5,0,none⟩) (ak n).length cap5 (bl (ak n)) rfl r5 (kY _) (by simp only[maxLen];omega) (by omega) ?_;intro v7 w7 o7 m7;have Ho7:=ah (Fin.out v7 w7 o7);clear o7 m7))
   clear Fin r5 oX5 hp hlb;go_loopw [5,8] (fun v i wr=>∃a:Nat,a<=n/\i=.int .i64 (a:Int)/\fA w2 wr v T (dQ all (l.drop a))) (fun _ i _=>n-(intOf i).toNat)
   case atStart=>exact ⟨0,Nat.zero_le _,rfl,Ho7.out⟩
   case round=>
    clear Ho7;obtain ⟨w8,rfl⟩:∃w8:World,w8=wr:=⟨_,rfl⟩;obtain ⟨a,ha,rfl,hout⟩:=hrel;obtain ⟨Y,oY,eY,lY⟩:=hout.len;by_cases hlt:a<n
    ·have hrl:=hr2.nx (by decide) oY.nx
     obtain ⟨ad,rfl,_,hcell⟩:=hrl.2 (by omega);have HY:=ah eY;have Hlc:=ah (fun j (hj:j<n)=>hcell j _ (ZE (by omega)));have c0:w8.cell? (ad.add a)=some (.string (l.getD a ByteArray.empty)):=Hlc.out a hlt;clear hcell eY hout hrl lY;go_wp2_with fail;go_loopw [9] (fun j wr=>∃k q:Nat,1<=k/\a+k<=n/\j=.int .i64 (k:Int)/\wr=w8.drewN q/\Hid (∀i,i<k->l.getD (a+i) ByteArray.empty=l.getD a ByteArray.empty)) (fun j _=>n-(intOf j).toNat)
     case atStart=>exact ⟨1,0,by omega,by omega,rfl,rfl,ah (fun i hi=>by rw[show i=0 by omega];rfl)⟩
     case round=>
      obtain ⟨k,q,hk1,hk2,rfl,rfl,He⟩:=hrel;have kw:IntKind.i64.wrap ((a:Int)+(k:Int))=(a:Int)+(k:Int):=IntWalk.i64_in _ (by omega);have b4:((a:Int)+(k:Int)).toNat=a+k:=(by omega);have b5:(0:Int)<=(a:Int)+(k:Int):=by omega
      have key:(a+k<n/\l.getD (a+k) ByteArray.empty=l.getD a ByteArray.empty)∨(a+k<n/\l.getD (a+k) ByteArray.empty≠l.getD a ByteArray.empty)∨a+k=n:=by
       by_cases h1:a+k<n
       ·by_cases h2:l.getD (a+k) ByteArray.empty=l.getD a ByteArray.empty
        ·exact .inl ⟨h1,h2⟩
        ·exact .inr (.inl ⟨h1,h2⟩)
       ·exact .inr (.inr (by omega))
      rcases key with ⟨hlt2,he⟩|⟨hlt2,he⟩|he
      ·have q1:decide ((a:Int)+(k:Int)<(n:Int))=true:=by rw[decide_eq_true_iff];omega
       have q2:(a:Int)+(k:Int)<(n:Int):=(by omega);have ck:=Hlc.out (a+k) hlt2
       have hn2:Hid (∀i,i<k+1->l.getD (a+i) ByteArray.empty=l.getD a ByteArray.empty):=ah fun i hi=>by
        by_cases e:i=k
        ·subst e;exact he
        ·exact He.out i (by omega)
       rw[he]at ck;have hq:((l.getD a ByteArray.empty).toList==(l.getD a ByteArray.empty).toList)=true:=(by simp);clear he He;generalize l.getD a ByteArray.empty=x at *;go_wp2_with fail;go_quiet (fail)
       go_wp2_with fail;go_roundw
       case rel=>exact ⟨k+1,_,by omega,by omega,by go_num,rfl,hn2⟩
       case measure=>simp[intOf];omega
      ·have hor:a+k=l.length∨l.getD (a+k) ByteArray.empty≠l.getD a ByteArray.empty:=.inr he
       have hx:=UH.out a hlt;have hid:=aeM.out _ hx;rw[Hm.out]at hid;have step:=z42 (all:=all) (l:=l) (at_:=a) (n:=k) (by omega) (by omega) He.out hor;have E:Y++(ak (fB all (l.getD a ByteArray.empty))++ak k++dQ all (l.drop (a+k)))=T:=by rw[←step];exact HY.out
       have hlen:=congrArg List.length E;simp only[List.length_append]at hlen;have hp1:=Hpl.out (fB all (l.getD a ByteArray.empty)) (by omega);have hp2:=Hpl.out k (by omega);have hlb:Y.length+(ak (fB all (l.getD a ByteArray.empty))).length+(ak k).length<=100000000:=(by omega);obtain ⟨b,rfl⟩:=hab (by omega);have hbs:=fun q=>z5R _ b m ca all _ (w8.drewN q) (((ra.nx (by decide) oY.nx).drewN q)) Hm.out Za.out hx (by omega);have Zd:=ah hbs;have fin:∀v w,aA w2 w 5 1 v (Y.length+(ak (fB all (l.getD a ByteArray.empty))).length+(ak k).length) (bl Y++bl (ak (fB all (l.getD a ByteArray.empty)))++bl (ak k))->fA w2 w v T (dQ all (l.drop (a+k))):=fun v w o=>⟨Y++ak (fB all (l.getD a ByteArray.empty))++ak k,by rw[List.length_append,List.length_append,show bl (Y++ak (fB all (l.getD a ByteArray.empty))++ak k)=bl Y++bl (ak (fB all (l.getD a ByteArray.empty)))++bl (ak k) by simp[bl]];exact o,by rw[←E];simp only[List.append_assoc]⟩;have Fin:=ah fin;clear fin hbs hlen E step hx HY He;generalize fB all (l.getD a ByteArray.empty)=ix at *;have q1:decide ((a:Int)+(k:Int)<(n:Int))=true:=by rw[decide_eq_true_iff];omega
       have q2:(a:Int)+(k:Int)<(n:Int):=(by omega);have ck:=Hlc.out (a+k) hlt2;have hq:((l.getD (a+k) ByteArray.empty).toList==(l.getD a ByteArray.empty).toList)=false:=by rw[xX];exact decide_eq_false he
       clear hor he;generalize l.getD (a+k) ByteArray.empty=y at *;generalize l.getD a ByteArray.empty=x at *;go_wp2_with fail;go_quiet (fail)
       go_wp2_with fail;with_reducible refine (Zd.out _).mono ?_
       rintro e w9 ⟨⟨okb,rfl⟩,q2,rfl⟩;go_wp2_with fail;with_reducible refine (EW.out ix _ (by omega)).mono ?_
       rintro e w10 ⟨k10,Ue,rfl,o10,hk10,hk10',hc10,_⟩;have oY10:=(oY.tr ((Ch.refl _ w8).drewN _)).tr o10.nx;have r10:=o10.lC;clear o10 Zd;go_wp2_with (at_builtin;(refine z05 rfl (.tmp 77) (.tmp 80) _ rfl 5 i0 _ 1 1 Tryz.underlying26 hi0 hz0 hz1 hz2 rfl (by omega) rfl oY10 _ (some ⟨k10,0,none⟩) (ak ix).length Ue (bl (ak ix)) rfl r10 (kY _) (by simp only[maxLen];omega) (by omega) ?_;intro v11 w11 o11 m11))
       with_reducible refine (EW.out k _ (by omega)).mono ?_
       rintro e w12 ⟨k12,Ud,rfl,o12,hk12,hk12',hc12,_⟩;have oY12:=o11.tr o12.nx;have r12:=o12.lC;clear o12 o11 m11 r10 oY10;go_wp2_with (at_builtin;(refine z05 rfl (.tmp 81) (.tmp 84) _ rfl 5 i0 _ 1 1 Tryz.underlying26 hi0 hz0 hz1 hz2 rfl (by omega) rfl oY12 _ (some ⟨k12,0,none⟩) (ak k).length Ud (bl (ak k)) rfl r12 (kY _) (by simp only[maxLen];omega) (by omega) ?_;intro v13 w13 o13 m13;have Ho13:=ah (Fin.out v13 w13 o13);clear o13 m13))
       go_roundw
       case rel=>exact ⟨a+k,by omega,by go_num,Ho13.out⟩
       case measure=>simp[intOf];omega
      ·have hor:a+k=l.length∨l.getD (a+k) ByteArray.empty≠l.getD a ByteArray.empty:=.inl (by omega)
       have hx:=UH.out a hlt;have hid:=aeM.out _ hx;rw[Hm.out]at hid;have step:=z42 (all:=all) (l:=l) (at_:=a) (n:=k) (by omega) (by omega) He.out hor;have E:Y++(ak (fB all (l.getD a ByteArray.empty))++ak k++dQ all (l.drop (a+k)))=T:=by rw[←step];exact HY.out
       have hlen:=congrArg List.length E;simp only[List.length_append]at hlen;have hp1:=Hpl.out (fB all (l.getD a ByteArray.empty)) (by omega);have hp2:=Hpl.out k (by omega);have hlb:Y.length+(ak (fB all (l.getD a ByteArray.empty))).length+(ak k).length<=100000000:=(by omega);obtain ⟨b,rfl⟩:=hab (by omega);have hbs:=fun q=>z5R _ b m ca all _ (w8.drewN q) (((ra.nx (by decide) oY.nx).drewN q)) Hm.out Za.out hx (by omega);have Zd:=ah hbs;have fin:∀v w,aA w2 w 5 1 v (Y.length+(ak (fB all (l.getD a ByteArray.empty))).length+(ak k).length) (bl Y++bl (ak (fB all (l.getD a ByteArray.empty)))++bl (ak k))->fA w2 w v T (dQ all (l.drop (a+k))):=fun v w o=>⟨Y++ak (fB all (l.getD a ByteArray.empty))++ak k,by rw[List.length_append,List.length_append,show bl (Y++ak (fB all (l.getD a ByteArray.empty))++ak k)=bl Y++bl (ak (fB all (l.getD a ByteArray.empty)))++bl (ak k) by simp[bl]];exact o,by rw[←E];simp only[List.append_assoc]⟩;have Fin:=ah fin;clear fin hbs hlen E step hx HY He;generalize fB all (l.getD a ByteArray.empty)=ix at *;have q1:decide ((a:Int)+(k:Int)<(n:Int))=false:=by rw[decide_eq_false_iff_not];omega
       have q2:¬(a:Int)+(k:Int)<(n:Int):=(by omega);clear hor he;generalize l.getD a ByteArray.empty=x at *;go_wp2_with fail;go_quiet (fail)
       go_wp2_with fail;with_reducible refine (Zd.out _).mono ?_
       rintro e w9 ⟨⟨okb,rfl⟩,q2,rfl⟩;go_wp2_with fail;with_reducible refine (EW.out ix _ (by omega)).mono ?_
       rintro e w10 ⟨k10,Ue,rfl,o10,hk10,hk10',hc10,_⟩;have oY10:=(oY.tr ((Ch.refl _ w8).drewN _)).tr o10.nx;have r10:=o10.lC;clear o10 Zd;go_wp2_with (at_builtin;(refine z05 rfl (.tmp 77) (.tmp 80) _ rfl 5 i0 _ 1 1 Tryz.underlying26 hi0 hz0 hz1 hz2 rfl (by omega) rfl oY10 _ (some ⟨k10,0,none⟩) (ak ix).length Ue (bl (ak ix)) rfl r10 (kY _) (by simp only[maxLen];omega) (by omega) ?_;intro v11 w11 o11 m11))
       with_reducible refine (EW.out k _ (by omega)).mono ?_
       rintro e w12 ⟨k12,Ud,rfl,o12,hk12,hk12',hc12,_⟩;have oY12:=o11.tr o12.nx;have r12:=o12.lC;clear o12 o11 m11 r10 oY10;go_wp2_with (at_builtin;(refine z05 rfl (.tmp 81) (.tmp 84) _ rfl 5 i0 _ 1 1 Tryz.underlying26 hi0 hz0 hz1 hz2 rfl (by omega) rfl oY12 _ (some ⟨k12,0,none⟩) (ak k).length Ud (bl (ak k)) rfl r12 (kY _) (by simp only[maxLen];omega) (by omega) ?_;intro v13 w13 o13 m13;have Ho13:=ah (Fin.out v13 w13 o13);clear o13 m13))
       go_roundw
       case rel=>exact ⟨a+k,by omega,by go_num,Ho13.out⟩
       case measure=>simp[intOf];omega
    ·obtain rfl:n=a:=by omega
     have e1:dQ all (l.drop n)=[]:=(by rw[List.drop_of_length_le (by omega),z2l]);rw[e1,List.append_nil]at eY;subst eY
     have hpos:0<Y.length:=by
      rw[HC.out];have:=(Hpl.out all.length (by rw[Hm.out];omega)).1;simp only[List.length_append];omega
     obtain ⟨g,cap,hv,hg,hgl⟩:=oY.own.form hpos;subst hv;have hcap:=z07 oY.own;obtain ⟨_,_,hv2,hcp,_⟩:=hcap;injection hv2 with hv1 _ hv3;subst hv1 hv3;have nY:=n2.tr oY.nx;have hch:Calls Tryz.prog 165 #[.int .u8 2,.slice (some ⟨g,0,none⟩) Y.length cap] w8 (kS w8 2 Y):=wX (fun j=>j=g) (some ⟨g,0,none⟩) Y.length cap 2 Y w8 oY.lC (fun j e=>by omega) okC rfl hcp (by omega);have Hch:=ah (hch.mono fun _ _ h=>kS.later nY h);clear hch e1;go_wp2_with fail;with_reducible refine Hch.out.mono ?_
     rintro e w9 h9;by_cases hs:Y.length<=65536
     ·obtain ⟨k9,Uc,rfl,o9,hc9⟩:=h9.1 hs
      go_wp2_with fail;go_ret2;exact ⟨fun _=>⟨k9,Uc,rfl,o9,hc9⟩,fun h=>by omega⟩
     ·obtain ⟨rfl,n9⟩:=h9.2 (by omega)
      go_wp2_with fail;go_ret2;exact ⟨fun h=>by omega,fun _=>⟨rfl,n9⟩⟩
theorem z4s (D:Nat->Prop) (A:Option Addr) (n c:Nat) (l:List ByteArray) (W:World) (hr:Rd W D 1 A n (fJ l)) (hl:l.length=n) (hn:n<=2048) (hs:∀s∈l,s.size<=1024) (hc:n<=c) (hC:(aZ l).length<=65536):
 Calls Tryz.prog 100 #[.slice A n c] W (Yz W (aB 2 (aZ l))):=
 (rD D A n c l W hr hl hn hs hc (by omega)).mono fun _ _ h=>h.1 hC
end Go.Proofs.YtpakjclpjcngmaaGreat
namespace Go.Proofs.YtpakjclpjcngmaaGreat
open Go.Lib
theorem zH {t:List Nat} (ok:okB t) (cap j:Nat) (u:Value) (h:(bl t)[j]?=some u):(bytesRow (bF t) cap).toList[j]?=some u:=by
 have hj:j<t.length:=by
  have:=(List.getElem?_eq_some_iff.1 h).1;simpa [bl]using this
 have e:(bytesRow (bF t) cap).toList=bl t++List.replicate (cap-(bF t).size) (.int .u8 0):=by
  unfold bytesRow bl bF;simp only[Array.toList_append,Array.toList_map,Array.toList_replicate,List.map_map];congr 1
  apply List.map_congr_left
  intro x hx;have:=ok x hx;simp
  omega
 rw[e,List.getElem?_append_left (by simpa [bl]using hj)];exact h
theorem Rd.ofText (w:World) {t:List Nat} (ok:okB t) (cap:Nat) (fz:Nat×Nat):Rd (w.drew.alloc (.cells (bytesRow (bF t) cap) 5 fz)) (fun k=>k=w.heap.size) 1 (some ⟨w.heap.size,0,none⟩) t.length (bl t):=by
 refine ⟨by simp[bl],fun hn=>⟨_,rfl,rfl,fun j u hu=>?_⟩⟩;have h:=Rd.lit w.drew (bytesRow (bF t) cap) 5 fz;have hg:=zH ok cap j u hu
 have hpos:0<(bytesRow (bF t) cap).size:=by
  have:=(List.getElem?_eq_some_iff.1 hg).1;simp at this;omega
 obtain ⟨ad,e,hD,hc⟩:=h.2 (by omega);injection e with e;subst e;exact hc j u hg
theorem Om {xs:List Nat} (ok:okB xs) (p:Nat) (e:Int) (m:Nat):okB (cZ xs p e m).1:=by
 unfold cZ;split
 ·exact fun x hx=>absurd hx (by simp)
 ·split
  ·exact fun x hx=>absurd hx (by simp)
  ·split
   ·exact fun x hx=>absurd hx (by simp)
   ·first
    |exact fun x hx=>ok x (List.mem_of_mem_drop (List.mem_of_mem_take hx))
    |(split
      ·exact fun x hx=>absurd hx (by simp)
      ·exact fun x hx=>ok x (List.mem_of_mem_drop (List.mem_of_mem_take hx)))
section
variable {W : World} {D : Nat → Prop} {g b4 : Nat} {A : Option Addr} {c : Nat} {xs : List Nat} {p : Nat} {e : Int}
theorem Tj (h:aQ W D g A c xs p e) (hb:aG W b4 111 #[.pointer (some ⟨g,0,none⟩)]):Calls Tryz.prog 59 #[.pointer (some ⟨b4,0,none⟩)] W fun en W'=>
 ∃A' c',en=.returned (.slice A' (cZ xs p e 262144).1.length c')/\Rd W' (fun k=>W.heap.size<=k/\k<W'.heap.size) 1 A' (cZ xs p e 262144).1.length (bl (cZ xs p e 262144).1)/\(cZ xs p e 262144).1.length<=c'/\dM W D g A c xs (cZ xs p e 262144).2.1 (cZ xs p e 262144).2.2 W':=by
 have ht:=ah (DZ h 262144 (by decide));have hok:=Om h.ok p e 262144;have c4:W.cell? ⟨b4,0,none⟩=some (.pointer (some ⟨g,0,none⟩)):=hb.cell 0;clear h hb;generalize cZ xs p e 262144=t at *;obtain ⟨t,q,r⟩:=t;simp only at hok;have hconv:=fun w=>run_bytes_of_string (P:=Tryz.prog) w 9 26 5 (bF t) Tryz.underlying9 Tryz.underlying26 Tryz.underlying5;have HR:=ah (fun w cap fz=>Rd.ofText w hok cap fz);have hsz:(bF t).size=t.length:=L_ t;clear hok;go_enter Tryz.func59,Tryz.ntmps59;go_wp2_with fail;refine ht.out.mono ?_;rintro en w2 ⟨rfl,k2⟩;have K2:=ah k2;have hc2:=hconv w2;have hz:W.heap.size<=w2.heap.size:=k2.2.size
 have hle:t.length<=grownCap w2 (bF t).size 0 5:=by
  rw[←hsz];exact grownCap_ge _ _ _ _
 have HR2:=ah (HR.out w2 (grownCap w2 (bF t).size 0 5) ((bytesRow (bF t) (grownCap w2 (bF t).size 0 5)).size,(bytesRow (bF t) (grownCap w2 (bF t).size 0 5)).size+1));have NX:Nx w2 (w2.drew.alloc (.cells (bytesRow (bF t) (grownCap w2 (bF t).size 0 5)) 5 ((bytesRow (bF t) (grownCap w2 (bF t).size 0 5)).size,(bytesRow (bF t) (grownCap w2 (bF t).size 0 5)).size+1))):=((Ch.refl (fun _=>False) w2).drew).alloc _;have hz3:(w2.drew.alloc (.cells (bytesRow (bF t) (grownCap w2 (bF t).size 0 5)) 5 ((bytesRow (bF t) (grownCap w2 (bF t).size 0 5)).size,(bytesRow (bF t) (grownCap w2 (bF t).size 0 5)).size+1))).heap.size=w2.heap.size+1:=by simp
 have K3:=ah (show dM W D g A c xs q r _ from ⟨K2.out.1.nx NX,K2.out.2.trans NX (fun _ _ hf=>hf.elim)⟩);rw[hsz]at hc2 hle HR2 K3 hz3;clear hconv HR k2 K2 NX c4 ht;generalize grownCap w2 t.length 0 5=cap at *;generalize (bytesRow (bF t) cap)=C at *;go_wp2_with fail;go_ret;exact ⟨_,_,rfl,HR2.out.more fun k hk=>⟨by omega,by subst hk;exact Nat.lt_of_lt_of_eq (Nat.lt_succ_self _) hz3.symm⟩,hle,K3.out⟩
end
end Go.Proofs.YtpakjclpjcngmaaGreat
namespace Go.Proofs.YtpakjclpjcngmaaGreat
open Go.RowKit
def iK (l:List ByteArray):List Nat:=l.flatMap fun s=>ak s.size
def h_ (l:List ByteArray):List Nat:=l.flatMap kP
def bC (l:List ByteArray):List Nat:=ak l.length++iK l++h_ l
theorem uY {l:List ByteArray} {k:Nat} (h:k<l.length):iK (l.drop k)=ak (l.getD k ByteArray.empty).size++iK (l.drop (k+1)):=by
 have e0:l.getD k ByteArray.empty=l[k]:=by rw[List.getD,List.getElem?_eq_getElem h];rfl
 rw[List.drop_eq_getElem_cons h,e0];unfold iK;rw[List.flatMap_cons]
theorem wY {l:List ByteArray} {k:Nat} (h:k<l.length):h_ (l.drop k)=kP (l.getD k ByteArray.empty)++h_ (l.drop (k+1)):=by
 have e0:l.getD k ByteArray.empty=l[k]:=by rw[List.getD,List.getElem?_eq_getElem h];rfl
 rw[List.drop_eq_getElem_cons h,e0];unfold h_;rw[List.flatMap_cons]
theorem VY:∀{l:List ByteArray},(∀s∈l,s.size<=1024)->okB (iK l)/\(iK l).length<=10 * l.length:=by
 intro l;induction l with
 |nil=>intro _;exact ⟨fun x hx=>by simp[iK]at hx,by simp[iK]⟩
 |cons s l ih=>
  intro h;obtain ⟨h1,h2⟩:=ih fun t ht=>h t (by simp[ht]);have h3:=h s (by simp);have h4:=(z06 (n:=s.size) (by omega)).2;have e:iK (s::l)=ak s.size++iK l:=(by simp[iK]);rw[e,List.length_append,List.length_cons];exact ⟨jU (jV (by omega)) h1,by omega⟩
theorem XP:∀{l:List ByteArray},(∀s∈l,s.size<=1024)->okB (h_ l)/\(h_ l).length<=1024 * l.length:=by
 intro l;induction l with
 |nil=>intro _;exact ⟨fun x hx=>by simp[h_]at hx,by simp[h_]⟩
 |cons s l ih=>
  intro h;obtain ⟨h1,h2⟩:=ih fun t ht=>h t (by simp[ht]);have h3:=h s (by simp);have e:h_ (s::l)=kP s++h_ l:=(by simp[h_]);rw[e,List.length_append,List.length_cons,AO];exact ⟨jU (xP s) h1,by omega⟩
theorem z3w {l:List ByteArray} (hl:l.length<=2048) (hs:∀s∈l,s.size<=1024):okB (bC l)/\(bC l).length<=100000000/\0<(bC l).length:=by
 obtain ⟨h1,h2⟩:=VY hs;obtain ⟨h3,h4⟩:=XP hs;have h5:=z06 (n:=l.length) (by omega);unfold bC;refine ⟨jU (jU (jV (by omega)) h1) h3,?_⟩;rw[List.length_append,List.length_append];omega
theorem rE (D:Nat->Prop) (A:Option Addr) (n c:Nat) (l:List ByteArray) (W:World) (hr:Rd W D 1 A n (fJ l)) (hl:l.length=n) (hn:n<=2048) (hs:∀s∈l,s.size<=1024) (hc:n<=c):
 Calls Tryz.prog 101 #[.slice A n c] W (kS W 3 (bC l)):=by
 obtain ⟨i0,hi0,hz0,hz1,hz2⟩:=info_parts Tryz.info5;have htl:=z5G D A n c l W hr hl hn
 have hno:(l.any fun s=>decide (1024<s.size))=false:=by
  rw[List.any_eq_false];intro s h;have:=hs s h;simpa using this
 rw[hno]at htl;have Jt:=ah htl;obtain ⟨okC,hC,hpos⟩:=z3w (by omega) hs;have Td:bC l=ak l.length++iK l++h_ l:=rfl
 have hsz:∀k,k<l.length->(l.getD k ByteArray.empty).size<=1024:=fun k hk=>by
  rw[List.getD,List.getElem?_eq_getElem hk];exact hs _ (List.getElem_mem hk)
 have HC:=ah Td;have Pz:=ah hsz;have hpu:=fun (v:Nat) (w:World) (hv:v<18446744073709551616)=>YE v w hv;have EW:=ah hpu;have kC:∀v,v<18446744073709551616->1<=(ak v).length/\(ak v).length<=10:=fun v hv=>z06 hv;have Hpl:=ah kC;clear hpu kC htl Td hsz hno hs;generalize bC l=T at *;have Hl:=ah hl;rw[hl]at HC Pz;clear hl;go_enter Tryz.func101,Tryz.ntmps101;go_wp2_with fail;with_reducible refine Jt.out.mono ?_
 rintro e w1 ⟨rfl,rfl⟩;have hcall:=EW.out n W (by omega);go_wp2_with fail;with_reducible refine hcall.mono ?_
 rintro e w3 ⟨k3,cap3,rfl,o3,hk3,hk3',hc3,_⟩;have hO:fA W w3 (.slice (some ⟨k3,0,none⟩) (ak n).length cap3) T (iK (l.drop 0)++h_ l):=⟨ak n,o3,by rw[HC.out,List.drop_zero];simp only[List.append_assoc]⟩;have HO:=ah hO;clear hO o3 hcall;go_wp2_with fail;go_loopw [4,17] (fun v i wr=>∃k:Nat,k<=n/\i=.int .i64 (k:Int)/\fA W wr v T (iK (l.drop k)++h_ l)) (fun _ i _=>n-(intOf i).toNat)
 case atStart=>exact ⟨0,Nat.zero_le _,rfl,HO.out⟩
 case round=>
  clear HO;obtain ⟨w4,rfl⟩:∃w4:World,w4=wr:=⟨_,rfl⟩;obtain ⟨k,hk,rfl,hout⟩:=hrel;obtain ⟨X,oX,eX,lX⟩:=hout.len;by_cases hlt:k<n
  ·have e1:=uY (l:=l) (k:=k) (by rw[Hl.out];exact hlt)
   have hs1:=Pz.out k hlt;obtain ⟨ad,rfl,_,hcell⟩:=(hr.nx (by decide) oX.nx).2 (by omega);have hc0:=hcell k _ (ZE (by rw[Hl.out];exact hlt));rw[e1]at eX;have E:=ah eX;have hlen:=congrArg List.length eX;simp only[List.length_append]at hlen;clear hcell e1 eX hout lX;generalize l.getD k ByteArray.empty=s at *;have hp:=Hpl.out s.size (by omega);have hcall:=EW.out s.size w4 (by omega);have hlb:X.length+(ak s.size).length<=100000000:=(by omega);clear hlen;go_wp2_with fail;with_reducible refine hcall.mono ?_
   rintro e w5 ⟨k5,cap5,rfl,o5,hk5,hk5',hc5,_⟩;have oX5:=oX.tr o5.nx;have r5:=o5.lC;clear o5 oX hcall;have fin:∀v w,aA W w 5 1 v (X.length+(ak s.size).length) (bl X++bl (ak s.size))->fA W w v T (iK (l.drop (k+1))++h_ l):=fun v w o=>⟨X++ak s.size,by rw[List.length_append,show bl (X++ak s.size)=bl X++bl (ak s.size) by simp[bl]];exact o,by rw[←E.out];simp only[List.append_assoc]⟩;have Fin:=ah fin;clear fin E;go_wp2_with (at_builtin;(refine z05 rfl (.tmp 21) (.tmp 25) _ rfl 5 i0 _ 1 1 Tryz.underlying26 hi0 hz0 hz1 hz2 rfl (by omega) rfl oX5 _ (some ⟨k5,0,none⟩) (ak s.size).length cap5 (bl (ak s.size)) rfl r5 (kY _) (by simp only[maxLen];omega) (by omega) ?_;intro v7 w7 o7 m7;have Ho7:=ah (Fin.out v7 w7 o7);clear o7 m7))
   go_roundw
   case rel=>exact ⟨k+1,by omega,by go_num,Ho7.out⟩
   case measure=>simp[intOf];omega
  ·obtain rfl:n=k:=by omega
   have e1:iK (l.drop n)=[]:=by
    rw[List.drop_of_length_le (by rw[Hl.out];omega)];rfl
   have hO2:fA W w4 u4 T (h_ (l.drop 0)):=⟨X,oX,by rw[List.drop_zero,←eX,e1];rfl⟩;have HO2:=ah hO2;clear e1 eX hout lX hO2 oX;go_wp2_with fail;go_loopw [4,30] (fun v i wr=>∃k:Nat,k<=n/\i=.int .i64 (k:Int)/\fA W wr v T (h_ (l.drop k))) (fun _ i _=>n-(intOf i).toNat)
   case atStart=>exact ⟨0,Nat.zero_le _,rfl,HO2.out⟩
   case round=>
    clear HO2;obtain ⟨w8,rfl⟩:∃w8:World,w8=wr:=⟨_,rfl⟩;obtain ⟨k,hk,rfl,hout⟩:=hrel;obtain ⟨Y,oY,eY,lY⟩:=hout.len;by_cases hlt:k<n
    ·have e1:=wY (l:=l) (k:=k) (by rw[Hl.out];exact hlt)
     have hs1:=Pz.out k hlt;obtain ⟨ad,rfl,_,hcell⟩:=(hr.nx (by decide) oY.nx).2 (by omega);have hc0:=hcell k _ (ZE (by rw[Hl.out];exact hlt));rw[e1]at eY;have E:=ah eY;have hlen:=congrArg List.length eY;simp only[List.length_append,AO]at hlen;clear hcell e1 eY hout lY;generalize l.getD k ByteArray.empty=s at *;have hlb:Y.length+s.size<=100000000:=(by omega);clear hlen;have fin:∀v w,aA W w 5 1 v (Y.length+s.size) (bl (Y++kP s))->fA W w v T (h_ (l.drop (k+1))):=fun v w o=>⟨Y++kP s,by rw[List.length_append,AO];exact o,by rw[←E.out];simp only[List.append_assoc]⟩;have Fin:=ah fin;clear fin E;go_wp2_with (at_builtin;(refine z4S rfl (.tmp 34) (.tmp 35) _ 9 rfl 5 i0 Tryz.underlying26 Tryz.underlying9 hi0 hz0 hz1 hz2 rfl oY s rfl (by simp only[maxLen];omega) (by omega) ?_;intro v8 w8 o8;have Ho8:=ah (Fin.out v8 w8 o8);clear o8))
     go_roundw
     case rel=>exact ⟨k+1,by omega,by go_num,Ho8.out⟩
     case measure=>simp[intOf];omega
    ·obtain rfl:n=k:=by omega
     have e1:h_ (l.drop n)=[]:=by
      rw[List.drop_of_length_le (by rw[Hl.out];omega)];rfl
     rw[e1,List.append_nil]at eY;subst eY;obtain ⟨g,cap,hv,hg,hgl⟩:=oY.own.form hpos;subst hv;have hcap:=z07 oY.own;obtain ⟨_,_,hv2,hcp,_⟩:=hcap;injection hv2 with hv1 _ hv3;subst hv1 hv3;have nY:=oY.nx;have hch:Calls Tryz.prog 165 #[.int .u8 3,.slice (some ⟨g,0,none⟩) Y.length cap] w8 (kS w8 3 Y):=wX (fun j=>j=g) (some ⟨g,0,none⟩) Y.length cap 3 Y w8 oY.lC (fun j e=>by omega) okC rfl hcp (by omega);have Hch:=ah (hch.mono fun _ _ h=>kS.later nY h);clear hch e1;go_wp2_with fail;with_reducible refine Hch.out.mono ?_
     rintro e w9 h9;by_cases hs:Y.length<=65536
     ·obtain ⟨k9,Uc,rfl,o9,hc9⟩:=h9.1 hs
      go_wp2_with fail;go_ret2;exact ⟨fun _=>⟨k9,Uc,rfl,o9,hc9⟩,fun h=>by omega⟩
     ·obtain ⟨rfl,n9⟩:=h9.2 (by omega)
      go_wp2_with fail;go_ret2;exact ⟨fun h=>by omega,fun _=>⟨rfl,n9⟩⟩
theorem z4t (D:Nat->Prop) (A:Option Addr) (n c:Nat) (l:List ByteArray) (W:World) (hr:Rd W D 1 A n (fJ l)) (hl:l.length=n) (hn:n<=2048) (hs:∀s∈l,s.size<=1024) (hc:n<=c) (hC:(bC l).length<=65536):
 Calls Tryz.prog 101 #[.slice A n c] W (Yz W (aB 3 (bC l))):=
 (rE D A n c l W hr hl hn hs hc).mono fun _ _ h=>h.1 hC
end Go.Proofs.YtpakjclpjcngmaaGreat
