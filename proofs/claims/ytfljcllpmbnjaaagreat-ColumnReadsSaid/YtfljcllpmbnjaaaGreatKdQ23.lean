/- Contracts and plain laws that the last text rests on. Conditions: each theorem states its own. -/
import Derived.Test.YtfljcllpmbnjaaaGreatKdPdSortS
import Derived.Test.YtfljcllpmbnjaaaGreatKdQ10
import Derived.Test.YtfljcllpmbnjaaaGreatKdQ22
import Derived.Lib.AppendStr
set_option maxRecDepth 100000
set_option maxHeartbeats 16000000
set_option linter.unusedVariables false
namespace Go.Proofs.YtfljcllpmbnjaaaGreat
open Go.RowKit
def IdxL (l:List ByteArray) (W:World) (e:Ending) (w':World):Prop:=
 ∃r:Int,e=.returned (.int .i64 r)/\W=w'/\(decide (0<=r)=l.any fun s=>decide (1024<s.size))
theorem JU (s:ByteArray) (w:World):Calls Tryz.prog 84 #[.string s] w fun e w'=>e=.returned (.bool (decide (1024<s.size)))/\w=w':=by
 go_enter Tryz.func84,Tryz.ntmps84;go_wp2_with fail;go_ret;exact ⟨by show Ending.returned (Value.bool (decide ((1024:Int)<(s.size:Int))))=_;rw[decide_eq_decide.2 (show (1024:Int)<(s.size:Int)↔1024<s.size from ⟨fun h=>by omega,fun h=>by omega⟩)],rfl⟩
theorem index_long (D:Nat->Prop) (A:Option Addr) (n c:Nat) (l:List ByteArray) (W:World) (hr:Rd W D 1 A n (bW l)) (hl:l.length=n) (hn:n<=1000000):
 Calls Tryz.prog 119 #[.slice A n c,.func (.func 84) #[] #[]] W (IdxL l W):=by
 subst hl;have hcl:=fun s=>JU s W;have tJ:=ah hcl;clear hcl;go_enter Tryz.func119,Tryz.ntmps119;go_wp2_with fail;go_loop [8] (fun i=>∃k:Nat,k<=l.length/\i=.int .i64 k/\Hid (∀j,j<k->(l.getD j ByteArray.empty).size<=1024)) (fun i=>l.length-(intOf i).toNat)
 case atStart=>exact ⟨0,by omega,rfl,ah (fun j hj=>by omega)⟩
 case round=>
  obtain ⟨k,hk,rfl,He⟩:=hrel;by_cases hlt:k<l.length
  ·obtain ⟨ad,rfl, -,hcell⟩:=hr.2 (by omega)
   have hc0:=hcell _ _ (yj hlt);have HK:=ah (show l.getD k ByteArray.empty=l.getD k ByteArray.empty from rfl)
   have hany:1024<(l.getD k ByteArray.empty).size->(l.any fun s=>decide (1024<s.size))=true:=fun h=>by
    rw[List.any_eq_true];refine ⟨l[k],List.getElem_mem hlt,?_⟩;have e0:l.getD k ByteArray.empty=l[k]:=by rw[List.getD,List.getElem?_eq_getElem hlt];rfl
    rw[e0]at h;simpa using h
   have TU:=ah hany
   have hnx:(l.getD k ByteArray.empty).size<=1024->Hid (∀j,j<k+1->(l.getD j ByteArray.empty).size<=1024):=fun h=>ah fun j hj=>by
    by_cases e:j=k
    ·subst e;exact h
    ·exact He.out j (by omega)
   have Jq:=ah hnx;clear hcell hany hnx HK;generalize l.getD k ByteArray.empty=s at *;by_cases hs:1024<s.size
   ·have hd:decide (1024<s.size)=true:=decide_eq_true hs
    have hfin:=TU.out hs;have fF:=ah hfin;have hcall:=tJ.out s;rw[hd]at hcall;have dS:=ah hcall;clear hfin TU Jq hcall;go_wp2_with fail;refine dS.out.mono ?_;rintro e w1 ⟨rfl,rfl⟩;go_wp2_with fail;go_ret;exact ⟨_,rfl,rfl,by rw[fF.out];simp⟩
   ·have hd:decide (1024<s.size)=false:=decide_eq_false hs
    have hnx:=Jq.out (by omega);have hcall:=tJ.out s;rw[hd]at hcall;have dS:=ah hcall;clear TU Jq hcall;go_wp2_with fail;refine dS.out.mono ?_;rintro e w1 ⟨rfl,rfl⟩;go_wp2_with fail;go_round
    case rel=>exact ⟨k+1,by omega,by go_num,hnx⟩
    case measure=>simp[intOf];omega
  ·obtain rfl:k=l.length:=by omega
   have hno:(l.any fun s=>decide (1024<s.size))=false:=by
    rw[List.any_eq_false];intro s hs;obtain ⟨j,hj,rfl⟩:=List.mem_iff_getElem.1 hs;have:=He.out j hj;rw[List.getD,List.getElem?_eq_getElem hj]at this;simpa using this
   have Hno:=ah hno;clear hno;go_wp2_with fail;go_ret;exact ⟨_,rfl,rfl,by rw[Hno.out];simp⟩
theorem qQ (D:Nat->Prop) (A:Option Addr) (n c:Nat) (l:List ByteArray) (W:World) (hr:Rd W D 1 A n (bW l)) (hl:l.length=n) (hn:n<=1000000):
 Calls Tryz.prog 83 #[.slice A n c,.func (.func 84) #[] #[]] W fun e w'=>e=.returned (.bool (l.any fun s=>decide (1024<s.size)))/\W=w':=by
 have Hi:=ah (index_long D A n c l W hr hl hn);clear hr;go_enter Tryz.func83,Tryz.ntmps83;go_wp2_with fail;with_reducible refine Hi.out.mono ?_
 rintro e w1 ⟨r,rfl,rfl,hd⟩;have Hd:=ah hd;clear hd;go_wp2_with fail;go_ret;rw[←Hd.out];exact ⟨rfl,rfl⟩
theorem Yg (D:Nat->Prop) (A:Option Addr) (n c:Nat) (l:List ByteArray) (W:World) (hr:Rd W D 1 A n (bW l)) (hl:l.length=n) (hn:n<=2048):
 Calls Tryz.prog 40 #[.slice A n c] W fun e w'=>e=.returned (.bool (l.any fun s=>decide (1024<s.size)))/\W=w':=by
 have Hi:=ah (qQ D A n c l W hr hl (by omega));clear hr;have q1:decide ((2048:Int)<(n:Int))=false:=by rw[decide_eq_false_iff_not];omega
 generalize (l.any fun s=>decide (1024<s.size))=bb at *;go_enter Tryz.func40,Tryz.ntmps40;go_wp2_with fail;refine Hi.out.mono ?_;rintro e w1 ⟨rfl,rfl⟩;go_wp2_with fail;go_ret;exact ⟨rfl,rfl⟩
theorem yc (s:ByteArray):Lib.strCells s=bl (iU s):=by
 unfold Lib.strCells bl iU;rw[List.map_map];rfl
theorem Ud (a b:ByteArray):(a.toList==b.toList)=decide (a=b):=by
 rw[Bool.eq_iff_iff,beq_iff_eq,decide_eq_true_iff];constructor
 ·intro h
  rw[ByteArray.toList_eq,ByteArray.toList_eq]at h;cases a;cases b
  simpa [Array.ext_iff]using congrArg List.toArray h
 ·rintro rfl;rfl
theorem Yn {P:Program} {ops:Array Oper} {rest:List Oper} {o:Oper} {a:Act} {Q:Exit->Act->World->Prop} (hgd:o.guard=none) (sl x:Operand) (t u:TypeId)
 (ho:o.op=.call { callee:=.builtin .append,args:= #[sl,x],argTypes:= #[t,u]})
 (e:TypeId) (i:TypeInfo) (ht:P.underlying t=some (.slice e)) (hu:P.underlying u=some .string) (hi:P.info? e=some i) (hz:i.zero=some (.int .u8 0))
 (hsize:i.size=1) (hby:i.bytes=1)
 {W w:World} {v:Value} {n:Nat} {xs:List Nat} (hs:a.eval sl=v) (hown:au W w e 1 v n (bl xs)) (s:ByteArray) (hx:a.eval x=.string s)
 (h63:n+s.size<=maxLen) (hbytes:n+s.size<=140737488355328)
 (h:∀v' w',au W w' e 1 v' (n+s.size) (bl (xs++iU s))->wpList P ops Q rest (a.put o.dst v') w'):wpList P ops Q (o::rest) a w:=
 Lib.wpList_append_own_string w hgd sl x t u ho W.heap.size e i ht hu hi hz hsize hby v n (bl xs) hs hown.own s hx h63 hbytes hown.nx.size fun v' w' h2 h3 h4=>
  h v' w' ⟨by rw[show bl (xs++iU s)=bl xs++bl (iU s) by simp[bl],←yc];exact h2,hown.nx.grown h3 fun k hk hlt=>by have:=hown.lt k hk;omega⟩
def dJ (w0 w:World) (v:Value) (T rest:List Nat):Prop:=∃X,au w0 w 5 1 v X.length (bl X)/\X++rest=T
theorem dJ.len {w0 w:World} {v:Value} {T rest:List Nat} (h:dJ w0 w v T rest):∃X,au w0 w 5 1 v X.length (bl X)/\X++rest=T/\X.length+rest.length=T.length:=by
 obtain ⟨X,o,e⟩:=h;exact ⟨X,o,e,by rw[←e,List.length_append]⟩
def jc (W:World) (kind:Nat) (xs:List Nat) (e:Ending) (w':World):Prop:=
 (xs.length<=65536->z2b W (aC kind xs) e w')/\(65536<xs.length->e=.returned (.tuple #[.slice none 0 0,.int .i64 5])/\Nx W w')
theorem jc.later {W w w':World} {kind:Nat} {xs:List Nat} {e:Ending} (n:Nx W w) (h:jc w kind xs e w'):jc W kind xs e w':=by
 refine ⟨fun hl=>?_,fun hl=>?_⟩
 ·obtain ⟨k,cap,he,o,hc⟩:=h.1 hl
  exact ⟨k,cap,he,⟨iT o.own n.size,n.tr o.nx⟩,hc⟩
 ·exact ⟨(h.2 hl).1,n.tr (h.2 hl).2⟩
theorem tu (D:Nat->Prop) (A:Option Addr) (n c kind:Nat) (xs:List Nat) (W:World) (hr:Rd W D 1 A n (bl xs)) (dX:∀k,D k->k<W.heap.size) (ok:okB xs) (hl:xs.length=n) (hc:n<=c) (hk:kind<256):
 Calls Tryz.prog 33 #[.int .u8 (kind:Int),.slice A n c] W (jc W kind xs):=by
 by_cases h:n<=65536
 ·exact (Ze D A n c kind xs W hr dX ok hl hc h hk).mono fun _ _ h2=>⟨fun _=>h2,fun h3=>by omega⟩
 ·exact (oz A n c kind W (by omega)).mono fun _ _ h2=>⟨fun h3=>by omega,fun _=>h2⟩
theorem z3g (D:Nat->Prop) (A:Option Addr) (n c:Nat) (l:List ByteArray) (W:World) (hr:Rd W D 1 A n (bW l)) (hl:l.length=n) (hn:n<=2048) (hs:∀s∈l,s.size<=1024) (hc:n<=c) (hC:(aV l).length<=100000000):
 Calls Tryz.prog 12 #[.slice A n c] W (jc W 2 (aV l)):=by
 obtain ⟨i0,hi0,hz0,hz1,hz2⟩:=info_parts Tryz.info5;have htl:=Yg D A n c l W hr hl hn
 have hno:(l.any fun s=>decide (1024<s.size))=false:=by
  rw[List.any_eq_false];intro s h;have:=hs s h;simpa using this
 rw[hno]at htl;have jk:=ah htl;have hrb:=hr.below_ (by decide);have Vw:=RJ (by omega) hs;have xg:aV l=aj (bP l).length++je (bP l)++aj l.length++bK (bP l) l:=rfl
 have hsz:∀k,k<(bP l).length->((bP l).getD k ByteArray.empty).size<=1024:=fun k hk=>by
  rw[List.getD,List.getElem?_eq_getElem hk];exact hs _ (AZ.1 (List.getElem_mem hk))
 have kC:=z11 l
 have hmem:∀k,k<n->l.getD k ByteArray.empty∈bP l:=fun k hk=>by
  rw[List.getD,List.getElem?_eq_getElem (by omega)];exact AZ.2 (List.getElem_mem _)
 have hrise:=tC l;have QX:(Eu l).map Go.Proofs.encStr=bW (bP l):=by rw[Pj];rfl
 have hallL:(Eu l).length=(bP l).length:=by simp[bP]
 have hcmp:∀w v,au W w 9 1 v n ((jy l).map Go.Proofs.encStr)->Calls Tryz.prog 41 #[v] w fun e w'=>
  ∃A c,e=.returned (.slice A (bP l).length c)/\Rd w' (fun k=>W.heap.size<=k/\k<w'.heap.size) 1 A (bP l).length (bW (bP l))/\Nx W w'/\(0<(bP l).length->∃b,A=some ⟨b,0,none⟩)/\(bP l).length<=c:=fun w v o=>by
  have:=zQ W w v n (jy l) (by rw[ZL,hl]) (by omega) o;unfold N_ at this;have e1:Lib.compact (jy l)=Eu l:=rfl;rw[e1,hallL,QX]at this;exact this
 have Hcmp:=ah hcmp;have jC:=ah hmem;have Rh:=ah hrise;have HC:=ah xg;have wW:=ah hsz;have hidx:∀x,x∈bP l->dw (bP l) x<(bP l).length:=fun x hx=>Oh hx;have Jf:=ah hidx;generalize bP l=all at *;clear htl hcmp hmem hrise xg hsz QX hallL hno hidx hs;have hpu:=fun (v:Nat) (w:World) (hv:v<18446744073709551616)=>Uf v w hv;have pR:=ah hpu;clear hpu;have iY:∀v,v<18446744073709551616->1<=(aj v).length/\(aj v).length<=10:=fun v hv=>z07 hv;have Hpl:=ah iY;clear iY;generalize aV l=T at *;go_enter Tryz.func12,Tryz.ntmps12;go_wp2_with fail;with_reducible refine jk.out.mono ?_
 rintro e w1 ⟨rfl,rfl⟩;go_wp2_with fail;with_reducible refine (Bl A n c _).mono ?_
 rintro e w1 ⟨rfl,rfl⟩;have hb0:(W.alloc (.cells #[.slice A n c] 23)).cell? ⟨W.heap.size,0,none⟩=some (.slice A n c):=(dD.new W 23 #[.slice A n c]).cell 0;have hn0:Nx W (W.alloc (.cells #[.slice A n c] 23)):=(Ch.refl _ W).alloc _;have hr0:=(hrb.nx (by decide) hn0).below_ (by decide);have Xl:=ah (Cb W.heap.size A n c l hl (by omega) hc _ hb0 hr0);clear hb0 hr0;go_wp2_with fail;with_reducible refine Xl.out.mono ?_
 rintro e w1 ⟨v1,rfl,o1⟩;have hcall:=Hcmp.out w1 v1 ⟨iT o1.own hn0.size,hn0.tr o1.nx⟩;clear o1 hn0 Xl;go_wp2_with fail;with_reducible refine hcall.mono ?_
 rintro e w2 ⟨Aa,ca,rfl,ra,n2,hab,hca⟩;have hr2:=hr.nx (by decide) n2;obtain ⟨m,hm⟩:∃m,all.length=m:=⟨_,rfl⟩;rw[hm]at ra hab hca;have Hm:=ah hm;have hmn:m<=n:=by omega
 clear hcall hm;rw[Hm.out];clear kC;have hcall:=pR.out m w2 (by omega);go_wp2_with fail;with_reducible refine hcall.mono ?_
 rintro e w3 ⟨k3,cap3,rfl,o3,hk3,hk3',hc3,_⟩;have hO:dJ w2 w3 (.slice (some ⟨k3,0,none⟩) (aj m).length cap3) T (je (all.drop 0)++(aj l.length++bK all l)):=⟨aj m,o3,by rw[HC.out,Hm.out,List.drop_zero];simp only[List.append_assoc]⟩;have HO:=ah hO;clear hO o3 hcall;go_wp2_with fail;go_loopw [5,24] (fun v i wr=>∃k:Nat,k<=m/\i=.int .i64 (k:Int)/\dJ w2 wr v T (je (all.drop k)++(aj l.length++bK all l))) (fun _ i _=>m-(intOf i).toNat)
 case atStart=>exact ⟨0,Nat.zero_le _,rfl,HO.out⟩
 case round=>
  clear HO;obtain ⟨w4,rfl⟩:∃w4:World,w4=wr:=⟨_,rfl⟩;obtain ⟨k,hk,rfl,hout⟩:=hrel;obtain ⟨X,oX,eX,lX⟩:=hout.len;by_cases hlt:k<m
  ·have e1:=Ym (all:=all) (k:=k) (by rw[Hm.out];exact hlt)
   have hs1:=wW.out k (by rw[Hm.out];exact hlt);obtain ⟨ad,rfl,_,hcell⟩:=(ra.nx (by decide) oX.nx).2 (by omega);have hc0:=hcell k _ (yj (by rw[Hm.out];exact hlt));rw[e1]at eX;have E:=ah eX;have hlen:=congrArg List.length eX;simp only[List.length_append,kJ]at hlen;clear hcell e1 eX hout lX;generalize all.getD k ByteArray.empty=s at *;have hp:=Hpl.out s.size (by omega);have hcall:=pR.out s.size w4 (by omega);have hlb:X.length+(aj s.size).length+s.size<=100000000:=(by omega);clear hlen;go_wp2_with fail;with_reducible refine hcall.mono ?_
   rintro e w5 ⟨k5,cap5,rfl,o5,hk5,hk5',hc5,_⟩;have oX5:=oX.tr o5.nx;have r5:=o5.fM;clear o5 oX hcall;have fin:∀v w,au w2 w 5 1 v ((X++aj s.size).length+s.size) (bl (X++aj s.size++iU s))->dJ w2 w v T (je (all.drop (k+1))++(aj l.length++bK all l)):=fun v w o=>⟨X++aj s.size++iU s,by rw[List.length_append,kJ];exact o,by rw[←E.out];simp only[List.append_assoc]⟩;have Fin:=ah fin;clear fin E
   go_wp2_with (at_builtin;first
    |(refine z01 rfl (.tmp 28) (.tmp 32) _ rfl 5 i0 _ 1 1 Tryz.underlying27 hi0 hz0 hz1 hz2 rfl (by omega) rfl oX5 _ (some ⟨k5,0,none⟩) (aj s.size).length cap5 (bl (aj s.size)) rfl r5 (iP _) (by simp only[maxLen];omega) (by omega) ?_;intro v7 w7 o7 m7;rw[←List.length_append,show bl X++bl (aj s.size)=bl (X++aj s.size) by simp[bl]]at o7)
    |(refine Yn rfl (.tmp 33) (.tmp 34) _ 9 rfl 5 i0 Tryz.underlying27 Tryz.underlying9 hi0 hz0 hz1 hz2 rfl o7 s rfl (by rw[List.length_append];simp only[maxLen];omega) (by rw[List.length_append];omega) ?_;intro v8 w8 o8;have Ho8:=ah (Fin.out v8 w8 o8);clear o8))
   go_roundw
   case rel=>exact ⟨k+1,by omega,by go_num,Ho8.out⟩
   case measure=>simp[intOf];omega
  ·obtain rfl:m=k:=by omega
   have e1:je (all.drop m)=[]:=by
    rw[List.drop_of_length_le (by rw[Hm.out];omega)];rfl
   rw[e1,List.nil_append]at eX;have E:=ah eX;have hlen:=congrArg List.length eX;simp only[List.length_append]at hlen;have hp:=Hpl.out l.length (by omega);have hlb:X.length+(aj l.length).length<=100000000:=(by omega);clear hlen e1 eX hout lX;have hcall:=pR.out l.length w4 (by omega);rw[hl]at hcall hp hlb;go_wp2_with fail;with_reducible refine hcall.mono ?_
   rintro e w5 ⟨k5,cap5,rfl,o5,hk5,hk5',hc5,_⟩;have oX5:=oX.tr o5.nx;have r5:=o5.fM;clear o5 oX hcall;have fin:∀v w,au w2 w 5 1 v (X.length+(aj n).length) (bl X++bl (aj n))->dJ w2 w v T (bK all (l.drop 0)):=fun v w o=>⟨X++aj n,by rw[List.length_append,show bl (X++aj n)=bl X++bl (aj n) by simp[bl]];exact o,by rw[←E.out,List.drop_zero,hl];simp only[List.append_assoc]⟩;have Fin:=ah fin;clear fin E;go_wp2_with (at_builtin;(refine z01 rfl (.tmp 37) (.tmp 41) _ rfl 5 i0 _ 1 1 Tryz.underlying27 hi0 hz0 hz1 hz2 rfl (by omega) rfl oX5 _ (some ⟨k5,0,none⟩) (aj n).length cap5 (bl (aj n)) rfl r5 (iP _) (by simp only[maxLen];omega) (by omega) ?_;intro v7 w7 o7 m7;have Ho7:=ah (Fin.out v7 w7 o7);clear o7 m7))
   clear Fin r5 oX5 hp hlb;go_loopw [5,8] (fun v i wr=>∃a:Nat,a<=n/\i=.int .i64 (a:Int)/\dJ w2 wr v T (bK all (l.drop a))) (fun _ i _=>n-(intOf i).toNat)
   case atStart=>exact ⟨0,Nat.zero_le _,rfl,Ho7.out⟩
   case round=>
    clear Ho7;obtain ⟨w8,rfl⟩:∃w8:World,w8=wr:=⟨_,rfl⟩;obtain ⟨a,ha,rfl,hout⟩:=hrel;obtain ⟨Y,oY,eY,lY⟩:=hout.len;by_cases hlt:a<n
    ·have hrl:=hr2.nx (by decide) oY.nx
     obtain ⟨ad,rfl,_,hcell⟩:=hrl.2 (by omega);have HY:=ah eY;have TL:=ah (fun j (hj:j<n)=>hcell j _ (yj (by omega)));have c0:w8.cell? (ad.add a)=some (.string (l.getD a ByteArray.empty)):=TL.out a hlt;clear hcell eY hout hrl lY;go_wp2_with fail;go_loopw [9] (fun j wr=>∃k q:Nat,1<=k/\a+k<=n/\j=.int .i64 (k:Int)/\wr=w8.drewN q/\Hid (∀i,i<k->l.getD (a+i) ByteArray.empty=l.getD a ByteArray.empty)) (fun j _=>n-(intOf j).toNat)
     case atStart=>exact ⟨1,0,by omega,by omega,rfl,rfl,ah (fun i hi=>by rw[show i=0 by omega];rfl)⟩
     case round=>
      obtain ⟨k,q,hk1,hk2,rfl,rfl,He⟩:=hrel;have kw:IntKind.i64.wrap ((a:Int)+(k:Int))=(a:Int)+(k:Int):=IntWalk.i64_in _ (by omega);have b4:((a:Int)+(k:Int)).toNat=a+k:=(by omega);have b5:(0:Int)<=(a:Int)+(k:Int):=by omega
      have key:(a+k<n/\l.getD (a+k) ByteArray.empty=l.getD a ByteArray.empty)∨(a+k<n/\l.getD (a+k) ByteArray.empty≠l.getD a ByteArray.empty)∨a+k=n:=by
       by_cases h1:a+k<n
       ·by_cases h2:l.getD (a+k) ByteArray.empty=l.getD a ByteArray.empty
        ·exact .inl ⟨h1,h2⟩
        ·exact .inr (.inl ⟨h1,h2⟩)
       ·exact .inr (.inr (by omega))
      rcases key with ⟨hlt2,he⟩|⟨hlt2,he⟩|he
      ·have q1:decide ((a:Int)+(k:Int)<(n:Int))=true:=by rw[decide_eq_true_iff];omega
       have q2:(a:Int)+(k:Int)<(n:Int):=(by omega);have ck:=TL.out (a+k) hlt2
       have hn2:Hid (∀i,i<k+1->l.getD (a+i) ByteArray.empty=l.getD a ByteArray.empty):=ah fun i hi=>by
        by_cases e:i=k
        ·subst e;exact he
        ·exact He.out i (by omega)
       rw[he]at ck;have hq:((l.getD a ByteArray.empty).toList==(l.getD a ByteArray.empty).toList)=true:=(by simp);clear he He;generalize l.getD a ByteArray.empty=x at *;go_wp2_with fail;go_quiet (fail)
       go_wp2_with fail;go_roundw
       case rel=>exact ⟨k+1,_,by omega,by omega,by go_num,rfl,hn2⟩
       case measure=>simp[intOf];omega
      ·have hor:a+k=l.length∨l.getD (a+k) ByteArray.empty≠l.getD a ByteArray.empty:=.inr he
       have hx:=jC.out a hlt;have hid:=Jf.out _ hx;rw[Hm.out]at hid;have step:=Un (all:=all) (l:=l) (at_:=a) (n:=k) (by omega) (by omega) He.out hor;have E:Y++(aj (dw all (l.getD a ByteArray.empty))++aj k++bK all (l.drop (a+k)))=T:=by rw[←step];exact HY.out
       have hlen:=congrArg List.length E;simp only[List.length_append]at hlen;have hp1:=Hpl.out (dw all (l.getD a ByteArray.empty)) (by omega);have hp2:=Hpl.out k (by omega);have hlb:Y.length+(aj (dw all (l.getD a ByteArray.empty))).length+(aj k).length<=100000000:=(by omega);obtain ⟨b,rfl⟩:=hab (by omega);have hbs:=fun q=>z5s _ b m ca all _ (w8.drewN q) (((ra.nx (by decide) oY.nx).drewN q)) Hm.out Rh.out hx (by omega);have Rl:=ah hbs;have fin:∀v w,au w2 w 5 1 v (Y.length+(aj (dw all (l.getD a ByteArray.empty))).length+(aj k).length) (bl Y++bl (aj (dw all (l.getD a ByteArray.empty)))++bl (aj k))->dJ w2 w v T (bK all (l.drop (a+k))):=fun v w o=>⟨Y++aj (dw all (l.getD a ByteArray.empty))++aj k,by rw[List.length_append,List.length_append,show bl (Y++aj (dw all (l.getD a ByteArray.empty))++aj k)=bl Y++bl (aj (dw all (l.getD a ByteArray.empty)))++bl (aj k) by simp[bl]];exact o,by rw[←E];simp only[List.append_assoc]⟩;have Fin:=ah fin;clear fin hbs hlen E step hx HY He;generalize dw all (l.getD a ByteArray.empty)=ix at *;have q1:decide ((a:Int)+(k:Int)<(n:Int))=true:=by rw[decide_eq_true_iff];omega
       have q2:(a:Int)+(k:Int)<(n:Int):=(by omega);have ck:=TL.out (a+k) hlt2;have hq:((l.getD (a+k) ByteArray.empty).toList==(l.getD a ByteArray.empty).toList)=false:=by rw[Ud];exact decide_eq_false he
       clear hor he;generalize l.getD (a+k) ByteArray.empty=y at *;generalize l.getD a ByteArray.empty=x at *;go_wp2_with fail;go_quiet (fail)
       go_wp2_with fail;with_reducible refine (Rl.out _).mono ?_
       rintro e w9 ⟨⟨okb,rfl⟩,q2,rfl⟩;go_wp2_with fail;with_reducible refine (pR.out ix _ (by omega)).mono ?_
       rintro e w10 ⟨k10,zZ,rfl,o10,hk10,hk10',hc10,_⟩;have oY10:=(oY.tr ((Ch.refl _ w8).drewN _)).tr o10.nx;have r10:=o10.fM;clear o10 Rl;go_wp2_with (at_builtin;(refine z01 rfl (.tmp 77) (.tmp 80) _ rfl 5 i0 _ 1 1 Tryz.underlying27 hi0 hz0 hz1 hz2 rfl (by omega) rfl oY10 _ (some ⟨k10,0,none⟩) (aj ix).length zZ (bl (aj ix)) rfl r10 (iP _) (by simp only[maxLen];omega) (by omega) ?_;intro v11 w11 o11 m11))
       with_reducible refine (pR.out k _ (by omega)).mono ?_
       rintro e w12 ⟨k12,Nw,rfl,o12,hk12,hk12',hc12,_⟩;have oY12:=o11.tr o12.nx;have r12:=o12.fM;clear o12 o11 m11 r10 oY10;go_wp2_with (at_builtin;(refine z01 rfl (.tmp 81) (.tmp 84) _ rfl 5 i0 _ 1 1 Tryz.underlying27 hi0 hz0 hz1 hz2 rfl (by omega) rfl oY12 _ (some ⟨k12,0,none⟩) (aj k).length Nw (bl (aj k)) rfl r12 (iP _) (by simp only[maxLen];omega) (by omega) ?_;intro v13 w13 o13 m13;have Ho13:=ah (Fin.out v13 w13 o13);clear o13 m13))
       go_roundw
       case rel=>exact ⟨a+k,by omega,by go_num,Ho13.out⟩
       case measure=>simp[intOf];omega
      ·have hor:a+k=l.length∨l.getD (a+k) ByteArray.empty≠l.getD a ByteArray.empty:=.inl (by omega)
       have hx:=jC.out a hlt;have hid:=Jf.out _ hx;rw[Hm.out]at hid;have step:=Un (all:=all) (l:=l) (at_:=a) (n:=k) (by omega) (by omega) He.out hor;have E:Y++(aj (dw all (l.getD a ByteArray.empty))++aj k++bK all (l.drop (a+k)))=T:=by rw[←step];exact HY.out
       have hlen:=congrArg List.length E;simp only[List.length_append]at hlen;have hp1:=Hpl.out (dw all (l.getD a ByteArray.empty)) (by omega);have hp2:=Hpl.out k (by omega);have hlb:Y.length+(aj (dw all (l.getD a ByteArray.empty))).length+(aj k).length<=100000000:=(by omega);obtain ⟨b,rfl⟩:=hab (by omega);have hbs:=fun q=>z5s _ b m ca all _ (w8.drewN q) (((ra.nx (by decide) oY.nx).drewN q)) Hm.out Rh.out hx (by omega);have Rl:=ah hbs;have fin:∀v w,au w2 w 5 1 v (Y.length+(aj (dw all (l.getD a ByteArray.empty))).length+(aj k).length) (bl Y++bl (aj (dw all (l.getD a ByteArray.empty)))++bl (aj k))->dJ w2 w v T (bK all (l.drop (a+k))):=fun v w o=>⟨Y++aj (dw all (l.getD a ByteArray.empty))++aj k,by rw[List.length_append,List.length_append,show bl (Y++aj (dw all (l.getD a ByteArray.empty))++aj k)=bl Y++bl (aj (dw all (l.getD a ByteArray.empty)))++bl (aj k) by simp[bl]];exact o,by rw[←E];simp only[List.append_assoc]⟩;have Fin:=ah fin;clear fin hbs hlen E step hx HY He;generalize dw all (l.getD a ByteArray.empty)=ix at *;have q1:decide ((a:Int)+(k:Int)<(n:Int))=false:=by rw[decide_eq_false_iff_not];omega
       have q2:¬(a:Int)+(k:Int)<(n:Int):=(by omega);clear hor he;generalize l.getD a ByteArray.empty=x at *;go_wp2_with fail;go_quiet (fail)
       go_wp2_with fail;with_reducible refine (Rl.out _).mono ?_
       rintro e w9 ⟨⟨okb,rfl⟩,q2,rfl⟩;go_wp2_with fail;with_reducible refine (pR.out ix _ (by omega)).mono ?_
       rintro e w10 ⟨k10,zZ,rfl,o10,hk10,hk10',hc10,_⟩;have oY10:=(oY.tr ((Ch.refl _ w8).drewN _)).tr o10.nx;have r10:=o10.fM;clear o10 Rl;go_wp2_with (at_builtin;(refine z01 rfl (.tmp 77) (.tmp 80) _ rfl 5 i0 _ 1 1 Tryz.underlying27 hi0 hz0 hz1 hz2 rfl (by omega) rfl oY10 _ (some ⟨k10,0,none⟩) (aj ix).length zZ (bl (aj ix)) rfl r10 (iP _) (by simp only[maxLen];omega) (by omega) ?_;intro v11 w11 o11 m11))
       with_reducible refine (pR.out k _ (by omega)).mono ?_
       rintro e w12 ⟨k12,Nw,rfl,o12,hk12,hk12',hc12,_⟩;have oY12:=o11.tr o12.nx;have r12:=o12.fM;clear o12 o11 m11 r10 oY10;go_wp2_with (at_builtin;(refine z01 rfl (.tmp 81) (.tmp 84) _ rfl 5 i0 _ 1 1 Tryz.underlying27 hi0 hz0 hz1 hz2 rfl (by omega) rfl oY12 _ (some ⟨k12,0,none⟩) (aj k).length Nw (bl (aj k)) rfl r12 (iP _) (by simp only[maxLen];omega) (by omega) ?_;intro v13 w13 o13 m13;have Ho13:=ah (Fin.out v13 w13 o13);clear o13 m13))
       go_roundw
       case rel=>exact ⟨a+k,by omega,by go_num,Ho13.out⟩
       case measure=>simp[intOf];omega
    ·obtain rfl:n=a:=by omega
     have e1:bK all (l.drop n)=[]:=(by rw[List.drop_of_length_le (by omega),QH]);rw[e1,List.append_nil]at eY;subst eY
     have hpos:0<Y.length:=by
      rw[HC.out];have:=(Hpl.out all.length (by rw[Hm.out];omega)).1;simp only[List.length_append];omega
     obtain ⟨g,cap,hv,hg,hgl⟩:=oY.own.form hpos;subst hv;have hcap:=z05 oY.own;obtain ⟨_,_,hv2,hcp,_⟩:=hcap;injection hv2 with hv1 _ hv3;subst hv1 hv3;have nY:=n2.tr oY.nx;have hch:Calls Tryz.prog 33 #[.int .u8 2,.slice (some ⟨g,0,none⟩) Y.length cap] w8 (jc w8 2 Y):=tu (fun j=>j=g) (some ⟨g,0,none⟩) Y.length cap 2 Y w8 oY.fM (fun j e=>by omega) Vw rfl hcp (by omega);have Hch:=ah (hch.mono fun _ _ h=>jc.later nY h);clear hch e1;go_wp2_with fail;with_reducible refine Hch.out.mono ?_
     rintro e w9 h9;by_cases hs:Y.length<=65536
     ·obtain ⟨k9,Em,rfl,o9,hc9⟩:=h9.1 hs
      go_wp2_with fail;go_ret2;exact ⟨fun _=>⟨k9,Em,rfl,o9,hc9⟩,fun h=>by omega⟩
     ·obtain ⟨rfl,n9⟩:=h9.2 (by omega)
      go_wp2_with fail;go_ret2;exact ⟨fun h=>by omega,fun _=>⟨rfl,n9⟩⟩
theorem BD:∀{all:List ByteArray},(∀s∈all,s.size<=1024)->(je all).length<=1034 * all.length:=by
 intro all;induction all with
 |nil=>intro _;simp[je]
 |cons s all ih=>
  intro h;have h1:=ih fun t ht=>h t (by simp[ht]);have h2:=h s (by simp);have h3:=(z07 (n:=s.size) (by omega)).2;rw[Vr,List.length_append,List.length_append,kJ,List.length_cons];omega
theorem Gt (all:List ByteArray) (ha:all.length<=2048):∀(n:Nat) (l:List ByteArray),l.length<=n->n<=2048->(bK all l).length<=20 * l.length:=by
 intro n;induction n with
 |zero=>
  intro l h _;have:l=[]:=List.eq_nil_of_length_eq_zero (by omega);subst this;simp[QH]
 |succ n ih=>
  intro l h hn;cases l with
  |nil=>simp[QH]
  |cons x xs=>
   rw[bK];have h1:=kZ x xs;have h2:dw all x<=all.length:=List.findIdx_le_length;simp only[List.length_cons]at h;have h3:=(z07 (n:=dw all x) (by omega)).2;have h4:=(z07 (n:=runN x xs+1) (by omega)).2;have h5:=ih (xs.drop (runN x xs)) (by rw[List.length_drop];omega) (by omega);rw[List.length_drop]at h5;simp only[List.length_append,List.length_cons];omega
theorem lV {l:List ByteArray} (hl:l.length<=2048) (hs:∀s∈l,s.size<=1024):(aV l).length<=100000000:=by
 have h1:=z11 l;have h2:=BD (all:=bP l) fun s h=>hs s (AZ.1 h);have h3:=Gt (bP l) (by omega) _ l (Nat.le_refl _) hl;have h4:=(z07 (n:=(bP l).length) (by omega)).2;have h5:=(z07 (n:=l.length) (by omega)).2;unfold aV;simp only[List.length_append];omega
theorem wF (D:Nat->Prop) (A:Option Addr) (n c:Nat) (l:List ByteArray) (W:World) (hr:Rd W D 1 A n (bW l)) (hl:l.length=n) (hn:n<=2048) (hs:∀s∈l,s.size<=1024) (hc:n<=c) (hC:(aV l).length<=65536):
 Calls Tryz.prog 12 #[.slice A n c] W (z2b W (aC 2 (aV l))):=
 (z3g D A n c l W hr hl hn hs hc (by omega)).mono fun _ _ h=>h.1 hC
theorem z4s (D:Nat->Prop) (A:Option Addr) (n c:Nat) (l:List ByteArray) (W:World) (hr:Rd W D 1 A n (bW l)) (hl:l.length=n) (hn:n<=2048) (hs:¬∀s∈l,s.size<=1024):
 Calls Tryz.prog 12 #[.slice A n c] W fun e w'=>e=.returned (.tuple #[.slice none 0 0,.int .i64 5])/\Nx W w':=by
 have htl:=Yg D A n c l W hr hl hn
 have hyes:(l.any fun s=>decide (1024<s.size))=true:=by
  rw[List.any_eq_true];apply Classical.byContradiction
  intro h;refine hs fun s hm=>Classical.byContradiction fun h2=>h ⟨s,hm,?_⟩;rw[decide_eq_true_iff];omega
 rw[hyes]at htl;have jk:=ah htl;clear htl hr hs hl;go_enter Tryz.func12,Tryz.ntmps12;go_wp2_with fail;with_reducible refine jk.out.mono ?_
 rintro e w1 ⟨rfl,rfl⟩;go_wp2_with fail;go_ret2;exact ⟨rfl,Ch.refl _ _⟩
end Go.Proofs.YtfljcllpmbnjaaaGreat
