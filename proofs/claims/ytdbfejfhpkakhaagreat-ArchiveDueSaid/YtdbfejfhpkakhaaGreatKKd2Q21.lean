/- Contracts and plain laws that the last text rests on. Conditions: each theorem states its own. -/
import Derived.Test.YtdbfejfhpkakhaaGreatKKd2Q20
import Derived.Test.YtdbfejfhpkakhaaGreatKKd2Q18
import Derived.Test.YtdbfejfhpkakhaaGreatKKd2Q13
import Derived.Deep.RegionLaw
import Derived.BigRegion
import Derived.Deep.RegionHeld3
import Derived.Lib.AppendStr
set_option maxRecDepth 100000
set_option maxHeartbeats 16000000
set_option linter.unusedVariables false
set_option linter.unusedSimpArgs false
namespace Go.Proofs.YtdbfejfhpkakhaaGreat
open Go.RowKit
def IdxL (l:List ByteArray) (W:World) (e:Ending) (w':World):Prop:=
 ∃r:Int,e=.returned (.int .i64 r)/\W=w'/\(decide (0<=r)=l.any fun s=>decide (1024<s.size))
theorem Jd (s:ByteArray) (w:World):Calls Tryz.prog 205 #[.string s] w fun e w'=>e=.returned (.bool (decide (1024<s.size)))/\w=w':=by
 go_enter Tryz.func205,Tryz.ntmps205;go_wp2_with fail;go_ret;exact ⟨by show Ending.returned (Value.bool (decide ((1024:Int)<(s.size:Int))))=_;rw[decide_eq_decide.2 (show (1024:Int)<(s.size:Int)↔1024<s.size from ⟨fun h=>by omega,fun h=>by omega⟩)],rfl⟩
theorem index_long (D:Nat->Prop) (A:Option Addr) (n c:Nat) (l:List ByteArray) (W:World) (hr:Rd W D 1 A n (dK l)) (hl:l.length=n) (hn:n<=1000000):
 Calls Tryz.prog 223 #[.slice A n c,.func (.func 205) #[] #[]] W (IdxL l W):=by
 subst hl;have hcl:=fun s=>Jd s W;have Hcl:=ah hcl;clear hcl;go_enter Tryz.func223,Tryz.ntmps223;go_wp2_with fail;go_loop [8] (fun i=>∃k:Nat,k<=l.length/\i=.int .i64 k/\Hid (∀j,j<k->(l.getD j ByteArray.empty).size<=1024)) (fun i=>l.length-(intOf i).toNat)
 case atStart=>exact ⟨0,by omega,rfl,ah (fun j hj=>by omega)⟩
 case round=>
  obtain ⟨k,hk,rfl,He⟩:=hrel;by_cases hlt:k<l.length
  ·obtain ⟨ad,rfl, -,hcell⟩:=hr.2 (by omega)
   have hc0:=hcell _ _ (Jp hlt);have HK:=ah (show l.getD k ByteArray.empty=l.getD k ByteArray.empty from rfl)
   have hany:1024<(l.getD k ByteArray.empty).size->(l.any fun s=>decide (1024<s.size))=true:=fun h=>by
    rw[List.any_eq_true];refine ⟨l[k],List.getElem_mem hlt,?_⟩;have e0:l.getD k ByteArray.empty=l[k]:=by rw[List.getD,List.getElem?_eq_getElem hlt];rfl
    rw[e0]at h;simpa using h
   have Vd:=ah hany
   have hnx:(l.getD k ByteArray.empty).size<=1024->Hid (∀j,j<k+1->(l.getD j ByteArray.empty).size<=1024):=fun h=>ah fun j hj=>by
    by_cases e:j=k
    ·subst e;exact h
    ·exact He.out j (by omega)
   have Yj:=ah hnx;clear hcell hany hnx HK;generalize l.getD k ByteArray.empty=s at *;by_cases hs:1024<s.size
   ·have hd:decide (1024<s.size)=true:=decide_eq_true hs
    have hfin:=Vd.out hs;have uY:=ah hfin;have hcall:=Hcl.out s;rw[hd]at hcall;have Na:=ah hcall;clear hfin Vd Yj hcall;go_wp2_with fail;refine Na.out.mono ?_;rintro e w1 ⟨rfl,rfl⟩;go_wp2_with fail;go_ret;exact ⟨_,rfl,rfl,by rw[uY.out];simp⟩
   ·have hd:decide (1024<s.size)=false:=decide_eq_false hs
    have hnx:=Yj.out (by omega);have hcall:=Hcl.out s;rw[hd]at hcall;have Na:=ah hcall;clear Vd Yj hcall;go_wp2_with fail;refine Na.out.mono ?_;rintro e w1 ⟨rfl,rfl⟩;go_wp2_with fail;go_round
    case rel=>exact ⟨k+1,by omega,by go_num,hnx⟩
    case measure=>simp[intOf];omega
  ·obtain rfl:k=l.length:=by omega
   have hno:(l.any fun s=>decide (1024<s.size))=false:=by
    rw[List.any_eq_false];intro s hs;obtain ⟨j,hj,rfl⟩:=List.mem_iff_getElem.1 hs;have:=He.out j hj;rw[List.getD,List.getElem?_eq_getElem hj]at this;simpa using this
   have Hno:=ah hno;clear hno;go_wp2_with fail;go_ret;exact ⟨_,rfl,rfl,by rw[Hno.out];simp⟩
theorem pI (D:Nat->Prop) (A:Option Addr) (n c:Nat) (l:List ByteArray) (W:World) (hr:Rd W D 1 A n (dK l)) (hl:l.length=n) (hn:n<=1000000):
 Calls Tryz.prog 204 #[.slice A n c,.func (.func 205) #[] #[]] W fun e w'=>e=.returned (.bool (l.any fun s=>decide (1024<s.size)))/\W=w':=by
 have Hi:=ah (index_long D A n c l W hr hl hn);clear hr;go_enter Tryz.func204,Tryz.ntmps204;go_wp2_with fail;with_reducible refine Hi.out.mono ?_
 rintro e w1 ⟨r,rfl,rfl,hd⟩;have Hd:=ah hd;clear hd;go_wp2_with fail;go_ret;rw[←Hd.out];exact ⟨rfl,rfl⟩
theorem z3J (D:Nat->Prop) (A:Option Addr) (n c:Nat) (l:List ByteArray) (W:World) (hr:Rd W D 1 A n (dK l)) (hl:l.length=n) (hn:n<=2048):
 Calls Tryz.prog 175 #[.slice A n c] W fun e w'=>e=.returned (.bool (l.any fun s=>decide (1024<s.size)))/\W=w':=by
 have Hi:=ah (pI D A n c l W hr hl (by omega));clear hr;have q1:decide ((2048:Int)<(n:Int))=false:=by rw[decide_eq_false_iff_not];omega
 generalize (l.any fun s=>decide (1024<s.size))=bb at *;go_enter Tryz.func175,Tryz.ntmps175;go_wp2_with fail;refine Hi.out.mono ?_;rintro e w1 ⟨rfl,rfl⟩;go_wp2_with fail;go_ret;exact ⟨rfl,rfl⟩
theorem z3j (s:ByteArray):Lib.strCells s=bl (jP s):=by
 unfold Lib.strCells bl jP;rw[List.map_map];rfl
theorem Oq (a b:ByteArray):(a.toList==b.toList)=decide (a=b):=by
 rw[Bool.eq_iff_iff,beq_iff_eq,decide_eq_true_iff];constructor
 ·intro h
  rw[ByteArray.toList_eq,ByteArray.toList_eq]at h;cases a;cases b
  simpa [Array.ext_iff]using congrArg List.toArray h
 ·rintro rfl;rfl
theorem z3c {P:Program} {ops:Array Oper} {rest:List Oper} {o:Oper} {a:Act} {Q:Exit->Act->World->Prop} (hgd:o.guard=none) (sl x:Operand) (t u:TypeId)
 (ho:o.op=.call { callee:=.builtin .append,args:= #[sl,x],argTypes:= #[t,u]})
 (e:TypeId) (i:TypeInfo) (ht:P.underlying t=some (.slice e)) (hu:P.underlying u=some .string) (hi:P.info? e=some i) (hz:i.zero=some (.int .u8 0))
 (hsize:i.size=1) (hby:i.bytes=1)
 {W w:World} {v:Value} {n:Nat} {xs:List Nat} (hs:a.eval sl=v) (hown:aF W w e 1 v n (bl xs)) (s:ByteArray) (hx:a.eval x=.string s)
 (h63:n+s.size<=maxLen) (hbytes:n+s.size<=140737488355328)
 (h:∀v' w',aF W w' e 1 v' (n+s.size) (bl (xs++jP s))->wpList P ops Q rest (a.put o.dst v') w'):wpList P ops Q (o::rest) a w:=
 Lib.wpList_append_own_string w hgd sl x t u ho W.heap.size e i ht hu hi hz hsize hby v n (bl xs) hs hown.own s hx h63 hbytes hown.nx.size fun v' w' h2 h3 h4=>
  h v' w' ⟨by rw[show bl (xs++jP s)=bl xs++bl (jP s) by simp[bl],←z3j];exact h2,hown.nx.grown h3 fun k hk hlt=>by have:=hown.lt k hk;omega⟩
def b_ (w0 w:World) (v:Value) (T rest:List Nat):Prop:=∃X,aF w0 w 5 1 v X.length (bl X)/\X++rest=T
theorem b_.len {w0 w:World} {v:Value} {T rest:List Nat} (h:b_ w0 w v T rest):∃X,aF w0 w 5 1 v X.length (bl X)/\X++rest=T/\X.length+rest.length=T.length:=by
 obtain ⟨X,o,e⟩:=h;exact ⟨X,o,e,by rw[←e,List.length_append]⟩
def jc (W:World) (kind:Nat) (xs:List Nat) (e:Ending) (w':World):Prop:=
 (xs.length<=65536->Ri W (aI kind xs) e w')/\(65536<xs.length->e=.returned (.tuple #[.slice none 0 0,.int .i64 5])/\Nx W w')
theorem jc.later {W w w':World} {kind:Nat} {xs:List Nat} {e:Ending} (n:Nx W w) (h:jc w kind xs e w'):jc W kind xs e w':=by
 refine ⟨fun hl=>?_,fun hl=>?_⟩
 ·obtain ⟨k,cap,he,o,hc⟩:=h.1 hl
  exact ⟨k,cap,he,⟨su o.own n.size,n.tr o.nx⟩,hc⟩
 ·exact ⟨(h.2 hl).1,n.tr (h.2 hl).2⟩
theorem rE (D:Nat->Prop) (A:Option Addr) (n c kind:Nat) (xs:List Nat) (W:World) (hr:Rd W D 1 A n (bl xs)) (Wq:∀k,D k->k<W.heap.size) (ok:okB xs) (hl:xs.length=n) (hc:n<=c) (hk:kind<256):
 Calls Tryz.prog 173 #[.int .u8 (kind:Int),.slice A n c] W (jc W kind xs):=by
 by_cases h:n<=65536
 ·exact (ZU D A n c kind xs W hr Wq ok hl hc h hk).mono fun _ _ h2=>⟨fun _=>h2,fun h3=>by omega⟩
 ·exact (nH A n c kind W (by omega)).mono fun _ _ h2=>⟨fun h3=>by omega,fun _=>h2⟩
theorem nI (D:Nat->Prop) (A:Option Addr) (n c:Nat) (l:List ByteArray) (W:World) (hr:Rd W D 1 A n (dK l)) (hl:l.length=n) (hn:n<=2048) (hs:∀s∈l,s.size<=1024) (hc:n<=c) (hC:(dO l).length<=100000000):
 Calls Tryz.prog 126 #[.slice A n c] W (jc W 2 (dO l)):=by
 obtain ⟨i0,hi0,hz0,hz1,hz2⟩:=info_parts Tryz.info5;have htl:=z3J D A n c l W hr hl hn
 have hno:(l.any fun s=>decide (1024<s.size))=false:=by
  rw[List.any_eq_false];intro s h;have:=hs s h;simpa using this
 rw[hno]at htl;have Wu:=ah htl;have hrb:=hr.below_ (by decide);have okC:=qh (by omega) hs;have XW:dO l=aB (aY l).length++Df (aY l)++aB l.length++dM (aY l) l:=rfl
 have hsz:∀k,k<(aY l).length->((aY l).getD k ByteArray.empty).size<=1024:=fun k hk=>by
  rw[List.getD,List.getElem?_eq_getElem hk];exact hs _ (Q_.1 (List.getElem_mem hk))
 have XU:=z16 l
 have hmem:∀k,k<n->l.getD k ByteArray.empty∈aY l:=fun k hk=>by
  rw[List.getD,List.getElem?_eq_getElem (by omega)];exact Q_.2 (List.getElem_mem _)
 have hrise:=ZP l;have Ec:(nX l).map Go.Proofs.encStr=dK (aY l):=by rw[sU];rfl
 have hallL:(nX l).length=(aY l).length:=by simp[aY]
 have hcmp:∀w v,aF W w 9 1 v n ((fJ l).map Go.Proofs.encStr)->Calls Tryz.prog 92 #[v] w fun e w'=>
  ∃A c,e=.returned (.slice A (aY l).length c)/\Rd w' (fun k=>W.heap.size<=k/\k<w'.heap.size) 1 A (aY l).length (dK (aY l))/\Nx W w'/\(0<(aY l).length->∃b,A=some ⟨b,0,none⟩)/\(aY l).length<=c:=fun w v o=>by
  have:=yg W w v n (fJ l) (by rw[Zi,hl]) (by omega) o;unfold Nk at this;have e1:Lib.compact (fJ l)=nX l:=rfl;rw[e1,hallL,Ec]at this;exact this
 have fH:=ah hcmp;have Yk:=ah hmem;have SB:=ah hrise;have HC:=ah XW;have Yh:=ah hsz;have hidx:∀x,x∈aY l->dL (aY l) x<(aY l).length:=fun x hx=>kP hx;have Yl:=ah hidx;generalize aY l=all at *;clear htl hcmp hmem hrise XW hsz Ec hallL hno hidx hs;have hpu:=fun (v:Nat) (w:World) (hv:v<18446744073709551616)=>z10 v w hv;have zo:=ah hpu;clear hpu;have xB:∀v,v<18446744073709551616->1<=(aB v).length/\(aB v).length<=10:=fun v hv=>z08 hv;have Hpl:=ah xB;clear xB;generalize dO l=T at *;go_enter Tryz.func126,Tryz.ntmps126;go_wp2_with fail;with_reducible refine Wu.out.mono ?_
 rintro e w1 ⟨rfl,rfl⟩;go_wp2_with fail;with_reducible refine (kZ A n c _).mono ?_
 rintro e w1 ⟨rfl,rfl⟩;have hb0:(W.alloc (.cells #[.slice A n c] 22)).cell? ⟨W.heap.size,0,none⟩=some (.slice A n c):=(aG.new W 22 #[.slice A n c]).cell 0;have hn0:Nx W (W.alloc (.cells #[.slice A n c] 22)):=(Ch.refl _ W).alloc _;have hr0:=(hrb.nx (by decide) hn0).below_ (by decide);have Hso:=ah (lN W.heap.size A n c l hl (by omega) hc _ hb0 hr0);clear hb0 hr0;go_wp2_with fail;with_reducible refine Hso.out.mono ?_
 rintro e w1 ⟨v1,rfl,o1⟩;have hcall:=fH.out w1 v1 ⟨su o1.own hn0.size,hn0.tr o1.nx⟩;clear o1 hn0 Hso;go_wp2_with fail;with_reducible refine hcall.mono ?_
 rintro e w2 ⟨Aa,ca,rfl,ra,n2,hab,hca⟩;have hr2:=hr.nx (by decide) n2;obtain ⟨m,hm⟩:∃m,all.length=m:=⟨_,rfl⟩;rw[hm]at ra hab hca;have Hm:=ah hm;have hmn:m<=n:=by omega
 clear hcall hm;rw[Hm.out];clear XU;have hcall:=zo.out m w2 (by omega);go_wp2_with fail;with_reducible refine hcall.mono ?_
 rintro e w3 ⟨k3,cap3,rfl,o3,hk3,hk3',hc3,_⟩;have hO:b_ w2 w3 (.slice (some ⟨k3,0,none⟩) (aB m).length cap3) T (Df (all.drop 0)++(aB l.length++dM all l)):=⟨aB m,o3,by rw[HC.out,Hm.out,List.drop_zero];simp only[List.append_assoc]⟩;have HO:=ah hO;clear hO o3 hcall;go_wp2_with fail;go_loopw [5,24] (fun v i wr=>∃k:Nat,k<=m/\i=.int .i64 (k:Int)/\b_ w2 wr v T (Df (all.drop k)++(aB l.length++dM all l))) (fun _ i _=>m-(intOf i).toNat)
 case atStart=>exact ⟨0,Nat.zero_le _,rfl,HO.out⟩
 case round=>
  clear HO;obtain ⟨w4,rfl⟩:∃w4:World,w4=wr:=⟨_,rfl⟩;obtain ⟨k,hk,rfl,hout⟩:=hrel;obtain ⟨X,oX,eX,lX⟩:=hout.len;by_cases hlt:k<m
  ·have e1:=vT (all:=all) (k:=k) (by rw[Hm.out];exact hlt)
   have hs1:=Yh.out k (by rw[Hm.out];exact hlt);obtain ⟨ad,rfl,_,hcell⟩:=(ra.nx (by decide) oX.nx).2 (by omega);have hc0:=hcell k _ (Jp (by rw[Hm.out];exact hlt));rw[e1]at eX;have E:=ah eX;have hlen:=congrArg List.length eX;simp only[List.length_append,Ob]at hlen;clear hcell e1 eX hout lX;generalize all.getD k ByteArray.empty=s at *;have hp:=Hpl.out s.size (by omega);have hcall:=zo.out s.size w4 (by omega);have hlb:X.length+(aB s.size).length+s.size<=100000000:=(by omega);clear hlen;go_wp2_with fail;with_reducible refine hcall.mono ?_
   rintro e w5 ⟨k5,cap5,rfl,o5,hk5,hk5',hc5,_⟩;have oX5:=oX.tr o5.nx;have r5:=o5.tZ;clear o5 oX hcall;have fin:∀v w,aF w2 w 5 1 v ((X++aB s.size).length+s.size) (bl (X++aB s.size++jP s))->b_ w2 w v T (Df (all.drop (k+1))++(aB l.length++dM all l)):=fun v w o=>⟨X++aB s.size++jP s,by rw[List.length_append,Ob];exact o,by rw[←E.out];simp only[List.append_assoc]⟩;have Fin:=ah fin;clear fin E
   go_wp2_with (at_builtin;first
    |(refine z05 rfl (.tmp 28) (.tmp 32) _ rfl 5 i0 _ 1 1 Tryz.underlying47 hi0 hz0 hz1 hz2 rfl (by omega) rfl oX5 _ (some ⟨k5,0,none⟩) (aB s.size).length cap5 (bl (aB s.size)) rfl r5 (jk _) (by simp only[maxLen];omega) (by omega) ?_;intro v7 w7 o7 m7;rw[←List.length_append,show bl X++bl (aB s.size)=bl (X++aB s.size) by simp[bl]]at o7)
    |(refine z3c rfl (.tmp 33) (.tmp 34) _ 9 rfl 5 i0 Tryz.underlying47 Tryz.underlying9 hi0 hz0 hz1 hz2 rfl o7 s rfl (by rw[List.length_append];simp only[maxLen];omega) (by rw[List.length_append];omega) ?_;intro v8 w8 o8;have Ho8:=ah (Fin.out v8 w8 o8);clear o8))
   go_roundw
   case rel=>exact ⟨k+1,by omega,by go_num,Ho8.out⟩
   case measure=>simp[intOf];omega
  ·obtain rfl:m=k:=by omega
   have e1:Df (all.drop m)=[]:=by
    rw[List.drop_of_length_le (by rw[Hm.out];omega)];rfl
   rw[e1,List.nil_append]at eX;have E:=ah eX;have hlen:=congrArg List.length eX;simp only[List.length_append]at hlen;have hp:=Hpl.out l.length (by omega);have hlb:X.length+(aB l.length).length<=100000000:=(by omega);clear hlen e1 eX hout lX;have hcall:=zo.out l.length w4 (by omega);rw[hl]at hcall hp hlb;go_wp2_with fail;with_reducible refine hcall.mono ?_
   rintro e w5 ⟨k5,cap5,rfl,o5,hk5,hk5',hc5,_⟩;have oX5:=oX.tr o5.nx;have r5:=o5.tZ;clear o5 oX hcall;have fin:∀v w,aF w2 w 5 1 v (X.length+(aB n).length) (bl X++bl (aB n))->b_ w2 w v T (dM all (l.drop 0)):=fun v w o=>⟨X++aB n,by rw[List.length_append,show bl (X++aB n)=bl X++bl (aB n) by simp[bl]];exact o,by rw[←E.out,List.drop_zero,hl];simp only[List.append_assoc]⟩;have Fin:=ah fin;clear fin E;go_wp2_with (at_builtin;(refine z05 rfl (.tmp 37) (.tmp 41) _ rfl 5 i0 _ 1 1 Tryz.underlying47 hi0 hz0 hz1 hz2 rfl (by omega) rfl oX5 _ (some ⟨k5,0,none⟩) (aB n).length cap5 (bl (aB n)) rfl r5 (jk _) (by simp only[maxLen];omega) (by omega) ?_;intro v7 w7 o7 m7;have Ho7:=ah (Fin.out v7 w7 o7);clear o7 m7))
   clear Fin r5 oX5 hp hlb;go_loopw [5,8] (fun v i wr=>∃a:Nat,a<=n/\i=.int .i64 (a:Int)/\b_ w2 wr v T (dM all (l.drop a))) (fun _ i _=>n-(intOf i).toNat)
   case atStart=>exact ⟨0,Nat.zero_le _,rfl,Ho7.out⟩
   case round=>
    clear Ho7;obtain ⟨w8,rfl⟩:∃w8:World,w8=wr:=⟨_,rfl⟩;obtain ⟨a,ha,rfl,hout⟩:=hrel;obtain ⟨Y,oY,eY,lY⟩:=hout.len;by_cases hlt:a<n
    ·have hrl:=hr2.nx (by decide) oY.nx
     obtain ⟨ad,rfl,_,hcell⟩:=hrl.2 (by omega);have HY:=ah eY;have Hlc:=ah (fun j (hj:j<n)=>hcell j _ (Jp (by omega)));have c0:w8.cell? (ad.add a)=some (.string (l.getD a ByteArray.empty)):=Hlc.out a hlt;clear hcell eY hout hrl lY;go_wp2_with fail;go_loopw [9] (fun j wr=>∃k q:Nat,1<=k/\a+k<=n/\j=.int .i64 (k:Int)/\wr=w8.drewN q/\Hid (∀i,i<k->l.getD (a+i) ByteArray.empty=l.getD a ByteArray.empty)) (fun j _=>n-(intOf j).toNat)
     case atStart=>exact ⟨1,0,by omega,by omega,rfl,rfl,ah (fun i hi=>by rw[show i=0 by omega];rfl)⟩
     case round=>
      obtain ⟨k,q,hk1,hk2,rfl,rfl,He⟩:=hrel;have kw:IntKind.i64.wrap ((a:Int)+(k:Int))=(a:Int)+(k:Int):=IntWalk.i64_in _ (by omega);have b4:((a:Int)+(k:Int)).toNat=a+k:=(by omega);have b5:(0:Int)<=(a:Int)+(k:Int):=by omega
      have key:(a+k<n/\l.getD (a+k) ByteArray.empty=l.getD a ByteArray.empty)∨(a+k<n/\l.getD (a+k) ByteArray.empty≠l.getD a ByteArray.empty)∨a+k=n:=by
       by_cases h1:a+k<n
       ·by_cases h2:l.getD (a+k) ByteArray.empty=l.getD a ByteArray.empty
        ·exact .inl ⟨h1,h2⟩
        ·exact .inr (.inl ⟨h1,h2⟩)
       ·exact .inr (.inr (by omega))
      rcases key with ⟨hlt2,he⟩|⟨hlt2,he⟩|he
      ·have q1:decide ((a:Int)+(k:Int)<(n:Int))=true:=by rw[decide_eq_true_iff];omega
       have q2:(a:Int)+(k:Int)<(n:Int):=(by omega);have ck:=Hlc.out (a+k) hlt2
       have hn2:Hid (∀i,i<k+1->l.getD (a+i) ByteArray.empty=l.getD a ByteArray.empty):=ah fun i hi=>by
        by_cases e:i=k
        ·subst e;exact he
        ·exact He.out i (by omega)
       rw[he]at ck;have hq:((l.getD a ByteArray.empty).toList==(l.getD a ByteArray.empty).toList)=true:=(by simp);clear he He;generalize l.getD a ByteArray.empty=x at *;go_wp2_with fail;go_quiet (fail)
       go_wp2_with fail;go_roundw
       case rel=>exact ⟨k+1,_,by omega,by omega,by go_num,rfl,hn2⟩
       case measure=>simp[intOf];omega
      ·have hor:a+k=l.length∨l.getD (a+k) ByteArray.empty≠l.getD a ByteArray.empty:=.inr he
       have hx:=Yk.out a hlt;have hid:=Yl.out _ hx;rw[Hm.out]at hid;have step:=lV (all:=all) (l:=l) (at_:=a) (n:=k) (by omega) (by omega) He.out hor;have E:Y++(aB (dL all (l.getD a ByteArray.empty))++aB k++dM all (l.drop (a+k)))=T:=by rw[←step];exact HY.out
       have hlen:=congrArg List.length E;simp only[List.length_append]at hlen;have hp1:=Hpl.out (dL all (l.getD a ByteArray.empty)) (by omega);have hp2:=Hpl.out k (by omega);have hlb:Y.length+(aB (dL all (l.getD a ByteArray.empty))).length+(aB k).length<=100000000:=(by omega);obtain ⟨b,rfl⟩:=hab (by omega);have hbs:=fun q=>z3R _ b m ca all _ (w8.drewN q) (((ra.nx (by decide) oY.nx).drewN q)) Hm.out SB.out hx (by omega);have SG:=ah hbs;have fin:∀v w,aF w2 w 5 1 v (Y.length+(aB (dL all (l.getD a ByteArray.empty))).length+(aB k).length) (bl Y++bl (aB (dL all (l.getD a ByteArray.empty)))++bl (aB k))->b_ w2 w v T (dM all (l.drop (a+k))):=fun v w o=>⟨Y++aB (dL all (l.getD a ByteArray.empty))++aB k,by rw[List.length_append,List.length_append,show bl (Y++aB (dL all (l.getD a ByteArray.empty))++aB k)=bl Y++bl (aB (dL all (l.getD a ByteArray.empty)))++bl (aB k) by simp[bl]];exact o,by rw[←E];simp only[List.append_assoc]⟩;have Fin:=ah fin;clear fin hbs hlen E step hx HY He;generalize dL all (l.getD a ByteArray.empty)=ix at *;have q1:decide ((a:Int)+(k:Int)<(n:Int))=true:=by rw[decide_eq_true_iff];omega
       have q2:(a:Int)+(k:Int)<(n:Int):=(by omega);have ck:=Hlc.out (a+k) hlt2;have hq:((l.getD (a+k) ByteArray.empty).toList==(l.getD a ByteArray.empty).toList)=false:=by rw[Oq];exact decide_eq_false he
       clear hor he;generalize l.getD (a+k) ByteArray.empty=y at *;generalize l.getD a ByteArray.empty=x at *;go_wp2_with fail;go_quiet (fail)
       go_wp2_with fail;with_reducible refine (SG.out _).mono ?_
       rintro e w9 ⟨⟨okb,rfl⟩,q2,rfl⟩;go_wp2_with fail;with_reducible refine (zo.out ix _ (by omega)).mono ?_
       rintro e w10 ⟨k10,LW,rfl,o10,hk10,hk10',hc10,_⟩;have oY10:=(oY.tr ((Ch.refl _ w8).drewN _)).tr o10.nx;have r10:=o10.tZ;clear o10 SG;go_wp2_with (at_builtin;(refine z05 rfl (.tmp 77) (.tmp 80) _ rfl 5 i0 _ 1 1 Tryz.underlying47 hi0 hz0 hz1 hz2 rfl (by omega) rfl oY10 _ (some ⟨k10,0,none⟩) (aB ix).length LW (bl (aB ix)) rfl r10 (jk _) (by simp only[maxLen];omega) (by omega) ?_;intro v11 w11 o11 m11))
       with_reducible refine (zo.out k _ (by omega)).mono ?_
       rintro e w12 ⟨k12,LV,rfl,o12,hk12,hk12',hc12,_⟩;have oY12:=o11.tr o12.nx;have r12:=o12.tZ;clear o12 o11 m11 r10 oY10;go_wp2_with (at_builtin;(refine z05 rfl (.tmp 81) (.tmp 84) _ rfl 5 i0 _ 1 1 Tryz.underlying47 hi0 hz0 hz1 hz2 rfl (by omega) rfl oY12 _ (some ⟨k12,0,none⟩) (aB k).length LV (bl (aB k)) rfl r12 (jk _) (by simp only[maxLen];omega) (by omega) ?_;intro v13 w13 o13 m13;have Ho13:=ah (Fin.out v13 w13 o13);clear o13 m13))
       go_roundw
       case rel=>exact ⟨a+k,by omega,by go_num,Ho13.out⟩
       case measure=>simp[intOf];omega
      ·have hor:a+k=l.length∨l.getD (a+k) ByteArray.empty≠l.getD a ByteArray.empty:=.inl (by omega)
       have hx:=Yk.out a hlt;have hid:=Yl.out _ hx;rw[Hm.out]at hid;have step:=lV (all:=all) (l:=l) (at_:=a) (n:=k) (by omega) (by omega) He.out hor;have E:Y++(aB (dL all (l.getD a ByteArray.empty))++aB k++dM all (l.drop (a+k)))=T:=by rw[←step];exact HY.out
       have hlen:=congrArg List.length E;simp only[List.length_append]at hlen;have hp1:=Hpl.out (dL all (l.getD a ByteArray.empty)) (by omega);have hp2:=Hpl.out k (by omega);have hlb:Y.length+(aB (dL all (l.getD a ByteArray.empty))).length+(aB k).length<=100000000:=(by omega);obtain ⟨b,rfl⟩:=hab (by omega);have hbs:=fun q=>z3R _ b m ca all _ (w8.drewN q) (((ra.nx (by decide) oY.nx).drewN q)) Hm.out SB.out hx (by omega);have SG:=ah hbs;have fin:∀v w,aF w2 w 5 1 v (Y.length+(aB (dL all (l.getD a ByteArray.empty))).length+(aB k).length) (bl Y++bl (aB (dL all (l.getD a ByteArray.empty)))++bl (aB k))->b_ w2 w v T (dM all (l.drop (a+k))):=fun v w o=>⟨Y++aB (dL all (l.getD a ByteArray.empty))++aB k,by rw[List.length_append,List.length_append,show bl (Y++aB (dL all (l.getD a ByteArray.empty))++aB k)=bl Y++bl (aB (dL all (l.getD a ByteArray.empty)))++bl (aB k) by simp[bl]];exact o,by rw[←E];simp only[List.append_assoc]⟩;have Fin:=ah fin;clear fin hbs hlen E step hx HY He;generalize dL all (l.getD a ByteArray.empty)=ix at *;have q1:decide ((a:Int)+(k:Int)<(n:Int))=false:=by rw[decide_eq_false_iff_not];omega
       have q2:¬(a:Int)+(k:Int)<(n:Int):=(by omega);clear hor he;generalize l.getD a ByteArray.empty=x at *;go_wp2_with fail;go_quiet (fail)
       go_wp2_with fail;with_reducible refine (SG.out _).mono ?_
       rintro e w9 ⟨⟨okb,rfl⟩,q2,rfl⟩;go_wp2_with fail;with_reducible refine (zo.out ix _ (by omega)).mono ?_
       rintro e w10 ⟨k10,LW,rfl,o10,hk10,hk10',hc10,_⟩;have oY10:=(oY.tr ((Ch.refl _ w8).drewN _)).tr o10.nx;have r10:=o10.tZ;clear o10 SG;go_wp2_with (at_builtin;(refine z05 rfl (.tmp 77) (.tmp 80) _ rfl 5 i0 _ 1 1 Tryz.underlying47 hi0 hz0 hz1 hz2 rfl (by omega) rfl oY10 _ (some ⟨k10,0,none⟩) (aB ix).length LW (bl (aB ix)) rfl r10 (jk _) (by simp only[maxLen];omega) (by omega) ?_;intro v11 w11 o11 m11))
       with_reducible refine (zo.out k _ (by omega)).mono ?_
       rintro e w12 ⟨k12,LV,rfl,o12,hk12,hk12',hc12,_⟩;have oY12:=o11.tr o12.nx;have r12:=o12.tZ;clear o12 o11 m11 r10 oY10;go_wp2_with (at_builtin;(refine z05 rfl (.tmp 81) (.tmp 84) _ rfl 5 i0 _ 1 1 Tryz.underlying47 hi0 hz0 hz1 hz2 rfl (by omega) rfl oY12 _ (some ⟨k12,0,none⟩) (aB k).length LV (bl (aB k)) rfl r12 (jk _) (by simp only[maxLen];omega) (by omega) ?_;intro v13 w13 o13 m13;have Ho13:=ah (Fin.out v13 w13 o13);clear o13 m13))
       go_roundw
       case rel=>exact ⟨a+k,by omega,by go_num,Ho13.out⟩
       case measure=>simp[intOf];omega
    ·obtain rfl:n=a:=by omega
     have e1:dM all (l.drop n)=[]:=(by rw[List.drop_of_length_le (by omega),WX]);rw[e1,List.append_nil]at eY;subst eY
     have hpos:0<Y.length:=by
      rw[HC.out];have:=(Hpl.out all.length (by rw[Hm.out];omega)).1;simp only[List.length_append];omega
     obtain ⟨g,cap,hv,hg,hgl⟩:=oY.own.form hpos;subst hv;have hcap:=h_ oY.own;obtain ⟨_,_,hv2,hcp,_⟩:=hcap;injection hv2 with hv1 _ hv3;subst hv1 hv3;have nY:=n2.tr oY.nx;have hch:Calls Tryz.prog 173 #[.int .u8 2,.slice (some ⟨g,0,none⟩) Y.length cap] w8 (jc w8 2 Y):=rE (fun j=>j=g) (some ⟨g,0,none⟩) Y.length cap 2 Y w8 oY.tZ (fun j e=>by omega) okC rfl hcp (by omega);have Hch:=ah (hch.mono fun _ _ h=>jc.later nY h);clear hch e1;go_wp2_with fail;with_reducible refine Hch.out.mono ?_
     rintro e w9 h9;by_cases hs:Y.length<=65536
     ·obtain ⟨k9,yF,rfl,o9,hc9⟩:=h9.1 hs
      go_wp2_with fail;go_ret2;exact ⟨fun _=>⟨k9,yF,rfl,o9,hc9⟩,fun h=>by omega⟩
     ·obtain ⟨rfl,n9⟩:=h9.2 (by omega)
      go_wp2_with fail;go_ret2;exact ⟨fun h=>by omega,fun _=>⟨rfl,n9⟩⟩
theorem uM (D:Nat->Prop) (A:Option Addr) (n c:Nat) (l:List ByteArray) (W:World) (hr:Rd W D 1 A n (dK l)) (hl:l.length=n) (hn:n<=2048) (hs:∀s∈l,s.size<=1024) (hc:n<=c) (hC:(dO l).length<=65536):
 Calls Tryz.prog 126 #[.slice A n c] W (Ri W (aI 2 (dO l))):=
 (nI D A n c l W hr hl hn hs hc (by omega)).mono fun _ _ h=>h.1 hC
def iy (l:List ByteArray):List Nat:=l.flatMap fun s=>aB s.size
def gX (l:List ByteArray):List Nat:=l.flatMap jP
def dH (l:List ByteArray):List Nat:=aB l.length++iy l++gX l
theorem Fg {l:List ByteArray} {k:Nat} (h:k<l.length):iy (l.drop k)=aB (l.getD k ByteArray.empty).size++iy (l.drop (k+1)):=by
 have e0:l.getD k ByteArray.empty=l[k]:=by rw[List.getD,List.getElem?_eq_getElem h];rfl
 rw[List.drop_eq_getElem_cons h,e0];unfold iy;rw[List.flatMap_cons]
theorem Ic {l:List ByteArray} {k:Nat} (h:k<l.length):gX (l.drop k)=jP (l.getD k ByteArray.empty)++gX (l.drop (k+1)):=by
 have e0:l.getD k ByteArray.empty=l[k]:=by rw[List.getD,List.getElem?_eq_getElem h];rfl
 rw[List.drop_eq_getElem_cons h,e0];unfold gX;rw[List.flatMap_cons]
theorem Ol:∀{l:List ByteArray},(∀s∈l,s.size<=1024)->okB (iy l)/\(iy l).length<=10 * l.length:=by
 intro l;induction l with
 |nil=>intro _;exact ⟨fun x hx=>by simp[iy]at hx,by simp[iy]⟩
 |cons s l ih=>
  intro h;obtain ⟨h1,h2⟩:=ih fun t ht=>h t (by simp[ht]);have h3:=h s (by simp);have h4:=(z08 (n:=s.size) (by omega)).2;have e:iy (s::l)=aB s.size++iy l:=(by simp[iy]);rw[e,List.length_append,List.length_cons];exact ⟨iF (iG (by omega)) h1,by omega⟩
theorem Qh:∀{l:List ByteArray},(∀s∈l,s.size<=1024)->okB (gX l)/\(gX l).length<=1024 * l.length:=by
 intro l;induction l with
 |nil=>intro _;exact ⟨fun x hx=>by simp[gX]at hx,by simp[gX]⟩
 |cons s l ih=>
  intro h;obtain ⟨h1,h2⟩:=ih fun t ht=>h t (by simp[ht]);have h3:=h s (by simp);have e:gX (s::l)=jP s++gX l:=(by simp[gX]);rw[e,List.length_append,List.length_cons,Ob];exact ⟨iF (sK s) h1,by omega⟩
theorem qm {l:List ByteArray} (hl:l.length<=2048) (hs:∀s∈l,s.size<=1024):okB (dH l)/\(dH l).length<=100000000/\0<(dH l).length:=by
 obtain ⟨h1,h2⟩:=Ol hs;obtain ⟨h3,h4⟩:=Qh hs;have h5:=z08 (n:=l.length) (by omega);unfold dH;refine ⟨iF (iF (iG (by omega)) h1) h3,?_⟩;rw[List.length_append,List.length_append];omega
theorem nJ (D:Nat->Prop) (A:Option Addr) (n c:Nat) (l:List ByteArray) (W:World) (hr:Rd W D 1 A n (dK l)) (hl:l.length=n) (hn:n<=2048) (hs:∀s∈l,s.size<=1024) (hc:n<=c):
 Calls Tryz.prog 127 #[.slice A n c] W (jc W 3 (dH l)):=by
 obtain ⟨i0,hi0,hz0,hz1,hz2⟩:=info_parts Tryz.info5;have htl:=z3J D A n c l W hr hl hn
 have hno:(l.any fun s=>decide (1024<s.size))=false:=by
  rw[List.any_eq_false];intro s h;have:=hs s h;simpa using this
 rw[hno]at htl;have Wu:=ah htl;obtain ⟨okC,hC,hpos⟩:=qm (by omega) hs;have XW:dH l=aB l.length++iy l++gX l:=rfl
 have hsz:∀k,k<l.length->(l.getD k ByteArray.empty).size<=1024:=fun k hk=>by
  rw[List.getD,List.getElem?_eq_getElem hk];exact hs _ (List.getElem_mem hk)
 have HC:=ah XW;have Yh:=ah hsz;have hpu:=fun (v:Nat) (w:World) (hv:v<18446744073709551616)=>z10 v w hv;have zo:=ah hpu;have xB:∀v,v<18446744073709551616->1<=(aB v).length/\(aB v).length<=10:=fun v hv=>z08 hv;have Hpl:=ah xB;clear hpu xB htl XW hsz hno hs;generalize dH l=T at *;have Hl:=ah hl;rw[hl]at HC Yh;clear hl;go_enter Tryz.func127,Tryz.ntmps127;go_wp2_with fail;with_reducible refine Wu.out.mono ?_
 rintro e w1 ⟨rfl,rfl⟩;have hcall:=zo.out n W (by omega);go_wp2_with fail;with_reducible refine hcall.mono ?_
 rintro e w3 ⟨k3,cap3,rfl,o3,hk3,hk3',hc3,_⟩;have hO:b_ W w3 (.slice (some ⟨k3,0,none⟩) (aB n).length cap3) T (iy (l.drop 0)++gX l):=⟨aB n,o3,by rw[HC.out,List.drop_zero];simp only[List.append_assoc]⟩;have HO:=ah hO;clear hO o3 hcall;go_wp2_with fail;go_loopw [4,17] (fun v i wr=>∃k:Nat,k<=n/\i=.int .i64 (k:Int)/\b_ W wr v T (iy (l.drop k)++gX l)) (fun _ i _=>n-(intOf i).toNat)
 case atStart=>exact ⟨0,Nat.zero_le _,rfl,HO.out⟩
 case round=>
  clear HO;obtain ⟨w4,rfl⟩:∃w4:World,w4=wr:=⟨_,rfl⟩;obtain ⟨k,hk,rfl,hout⟩:=hrel;obtain ⟨X,oX,eX,lX⟩:=hout.len;by_cases hlt:k<n
  ·have e1:=Fg (l:=l) (k:=k) (by rw[Hl.out];exact hlt)
   have hs1:=Yh.out k hlt;obtain ⟨ad,rfl,_,hcell⟩:=(hr.nx (by decide) oX.nx).2 (by omega);have hc0:=hcell k _ (Jp (by rw[Hl.out];exact hlt));rw[e1]at eX;have E:=ah eX;have hlen:=congrArg List.length eX;simp only[List.length_append]at hlen;clear hcell e1 eX hout lX;generalize l.getD k ByteArray.empty=s at *;have hp:=Hpl.out s.size (by omega);have hcall:=zo.out s.size w4 (by omega);have hlb:X.length+(aB s.size).length<=100000000:=(by omega);clear hlen;go_wp2_with fail;with_reducible refine hcall.mono ?_
   rintro e w5 ⟨k5,cap5,rfl,o5,hk5,hk5',hc5,_⟩;have oX5:=oX.tr o5.nx;have r5:=o5.tZ;clear o5 oX hcall;have fin:∀v w,aF W w 5 1 v (X.length+(aB s.size).length) (bl X++bl (aB s.size))->b_ W w v T (iy (l.drop (k+1))++gX l):=fun v w o=>⟨X++aB s.size,by rw[List.length_append,show bl (X++aB s.size)=bl X++bl (aB s.size) by simp[bl]];exact o,by rw[←E.out];simp only[List.append_assoc]⟩;have Fin:=ah fin;clear fin E;go_wp2_with (at_builtin;(refine z05 rfl (.tmp 21) (.tmp 25) _ rfl 5 i0 _ 1 1 Tryz.underlying47 hi0 hz0 hz1 hz2 rfl (by omega) rfl oX5 _ (some ⟨k5,0,none⟩) (aB s.size).length cap5 (bl (aB s.size)) rfl r5 (jk _) (by simp only[maxLen];omega) (by omega) ?_;intro v7 w7 o7 m7;have Ho7:=ah (Fin.out v7 w7 o7);clear o7 m7))
   go_roundw
   case rel=>exact ⟨k+1,by omega,by go_num,Ho7.out⟩
   case measure=>simp[intOf];omega
  ·obtain rfl:n=k:=by omega
   have e1:iy (l.drop n)=[]:=by
    rw[List.drop_of_length_le (by rw[Hl.out];omega)];rfl
   have hO2:b_ W w4 u4 T (gX (l.drop 0)):=⟨X,oX,by rw[List.drop_zero,←eX,e1];rfl⟩;have HO2:=ah hO2;clear e1 eX hout lX hO2 oX;go_wp2_with fail;go_loopw [4,30] (fun v i wr=>∃k:Nat,k<=n/\i=.int .i64 (k:Int)/\b_ W wr v T (gX (l.drop k))) (fun _ i _=>n-(intOf i).toNat)
   case atStart=>exact ⟨0,Nat.zero_le _,rfl,HO2.out⟩
   case round=>
    clear HO2;obtain ⟨w8,rfl⟩:∃w8:World,w8=wr:=⟨_,rfl⟩;obtain ⟨k,hk,rfl,hout⟩:=hrel;obtain ⟨Y,oY,eY,lY⟩:=hout.len;by_cases hlt:k<n
    ·have e1:=Ic (l:=l) (k:=k) (by rw[Hl.out];exact hlt)
     have hs1:=Yh.out k hlt;obtain ⟨ad,rfl,_,hcell⟩:=(hr.nx (by decide) oY.nx).2 (by omega);have hc0:=hcell k _ (Jp (by rw[Hl.out];exact hlt));rw[e1]at eY;have E:=ah eY;have hlen:=congrArg List.length eY;simp only[List.length_append,Ob]at hlen;clear hcell e1 eY hout lY;generalize l.getD k ByteArray.empty=s at *;have hlb:Y.length+s.size<=100000000:=(by omega);clear hlen;have fin:∀v w,aF W w 5 1 v (Y.length+s.size) (bl (Y++jP s))->b_ W w v T (gX (l.drop (k+1))):=fun v w o=>⟨Y++jP s,by rw[List.length_append,Ob];exact o,by rw[←E.out];simp only[List.append_assoc]⟩;have Fin:=ah fin;clear fin E;go_wp2_with (at_builtin;(refine z3c rfl (.tmp 34) (.tmp 35) _ 9 rfl 5 i0 Tryz.underlying47 Tryz.underlying9 hi0 hz0 hz1 hz2 rfl oY s rfl (by simp only[maxLen];omega) (by omega) ?_;intro v8 w8 o8;have Ho8:=ah (Fin.out v8 w8 o8);clear o8))
     go_roundw
     case rel=>exact ⟨k+1,by omega,by go_num,Ho8.out⟩
     case measure=>simp[intOf];omega
    ·obtain rfl:n=k:=by omega
     have e1:gX (l.drop n)=[]:=by
      rw[List.drop_of_length_le (by rw[Hl.out];omega)];rfl
     rw[e1,List.append_nil]at eY;subst eY;obtain ⟨g,cap,hv,hg,hgl⟩:=oY.own.form hpos;subst hv;have hcap:=h_ oY.own;obtain ⟨_,_,hv2,hcp,_⟩:=hcap;injection hv2 with hv1 _ hv3;subst hv1 hv3;have nY:=oY.nx;have hch:Calls Tryz.prog 173 #[.int .u8 3,.slice (some ⟨g,0,none⟩) Y.length cap] w8 (jc w8 3 Y):=rE (fun j=>j=g) (some ⟨g,0,none⟩) Y.length cap 3 Y w8 oY.tZ (fun j e=>by omega) okC rfl hcp (by omega);have Hch:=ah (hch.mono fun _ _ h=>jc.later nY h);clear hch e1;go_wp2_with fail;with_reducible refine Hch.out.mono ?_
     rintro e w9 h9;by_cases hs:Y.length<=65536
     ·obtain ⟨k9,yF,rfl,o9,hc9⟩:=h9.1 hs
      go_wp2_with fail;go_ret2;exact ⟨fun _=>⟨k9,yF,rfl,o9,hc9⟩,fun h=>by omega⟩
     ·obtain ⟨rfl,n9⟩:=h9.2 (by omega)
      go_wp2_with fail;go_ret2;exact ⟨fun h=>by omega,fun _=>⟨rfl,n9⟩⟩
theorem uN (D:Nat->Prop) (A:Option Addr) (n c:Nat) (l:List ByteArray) (W:World) (hr:Rd W D 1 A n (dK l)) (hl:l.length=n) (hn:n<=2048) (hs:∀s∈l,s.size<=1024) (hc:n<=c) (hC:(dH l).length<=65536):
 Calls Tryz.prog 127 #[.slice A n c] W (Ri W (aI 3 (dH l))):=
 (nJ D A n c l W hr hl hn hs hc).mono fun _ _ h=>h.1 hC
end Go.Proofs.YtdbfejfhpkakhaaGreat
