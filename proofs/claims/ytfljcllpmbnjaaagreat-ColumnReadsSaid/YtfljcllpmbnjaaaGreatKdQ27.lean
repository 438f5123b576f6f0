/- Contracts and plain laws that the last text rests on. Conditions: each theorem states its own. -/
import Derived.Test.YtfljcllpmbnjaaaGreatKdQ21
import Derived.Test.YtfljcllpmbnjaaaGreatKdQ23
import Derived.Test.YtfljcllpmbnjaaaGreatKdQ24
import Derived.Test.YtfljcllpmbnjaaaGreatKdQ10
set_option maxRecDepth 100000
set_option maxHeartbeats 16000000
set_option linter.unusedVariables false
namespace Go.Proofs.YtfljcllpmbnjaaaGreat
open Go.RowKit
def jZ:Value->Nat
 | .slice _ n _=>n
 |_=>0
theorem Kz (l:List ByteArray) (a:Nat) (ha:a<l.length):∃r,0<r/\a+r<=l.length/\(∀j,j<r->l.getD (a+j) ByteArray.empty=l.getD a ByteArray.empty)/\(a+r=l.length∨l.getD (a+r) ByteArray.empty≠l.getD a ByteArray.empty):=by
 have key:∀d r,0<r->a+r+d=l.length->(∀j,j<r->l.getD (a+j) ByteArray.empty=l.getD a ByteArray.empty)->∃r,0<r/\a+r<=l.length/\(∀j,j<r->l.getD (a+j) ByteArray.empty=l.getD a ByteArray.empty)/\(a+r=l.length∨l.getD (a+r) ByteArray.empty≠l.getD a ByteArray.empty):=by
  intro d;induction d with
  |zero=>intro r h1 h2 h3;exact ⟨r,h1,by omega,h3,.inl (by omega)⟩
  |succ d ih=>
   intro r h1 h2 h3;by_cases he:l.getD (a+r) ByteArray.empty=l.getD a ByteArray.empty
   ·refine ih (r+1) (by omega) (by omega) fun j hj=>?_
    by_cases e:j=r
    ·subst e;exact he
    ·exact h3 j (by omega)
   ·exact ⟨r,h1,by omega,h3,.inr he⟩
 exact key (l.length-a-1) 1 (by omega) (by omega) fun j hj=>by rw[show j=0 by omega];rfl
theorem Yc {W w5 w6:World} {D:Nat->Prop} {g:Nat} {A:Option Addr} {c:Nat} {T:List Nat} {p:Nat} {X:Obj} {u:Value} (cu:aJ w5 D g A c T p 0) (hgl:g<W.heap.size) (fK:∀k,D k->k<W.heap.size) (c5:Ch (· =g) W w5)
 (hg:(w5.alloc X).grownBy w6 u.ownBlock) (hu:∀j,u.ownBlock=some j->W.heap.size<=j):aJ w6 D g A c T p 0/\Ch (· =g) W w6:=by
 have c6:Ch (fun j=>u.ownBlock=some j) w5 w6:=((Ch.refl _ w5).alloc X).grown hg fun j hj _=>hj;exact ⟨cu.ch c6 (fun e=>by have:=hu _ e;omega) (fun k hk e=>by have:=hu _ e;have:=fK k hk;omega),c5.trans c6 fun i hi e=>by have:=hu _ e;omega⟩
def NP (w:World) (D:Nat->Prop) (g:Nat) (A:Option Addr) (c:Nat) (xs:List Nat) (l:List ByteArray) (e:Ending) (w':World):Prop:=
 ∃v,e=.returned v/\w'.ownsRow w.heap.size 9 1 v l.length (bW l)/\aJ w' D g A c xs xs.length 0/\Ch (· =g) w w'
theorem Ec (D:Nat->Prop) (g:Nat) (A:Option Addr) (c:Nat) (l:List ByteArray) (W:World) (h:aJ W D g A c (aV l) 0 0) (hn:l.length<=2048) (hs:∀s∈l,s.size<=1024):
 Calls Tryz.prog 59 #[.pointer (some ⟨g,0,none⟩)] W (NP W D g A c (aV l) l):=by
 obtain ⟨i0,hi0,hz0,hz1,hz2⟩:=info_parts Tryz.gW;have xg:aV l=aj (bP l).length++je (bP l)++aj l.length++bK (bP l) l:=rfl
 have hsz:∀k,k<(bP l).length->((bP l).getD k ByteArray.empty).size<=1024:=fun k hk=>by
  rw[List.getD,List.getElem?_eq_getElem hk];exact hs _ (AZ.1 (List.getElem_mem hk))
 have kC:=z11 l
 have hmem:∀k,k<l.length->l.getD k ByteArray.empty∈bP l:=fun k hk=>by
  rw[List.getD,List.getElem?_eq_getElem hk];exact AZ.2 (List.getElem_mem _)
 have jC:=ah hmem;have HC:=ah xg;have wW:=ah hsz;have hgl:=h.blk.lt;have fK:=h.bnd;have hout:=h.out;clear hmem xg hsz hs;generalize bP l=all at *;generalize aV l=T at *;obtain ⟨n,hln⟩:∃n,l.length=n:=⟨_,rfl⟩;obtain ⟨m,hm⟩:∃m,all.length=m:=⟨_,rfl⟩;have Hm:=ah hm;have Hl:=ah hln;rw[hln]at hn HC jC kC;rw[hm]at HC wW kC;have hmn:m<=n:=by omega
 clear hm hln kC;have d0:T.drop 0=aj m++(je (all.drop 0)++(aj n++bK all l)):=by rw[HC.out,List.drop_zero,List.drop_zero];simp only[List.append_assoc]
 have hnm:=Ul h m _ d0 2048 (by omega) (by omega);have D1:=ah (Aw d0);have kD:=ah hnm;clear hnm d0 h HC;go_enter Tryz.func59,Tryz.ntmps59;go_wp2_with fail;refine kD.out.mono ?_;rintro e w1 ⟨rfl,t1⟩;rw[Nat.zero_add]at t1 D1;go_wp2_with fail;go_loopw [3,10] (fun v i wr=>∃k p:Nat,k<=m/\i=.int .i64 (k:Int)/\aJ wr D g A c T p 0/\wr.ownsRow W.heap.size 9 1 v k (bW (all.take k))/\Ch (· =g) W wr/\Hid (T.drop p=je (all.drop k)++(aj n++bK all l))) (fun _ i _=>m-(intOf i).toNat)
 case atStart=>exact ⟨0,(aj m).length,Nat.zero_le _,rfl,t1.cur,World.ownsRow_nil _ _ _ _,t1.dN,D1⟩
 case round=>
  clear t1 D1;obtain ⟨w4,rfl⟩:∃w4:World,w4=wr:=⟨_,rfl⟩;obtain ⟨k,p,hk,rfl,cu4,o4,c4,Hd⟩:=hrel;by_cases hlt:k<m
  ·have e1:=Ym (all:=all) (k:=k) (by rw[Hm.out];exact hlt)
   have hs1:=wW.out k hlt;have hd:=Hd.out;rw[e1]at hd;have hsn:=take_snoc (zs:=all) (k:=k) (by rw[Hm.out];exact hlt);have HS:=ah (show bW (all.take (k+1))=bW (all.take k)++[.string (all.getD k ByteArray.empty)] by rw[hsn,Yq];rfl);clear e1 hsn Hd;generalize all.getD k ByteArray.empty=s at *;have htx:=zN cu4 (iU s) (je (all.drop (k+1))++(aj n++bK all l)) (by rw[hd,kJ];simp only[List.append_assoc]) 1024 (by rw[kJ];omega) (by omega);rw[Uh,kJ]at htx;have hdn:=Aw (a:=aj s.size) (rest:=iU s++(je (all.drop (k+1))++(aj n++bK all l))) (by rw[hd];simp only[List.append_assoc]);have SX:=Aw hdn;rw[kJ]at SX;have Hd2:=ah SX;have Xg:=ah htx;have hw4:=c4.size;clear htx hd hdn SX;go_wp2_with fail;refine Xg.out.mono ?_;rintro e w5 ⟨rfl,t5⟩;have hu:∀j,u3.ownBlock=some j->W.heap.size<=j:=fun j hj=>(o4.lt j hj).1;have o5:=z06 o4 t5.dN (fun j hj e=>by have:=hu j hj;omega);have c5:Ch (· =g) W w5:=c4.trans t5.dN fun _ _ e=>e;have hw5:=c5.size;have one:∀(v':Value) (w6:World) (X:Obj),(w5.alloc X).grownBy w6 u3.ownBlock->aJ w6 D g A c T (p+(aj s.size).length+s.size) 0/\Ch (· =g) W w6:=fun v' w6 X hg=>Yc t5.cur hgl fK c5 hg hu;have One:=ah one;clear one cu4 o4 c4 Xg;go_wp2_with (at_builtin;refine z00 _ rfl (.tmp 12) (.tmp 15) _ rfl W.heap.size 9 i0 _ 1 16 Tryz.underlying23 hi0 hz0 hz1 hz2 rfl (by omega) _ k (bW (all.take k)) rfl (z06 o5 ((Ch.refl (fun _=>False) w5).alloc _) (fun _ _ hf=>hf)) (fun _=>True) _ 1 1 [_] rfl ⟨rfl,fun _=>⟨⟨w5.heap.size,0,none⟩,rfl,trivial,cell_one_new _ _ _⟩⟩ (by intro u hu;simp at hu;subst hu;rfl) (by simp only[maxLen];omega) (by omega) (by simp;omega) ?_;intro v' w6 h2 h3 h4)
   go_roundw
   case rel=>
    obtain ⟨q1,q2⟩:=One.out v' w6 _ h3;exact ⟨k+1,_,by omega,by go_num,q1,by rw[HS.out];exact h2,q2,Hd2⟩
   case measure=>simp[intOf];omega
  ·obtain rfl:m=k:=by omega
   have hd:=Hd.out
   have e1:je (all.drop m)=[]:=by
    rw[List.drop_of_length_le (by rw[Hm.out];omega)];rfl
   rw[e1,List.nil_append]at hd;have hnm:=Ul cu4 n _ hd 2048 (by omega) (by omega);have D1:=ah (Aw hd);have kD:=ah hnm;have hw4:=c4.size;rw[List.take_of_length_le (by rw[Hm.out];omega)]at o4;clear hnm hd e1 Hd cu4;go_wp2_with fail;refine kD.out.mono ?_;rintro e w5 ⟨rfl,t5⟩;have hu:∀j,u3.ownBlock=some j->W.heap.size<=j:=fun j hj=>(o4.lt j hj).1;have o5:=z06 o4 t5.dN (fun j hj e=>by have:=hu j hj;omega);have c5:Ch (· =g) W w5:=c4.trans t5.dN fun _ _ e=>e;have hw5:=c5.size;obtain ⟨Aa,ca,rfl,hca,_⟩:=z05 o5;have r5:=Rd.bY o5;clear o4 o5 c4 kD hu;have SL:g<w5.heap.size:=(by omega);have Me:∀k,D k->k<w5.heap.size:=fun k hk=>by have:=fK k hk;omega
   go_wp2_with fail;go_loopw [4] (fun v wr=>∃a p:Nat,a<=n/\aJ wr D g A c T p 0/\wr.ownsRow w5.heap.size 9 1 v a (bW (l.take a))/\Ch (· =g) w5 wr/\Hid (T.drop p=bK all (l.drop a))) (fun v _=>n-jZ v)
   case atStart=>exact ⟨0,_,Nat.zero_le _,t5.cur,World.ownsRow_nil _ _ _ _,Ch.refl _ _,D1⟩
   case round=>
    clear t5 D1;obtain ⟨w6,rfl⟩:∃w6:World,w6=wr:=⟨_,rfl⟩;obtain ⟨a,p,ha,cu6,o6,c6,Hd⟩:=hrel;by_cases hlt:a<n
    ·obtain ⟨r,hr0,hr1,hr2,hr3⟩:=Kz l a (by rw[Hl.out];exact hlt)
     have step:=Un (all:=all) hr0 hr1 hr2 hr3;rw[Hl.out]at hr1;have hx:=jC.out a hlt;have hix:=Oh hx;rw[Hm.out]at hix;have hat:=lF hx;have hd:=Hd.out;rw[step]at hd;have hn1:=Ul cu6 (dw all (l.getD a ByteArray.empty)) _ (by rw[hd,List.append_assoc]) ((m:Int)-1) (by omega) (by omega);have hdn:=Aw (a:=aj (dw all (l.getD a ByteArray.empty))) (rest:=aj r++bK all (l.drop (a+r))) (by rw[hd,List.append_assoc]);have hn2:=fun w (cu:aJ w D g A c T (p+(aj (dw all (l.getD a ByteArray.empty))).length) 0)=>Ul cu r _ hdn ((n:Int)-(a:Int)) (by omega) (by omega);have Hd2:=ah (Aw hdn);have Hn1:=ah hn1;have Hn2:=ah hn2;have hsx:=yj (ss:=all) (k:=dw all (l.getD a ByteArray.empty)) (by rw[Hm.out];exact hix);rw[hat]at hsx;have HR:=ah (fun j (hj:j<r)=>show bW (l.take (a+j+1))=bW (l.take (a+j))++[.string (l.getD a ByteArray.empty)] by rw[take_snoc (by rw[Hl.out];omega),Yq,hr2 j hj];rfl);obtain ⟨Ao,co,rfl,hao,_⟩:=z05 o6;have k1:IntKind.i64.wrap ((m:Int)-1)=(m:Int)-1:=IntWalk.i64_in _ (by omega);have k2:IntKind.i64.wrap ((n:Int)-(a:Int))=(n:Int)-(a:Int):=IntWalk.i64_in _ (by omega);have Xi:=ah hsx;clear hn1 hn2 hdn hd step hat Hd hr2 hr3 hx cu6 hsx;generalize dw all (l.getD a ByteArray.empty)=ix at *;generalize l.getD a ByteArray.empty=x at *;have hz:((r:Int)==0)=false:=by rw[beq_eq_false_iff_ne];omega
     have hge:decide ((m:Int)<=(ix:Int))=false:=by rw[decide_eq_false_iff_not];omega
     have Ip:decide (m<=ix)=false:=by rw[decide_eq_false_iff_not];omega
     have hu6:∀j,(Value.slice Ao a co).ownBlock=some j->w5.heap.size<=j:=fun j hj=>(o6.lt j hj).1;go_wp2_with fail;refine Hn1.out.mono ?_;rintro e w7 ⟨rfl,t7⟩;go_wp2_with fail;refine (Hn2.out _ t7.cur).mono ?_;rintro e w8 ⟨rfl,t8⟩;have t68:=t7.trans t8;have o8:=z06 o6 t68.dN (fun j hj e=>by have:=hu6 j hj;omega);have c8:Ch (· =g) w5 w8:=c6.trans t68.dN fun _ _ e=>e;clear t7 t8 o6 c6 Hn1 Hn2;go_wp2_with fail;go_loopw [4,44] (fun v i wr=>∃j:Nat,j<=r/\i=.int .i64 (j:Int)/\aJ wr D g A c T (p+(aj ix).length+(aj r).length) 0/\wr.ownsRow w5.heap.size 9 1 v (a+j) (bW (l.take (a+j)))/\Ch (· =g) w5 wr) (fun _ i _=>r-(intOf i).toNat)
     case atStart=>exact ⟨0,Nat.zero_le _,rfl,t68.cur,o8,c8⟩
     case round=>
      clear t68 o8 c8;obtain ⟨w9,rfl⟩:∃w9:World,w9=wr:=⟨_,rfl⟩;obtain ⟨j,hj,rfl,cu9,o9,c9⟩:=hrel;by_cases hlj:j<r
      ·have r9:=r5.ch (by decide) c9 (fun k hk hd e=>by have:=hd.2.1;omega)
       obtain ⟨ad,rfl,_,hcell⟩:=r9.2 (by omega);have hc0:=hcell ix _ Xi.out;have HS:=ah (HR.out j hlj);have hu:∀j,u4.ownBlock=some j->w5.heap.size<=j:=fun j hj=>(o9.lt j hj).1;have hw9:=c9.size;have one:∀(v':Value) (w6:World) (X:Obj),(w9.alloc X).grownBy w6 u4.ownBlock->aJ w6 D g A c T (p+(aj ix).length+(aj r).length) 0/\Ch (· =g) w5 w6:=fun v' w6 X hg=>Yc cu9 SL Me c9 hg hu;have One:=ah one;clear one cu9 c9 hcell r9 hu;go_wp2_with (at_builtin;refine z00 _ rfl (.tmp 46) (.tmp 51) _ rfl w5.heap.size 9 i0 _ 1 16 Tryz.underlying23 hi0 hz0 hz1 hz2 rfl (by omega) _ (a+j) (bW (l.take (a+j))) rfl (z06 o9 ((Ch.refl (fun _=>False) w9).alloc _) (fun _ _ hf=>hf)) (fun _=>True) _ 1 1 [_] rfl ⟨rfl,fun _=>⟨⟨w9.heap.size,0,none⟩,rfl,trivial,cell_one_new _ _ _⟩⟩ (by intro u hu;simp at hu;subst hu;rfl) (by simp only[maxLen];omega) (by omega) (by simp;omega) ?_;intro v' w6 h2 h3 h4)
       go_roundw
       case rel=>
        obtain ⟨q1,q2⟩:=One.out v' w6 _ h3;exact ⟨j+1,by omega,by go_num,q1,by rw[show a+(j+1)=a+j+1 by omega,HS.out];exact h2,q2⟩
       case measure=>simp[intOf];omega
      ·obtain rfl:r=j:=by omega
       obtain ⟨A9,c9',rfl,_,_⟩:=z05 o9;go_wp2_with fail;go_roundw
       case rel=>exact ⟨a+r,_,by omega,cu9,o9,c9,Hd2⟩
       case measure=>simp[jZ];omega
    ·obtain rfl:n=a:=by omega
     obtain ⟨Ao,co,rfl,hao,_⟩:=z05 o6
     have hp:p=T.length:=by
      have hd:=congrArg List.length Hd.out;have e0:l.drop n=[]:=List.drop_of_length_le (by rw[Hl.out];omega);rw[e0,QH,List.length_drop]at hd;have:=cu6.pos;simp only[List.length_nil]at hd;omega
     rw[List.take_of_length_le (by rw[Hl.out];omega)]at o6;rw[hp]at cu6;clear hp Hd;go_wp2_with fail;go_ret;refine ⟨_,rfl,?_,cu6,c5.trans c6 fun _ _ e=>e⟩;rw[Hl.out];exact iT o6 (by omega)
def szl (l:List ByteArray):List Value:=l.map fun s=>.int .i64 (s.size:Int)
theorem JW {l:List ByteArray} {k:Nat} (h:k<l.length):szl (l.take (k+1))=szl (l.take k)++[.int .i64 ((l.getD k ByteArray.empty).size:Int)]:=by
 rw[take_snoc h];simp[szl]
theorem Pg {l:List ByteArray} {k:Nat} (h:k<l.length):(szl l)[k]?=some (.int .i64 ((l.getD k ByteArray.empty).size:Int)):=by simp[szl,List.getD,h]
theorem Ed (D:Nat->Prop) (g:Nat) (A:Option Addr) (c:Nat) (l:List ByteArray) (W:World) (h:aJ W D g A c (bC l) 0 0) (hn:l.length<=2048) (hs:∀s∈l,s.size<=1024):
 Calls Tryz.prog 65 #[.pointer (some ⟨g,0,none⟩)] W (NP W D g A c (bC l) l):=by
 obtain ⟨i0,hi0,hz0,hz1,hz2⟩:=info_parts Tryz.gW;obtain ⟨i1,hi1,hy0,hy1,hy2⟩:=info_parts Tryz.vO;have xg:bC l=aj l.length++eG l++dF l:=rfl
 have hsz:∀k,k<l.length->(l.getD k ByteArray.empty).size<=1024:=fun k hk=>by
  rw[List.getD,List.getElem?_eq_getElem hk];exact hs _ (List.getElem_mem hk)
 have HC:=ah xg;have wW:=ah hsz;have hgl:=h.blk.lt;have fK:=h.bnd;have hstr:=fun (D:Nat->Prop) (A:Option Addr) (n c:Nat) (t:List Nat) (w:World) (h:Rd w D 1 A n (bl t))=>xB (P:=Tryz.prog) w 27 9 5 Tryz.underlying27 Tryz.underlying5 Tryz.underlying9 D A n c _ h;have eU:=ah hstr;clear xg hsz hs hstr;generalize bC l=T at *;obtain ⟨n,hln⟩:∃n,l.length=n:=⟨_,rfl⟩;have Hl:=ah hln;rw[hln]at hn HC wW;clear hln;have d0:T.drop 0=aj n++(eG (l.drop 0)++dF l):=by rw[HC.out,List.drop_zero,List.drop_zero];simp only[List.append_assoc]
 have hnm:=Ul h n _ d0 2048 (by omega) (by omega);have D1:=ah (Aw d0);have kD:=ah hnm;clear hnm d0 h HC;go_enter Tryz.func65,Tryz.ntmps65;go_wp2_with fail;refine kD.out.mono ?_;rintro e w1 ⟨rfl,t1⟩;rw[Nat.zero_add]at t1 D1;go_wp2_with fail;go_loopw [3,9] (fun v i wr=>∃k p:Nat,k<=n/\i=.int .i64 (k:Int)/\aJ wr D g A c T p 0/\wr.ownsRow W.heap.size 3 1 v k (szl (l.take k))/\Ch (· =g) W wr/\Hid (T.drop p=eG (l.drop k)++dF l)) (fun _ i _=>n-(intOf i).toNat)
 case atStart=>exact ⟨0,(aj n).length,Nat.zero_le _,rfl,t1.cur,World.ownsRow_nil _ _ _ _,t1.dN,D1⟩
 case round=>
  clear t1 D1;obtain ⟨w4,rfl⟩:∃w4:World,w4=wr:=⟨_,rfl⟩;obtain ⟨k,p,hk,rfl,cu4,o4,c4,Hd⟩:=hrel;by_cases hlt:k<n
  ·have e1:=Ye (l:=l) (k:=k) (by rw[Hl.out];exact hlt)
   have hs1:=wW.out k hlt;have hd:=Hd.out;rw[e1]at hd;have HS:=ah (JW (l:=l) (k:=k) (by rw[Hl.out];exact hlt));clear e1 Hd;generalize l.getD k ByteArray.empty=s at *;have hnm:=Ul cu4 s.size (eG (l.drop (k+1))++dF l) (by rw[hd];simp only[List.append_assoc]) 1024 (by omega) (by omega);have Hd2:=ah (Aw (a:=aj s.size) (rest:=eG (l.drop (k+1))++dF l) (by rw[hd];simp only[List.append_assoc]));have kD:=ah hnm;have hw4:=c4.size;clear hnm hd;go_wp2_with fail;refine kD.out.mono ?_;rintro e w5 ⟨rfl,t5⟩;have hu:∀j,u3.ownBlock=some j->W.heap.size<=j:=fun j hj=>(o4.lt j hj).1;have o5:=z06 o4 t5.dN (fun j hj e=>by have:=hu j hj;omega);have c5:Ch (· =g) W w5:=c4.trans t5.dN fun _ _ e=>e;have hw5:=c5.size;have one:∀(v':Value) (w6:World) (X:Obj),(w5.alloc X).grownBy w6 u3.ownBlock->aJ w6 D g A c T (p+(aj s.size).length) 0/\Ch (· =g) W w6:=fun v' w6 X hg=>Yc t5.cur hgl fK c5 hg hu;have One:=ah one;clear one cu4 o4 c4 kD;go_wp2_with (at_builtin;refine z00 _ rfl (.tmp 11) (.tmp 14) _ rfl W.heap.size 3 i1 _ 1 8 Tryz.underlying88 hi1 hy0 hy1 hy2 rfl (by omega) _ k (szl (l.take k)) rfl (z06 o5 ((Ch.refl (fun _=>False) w5).alloc _) (fun _ _ hf=>hf)) (fun _=>True) _ 1 1 [_] rfl ⟨rfl,fun _=>⟨⟨w5.heap.size,0,none⟩,rfl,trivial,cell_one_new _ _ _⟩⟩ (by intro u hu;simp at hu;subst hu;rfl) (by simp only[maxLen];omega) (by omega) (by simp;omega) ?_;intro v' w6 h2 h3 h4)
   go_roundw
   case rel=>
    obtain ⟨q1,q2⟩:=One.out v' w6 _ h3;exact ⟨k+1,_,by omega,by go_num,q1,by rw[HS.out];exact h2,q2,Hd2⟩
   case measure=>simp[intOf];omega
  ·obtain rfl:n=k:=by omega
   have hd:=Hd.out
   have e1:eG (l.drop n)=[]:=by
    rw[List.drop_of_length_le (by rw[Hl.out];omega)];rfl
   rw[e1,List.nil_append]at hd;rw[List.take_of_length_le (by rw[Hl.out];omega)]at o4;have D1:Hid (T.drop p=dF (l.drop 0)):=ah (by rw[hd,List.drop_zero]);obtain ⟨Al,cl,rfl,hcl,_⟩:=z05 o4;have r4:=Rd.bY o4;have hw4:=c4.size;have SN:g<w4.heap.size:=(by omega);have MB:∀k,D k->k<w4.heap.size:=fun k hk=>by have:=fK k hk;omega
   clear hd e1 Hd o4 kD;go_wp2_with fail;go_loopw [4,19] (fun v i wr=>∃k p:Nat,k<=n/\i=.int .i64 (k:Int)/\aJ wr D g A c T p 0/\wr.ownsRow w4.heap.size 9 1 v k (bW (l.take k))/\Ch (· =g) w4 wr/\Hid (T.drop p=dF (l.drop k))) (fun _ i _=>n-(intOf i).toNat)
   case atStart=>exact ⟨0,p,Nat.zero_le _,rfl,cu4,World.ownsRow_nil _ _ _ _,Ch.refl _ _,D1⟩
   case round=>
    clear cu4 D1;obtain ⟨w6,rfl⟩:∃w6:World,w6=wr:=⟨_,rfl⟩;obtain ⟨k,p,hk,rfl,cu6,o6,c6,Hd⟩:=hrel;by_cases hlt:k<n
    ·have e1:=Vk (l:=l) (k:=k) (by rw[Hl.out];exact hlt)
     have hs1:=wW.out k hlt;have hd:=Hd.out;rw[e1]at hd;have hsn:=take_snoc (zs:=l) (k:=k) (by rw[Hl.out];exact hlt);have HS:=ah (show bW (l.take (k+1))=bW (l.take k)++[.string (l.getD k ByteArray.empty)] by rw[hsn,Yq];rfl);have r6:=r4.ch (by decide) c6 (fun k hk hd e=>by have:=hd.2.1;omega);obtain ⟨ad,rfl,_,hcell⟩:=r6.2 (by omega);have hc0:=hcell k _ (Pg (by rw[Hl.out];exact hlt));clear e1 hsn Hd hcell;generalize l.getD k ByteArray.empty=s at *;have hdl:=congrArg List.length hd;rw[List.length_drop,List.length_append,kJ]at hdl;have hpos:=cu6.pos;have hby:=z12 cu6 s.size (by omega);unfold Rx at hby;have htk:(T.drop p).take s.size=iU s:=(by rw[hd,←kJ s,List.take_left]);rw[htk]at hby;have hdn:=Aw hd;rw[kJ]at hdn;have Hd2:=ah hdn;have kG:=ah hby;have hw6:=c6.size;have hu6:∀j,u4.ownBlock=some j->w4.heap.size<=j:=fun j hj=>(o6.lt j hj).1;clear hby hdn htk hdl hd hpos cu6 r6;go_wp2_with fail;with_reducible refine kG.out.mono ?_
     rintro e w7 ⟨k7,Tj,rfl,t7,o7,hc7,hk7⟩;have o67:=z06 o6 t7.dN (fun j hj e=>by have:=hu6 j hj;omega);have c7:Ch (· =g) w4 w7:=c6.trans t7.dN fun _ _ e=>e;have e7:=eU.out _ _ s.size Tj (iU s) w7 (Rd.bY o7);rw[Uh]at e7;have hw7:=c7.size;have one:∀(v':Value) (w8:World) (X:Obj),(w7.alloc X).grownBy w8 u4.ownBlock->aJ w8 D g A c T (p+s.size) 0/\Ch (· =g) w4 w8:=fun v' w8 X hg=>Yc t7.cur SN MB c7 hg hu6;have One:=ah one;clear one t7 o7 o6 c6 c7 kG hu6;go_wp2_with (at_builtin;refine z00 _ rfl (.tmp 23) (.tmp 28) _ rfl w4.heap.size 9 i0 _ 1 16 Tryz.underlying23 hi0 hz0 hz1 hz2 rfl (by omega) _ k (bW (l.take k)) rfl (z06 o67 ((Ch.refl (fun _=>False) w7).alloc _) (fun _ _ hf=>hf)) (fun _=>True) _ 1 1 [_] rfl ⟨rfl,fun _=>⟨⟨w7.heap.size,0,none⟩,rfl,trivial,cell_one_new _ _ _⟩⟩ (by intro u hu;simp at hu;subst hu;rfl) (by simp only[maxLen];omega) (by omega) (by simp;omega) ?_;intro v' w8 h2 h3 h4)
     go_roundw
     case rel=>
      obtain ⟨q1,q2⟩:=One.out v' w8 _ h3;exact ⟨k+1,_,by omega,by go_num,q1,by rw[HS.out];exact h2,q2,Hd2⟩
     case measure=>simp[intOf];omega
    ·obtain rfl:n=k:=by omega
     have hp:p=T.length:=by
      have hd:=congrArg List.length Hd.out;have e0:l.drop n=[]:=List.drop_of_length_le (by rw[Hl.out];omega);rw[e0,List.length_drop]at hd;have:=cu6.pos;simp[dF]at hd;omega
     rw[List.take_of_length_le (by rw[Hl.out];omega)]at o6;rw[hp]at cu6;clear hp Hd;go_wp2_with fail;go_ret;refine ⟨_,rfl,?_,cu6,c4.trans c6 fun _ _ e=>e⟩;rw[Hl.out];exact iT o6 (by omega)
def T_ (W:World) (l:List ByteArray) (e:Ending) (w':World):Prop:=
 ∃v,e=.returned (.tuple #[v,.int .i64 0])/\au W w' 9 1 v l.length (bW l)
theorem II (D:Nat->Prop) (A:Option Addr) (n c:Nat) (l:List ByteArray) (W:World) (hr:Rd W D 1 A n (bl (aC 2 (aV l)))) (hl:(aC 2 (aV l)).length=n) (hn:l.length<=2048) (hs:∀s∈l,s.size<=1024) (hC:(aV l).length<=65536)
 (hcont:Calls Tryz.prog 92 #[.int .u8 2,.slice A n c] W (Jh W (aV l))):
 Calls Tryz.prog 58 #[.int .u8 2,.slice A n c,.func (.func 59) #[] #[],.func (.func 12) #[] #[]] W (T_ W l):=by
 have hput:=fun (D:Nat->Prop) (A:Option Addr) (c:Nat) (w:World) (h:Rd w D 1 A l.length (bW l)) (hc:l.length<=c)=>wF D A l.length c l w h rfl hn hs hc hC;have hcl:=fun (D:Nat->Prop) (g:Nat) (A:Option Addr) (c:Nat) (w:World) (h:aJ w D g A c (aV l) 0 0)=>Ec D g A c l w h hn hs;have hstr:=fun (D:Nat->Prop) (A:Option Addr) (c:Nat) (w:World) (h:Rd w D 1 A n (bl (aC 2 (aV l))))=>xB (P:=Tryz.prog) w 27 9 5 Tryz.underlying27 Tryz.underlying5 Tryz.underlying9 D A n c _ h;have iJ:=ah hput;have tJ:=ah hcl;have eU:=ah hstr;have Hc:=ah hcont;clear hput hcl hstr hcont;generalize aV l=fc at *;generalize aC 2 fc=ch at *;subst hl;go_enter Tryz.func58,Tryz.ntmps58;go_wp2_with fail;with_reducible refine Hc.out.mono ?_
 rintro e w1 ⟨g,A1,c1,D1,rfl,cu1,n1,hg,hD1⟩;go_wp2_with fail;with_reducible refine (tJ.out _ _ _ _ _ cu1).mono ?_
 rintro e w2 ⟨v2,rfl,o2,cu2,c2⟩;have n2:Nx W w2:=n1.trans c2 fun i hi e=>by omega
 have hs1:=n1.size;have vG:au W w2 9 1 v2 l.length (bW l):=⟨iT o2 hs1,n2⟩;obtain ⟨A2,cc2,rfl,PW,_⟩:=z05 o2;have hen:=EG cu2;rw[show bn fc.length fc.length 0=0 by unfold bn;rw[if_neg (by simp),if_neg (by omega)]]at hen;have fV:=ah hen;clear hen o2 c2 cu1 cu2;go_wp2_with fail;with_reducible refine fV.out.mono ?_
 rintro e w3 ⟨rfl,d3⟩;have o3:=vG.tr d3.nx;clear d3 fV;go_wp2_with fail;with_reducible refine (iJ.out _ _ _ _ o3.rd PW).mono ?_
 rintro e w4 ⟨k4,cap4,rfl,o4,h4⟩;have o5:=o3.tr o4.nx;have n5:=o5.nx;have e1:=eU.out _ _ cap4 w4 o4.fM;have e2:=eU.out D A c w4 (hr.nx (by decide) n5);generalize b_ ch=sx at *;go_wp2_with fail;go_ret2;exact ⟨_,rfl,o5⟩
theorem IL (D:Nat->Prop) (A:Option Addr) (n c:Nat) (l:List ByteArray) (W:World) (hr:Rd W D 1 A n (bl (aC 2 (aV l)))) (hl:(aC 2 (aV l)).length=n) (hn:l.length<=2048) (hs:∀s∈l,s.size<=1024) (hC:(aV l).length<=65536)
 (hcont:Calls Tryz.prog 92 #[.int .u8 2,.slice A n c] W (Jh W (aV l))):
 Calls Tryz.prog 24 #[.slice A n c] W (T_ W l):=by
 have Hr:=ah (II D A n c l W hr hl hn hs hC hcont);clear hr hcont hl;go_enter Tryz.func24,Tryz.ntmps24;go_wp2_with fail;with_reducible refine Hr.out.mono ?_
 rintro e w1 ⟨v,rfl,h⟩;go_wp2_with fail;go_ret2;exact ⟨_,rfl,h⟩
theorem Bd (l:List ByteArray):0<(aV l).length:=by
 have h:∀v,0<(aj v).length:=fun v=>by
  unfold aj;split<;>simp
 have:=h (bP l).length;unfold aV;simp only[List.length_append];omega
theorem qR (D:Nat->Prop) (A:Option Addr) (n c:Nat) (l:List ByteArray) (W:World) (hr:Rd W D 1 A n (bl (aC 2 (aV l)))) (dX:∀k,D k->k<W.heap.size) (hl:(aC 2 (aV l)).length=n) (hc:n<=c) (hn:l.length<=2048) (hs:∀s∈l,s.size<=1024) (hC:(aV l).length<=65536):
 Calls Tryz.prog 24 #[.slice A n c] W (T_ W l):=
 IL D A n c l W hr hl hn hs hC (Yv D A n c 2 (aV l) W hr dX (RJ hn hs) (by decide) hl hc hC (Bd l))
end Go.Proofs.YtfljcllpmbnjaaaGreat
