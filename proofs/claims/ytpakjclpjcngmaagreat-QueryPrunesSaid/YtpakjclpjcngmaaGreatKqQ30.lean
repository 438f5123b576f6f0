/- Contracts and plain laws that the last text rests on. Conditions: each theorem states its own. -/
import Derived.Test.YtpakjclpjcngmaaGreatKqQ15
import Derived.Test.YtpakjclpjcngmaaGreatKqQ29
import Derived.Test.YtpakjclpjcngmaaGreatKqQ14
import Derived.Test.YtpakjclpjcngmaaGreatKqPbDelta4
import Derived.Test.YtpakjclpjcngmaaGreatKqQ21
set_option maxRecDepth 100000
set_option maxHeartbeats 16000000
set_option linter.unusedVariables false
namespace Go.Proofs.YtpakjclpjcngmaaGreat
open Go.RowKit
def JV:Value->Nat
 | .slice _ n _=>n
 |_=>0
theorem ZG (l:List ByteArray) (a:Nat) (ha:a<l.length):∃r,0<r/\a+r<=l.length/\(∀j,j<r->l.getD (a+j) ByteArray.empty=l.getD a ByteArray.empty)/\(a+r=l.length∨l.getD (a+r) ByteArray.empty≠l.getD a ByteArray.empty):=by
 have key:∀d r,0<r->a+r+d=l.length->(∀j,j<r->l.getD (a+j) ByteArray.empty=l.getD a ByteArray.empty)->∃r,0<r/\a+r<=l.length/\(∀j,j<r->l.getD (a+j) ByteArray.empty=l.getD a ByteArray.empty)/\(a+r=l.length∨l.getD (a+r) ByteArray.empty≠l.getD a ByteArray.empty):=by
  intro d;induction d with
  |zero=>intro r h1 h2 h3;exact ⟨r,h1,by omega,h3,.inl (by omega)⟩
  |succ d ih=>
   intro r h1 h2 h3;by_cases he:l.getD (a+r) ByteArray.empty=l.getD a ByteArray.empty
   ·refine ih (r+1) (by omega) (by omega) fun j hj=>?_
    by_cases e:j=r
    ·subst e;exact he
    ·exact h3 j (by omega)
   ·exact ⟨r,h1,by omega,h3,.inr he⟩
 exact key (l.length-a-1) 1 (by omega) (by omega) fun j hj=>by rw[show j=0 by omega];rfl
theorem z3O {W w5 w6:World} {D:Nat->Prop} {g:Nat} {A:Option Addr} {c:Nat} {T:List Nat} {p:Nat} {X:Obj} {u:Value} (cu:aQ w5 D g A c T p 0) (hgl:g<W.heap.size) (mG:∀k,D k->k<W.heap.size) (c5:Ch (· =g) W w5)
 (hg:(w5.alloc X).grownBy w6 u.ownBlock) (hu:∀j,u.ownBlock=some j->W.heap.size<=j):aQ w6 D g A c T p 0/\Ch (· =g) W w6:=by
 have c6:Ch (fun j=>u.ownBlock=some j) w5 w6:=((Ch.refl _ w5).alloc X).grown hg fun j hj _=>hj;exact ⟨cu.ch c6 (fun e=>by have:=hu _ e;omega) (fun k hk e=>by have:=hu _ e;have:=mG k hk;omega),c5.trans c6 fun i hi e=>by have:=hu _ e;omega⟩
def UC (w:World) (D:Nat->Prop) (g:Nat) (A:Option Addr) (c:Nat) (xs:List Nat) (l:List ByteArray) (e:Ending) (w':World):Prop:=
 ∃v,e=.returned v/\w'.ownsRow w.heap.size 9 1 v l.length (fJ l)/\aQ w' D g A c xs xs.length 0/\Ch (· =g) w w'
theorem IV (D:Nat->Prop) (g:Nat) (A:Option Addr) (c:Nat) (l:List ByteArray) (W:World) (h:aQ W D g A c (aZ l) 0 0) (hn:l.length<=2048) (hs:∀s∈l,s.size<=1024):
 Calls Tryz.prog 137 #[.pointer (some ⟨g,0,none⟩)] W (UC W D g A c (aZ l) l):=by
 obtain ⟨i0,hi0,hz0,hz1,hz2⟩:=info_parts Tryz.lG;have Td:aZ l=ak (bU l).length++uJ (bU l)++ak l.length++dQ (bU l) l:=rfl
 have hsz:∀k,k<(bU l).length->((bU l).getD k ByteArray.empty).size<=1024:=fun k hk=>by
  rw[List.getD,List.getElem?_eq_getElem hk];exact hs _ (PO.1 (List.getElem_mem hk))
 have DC:=z12 l
 have hmem:∀k,k<l.length->l.getD k ByteArray.empty∈bU l:=fun k hk=>by
  rw[List.getD,List.getElem?_eq_getElem hk];exact PO.2 (List.getElem_mem _)
 have UH:=ah hmem;have HC:=ah Td;have Pz:=ah hsz;have hgl:=h.blk.lt;have mG:=h.bnd;have hout:=h.out;clear hmem Td hsz hs;generalize bU l=all at *;generalize aZ l=T at *;obtain ⟨n,hln⟩:∃n,l.length=n:=⟨_,rfl⟩;obtain ⟨m,hm⟩:∃m,all.length=m:=⟨_,rfl⟩;have Hm:=ah hm;have Hl:=ah hln;rw[hln]at hn HC UH DC;rw[hm]at HC Pz DC;have hmn:m<=n:=by omega
 clear hm hln DC;have d0:T.drop 0=ak m++(uJ (all.drop 0)++(ak n++dQ all l)):=by rw[HC.out,List.drop_zero,List.drop_zero];simp only[List.append_assoc]
 have hnm:=z1X h m _ d0 2048 (by omega) (by omega);have D1:=ah (z11 d0);have lT:=ah hnm;clear hnm d0 h HC;go_enter Tryz.func137,Tryz.ntmps137;go_wp2_with fail;refine lT.out.mono ?_;rintro e w1 ⟨rfl,t1⟩;rw[Nat.zero_add]at t1 D1;go_wp2_with fail;go_loopw [3,10] (fun v i wr=>∃k p:Nat,k<=m/\i=.int .i64 (k:Int)/\aQ wr D g A c T p 0/\wr.ownsRow W.heap.size 9 1 v k (fJ (all.take k))/\Ch (· =g) W wr/\Hid (T.drop p=uJ (all.drop k)++(ak n++dQ all l))) (fun _ i _=>m-(intOf i).toNat)
 case atStart=>exact ⟨0,(ak m).length,Nat.zero_le _,rfl,t1.cur,World.ownsRow_nil _ _ _ _,t1.kR,D1⟩
 case round=>
  clear t1 D1;obtain ⟨w4,rfl⟩:∃w4:World,w4=wr:=⟨_,rfl⟩;obtain ⟨k,p,hk,rfl,cu4,o4,c4,Hd⟩:=hrel;by_cases hlt:k<m
  ·have e1:=z4Y (all:=all) (k:=k) (by rw[Hm.out];exact hlt)
   have hs1:=Pz.out k hlt;have hd:=Hd.out;rw[e1]at hd;have hsn:=take_snoc (zs:=all) (k:=k) (by rw[Hm.out];exact hlt);have HS:=ah (show fJ (all.take (k+1))=fJ (all.take k)++[.string (all.getD k ByteArray.empty)] by rw[hsn,z2X];rfl);clear e1 hsn Hd;generalize all.getD k ByteArray.empty=s at *;have htx:=DY cu4 (kP s) (uJ (all.drop (k+1))++(ak n++dQ all l)) (by rw[hd,AO];simp only[List.append_assoc]) 1024 (by rw[AO];omega) (by omega);rw[o_,AO]at htx;have hdn:=z11 (a:=ak s.size) (rest:=kP s++(uJ (all.drop (k+1))++(ak n++dQ all l))) (by rw[hd];simp only[List.append_assoc]);have aaD:=z11 hdn;rw[AO]at aaD;have Hd2:=ah aaD;have Htx:=ah htx;have hw4:=c4.size;clear htx hd hdn aaD;go_wp2_with fail;refine Htx.out.mono ?_;rintro e w5 ⟨rfl,t5⟩;have hu:∀j,u3.ownBlock=some j->W.heap.size<=j:=fun j hj=>(o4.lt j hj).1;have o5:=iw o4 t5.kR (fun j hj e=>by have:=hu j hj;omega);have c5:Ch (· =g) W w5:=c4.trans t5.kR fun _ _ e=>e;have hw5:=c5.size;have one:∀(v':Value) (w6:World) (X:Obj),(w5.alloc X).grownBy w6 u3.ownBlock->aQ w6 D g A c T (p+(ak s.size).length+s.size) 0/\Ch (· =g) W w6:=fun v' w6 X hg=>z3O t5.cur hgl mG c5 hg hu;have One:=ah one;clear one cu4 o4 c4 Htx;go_wp2_with (at_builtin;refine z03 _ rfl (.tmp 12) (.tmp 15) _ rfl W.heap.size 9 i0 _ 1 16 Tryz.underlying80 hi0 hz0 hz1 hz2 rfl (by omega) _ k (fJ (all.take k)) rfl (iw o5 ((Ch.refl (fun _=>False) w5).alloc _) (fun _ _ hf=>hf)) (fun _=>True) _ 1 1 [_] rfl ⟨rfl,fun _=>⟨⟨w5.heap.size,0,none⟩,rfl,trivial,cell_one_new _ _ _⟩⟩ (by intro u hu;simp at hu;subst hu;rfl) (by simp only[maxLen];omega) (by omega) (by simp;omega) ?_;intro v' w6 h2 h3 h4)
   go_roundw
   case rel=>
    obtain ⟨q1,q2⟩:=One.out v' w6 _ h3;exact ⟨k+1,_,by omega,by go_num,q1,by rw[HS.out];exact h2,q2,Hd2⟩
   case measure=>simp[intOf];omega
  ·obtain rfl:m=k:=by omega
   have hd:=Hd.out
   have e1:uJ (all.drop m)=[]:=by
    rw[List.drop_of_length_le (by rw[Hm.out];omega)];rfl
   rw[e1,List.nil_append]at hd;have hnm:=z1X cu4 n _ hd 2048 (by omega) (by omega);have D1:=ah (z11 hd);have lT:=ah hnm;have hw4:=c4.size;rw[List.take_of_length_le (by rw[Hm.out];omega)]at o4;clear hnm hd e1 Hd cu4;go_wp2_with fail;refine lT.out.mono ?_;rintro e w5 ⟨rfl,t5⟩;have hu:∀j,u3.ownBlock=some j->W.heap.size<=j:=fun j hj=>(o4.lt j hj).1;have o5:=iw o4 t5.kR (fun j hj e=>by have:=hu j hj;omega);have c5:Ch (· =g) W w5:=c4.trans t5.kR fun _ _ e=>e;have hw5:=c5.size;obtain ⟨Aa,ca,rfl,hca,_⟩:=z07 o5;have r5:=Rd.eU o5;clear o4 o5 c4 lT hu;have hgl5:g<w5.heap.size:=(by omega);have aef:∀k,D k->k<w5.heap.size:=fun k hk=>by have:=mG k hk;omega
   go_wp2_with fail;go_loopw [4] (fun v wr=>∃a p:Nat,a<=n/\aQ wr D g A c T p 0/\wr.ownsRow w5.heap.size 9 1 v a (fJ (l.take a))/\Ch (· =g) w5 wr/\Hid (T.drop p=dQ all (l.drop a))) (fun v _=>n-JV v)
   case atStart=>exact ⟨0,_,Nat.zero_le _,t5.cur,World.ownsRow_nil _ _ _ _,Ch.refl _ _,D1⟩
   case round=>
    clear t5 D1;obtain ⟨w6,rfl⟩:∃w6:World,w6=wr:=⟨_,rfl⟩;obtain ⟨a,p,ha,cu6,o6,c6,Hd⟩:=hrel;by_cases hlt:a<n
    ·obtain ⟨r,hr0,hr1,hr2,hr3⟩:=ZG l a (by rw[Hl.out];exact hlt)
     have step:=z42 (all:=all) hr0 hr1 hr2 hr3;rw[Hl.out]at hr1;have hx:=UH.out a hlt;have hix:=z48 hx;rw[Hm.out]at hix;have hat:=Xk hx;have hd:=Hd.out;rw[step]at hd;have hn1:=z1X cu6 (fB all (l.getD a ByteArray.empty)) _ (by rw[hd,List.append_assoc]) ((m:Int)-1) (by omega) (by omega);have hdn:=z11 (a:=ak (fB all (l.getD a ByteArray.empty))) (rest:=ak r++dQ all (l.drop (a+r))) (by rw[hd,List.append_assoc]);have hn2:=fun w (cu:aQ w D g A c T (p+(ak (fB all (l.getD a ByteArray.empty))).length) 0)=>z1X cu r _ hdn ((n:Int)-(a:Int)) (by omega) (by omega);have Hd2:=ah (z11 hdn);have Hn1:=ah hn1;have Hn2:=ah hn2;have hsx:=ZE (ss:=all) (k:=fB all (l.getD a ByteArray.empty)) (by rw[Hm.out];exact hix);rw[hat]at hsx;have HR:=ah (fun j (hj:j<r)=>show fJ (l.take (a+j+1))=fJ (l.take (a+j))++[.string (l.getD a ByteArray.empty)] by rw[take_snoc (by rw[Hl.out];omega),z2X,hr2 j hj];rfl);obtain ⟨Ao,co,rfl,hao,_⟩:=z07 o6;have k1:IntKind.i64.wrap ((m:Int)-1)=(m:Int)-1:=IntWalk.i64_in _ (by omega);have k2:IntKind.i64.wrap ((n:Int)-(a:Int))=(n:Int)-(a:Int):=IntWalk.i64_in _ (by omega);have Hsx:=ah hsx;clear hn1 hn2 hdn hd step hat Hd hr2 hr3 hx cu6 hsx;generalize fB all (l.getD a ByteArray.empty)=ix at *;generalize l.getD a ByteArray.empty=x at *;have hz:((r:Int)==0)=false:=by rw[beq_eq_false_iff_ne];omega
     have hge:decide ((m:Int)<=(ix:Int))=false:=by rw[decide_eq_false_iff_not];omega
     have Xn:decide (m<=ix)=false:=by rw[decide_eq_false_iff_not];omega
     have hu6:∀j,(Value.slice Ao a co).ownBlock=some j->w5.heap.size<=j:=fun j hj=>(o6.lt j hj).1;go_wp2_with fail;refine Hn1.out.mono ?_;rintro e w7 ⟨rfl,t7⟩;go_wp2_with fail;refine (Hn2.out _ t7.cur).mono ?_;rintro e w8 ⟨rfl,t8⟩;have t68:=t7.trans t8;have o8:=iw o6 t68.kR (fun j hj e=>by have:=hu6 j hj;omega);have c8:Ch (· =g) w5 w8:=c6.trans t68.kR fun _ _ e=>e;clear t7 t8 o6 c6 Hn1 Hn2;go_wp2_with fail;go_loopw [4,44] (fun v i wr=>∃j:Nat,j<=r/\i=.int .i64 (j:Int)/\aQ wr D g A c T (p+(ak ix).length+(ak r).length) 0/\wr.ownsRow w5.heap.size 9 1 v (a+j) (fJ (l.take (a+j)))/\Ch (· =g) w5 wr) (fun _ i _=>r-(intOf i).toNat)
     case atStart=>exact ⟨0,Nat.zero_le _,rfl,t68.cur,o8,c8⟩
     case round=>
      clear t68 o8 c8;obtain ⟨w9,rfl⟩:∃w9:World,w9=wr:=⟨_,rfl⟩;obtain ⟨j,hj,rfl,cu9,o9,c9⟩:=hrel;by_cases hlj:j<r
      ·have r9:=r5.ch (by decide) c9 (fun k hk hd e=>by have:=hd.2.1;omega)
       obtain ⟨ad,rfl,_,hcell⟩:=r9.2 (by omega);have hc0:=hcell ix _ Hsx.out;have HS:=ah (HR.out j hlj);have hu:∀j,u4.ownBlock=some j->w5.heap.size<=j:=fun j hj=>(o9.lt j hj).1;have hw9:=c9.size;have one:∀(v':Value) (w6:World) (X:Obj),(w9.alloc X).grownBy w6 u4.ownBlock->aQ w6 D g A c T (p+(ak ix).length+(ak r).length) 0/\Ch (· =g) w5 w6:=fun v' w6 X hg=>z3O cu9 hgl5 aef c9 hg hu;have One:=ah one;clear one cu9 c9 hcell r9 hu;go_wp2_with (at_builtin;refine z03 _ rfl (.tmp 46) (.tmp 51) _ rfl w5.heap.size 9 i0 _ 1 16 Tryz.underlying80 hi0 hz0 hz1 hz2 rfl (by omega) _ (a+j) (fJ (l.take (a+j))) rfl (iw o9 ((Ch.refl (fun _=>False) w9).alloc _) (fun _ _ hf=>hf)) (fun _=>True) _ 1 1 [_] rfl ⟨rfl,fun _=>⟨⟨w9.heap.size,0,none⟩,rfl,trivial,cell_one_new _ _ _⟩⟩ (by intro u hu;simp at hu;subst hu;rfl) (by simp only[maxLen];omega) (by omega) (by simp;omega) ?_;intro v' w6 h2 h3 h4)
       go_roundw
       case rel=>
        obtain ⟨q1,q2⟩:=One.out v' w6 _ h3;exact ⟨j+1,by omega,by go_num,q1,by rw[show a+(j+1)=a+j+1 by omega,HS.out];exact h2,q2⟩
       case measure=>simp[intOf];omega
      ·obtain rfl:r=j:=by omega
       obtain ⟨A9,c9',rfl,_,_⟩:=z07 o9;go_wp2_with fail;go_roundw
       case rel=>exact ⟨a+r,_,by omega,cu9,o9,c9,Hd2⟩
       case measure=>simp[JV];omega
    ·obtain rfl:n=a:=by omega
     obtain ⟨Ao,co,rfl,hao,_⟩:=z07 o6
     have hp:p=T.length:=by
      have hd:=congrArg List.length Hd.out;have e0:l.drop n=[]:=List.drop_of_length_le (by rw[Hl.out];omega);rw[e0,z2l,List.length_drop]at hd;have:=cu6.pos;simp only[List.length_nil]at hd;omega
     rw[List.take_of_length_le (by rw[Hl.out];omega)]at o6;rw[hp]at cu6;clear hp Hd;go_wp2_with fail;go_ret;refine ⟨_,rfl,?_,cu6,c5.trans c6 fun _ _ e=>e⟩;rw[Hl.out];exact sK o6 (by omega)
def szl (l:List ByteArray):List Value:=l.map fun s=>.int .i64 (s.size:Int)
theorem Qj {l:List ByteArray} {k:Nat} (h:k<l.length):szl (l.take (k+1))=szl (l.take k)++[.int .i64 ((l.getD k ByteArray.empty).size:Int)]:=by
 rw[take_snoc h];simp[szl]
theorem VZ {l:List ByteArray} {k:Nat} (h:k<l.length):(szl l)[k]?=some (.int .i64 ((l.getD k ByteArray.empty).size:Int)):=by simp[szl,List.getD,h]
theorem IW (D:Nat->Prop) (g:Nat) (A:Option Addr) (c:Nat) (l:List ByteArray) (W:World) (h:aQ W D g A c (bC l) 0 0) (hn:l.length<=2048) (hs:∀s∈l,s.size<=1024):
 Calls Tryz.prog 138 #[.pointer (some ⟨g,0,none⟩)] W (UC W D g A c (bC l) l):=by
 obtain ⟨i0,hi0,hz0,hz1,hz2⟩:=info_parts Tryz.lG;obtain ⟨i1,hi1,hy0,hy1,hy2⟩:=info_parts Tryz.n_;have Td:bC l=ak l.length++iK l++h_ l:=rfl
 have hsz:∀k,k<l.length->(l.getD k ByteArray.empty).size<=1024:=fun k hk=>by
  rw[List.getD,List.getElem?_eq_getElem hk];exact hs _ (List.getElem_mem hk)
 have HC:=ah Td;have Pz:=ah hsz;have hgl:=h.blk.lt;have mG:=h.bnd;have hstr:=fun (D:Nat->Prop) (A:Option Addr) (n c:Nat) (t:List Nat) (w:World) (h:Rd w D 1 A n (bl t))=>LD (P:=Tryz.prog) w 26 9 5 Tryz.underlying26 Tryz.underlying5 Tryz.underlying9 D A n c _ h;have jR:=ah hstr;clear Td hsz hs hstr;generalize bC l=T at *;obtain ⟨n,hln⟩:∃n,l.length=n:=⟨_,rfl⟩;have Hl:=ah hln;rw[hln]at hn HC Pz;clear hln;have d0:T.drop 0=ak n++(iK (l.drop 0)++h_ l):=by rw[HC.out,List.drop_zero,List.drop_zero];simp only[List.append_assoc]
 have hnm:=z1X h n _ d0 2048 (by omega) (by omega);have D1:=ah (z11 d0);have lT:=ah hnm;clear hnm d0 h HC;go_enter Tryz.func138,Tryz.ntmps138;go_wp2_with fail;refine lT.out.mono ?_;rintro e w1 ⟨rfl,t1⟩;rw[Nat.zero_add]at t1 D1;go_wp2_with fail;go_loopw [3,9] (fun v i wr=>∃k p:Nat,k<=n/\i=.int .i64 (k:Int)/\aQ wr D g A c T p 0/\wr.ownsRow W.heap.size 3 1 v k (szl (l.take k))/\Ch (· =g) W wr/\Hid (T.drop p=iK (l.drop k)++h_ l)) (fun _ i _=>n-(intOf i).toNat)
 case atStart=>exact ⟨0,(ak n).length,Nat.zero_le _,rfl,t1.cur,World.ownsRow_nil _ _ _ _,t1.kR,D1⟩
 case round=>
  clear t1 D1;obtain ⟨w4,rfl⟩:∃w4:World,w4=wr:=⟨_,rfl⟩;obtain ⟨k,p,hk,rfl,cu4,o4,c4,Hd⟩:=hrel;by_cases hlt:k<n
  ·have e1:=uY (l:=l) (k:=k) (by rw[Hl.out];exact hlt)
   have hs1:=Pz.out k hlt;have hd:=Hd.out;rw[e1]at hd;have HS:=ah (Qj (l:=l) (k:=k) (by rw[Hl.out];exact hlt));clear e1 Hd;generalize l.getD k ByteArray.empty=s at *;have hnm:=z1X cu4 s.size (iK (l.drop (k+1))++h_ l) (by rw[hd];simp only[List.append_assoc]) 1024 (by omega) (by omega);have Hd2:=ah (z11 (a:=ak s.size) (rest:=iK (l.drop (k+1))++h_ l) (by rw[hd];simp only[List.append_assoc]));have lT:=ah hnm;have hw4:=c4.size;clear hnm hd;go_wp2_with fail;refine lT.out.mono ?_;rintro e w5 ⟨rfl,t5⟩;have hu:∀j,u3.ownBlock=some j->W.heap.size<=j:=fun j hj=>(o4.lt j hj).1;have o5:=iw o4 t5.kR (fun j hj e=>by have:=hu j hj;omega);have c5:Ch (· =g) W w5:=c4.trans t5.kR fun _ _ e=>e;have hw5:=c5.size;have one:∀(v':Value) (w6:World) (X:Obj),(w5.alloc X).grownBy w6 u3.ownBlock->aQ w6 D g A c T (p+(ak s.size).length) 0/\Ch (· =g) W w6:=fun v' w6 X hg=>z3O t5.cur hgl mG c5 hg hu;have One:=ah one;clear one cu4 o4 c4 lT;go_wp2_with (at_builtin;refine z03 _ rfl (.tmp 11) (.tmp 14) _ rfl W.heap.size 3 i1 _ 1 8 Tryz.underlying88 hi1 hy0 hy1 hy2 rfl (by omega) _ k (szl (l.take k)) rfl (iw o5 ((Ch.refl (fun _=>False) w5).alloc _) (fun _ _ hf=>hf)) (fun _=>True) _ 1 1 [_] rfl ⟨rfl,fun _=>⟨⟨w5.heap.size,0,none⟩,rfl,trivial,cell_one_new _ _ _⟩⟩ (by intro u hu;simp at hu;subst hu;rfl) (by simp only[maxLen];omega) (by omega) (by simp;omega) ?_;intro v' w6 h2 h3 h4)
   go_roundw
   case rel=>
    obtain ⟨q1,q2⟩:=One.out v' w6 _ h3;exact ⟨k+1,_,by omega,by go_num,q1,by rw[HS.out];exact h2,q2,Hd2⟩
   case measure=>simp[intOf];omega
  ·obtain rfl:n=k:=by omega
   have hd:=Hd.out
   have e1:iK (l.drop n)=[]:=by
    rw[List.drop_of_length_le (by rw[Hl.out];omega)];rfl
   rw[e1,List.nil_append]at hd;rw[List.take_of_length_le (by rw[Hl.out];omega)]at o4;have D1:Hid (T.drop p=h_ (l.drop 0)):=ah (by rw[hd,List.drop_zero]);obtain ⟨Al,cl,rfl,hcl,_⟩:=z07 o4;have r4:=Rd.eU o4;have hw4:=c4.size;have hgl4:g<w4.heap.size:=(by omega);have aeg:∀k,D k->k<w4.heap.size:=fun k hk=>by have:=mG k hk;omega
   clear hd e1 Hd o4 lT;go_wp2_with fail;go_loopw [4,19] (fun v i wr=>∃k p:Nat,k<=n/\i=.int .i64 (k:Int)/\aQ wr D g A c T p 0/\wr.ownsRow w4.heap.size 9 1 v k (fJ (l.take k))/\Ch (· =g) w4 wr/\Hid (T.drop p=h_ (l.drop k))) (fun _ i _=>n-(intOf i).toNat)
   case atStart=>exact ⟨0,p,Nat.zero_le _,rfl,cu4,World.ownsRow_nil _ _ _ _,Ch.refl _ _,D1⟩
   case round=>
    clear cu4 D1;obtain ⟨w6,rfl⟩:∃w6:World,w6=wr:=⟨_,rfl⟩;obtain ⟨k,p,hk,rfl,cu6,o6,c6,Hd⟩:=hrel;by_cases hlt:k<n
    ·have e1:=wY (l:=l) (k:=k) (by rw[Hl.out];exact hlt)
     have hs1:=Pz.out k hlt;have hd:=Hd.out;rw[e1]at hd;have hsn:=take_snoc (zs:=l) (k:=k) (by rw[Hl.out];exact hlt);have HS:=ah (show fJ (l.take (k+1))=fJ (l.take k)++[.string (l.getD k ByteArray.empty)] by rw[hsn,z2X];rfl);have r6:=r4.ch (by decide) c6 (fun k hk hd e=>by have:=hd.2.1;omega);obtain ⟨ad,rfl,_,hcell⟩:=r6.2 (by omega);have hc0:=hcell k _ (VZ (by rw[Hl.out];exact hlt));clear e1 hsn Hd hcell;generalize l.getD k ByteArray.empty=s at *;have hdl:=congrArg List.length hd;rw[List.length_drop,List.length_append,AO]at hdl;have hpos:=cu6.pos;have hby:=YD cu6 s.size (by omega);unfold z4j at hby;have htk:(T.drop p).take s.size=kP s:=(by rw[hd,←AO s,List.take_left]);rw[htk]at hby;have hdn:=z11 hd;rw[AO]at hdn;have Hd2:=ah hdn;have OY:=ah hby;have hw6:=c6.size;have hu6:∀j,u4.ownBlock=some j->w4.heap.size<=j:=fun j hj=>(o6.lt j hj).1;clear hby hdn htk hdl hd hpos cu6 r6;go_wp2_with fail;with_reducible refine OY.out.mono ?_
     rintro e w7 ⟨k7,aeu,rfl,t7,o7,hc7,hk7⟩;have o67:=iw o6 t7.kR (fun j hj e=>by have:=hu6 j hj;omega);have c7:Ch (· =g) w4 w7:=c6.trans t7.kR fun _ _ e=>e;have e7:=jR.out _ _ s.size aeu (kP s) w7 (Rd.eU o7);rw[o_]at e7;have hw7:=c7.size;have one:∀(v':Value) (w8:World) (X:Obj),(w7.alloc X).grownBy w8 u4.ownBlock->aQ w8 D g A c T (p+s.size) 0/\Ch (· =g) w4 w8:=fun v' w8 X hg=>z3O t7.cur hgl4 aeg c7 hg hu6;have One:=ah one;clear one t7 o7 o6 c6 c7 OY hu6;go_wp2_with (at_builtin;refine z03 _ rfl (.tmp 23) (.tmp 28) _ rfl w4.heap.size 9 i0 _ 1 16 Tryz.underlying80 hi0 hz0 hz1 hz2 rfl (by omega) _ k (fJ (l.take k)) rfl (iw o67 ((Ch.refl (fun _=>False) w7).alloc _) (fun _ _ hf=>hf)) (fun _=>True) _ 1 1 [_] rfl ⟨rfl,fun _=>⟨⟨w7.heap.size,0,none⟩,rfl,trivial,cell_one_new _ _ _⟩⟩ (by intro u hu;simp at hu;subst hu;rfl) (by simp only[maxLen];omega) (by omega) (by simp;omega) ?_;intro v' w8 h2 h3 h4)
     go_roundw
     case rel=>
      obtain ⟨q1,q2⟩:=One.out v' w8 _ h3;exact ⟨k+1,_,by omega,by go_num,q1,by rw[HS.out];exact h2,q2,Hd2⟩
     case measure=>simp[intOf];omega
    ·obtain rfl:n=k:=by omega
     have hp:p=T.length:=by
      have hd:=congrArg List.length Hd.out;have e0:l.drop n=[]:=List.drop_of_length_le (by rw[Hl.out];omega);rw[e0,List.length_drop]at hd;have:=cu6.pos;simp[h_]at hd;omega
     rw[List.take_of_length_le (by rw[Hl.out];omega)]at o6;rw[hp]at cu6;clear hp Hd;go_wp2_with fail;go_ret;refine ⟨_,rfl,?_,cu6,c4.trans c6 fun _ _ e=>e⟩;rw[Hl.out];exact sK o6 (by omega)
def z4i (W:World) (l:List ByteArray) (e:Ending) (w':World):Prop:=
 ∃v,e=.returned (.tuple #[v,.int .i64 0])/\aA W w' 9 1 v l.length (fJ l)
theorem Ou (D:Nat->Prop) (A:Option Addr) (n c:Nat) (l:List ByteArray) (W:World) (hr:Rd W D 1 A n (bl (aB 2 (aZ l)))) (hl:(aB 2 (aZ l)).length=n) (hn:l.length<=2048) (hs:∀s∈l,s.size<=1024) (hC:(aZ l).length<=65536)
 (hcont:Calls Tryz.prog 197 #[.int .u8 2,.slice A n c] W (PK W (aZ l))):
 Calls Tryz.prog 136 #[.int .u8 2,.slice A n c,.func (.func 137) #[] #[],.func (.func 100) #[] #[]] W (z4i W l):=by
 have hput:=fun (D:Nat->Prop) (A:Option Addr) (c:Nat) (w:World) (h:Rd w D 1 A l.length (fJ l)) (hc:l.length<=c)=>z4s D A l.length c l w h rfl hn hs hc hC;have hcl:=fun (D:Nat->Prop) (g:Nat) (A:Option Addr) (c:Nat) (w:World) (h:aQ w D g A c (aZ l) 0 0)=>IV D g A c l w h hn hs;have hstr:=fun (D:Nat->Prop) (A:Option Addr) (c:Nat) (w:World) (h:Rd w D 1 A n (bl (aB 2 (aZ l))))=>LD (P:=Tryz.prog) w 26 9 5 Tryz.underlying26 Tryz.underlying5 Tryz.underlying9 D A n c _ h;have Ju:=ah hput;have Vw:=ah hcl;have jR:=ah hstr;have Hc:=ah hcont;clear hput hcl hstr hcont;generalize aZ l=fc at *;generalize aB 2 fc=ch at *;subst hl;go_enter Tryz.func136,Tryz.ntmps136;go_wp2_with fail;with_reducible refine Hc.out.mono ?_
 rintro e w1 ⟨g,A1,c1,D1,rfl,cu1,n1,hg,hD1⟩;go_wp2_with fail;with_reducible refine (Vw.out _ _ _ _ _ cu1).mono ?_
 rintro e w2 ⟨v2,rfl,o2,cu2,c2⟩;have n2:Nx W w2:=n1.trans c2 fun i hi e=>by omega
 have hs1:=n1.size;have ZX:aA W w2 9 1 v2 l.length (fJ l):=⟨sK o2 hs1,n2⟩;obtain ⟨A2,cc2,rfl,NP,_⟩:=z07 o2;have hen:=JC cu2;rw[show bW fc.length fc.length 0=0 by unfold bW;rw[if_neg (by simp),if_neg (by omega)]]at hen;have xC:=ah hen;clear hen o2 c2 cu1 cu2;go_wp2_with fail;with_reducible refine xC.out.mono ?_
 rintro e w3 ⟨rfl,d3⟩;have o3:=ZX.tr d3.nx;clear d3 xC;go_wp2_with fail;with_reducible refine (Ju.out _ _ _ _ o3.rd NP).mono ?_
 rintro e w4 ⟨k4,cap4,rfl,o4,h4⟩;have o5:=o3.tr o4.nx;have n5:=o5.nx;have e1:=jR.out _ _ cap4 w4 o4.lC;have e2:=jR.out D A c w4 (hr.nx (by decide) n5);generalize bF ch=sx at *;go_wp2_with fail;go_ret2;exact ⟨_,rfl,o5⟩
theorem Oy (D:Nat->Prop) (A:Option Addr) (n c:Nat) (l:List ByteArray) (W:World) (hr:Rd W D 1 A n (bl (aB 2 (aZ l)))) (hl:(aB 2 (aZ l)).length=n) (hn:l.length<=2048) (hs:∀s∈l,s.size<=1024) (hC:(aZ l).length<=65536)
 (hcont:Calls Tryz.prog 197 #[.int .u8 2,.slice A n c] W (PK W (aZ l))):
 Calls Tryz.prog 62 #[.slice A n c] W (z4i W l):=by
 have Hr:=ah (Ou D A n c l W hr hl hn hs hC hcont);clear hr hcont hl;go_enter Tryz.func62,Tryz.ntmps62;go_wp2_with fail;with_reducible refine Hr.out.mono ?_
 rintro e w1 ⟨v,rfl,h⟩;go_wp2_with fail;go_ret2;exact ⟨_,rfl,h⟩
theorem Fh (l:List ByteArray):0<(aZ l).length:=by
 have h:∀v,0<(ak v).length:=fun v=>by
  unfold ak;split<;>simp
 have:=h (bU l).length;unfold aZ;simp only[List.length_append];omega
theorem um (D:Nat->Prop) (A:Option Addr) (n c:Nat) (l:List ByteArray) (W:World) (hr:Rd W D 1 A n (bl (aB 2 (aZ l)))) (tX:∀k,D k->k<W.heap.size) (hl:(aB 2 (aZ l)).length=n) (hc:n<=c) (hn:l.length<=2048) (hs:∀s∈l,s.size<=1024) (hC:(aZ l).length<=65536):
 Calls Tryz.prog 62 #[.slice A n c] W (z4i W l):=
 Oy D A n c l W hr hl hn hs hC (z2G D A n c 2 (aZ l) W hr tX (z4T hn hs) (by decide) hl hc hC (Fh l))
theorem Ot (D:Nat->Prop) (A:Option Addr) (n c:Nat) (l:List ByteArray) (W:World) (hr:Rd W D 1 A n (bl (aB 3 (bC l)))) (hl:(aB 3 (bC l)).length=n) (hn:l.length<=2048) (hs:∀s∈l,s.size<=1024) (hC:(bC l).length<=65536)
 (hcont:Calls Tryz.prog 197 #[.int .u8 3,.slice A n c] W (PK W (bC l))):
 Calls Tryz.prog 136 #[.int .u8 3,.slice A n c,.func (.func 138) #[] #[],.func (.func 101) #[] #[]] W (z4i W l):=by
 have hput:=fun (D:Nat->Prop) (A:Option Addr) (c:Nat) (w:World) (h:Rd w D 1 A l.length (fJ l)) (hc:l.length<=c)=>z4t D A l.length c l w h rfl hn hs hc hC;have hcl:=fun (D:Nat->Prop) (g:Nat) (A:Option Addr) (c:Nat) (w:World) (h:aQ w D g A c (bC l) 0 0)=>IW D g A c l w h hn hs;have hstr:=fun (D:Nat->Prop) (A:Option Addr) (c:Nat) (w:World) (h:Rd w D 1 A n (bl (aB 3 (bC l))))=>LD (P:=Tryz.prog) w 26 9 5 Tryz.underlying26 Tryz.underlying5 Tryz.underlying9 D A n c _ h;have Ju:=ah hput;have Vw:=ah hcl;have jR:=ah hstr;have Hc:=ah hcont;clear hput hcl hstr hcont;generalize bC l=fc at *;generalize aB 3 fc=ch at *;subst hl;go_enter Tryz.func136,Tryz.ntmps136;go_wp2_with fail;with_reducible refine Hc.out.mono ?_
 rintro e w1 ⟨g,A1,c1,D1,rfl,cu1,n1,hg,hD1⟩;go_wp2_with fail;with_reducible refine (Vw.out _ _ _ _ _ cu1).mono ?_
 rintro e w2 ⟨v2,rfl,o2,cu2,c2⟩;have n2:Nx W w2:=n1.trans c2 fun i hi e=>by omega
 have hs1:=n1.size;have ZX:aA W w2 9 1 v2 l.length (fJ l):=⟨sK o2 hs1,n2⟩;obtain ⟨A2,cc2,rfl,NP,_⟩:=z07 o2;have hen:=JC cu2;rw[show bW fc.length fc.length 0=0 by unfold bW;rw[if_neg (by simp),if_neg (by omega)]]at hen;have xC:=ah hen;clear hen o2 c2 cu1 cu2;go_wp2_with fail;with_reducible refine xC.out.mono ?_
 rintro e w3 ⟨rfl,d3⟩;have o3:=ZX.tr d3.nx;clear d3 xC;go_wp2_with fail;with_reducible refine (Ju.out _ _ _ _ o3.rd NP).mono ?_
 rintro e w4 ⟨k4,cap4,rfl,o4,h4⟩;have o5:=o3.tr o4.nx;have n5:=o5.nx;have e1:=jR.out _ _ cap4 w4 o4.lC;have e2:=jR.out D A c w4 (hr.nx (by decide) n5);generalize bF ch=sx at *;go_wp2_with fail;go_ret2;exact ⟨_,rfl,o5⟩
theorem Oz (D:Nat->Prop) (A:Option Addr) (n c:Nat) (l:List ByteArray) (W:World) (hr:Rd W D 1 A n (bl (aB 3 (bC l)))) (hl:(aB 3 (bC l)).length=n) (hn:l.length<=2048) (hs:∀s∈l,s.size<=1024) (hC:(bC l).length<=65536)
 (hcont:Calls Tryz.prog 197 #[.int .u8 3,.slice A n c] W (PK W (bC l))):
 Calls Tryz.prog 63 #[.slice A n c] W (z4i W l):=by
 have Hr:=ah (Ot D A n c l W hr hl hn hs hC hcont);clear hr hcont hl;go_enter Tryz.func63,Tryz.ntmps63;go_wp2_with fail;with_reducible refine Hr.out.mono ?_
 rintro e w1 ⟨v,rfl,h⟩;go_wp2_with fail;go_ret2;exact ⟨_,rfl,h⟩
theorem uo (D:Nat->Prop) (A:Option Addr) (n c:Nat) (l:List ByteArray) (W:World) (hr:Rd W D 1 A n (bl (aB 3 (bC l)))) (tX:∀k,D k->k<W.heap.size) (hl:(aB 3 (bC l)).length=n) (hc:n<=c) (hn:l.length<=2048) (hs:∀s∈l,s.size<=1024) (hC:(bC l).length<=65536):
 Calls Tryz.prog 63 #[.slice A n c] W (z4i W l):=
 Oz D A n c l W hr hl hn hs hC (z2G D A n c 3 (bC l) W hr tX (z3w hn hs).1 (by decide) hl hc hC (z3w hn hs).2.2)
theorem zx (D:Nat->Prop) (A:Option Addr) (n c:Nat) (l:List Int) (w:Nat) (hw:w<=2) (W:World) (hr:Rd W D 1 A n (bl (bJ l w))) (hl:(bJ l w).length=n) (hc:n<=c) (he:aS l=0):
 Calls Tryz.prog 135 #[.slice A n c,.int .i64 (w:Int)] W (EK W l):=by
 match w,hw with
 |0,_=>exact ug D A n c l W hr hl hc he
 |1,_=>exact uf D A n c l W hr hl hc he
 |2,_=>exact t_ D A n c l W hr hl hc he
theorem IK {W w5 w6:World} {D:Nat->Prop} {g:Nat} {A:Option Addr} {c:Nat} {T:List Nat} {p:Nat} {u:Value} (cu:aQ w5 D g A c T p 0) (hgl:g<W.heap.size) (mG:∀k,D k->k<W.heap.size) (c5:Ch (· =g) W w5)
 (hg:w5.grownBy w6 u.ownBlock) (hu:∀j,u.ownBlock=some j->W.heap.size<=j):aQ w6 D g A c T p 0/\Ch (· =g) W w6:=by
 have c6:Ch (fun j=>u.ownBlock=some j) w5 w6:=(Ch.refl _ w5).grown hg fun j hj _=>hj;exact ⟨cu.ch c6 (fun e=>by have:=hu _ e;omega) (fun k hk e=>by have:=hu _ e;have:=mG k hk;omega),c5.trans c6 fun i hi e=>by have:=hu _ e;omega⟩
def aeC (w:World) (D:Nat->Prop) (g:Nat) (A:Option Addr) (c:Nat) (xs:List Nat) (l:List Int) (e:Ending) (w':World):Prop:=
 ∃v,e=.returned v/\w'.ownsRow w.heap.size 2 1 v l.length (il l)/\aQ w' D g A c xs xs.length 0/\Ch (· =g) w w'
theorem OA (D:Nat->Prop) (g:Nat) (A:Option Addr) (c:Nat) (l:List Int) (W:World) (h:aQ W D g A c (bM l) 0 0) (he:aS l=0):
 Calls Tryz.prog 134 #[.pointer (some ⟨g,0,none⟩)] W (aeC W D g A c (bM l) l):=by
 obtain ⟨i0,hi0,hz0,hz1,hz2⟩:=info_parts Tryz.info5;have hd2:=z26 l;have hok:=z4H he;have hTe:bM l=[bQ l]++bJ l (bQ l):=rfl;have hil:=z2o he;have hll:=(z13 he).1;have hdec:=fun (D:Nat->Prop) (A:Option Addr) (c:Nat) (w:World) (h:Rd w D 1 A (bJ l (bQ l)).length (bl (bJ l (bQ l)))) (hc:(bJ l (bQ l)).length<=c)=>zx D A _ c l (bQ l) hd2 w h rfl hc he;unfold EK at hdec;have aeR:=ah hdec;have hgl:=h.blk.lt;have mG:=h.bnd;have hb0:=YD h 1 (by omega);unfold z4j at hb0;have h1:((bM l).drop 0).take 1=[bQ l]:=by rw[hTe];rfl
 rw[h1,Nat.zero_add]at hb0;have Hb0:=ah hb0;have hTl:(bM l).length=1+(bJ l (bQ l)).length:=by rw[hTe,List.length_append];rfl
 have hTd:∀k,k<(bJ l (bQ l)).length->((bM l).drop (1+k)).take 1=[(bJ l (bQ l)).getD k 0]:=fun k hk=>by
  rw[hTe,Nat.add_comm,show [bQ l]++bJ l (bQ l)=bQ l::bJ l (bQ l) from rfl,List.drop_succ_cons,List.drop_eq_getElem_cons hk,List.getD,List.getElem?_eq_getElem hk];rfl
 have HTd:=ah hTd;have hT1:(bM l).length<=1+(bJ l (bQ l)).length:=by omega
 have hT2:1+(bJ l (bQ l)).length<=(bM l).length:=by omega
 clear hdec hb0 h1 hTe hTd h hok he;have hEl:(bJ l (bQ l)).length<=1000000:=by omega
 clear hil hTl;generalize bJ l (bQ l)=E at *;generalize bM l=T at *;generalize bQ l=d at *;have kd:IntKind.i64.wrap (d:Int)=(d:Int):=IntWalk.i64_in _ (by omega);go_enter Tryz.func134,Tryz.ntmps134;go_wp2_with fail;refine Hb0.out.mono ?_;rintro e w2 ⟨k2,cap2,rfl,t2,o2,hc2,hk2⟩;have hw2:=t2.kR.size;have c20:w2.cell? ⟨k2,0,none⟩=some (.int .u8 (d:Int)):=o2.cellAt 0 (by omega);have hk2l:k2<w2.heap.size:=(o2.lt k2 rfl).2;have adW:g<w2.heap.size:=by omega
 have aeh:∀k,D k->k<w2.heap.size:=fun k hk=>by have:=mG k hk;omega
 have t2c:=t2.cur;have t2g:=t2.kR;clear Hb0 t2 o2;go_wp2_with fail;go_loopw [4] (fun v wr=>∃k:Nat,k<=E.length/\aQ wr D g A c T (1+k) 0/\wr.ownsRow w2.heap.size 5 1 v k (bl (E.take k))/\Ch (· =g) w2 wr) (fun v _=>E.length-JV v)
 case atStart=>exact ⟨0,Nat.zero_le _,t2c,World.ownsRow_nil _ _ _ _,Ch.refl _ _⟩
 case round=>
  clear t2c;obtain ⟨w4,rfl⟩:∃w4:World,w4=wr:=⟨_,rfl⟩;obtain ⟨k,hk,cu4,o4,c4⟩:=hrel;obtain ⟨A4,c4',rfl,hc4,_⟩:=z07 o4;have hen:=JC cu4;by_cases hlt:k<E.length
  ·rw[show bW T.length (1+k) 0=5 by unfold bW;rw[if_neg (by simp),if_pos (by omega)]]at hen
   have xC:=ah hen;have HS:=ah (show bl (E.take (k+1))=bl (E.take k)++bl [E.getD k 0] by rw[List.take_succ_eq_append_getElem hlt,List.getD,List.getElem?_eq_getElem hlt];unfold bl;rw[List.map_append];rfl);have hx:=HTd.out k hlt;clear hen;generalize E.getD k 0=x at *;go_wp2_with fail;refine xC.out.mono ?_;rintro e w5 ⟨rfl,d5⟩;have cu5:=cu4.nx d5.nx;have o5:=iw o4 d5.nx (fun _ _ hf=>hf);have c5:=c4.tr d5.nx;have hby:=YD cu5 1 (by omega);unfold z4j at hby;rw[hx]at hby;have OY:=ah hby;have hw5:=c5.size;clear hby hx cu4 o4 c4 d5 xC;go_wp2_with fail;refine OY.out.mono ?_;rintro e w6 ⟨k6,cap6,rfl,t6,o6,hc6,hk6⟩;have hu:∀j,(Value.slice A4 k c4').ownBlock=some j->w2.heap.size<=j:=fun j hj=>(o5.lt j hj).1;have o56:=iw o5 t6.kR (fun j hj e=>by have:=hu j hj;omega);have c6:Ch (· =g) w2 w6:=c5.trans t6.kR fun _ _ e=>e;have hw6:=c6.size;have r6:=Rd.eU o6;have one:∀(v':Value) (w8:World),w6.grownBy w8 (Value.slice A4 k c4').ownBlock->aQ w8 D g A c T (1+k+1) 0/\Ch (· =g) w2 w8:=fun v' w8 hg=>IK t6.cur adW aeh c6 hg hu;have One:=ah one;clear one t6 o6 o5 c5 c6 OY hu;go_wp2_with (at_builtin;refine z03 _ rfl (.tmp 12) (.tmp 14) _ rfl w2.heap.size 5 i0 _ 1 1 Tryz.underlying26 hi0 hz0 hz1 hz2 rfl (by omega) _ k (bl (E.take k)) rfl o56 _ (some ⟨k6,0,none⟩) 1 cap6 (bl [x]) rfl r6 (kY _) (by simp only[maxLen];omega) (by omega) (by omega) ?_;intro v' w8 h2 h3 h4)
   obtain ⟨A8,c8',rfl,_,_⟩:=z07 h2;go_roundw
   case rel=>
    obtain ⟨q1,q2⟩:=One.out (.slice A8 (k+1) c8') w8 h3;exact ⟨k+1,by omega,q1,by rw[HS.out];exact h2,q2⟩
   case measure=>simp[JV];omega
  ·obtain rfl:E.length=k:=by omega
   rw[show bW T.length (1+E.length) 0=0 by unfold bW;rw[if_neg (by simp),if_neg (by omega)]]at hen;have xC:=ah hen;rw[List.take_length]at o4;have hTk:1+E.length=T.length:=(by omega);rw[hTk]at cu4;clear hen hTk;go_wp2_with fail;refine xC.out.mono ?_;rintro e w5 ⟨rfl,d5⟩;have cu5:=cu4.nx d5.nx;have o5:=iw o4 d5.nx (fun _ _ hf=>hf);have c5:=c4.tr d5.nx;have hk2g:k2≠g:=(by omega);have c50:w5.cell? ⟨k2,0,none⟩=some (.int .u8 (d:Int)):=(c5.cell hk2l hk2g).trans c20;have hcall:=aeR.out _ A4 c4' w5 (Rd.eU o5) hc4;have hw5:=c5.size;clear xC cu4 o4 c4 d5 aeR o5;go_wp2_with fail;with_reducible refine hcall.mono ?_
   rintro e w6 ⟨v6,rfl,o6⟩;go_wp2_with fail;go_ret;exact ⟨v6,rfl,sK o6.own (by omega),cu5.nx o6.nx,t2g.trans (c5.tr o6.nx) fun _ _ e=>e⟩
def Jp (W:World) (l:List Int) (e:Ending) (w':World):Prop:=
 ∃v,e=.returned (.tuple #[v,.int .i64 0])/\aA W w' 2 1 v l.length (il l)
theorem Ov (D:Nat->Prop) (A:Option Addr) (n c:Nat) (l:List Int) (W:World) (hr:Rd W D 1 A n (bl (aB 1 (bM l)))) (hl:(aB 1 (bM l)).length=n) (hr0:aS l=0)
 (hcont:Calls Tryz.prog 197 #[.int .u8 1,.slice A n c] W (PK W (bM l))):
 Calls Tryz.prog 133 #[.int .u8 1,.slice A n c,.func (.func 134) #[] #[],.func (.func 97) #[] #[]] W (Jp W l):=by
 have hput:=fun (D:Nat->Prop) (A:Option Addr) (c:Nat) (w:World) (h:Rd w D 1 A l.length (il l))=>z5J D A l.length c l w h rfl hr0;have hcl:=fun (D:Nat->Prop) (g:Nat) (A:Option Addr) (c:Nat) (w:World) (h:aQ w D g A c (bM l) 0 0)=>OA D g A c l w h hr0;have hstr:=fun (D:Nat->Prop) (A:Option Addr) (c:Nat) (w:World) (h:Rd w D 1 A n (bl (aB 1 (bM l))))=>LD (P:=Tryz.prog) w 26 9 5 Tryz.underlying26 Tryz.underlying5 Tryz.underlying9 D A n c _ h;have Ju:=ah hput;have Vw:=ah hcl;have jR:=ah hstr;have Hc:=ah hcont;clear hput hcl hstr hcont;generalize bM l=fc at *;generalize aB 1 fc=ch at *;subst hl;go_enter Tryz.func133,Tryz.ntmps133;go_wp2_with fail;with_reducible refine Hc.out.mono ?_
 rintro e w1 ⟨g,A1,c1,D1,rfl,cu1,n1,hg,hD1⟩;go_wp2_with fail;with_reducible refine (Vw.out _ _ _ _ _ cu1).mono ?_
 rintro e w2 ⟨v2,rfl,o2,cu2,c2⟩;have n2:Nx W w2:=n1.trans c2 fun i hi e=>by omega
 have hs1:=n1.size;have ZX:aA W w2 2 1 v2 l.length (il l):=⟨sK o2 hs1,n2⟩;obtain ⟨A2,cc2,rfl,NP,_⟩:=z07 o2;have hen:=JC cu2;rw[show bW fc.length fc.length 0=0 by unfold bW;rw[if_neg (by simp),if_neg (by omega)]]at hen;have xC:=ah hen;clear hen o2 c2 cu1 cu2;go_wp2_with fail;with_reducible refine xC.out.mono ?_
 rintro e w3 ⟨rfl,d3⟩;have o3:=ZX.tr d3.nx;clear d3 xC;go_wp2_with fail;with_reducible refine (Ju.out _ _ _ _ o3.rd).mono ?_
 rintro e w4 ⟨k4,cap4,rfl,o4,h4⟩;have o5:=o3.tr o4.nx;have n5:=o5.nx;have e1:=jR.out _ _ cap4 w4 o4.lC;have e2:=jR.out D A c w4 (hr.nx (by decide) n5);generalize bF ch=sx at *;go_wp2_with fail;go_ret2;exact ⟨_,rfl,o5⟩
theorem TW (D:Nat->Prop) (A:Option Addr) (n c:Nat) (l:List Int) (W:World) (hr:Rd W D 1 A n (bl (aB 1 (bM l)))) (hl:(aB 1 (bM l)).length=n) (hr0:aS l=0)
 (hcont:Calls Tryz.prog 197 #[.int .u8 1,.slice A n c] W (PK W (bM l))):
 Calls Tryz.prog 61 #[.slice A n c] W (Jp W l):=by
 have Hr:=ah (Ov D A n c l W hr hl hr0 hcont);clear hr hcont hl;go_enter Tryz.func61,Tryz.ntmps61;go_wp2_with fail;with_reducible refine Hr.out.mono ?_
 rintro e w1 ⟨v,rfl,h⟩;go_wp2_with fail;go_ret2;exact ⟨_,rfl,h⟩
theorem zC (D:Nat->Prop) (A:Option Addr) (n c:Nat) (l:List Int) (W:World) (hr:Rd W D 1 A n (bl (aB 1 (bM l)))) (tX:∀k,D k->k<W.heap.size) (hl:(aB 1 (bM l)).length=n) (hc:n<=c) (hr0:aS l=0):
 Calls Tryz.prog 61 #[.slice A n c] W (Jp W l):=
 TW D A n c l W hr hl hr0 (z2G D A n c 1 (bM l) W hr tX (z4H hr0) (by decide) hl hc (by have:=z2o hr0;have:=(z13 hr0).1;omega) (by have:=z2o hr0;omega))
end Go.Proofs.YtpakjclpjcngmaaGreat
