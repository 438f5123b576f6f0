/- Contracts and plain laws that the last text rests on. Conditions: each theorem states its own. -/
import Derived.Test.YtpakjclpjcngmaaGreatKbQ22
import Derived.Test.YtpakjclpjcngmaaGreatKbQ24
import Derived.Test.YtpakjclpjcngmaaGreatKbQ25
import Derived.Test.YtpakjclpjcngmaaGreatKbQ17
set_option maxRecDepth 100000
set_option maxHeartbeats 16000000
set_option linter.unusedVariables false
namespace Go.Proofs.YtpakjclpjcngmaaGreat
open Go.RowKit
def Gj:Value->Nat
 | .slice _ n _=>n
 |_=>0
theorem Wq (l:List ByteArray) (a:Nat) (ha:a<l.length):∃r,0<r/\a+r<=l.length/\(∀j,j<r->l.getD (a+j) ByteArray.empty=l.getD a ByteArray.empty)/\(a+r=l.length∨l.getD (a+r) ByteArray.empty≠l.getD a ByteArray.empty):=by
 have key:∀d r,0<r->a+r+d=l.length->(∀j,j<r->l.getD (a+j) ByteArray.empty=l.getD a ByteArray.empty)->∃r,0<r/\a+r<=l.length/\(∀j,j<r->l.getD (a+j) ByteArray.empty=l.getD a ByteArray.empty)/\(a+r=l.length∨l.getD (a+r) ByteArray.empty≠l.getD a ByteArray.empty):=by
  intro d;induction d with
  |zero=>intro r h1 h2 h3;exact ⟨r,h1,by omega,h3,.inl (by omega)⟩
  |succ d ih=>
   intro r h1 h2 h3;by_cases he:l.getD (a+r) ByteArray.empty=l.getD a ByteArray.empty
   ·refine ih (r+1) (by omega) (by omega) fun j hj=>?_
    by_cases e:j=r
    ·subst e;exact he
    ·exact h3 j (by omega)
   ·exact ⟨r,h1,by omega,h3,.inr he⟩
 exact key (l.length-a-1) 1 (by omega) (by omega) fun j hj=>by rw[show j=0 by omega];rfl
theorem z3m {W w5 w6:World} {D:Nat->Prop} {g:Nat} {A:Option Addr} {c:Nat} {T:List Nat} {p:Nat} {X:Obj} {u:Value} (cu:aW w5 D g A c T p 0) (hgl:g<W.heap.size) (lq:∀k,D k->k<W.heap.size) (c5:Ch (· =g) W w5)
 (hg:(w5.alloc X).grownBy w6 u.ownBlock) (hu:∀j,u.ownBlock=some j->W.heap.size<=j):aW w6 D g A c T p 0/\Ch (· =g) W w6:=by
 have c6:Ch (fun j=>u.ownBlock=some j) w5 w6:=((Ch.refl _ w5).alloc X).grown hg fun j hj _=>hj;exact ⟨cu.ch c6 (fun e=>by have:=hu _ e;omega) (fun k hk e=>by have:=hu _ e;have:=lq k hk;omega),c5.trans c6 fun i hi e=>by have:=hu _ e;omega⟩
def Qk (w:World) (D:Nat->Prop) (g:Nat) (A:Option Addr) (c:Nat) (xs:List Nat) (l:List ByteArray) (e:Ending) (w':World):Prop:=
 ∃v,e=.returned v/\w'.ownsRow w.heap.size 9 1 v l.length (b_ l)/\aW w' D g A c xs xs.length 0/\Ch (· =g) w w'
theorem Fa (D:Nat->Prop) (g:Nat) (A:Option Addr) (c:Nat) (l:List ByteArray) (W:World) (h:aW W D g A c (aQ l) 0 0) (hn:l.length<=2048) (hs:∀s∈l,s.size<=1024):
 Calls Tryz.prog 137 #[.pointer (some ⟨g,0,none⟩)] W (Qk W D g A c (aQ l) l):=by
 obtain ⟨i0,hi0,hz0,hz1,hz2⟩:=info_parts Tryz.jK;have xU:aQ l=aj (bM l).length++kW (bM l)++aj l.length++bW (bM l) l:=rfl
 have hsz:∀k,k<(bM l).length->((bM l).getD k ByteArray.empty).size<=1024:=fun k hk=>by
  rw[List.getD,List.getElem?_eq_getElem hk];exact hs _ (yt.1 (List.getElem_mem hk))
 have lK:=Iw l
 have hmem:∀k,k<l.length->l.getD k ByteArray.empty∈bM l:=fun k hk=>by
  rw[List.getD,List.getElem?_eq_getElem hk];exact yt.2 (List.getElem_mem _)
 have mF:=ah hmem;have HC:=ah xU;have xJ:=ah hsz;have hgl:=h.blk.lt;have lq:=h.bnd;have hout:=h.out;clear hmem xU hsz hs;generalize bM l=all at *;generalize aQ l=T at *;obtain ⟨n,hln⟩:∃n,l.length=n:=⟨_,rfl⟩;obtain ⟨m,hm⟩:∃m,all.length=m:=⟨_,rfl⟩;have Hm:=ah hm;have Hl:=ah hln;rw[hln]at hn HC mF lK;rw[hm]at HC xJ lK;have hmn:m<=n:=by omega
 clear hm hln lK;have d0:T.drop 0=aj m++(kW (all.drop 0)++(aj n++bW all l)):=by rw[HC.out,List.drop_zero,List.drop_zero];simp only[List.append_assoc]
 have hnm:=YQ h m _ d0 2048 (by omega) (by omega);have D1:=ah (vJ d0);have vC:=ah hnm;clear hnm d0 h HC;go_enter Tryz.func137,Tryz.ntmps137;go_wp2_with fail;refine vC.out.mono ?_;rintro e w1 ⟨rfl,t1⟩;rw[Nat.zero_add]at t1 D1;go_wp2_with fail;go_loopw [3,10] (fun v i wr=>∃k p:Nat,k<=m/\i=.int .i64 (k:Int)/\aW wr D g A c T p 0/\wr.ownsRow W.heap.size 9 1 v k (b_ (all.take k))/\Ch (· =g) W wr/\Hid (T.drop p=kW (all.drop k)++(aj n++bW all l))) (fun _ i _=>m-(intOf i).toNat)
 case atStart=>exact ⟨0,(aj m).length,Nat.zero_le _,rfl,t1.cur,World.ownsRow_nil _ _ _ _,t1.lC,D1⟩
 case round=>
  clear t1 D1;obtain ⟨w4,rfl⟩:∃w4:World,w4=wr:=⟨_,rfl⟩;obtain ⟨k,p,hk,rfl,cu4,o4,c4,Hd⟩:=hrel;by_cases hlt:k<m
  ·have e1:=z2R (all:=all) (k:=k) (by rw[Hm.out];exact hlt)
   have hs1:=xJ.out k hlt;have hd:=Hd.out;rw[e1]at hd;have hsn:=take_snoc (zs:=all) (k:=k) (by rw[Hm.out];exact hlt);have HS:=ah (show b_ (all.take (k+1))=b_ (all.take k)++[.string (all.getD k ByteArray.empty)] by rw[hsn,z2v];rfl);clear e1 hsn Hd;generalize all.getD k ByteArray.empty=s at *;have htx:=Bd cu4 (jg s) (kW (all.drop (k+1))++(aj n++bW all l)) (by rw[hd,z09];simp only[List.append_assoc]) 1024 (by rw[z09];omega) (by omega);rw[z47,z09]at htx;have hdn:=vJ (a:=aj s.size) (rest:=jg s++(kW (all.drop (k+1))++(aj n++bW all l))) (by rw[hd];simp only[List.append_assoc]);have Xy:=vJ hdn;rw[z09]at Xy;have Hd2:=ah Xy;have Htx:=ah htx;have hw4:=c4.size;clear htx hd hdn Xy;go_wp2_with fail;refine Htx.out.mono ?_;rintro e w5 ⟨rfl,t5⟩;have hu:∀j,u3.ownBlock=some j->W.heap.size<=j:=fun j hj=>(o4.lt j hj).1;have o5:=iq o4 t5.lC (fun j hj e=>by have:=hu j hj;omega);have c5:Ch (· =g) W w5:=c4.trans t5.lC fun _ _ e=>e;have hw5:=c5.size;have one:∀(v':Value) (w6:World) (X:Obj),(w5.alloc X).grownBy w6 u3.ownBlock->aW w6 D g A c T (p+(aj s.size).length+s.size) 0/\Ch (· =g) W w6:=fun v' w6 X hg=>z3m t5.cur hgl lq c5 hg hu;have One:=ah one;clear one cu4 o4 c4 Htx;go_wp2_with (at_builtin;refine z07 _ rfl (.tmp 12) (.tmp 15) _ rfl W.heap.size 9 i0 _ 1 16 Tryz.underlying80 hi0 hz0 hz1 hz2 rfl (by omega) _ k (b_ (all.take k)) rfl (iq o5 ((Ch.refl (fun _=>False) w5).alloc _) (fun _ _ hf=>hf)) (fun _=>True) _ 1 1 [_] rfl ⟨rfl,fun _=>⟨⟨w5.heap.size,0,none⟩,rfl,trivial,cell_one_new _ _ _⟩⟩ (by intro u hu;simp at hu;subst hu;rfl) (by simp only[maxLen];omega) (by omega) (by simp;omega) ?_;intro v' w6 h2 h3 h4)
   go_roundw
   case rel=>
    obtain ⟨q1,q2⟩:=One.out v' w6 _ h3;exact ⟨k+1,_,by omega,by go_num,q1,by rw[HS.out];exact h2,q2,Hd2⟩
   case measure=>simp[intOf];omega
  ·obtain rfl:m=k:=by omega
   have hd:=Hd.out
   have e1:kW (all.drop m)=[]:=by
    rw[List.drop_of_length_le (by rw[Hm.out];omega)];rfl
   rw[e1,List.nil_append]at hd;have hnm:=YQ cu4 n _ hd 2048 (by omega) (by omega);have D1:=ah (vJ hd);have vC:=ah hnm;have hw4:=c4.size;rw[List.take_of_length_le (by rw[Hm.out];omega)]at o4;clear hnm hd e1 Hd cu4;go_wp2_with fail;refine vC.out.mono ?_;rintro e w5 ⟨rfl,t5⟩;have hu:∀j,u3.ownBlock=some j->W.heap.size<=j:=fun j hj=>(o4.lt j hj).1;have o5:=iq o4 t5.lC (fun j hj e=>by have:=hu j hj;omega);have c5:Ch (· =g) W w5:=c4.trans t5.lC fun _ _ e=>e;have hw5:=c5.size;obtain ⟨Aa,ca,rfl,hca,_⟩:=z08 o5;have r5:=Rd.fH o5;clear o4 o5 c4 vC hu;have hgl5:g<w5.heap.size:=(by omega);have aaE:∀k,D k->k<w5.heap.size:=fun k hk=>by have:=lq k hk;omega
   go_wp2_with fail;go_loopw [4] (fun v wr=>∃a p:Nat,a<=n/\aW wr D g A c T p 0/\wr.ownsRow w5.heap.size 9 1 v a (b_ (l.take a))/\Ch (· =g) w5 wr/\Hid (T.drop p=bW all (l.drop a))) (fun v _=>n-Gj v)
   case atStart=>exact ⟨0,_,Nat.zero_le _,t5.cur,World.ownsRow_nil _ _ _ _,Ch.refl _ _,D1⟩
   case round=>
    clear t5 D1;obtain ⟨w6,rfl⟩:∃w6:World,w6=wr:=⟨_,rfl⟩;obtain ⟨a,p,ha,cu6,o6,c6,Hd⟩:=hrel;by_cases hlt:a<n
    ·obtain ⟨r,hr0,hr1,hr2,hr3⟩:=Wq l a (by rw[Hl.out];exact hlt)
     have step:=ZM (all:=all) hr0 hr1 hr2 hr3;rw[Hl.out]at hr1;have hx:=mF.out a hlt;have hix:=VP hx;rw[Hm.out]at hix;have hat:=Ti hx;have hd:=Hd.out;rw[step]at hd;have hn1:=YQ cu6 (dB all (l.getD a ByteArray.empty)) _ (by rw[hd,List.append_assoc]) ((m:Int)-1) (by omega) (by omega);have hdn:=vJ (a:=aj (dB all (l.getD a ByteArray.empty))) (rest:=aj r++bW all (l.drop (a+r))) (by rw[hd,List.append_assoc]);have hn2:=fun w (cu:aW w D g A c T (p+(aj (dB all (l.getD a ByteArray.empty))).length) 0)=>YQ cu r _ hdn ((n:Int)-(a:Int)) (by omega) (by omega);have Hd2:=ah (vJ hdn);have Hn1:=ah hn1;have Hn2:=ah hn2;have hsx:=Dy (ss:=all) (k:=dB all (l.getD a ByteArray.empty)) (by rw[Hm.out];exact hix);rw[hat]at hsx;have HR:=ah (fun j (hj:j<r)=>show b_ (l.take (a+j+1))=b_ (l.take (a+j))++[.string (l.getD a ByteArray.empty)] by rw[take_snoc (by rw[Hl.out];omega),z2v,hr2 j hj];rfl);obtain ⟨Ao,co,rfl,hao,_⟩:=z08 o6;have k1:IntKind.i64.wrap ((m:Int)-1)=(m:Int)-1:=IntWalk.i64_in _ (by omega);have k2:IntKind.i64.wrap ((n:Int)-(a:Int))=(n:Int)-(a:Int):=IntWalk.i64_in _ (by omega);have Hsx:=ah hsx;clear hn1 hn2 hdn hd step hat Hd hr2 hr3 hx cu6 hsx;generalize dB all (l.getD a ByteArray.empty)=ix at *;generalize l.getD a ByteArray.empty=x at *;have hz:((r:Int)==0)=false:=by rw[beq_eq_false_iff_ne];omega
     have hge:decide ((m:Int)<=(ix:Int))=false:=by rw[decide_eq_false_iff_not];omega
     have Tq:decide (m<=ix)=false:=by rw[decide_eq_false_iff_not];omega
     have hu6:∀j,(Value.slice Ao a co).ownBlock=some j->w5.heap.size<=j:=fun j hj=>(o6.lt j hj).1;go_wp2_with fail;refine Hn1.out.mono ?_;rintro e w7 ⟨rfl,t7⟩;go_wp2_with fail;refine (Hn2.out _ t7.cur).mono ?_;rintro e w8 ⟨rfl,t8⟩;have t68:=t7.trans t8;have o8:=iq o6 t68.lC (fun j hj e=>by have:=hu6 j hj;omega);have c8:Ch (· =g) w5 w8:=c6.trans t68.lC fun _ _ e=>e;clear t7 t8 o6 c6 Hn1 Hn2;go_wp2_with fail;go_loopw [4,44] (fun v i wr=>∃j:Nat,j<=r/\i=.int .i64 (j:Int)/\aW wr D g A c T (p+(aj ix).length+(aj r).length) 0/\wr.ownsRow w5.heap.size 9 1 v (a+j) (b_ (l.take (a+j)))/\Ch (· =g) w5 wr) (fun _ i _=>r-(intOf i).toNat)
     case atStart=>exact ⟨0,Nat.zero_le _,rfl,t68.cur,o8,c8⟩
     case round=>
      clear t68 o8 c8;obtain ⟨w9,rfl⟩:∃w9:World,w9=wr:=⟨_,rfl⟩;obtain ⟨j,hj,rfl,cu9,o9,c9⟩:=hrel;by_cases hlj:j<r
      ·have r9:=r5.ch (by decide) c9 (fun k hk hd e=>by have:=hd.2.1;omega)
       obtain ⟨ad,rfl,_,hcell⟩:=r9.2 (by omega);have hc0:=hcell ix _ Hsx.out;have HS:=ah (HR.out j hlj);have hu:∀j,u4.ownBlock=some j->w5.heap.size<=j:=fun j hj=>(o9.lt j hj).1;have hw9:=c9.size;have one:∀(v':Value) (w6:World) (X:Obj),(w9.alloc X).grownBy w6 u4.ownBlock->aW w6 D g A c T (p+(aj ix).length+(aj r).length) 0/\Ch (· =g) w5 w6:=fun v' w6 X hg=>z3m cu9 hgl5 aaE c9 hg hu;have One:=ah one;clear one cu9 c9 hcell r9 hu;go_wp2_with (at_builtin;refine z07 _ rfl (.tmp 46) (.tmp 51) _ rfl w5.heap.size 9 i0 _ 1 16 Tryz.underlying80 hi0 hz0 hz1 hz2 rfl (by omega) _ (a+j) (b_ (l.take (a+j))) rfl (iq o9 ((Ch.refl (fun _=>False) w9).alloc _) (fun _ _ hf=>hf)) (fun _=>True) _ 1 1 [_] rfl ⟨rfl,fun _=>⟨⟨w9.heap.size,0,none⟩,rfl,trivial,cell_one_new _ _ _⟩⟩ (by intro u hu;simp at hu;subst hu;rfl) (by simp only[maxLen];omega) (by omega) (by simp;omega) ?_;intro v' w6 h2 h3 h4)
       go_roundw
       case rel=>
        obtain ⟨q1,q2⟩:=One.out v' w6 _ h3;exact ⟨j+1,by omega,by go_num,q1,by rw[show a+(j+1)=a+j+1 by omega,HS.out];exact h2,q2⟩
       case measure=>simp[intOf];omega
      ·obtain rfl:r=j:=by omega
       obtain ⟨A9,c9',rfl,_,_⟩:=z08 o9;go_wp2_with fail;go_roundw
       case rel=>exact ⟨a+r,_,by omega,cu9,o9,c9,Hd2⟩
       case measure=>simp[Gj];omega
    ·obtain rfl:n=a:=by omega
     obtain ⟨Ao,co,rfl,hao,_⟩:=z08 o6
     have hp:p=T.length:=by
      have hd:=congrArg List.length Hd.out;have e0:l.drop n=[]:=List.drop_of_length_le (by rw[Hl.out];omega);rw[e0,Rq,List.length_drop]at hd;have:=cu6.pos;simp only[List.length_nil]at hd;omega
     rw[List.take_of_length_le (by rw[Hl.out];omega)]at o6;rw[hp]at cu6;clear hp Hd;go_wp2_with fail;go_ret;refine ⟨_,rfl,?_,cu6,c5.trans c6 fun _ _ e=>e⟩;rw[Hl.out];exact jM o6 (by omega)
def szl (l:List ByteArray):List Value:=l.map fun s=>.int .i64 (s.size:Int)
theorem LV {l:List ByteArray} {k:Nat} (h:k<l.length):szl (l.take (k+1))=szl (l.take k)++[.int .i64 ((l.getD k ByteArray.empty).size:Int)]:=by
 rw[take_snoc h];simp[szl]
theorem RP {l:List ByteArray} {k:Nat} (h:k<l.length):(szl l)[k]?=some (.int .i64 ((l.getD k ByteArray.empty).size:Int)):=by simp[szl,List.getD,h]
theorem Fb (D:Nat->Prop) (g:Nat) (A:Option Addr) (c:Nat) (l:List ByteArray) (W:World) (h:aW W D g A c (aU l) 0 0) (hn:l.length<=2048) (hs:∀s∈l,s.size<=1024):
 Calls Tryz.prog 138 #[.pointer (some ⟨g,0,none⟩)] W (Qk W D g A c (aU l) l):=by
 obtain ⟨i0,hi0,hz0,hz1,hz2⟩:=info_parts Tryz.jK;obtain ⟨i1,hi1,hy0,hy1,hy2⟩:=info_parts Tryz.mX;have xU:aU l=aj l.length++fZ l++fB l:=rfl
 have hsz:∀k,k<l.length->(l.getD k ByteArray.empty).size<=1024:=fun k hk=>by
  rw[List.getD,List.getElem?_eq_getElem hk];exact hs _ (List.getElem_mem hk)
 have HC:=ah xU;have xJ:=ah hsz;have hgl:=h.blk.lt;have lq:=h.bnd;have hstr:=fun (D:Nat->Prop) (A:Option Addr) (n c:Nat) (t:List Nat) (w:World) (h:Rd w D 1 A n (bl t))=>vI (P:=Tryz.prog) w 26 9 5 Tryz.underlying26 Tryz.underlying5 Tryz.underlying9 D A n c _ h;have jA:=ah hstr;clear xU hsz hs hstr;generalize aU l=T at *;obtain ⟨n,hln⟩:∃n,l.length=n:=⟨_,rfl⟩;have Hl:=ah hln;rw[hln]at hn HC xJ;clear hln;have d0:T.drop 0=aj n++(fZ (l.drop 0)++fB l):=by rw[HC.out,List.drop_zero,List.drop_zero];simp only[List.append_assoc]
 have hnm:=YQ h n _ d0 2048 (by omega) (by omega);have D1:=ah (vJ d0);have vC:=ah hnm;clear hnm d0 h HC;go_enter Tryz.func138,Tryz.ntmps138;go_wp2_with fail;refine vC.out.mono ?_;rintro e w1 ⟨rfl,t1⟩;rw[Nat.zero_add]at t1 D1;go_wp2_with fail;go_loopw [3,9] (fun v i wr=>∃k p:Nat,k<=n/\i=.int .i64 (k:Int)/\aW wr D g A c T p 0/\wr.ownsRow W.heap.size 3 1 v k (szl (l.take k))/\Ch (· =g) W wr/\Hid (T.drop p=fZ (l.drop k)++fB l)) (fun _ i _=>n-(intOf i).toNat)
 case atStart=>exact ⟨0,(aj n).length,Nat.zero_le _,rfl,t1.cur,World.ownsRow_nil _ _ _ _,t1.lC,D1⟩
 case round=>
  clear t1 D1;obtain ⟨w4,rfl⟩:∃w4:World,w4=wr:=⟨_,rfl⟩;obtain ⟨k,p,hk,rfl,cu4,o4,c4,Hd⟩:=hrel;by_cases hlt:k<n
  ·have e1:=z4u (l:=l) (k:=k) (by rw[Hl.out];exact hlt)
   have hs1:=xJ.out k hlt;have hd:=Hd.out;rw[e1]at hd;have HS:=ah (LV (l:=l) (k:=k) (by rw[Hl.out];exact hlt));clear e1 Hd;generalize l.getD k ByteArray.empty=s at *;have hnm:=YQ cu4 s.size (fZ (l.drop (k+1))++fB l) (by rw[hd];simp only[List.append_assoc]) 1024 (by omega) (by omega);have Hd2:=ah (vJ (a:=aj s.size) (rest:=fZ (l.drop (k+1))++fB l) (by rw[hd];simp only[List.append_assoc]));have vC:=ah hnm;have hw4:=c4.size;clear hnm hd;go_wp2_with fail;refine vC.out.mono ?_;rintro e w5 ⟨rfl,t5⟩;have hu:∀j,u3.ownBlock=some j->W.heap.size<=j:=fun j hj=>(o4.lt j hj).1;have o5:=iq o4 t5.lC (fun j hj e=>by have:=hu j hj;omega);have c5:Ch (· =g) W w5:=c4.trans t5.lC fun _ _ e=>e;have hw5:=c5.size;have one:∀(v':Value) (w6:World) (X:Obj),(w5.alloc X).grownBy w6 u3.ownBlock->aW w6 D g A c T (p+(aj s.size).length) 0/\Ch (· =g) W w6:=fun v' w6 X hg=>z3m t5.cur hgl lq c5 hg hu;have One:=ah one;clear one cu4 o4 c4 vC;go_wp2_with (at_builtin;refine z07 _ rfl (.tmp 11) (.tmp 14) _ rfl W.heap.size 3 i1 _ 1 8 Tryz.underlying88 hi1 hy0 hy1 hy2 rfl (by omega) _ k (szl (l.take k)) rfl (iq o5 ((Ch.refl (fun _=>False) w5).alloc _) (fun _ _ hf=>hf)) (fun _=>True) _ 1 1 [_] rfl ⟨rfl,fun _=>⟨⟨w5.heap.size,0,none⟩,rfl,trivial,cell_one_new _ _ _⟩⟩ (by intro u hu;simp at hu;subst hu;rfl) (by simp only[maxLen];omega) (by omega) (by simp;omega) ?_;intro v' w6 h2 h3 h4)
   go_roundw
   case rel=>
    obtain ⟨q1,q2⟩:=One.out v' w6 _ h3;exact ⟨k+1,_,by omega,by go_num,q1,by rw[HS.out];exact h2,q2,Hd2⟩
   case measure=>simp[intOf];omega
  ·obtain rfl:n=k:=by omega
   have hd:=Hd.out
   have e1:fZ (l.drop n)=[]:=by
    rw[List.drop_of_length_le (by rw[Hl.out];omega)];rfl
   rw[e1,List.nil_append]at hd;rw[List.take_of_length_le (by rw[Hl.out];omega)]at o4;have D1:Hid (T.drop p=fB (l.drop 0)):=ah (by rw[hd,List.drop_zero]);obtain ⟨Al,cl,rfl,hcl,_⟩:=z08 o4;have r4:=Rd.fH o4;have hw4:=c4.size;have hgl4:g<w4.heap.size:=(by omega);have aaF:∀k,D k->k<w4.heap.size:=fun k hk=>by have:=lq k hk;omega
   clear hd e1 Hd o4 vC;go_wp2_with fail;go_loopw [4,19] (fun v i wr=>∃k p:Nat,k<=n/\i=.int .i64 (k:Int)/\aW wr D g A c T p 0/\wr.ownsRow w4.heap.size 9 1 v k (b_ (l.take k))/\Ch (· =g) w4 wr/\Hid (T.drop p=fB (l.drop k))) (fun _ i _=>n-(intOf i).toNat)
   case atStart=>exact ⟨0,p,Nat.zero_le _,rfl,cu4,World.ownsRow_nil _ _ _ _,Ch.refl _ _,D1⟩
   case round=>
    clear cu4 D1;obtain ⟨w6,rfl⟩:∃w6:World,w6=wr:=⟨_,rfl⟩;obtain ⟨k,p,hk,rfl,cu6,o6,c6,Hd⟩:=hrel;by_cases hlt:k<n
    ·have e1:=z5c (l:=l) (k:=k) (by rw[Hl.out];exact hlt)
     have hs1:=xJ.out k hlt;have hd:=Hd.out;rw[e1]at hd;have hsn:=take_snoc (zs:=l) (k:=k) (by rw[Hl.out];exact hlt);have HS:=ah (show b_ (l.take (k+1))=b_ (l.take k)++[.string (l.getD k ByteArray.empty)] by rw[hsn,z2v];rfl);have r6:=r4.ch (by decide) c6 (fun k hk hd e=>by have:=hd.2.1;omega);obtain ⟨ad,rfl,_,hcell⟩:=r6.2 (by omega);have hc0:=hcell k _ (RP (by rw[Hl.out];exact hlt));clear e1 hsn Hd hcell;generalize l.getD k ByteArray.empty=s at *;have hdl:=congrArg List.length hd;rw[List.length_drop,List.length_append,z09]at hdl;have hpos:=cu6.pos;have hby:=VY cu6 s.size (by omega);unfold Yz at hby;have htk:(T.drop p).take s.size=jg s:=(by rw[hd,←z09 s,List.take_left]);rw[htk]at hby;have hdn:=vJ hd;rw[z09]at hdn;have Hd2:=ah hdn;have CG:=ah hby;have hw6:=c6.size;have hu6:∀j,u4.ownBlock=some j->w4.heap.size<=j:=fun j hj=>(o6.lt j hj).1;clear hby hdn htk hdl hd hpos cu6 r6;go_wp2_with fail;with_reducible refine CG.out.mono ?_
     rintro e w7 ⟨k7,kG,rfl,t7,o7,hc7,hk7⟩;have o67:=iq o6 t7.lC (fun j hj e=>by have:=hu6 j hj;omega);have c7:Ch (· =g) w4 w7:=c6.trans t7.lC fun _ _ e=>e;have e7:=jA.out _ _ s.size kG (jg s) w7 (Rd.fH o7);rw[z47]at e7;have hw7:=c7.size;have one:∀(v':Value) (w8:World) (X:Obj),(w7.alloc X).grownBy w8 u4.ownBlock->aW w8 D g A c T (p+s.size) 0/\Ch (· =g) w4 w8:=fun v' w8 X hg=>z3m t7.cur hgl4 aaF c7 hg hu6;have One:=ah one;clear one t7 o7 o6 c6 c7 CG hu6;go_wp2_with (at_builtin;refine z07 _ rfl (.tmp 23) (.tmp 28) _ rfl w4.heap.size 9 i0 _ 1 16 Tryz.underlying80 hi0 hz0 hz1 hz2 rfl (by omega) _ k (b_ (l.take k)) rfl (iq o67 ((Ch.refl (fun _=>False) w7).alloc _) (fun _ _ hf=>hf)) (fun _=>True) _ 1 1 [_] rfl ⟨rfl,fun _=>⟨⟨w7.heap.size,0,none⟩,rfl,trivial,cell_one_new _ _ _⟩⟩ (by intro u hu;simp at hu;subst hu;rfl) (by simp only[maxLen];omega) (by omega) (by simp;omega) ?_;intro v' w8 h2 h3 h4)
     go_roundw
     case rel=>
      obtain ⟨q1,q2⟩:=One.out v' w8 _ h3;exact ⟨k+1,_,by omega,by go_num,q1,by rw[HS.out];exact h2,q2,Hd2⟩
     case measure=>simp[intOf];omega
    ·obtain rfl:n=k:=by omega
     have hp:p=T.length:=by
      have hd:=congrArg List.length Hd.out;have e0:l.drop n=[]:=List.drop_of_length_le (by rw[Hl.out];omega);rw[e0,List.length_drop]at hd;have:=cu6.pos;simp[fB]at hd;omega
     rw[List.take_of_length_le (by rw[Hl.out];omega)]at o6;rw[hp]at cu6;clear hp Hd;go_wp2_with fail;go_ret;refine ⟨_,rfl,?_,cu6,c4.trans c6 fun _ _ e=>e⟩;rw[Hl.out];exact jM o6 (by omega)
def nC (W:World) (l:List ByteArray) (e:Ending) (w':World):Prop:=
 ∃v,e=.returned (.tuple #[v,.int .i64 0])/\ak W w' 9 1 v l.length (b_ l)
theorem Ky (D:Nat->Prop) (A:Option Addr) (n c:Nat) (l:List ByteArray) (W:World) (hr:Rd W D 1 A n (bl (ay 2 (aQ l)))) (hl:(ay 2 (aQ l)).length=n) (hn:l.length<=2048) (hs:∀s∈l,s.size<=1024) (hC:(aQ l).length<=65536)
 (hcont:Calls Tryz.prog 197 #[.int .u8 2,.slice A n c] W (QC W (aQ l))):
 Calls Tryz.prog 136 #[.int .u8 2,.slice A n c,.func (.func 137) #[] #[],.func (.func 100) #[] #[]] W (nC W l):=by
 have hput:=fun (D:Nat->Prop) (A:Option Addr) (c:Nat) (w:World) (h:Rd w D 1 A l.length (b_ l)) (hc:l.length<=c)=>z3V D A l.length c l w h rfl hn hs hc hC;have hcl:=fun (D:Nat->Prop) (g:Nat) (A:Option Addr) (c:Nat) (w:World) (h:aW w D g A c (aQ l) 0 0)=>Fa D g A c l w h hn hs;have hstr:=fun (D:Nat->Prop) (A:Option Addr) (c:Nat) (w:World) (h:Rd w D 1 A n (bl (ay 2 (aQ l))))=>vI (P:=Tryz.prog) w 26 9 5 Tryz.underlying26 Tryz.underlying5 Tryz.underlying9 D A n c _ h;have FD:=ah hput;have Ll:=ah hcl;have jA:=ah hstr;have Hc:=ah hcont;clear hput hcl hstr hcont;generalize aQ l=fc at *;generalize ay 2 fc=ch at *;subst hl;go_enter Tryz.func136,Tryz.ntmps136;go_wp2_with fail;with_reducible refine Hc.out.mono ?_
 rintro e w1 ⟨g,A1,c1,D1,rfl,cu1,n1,hg,hD1⟩;go_wp2_with fail;with_reducible refine (Ll.out _ _ _ _ _ cu1).mono ?_
 rintro e w2 ⟨v2,rfl,o2,cu2,c2⟩;have n2:Nx W w2:=n1.trans c2 fun i hi e=>by omega
 have hs1:=n1.size;have WR:ak W w2 9 1 v2 l.length (b_ l):=⟨jM o2 hs1,n2⟩;obtain ⟨A2,cc2,rfl,JV,_⟩:=z08 o2;have hen:=Iu cu2;rw[show dh fc.length fc.length 0=0 by unfold dh;rw[if_neg (by simp),if_neg (by omega)]]at hen;have lS:=ah hen;clear hen o2 c2 cu1 cu2;go_wp2_with fail;with_reducible refine lS.out.mono ?_
 rintro e w3 ⟨rfl,d3⟩;have o3:=WR.tr d3.nx;clear d3 lS;go_wp2_with fail;with_reducible refine (FD.out _ _ _ _ o3.rd JV).mono ?_
 rintro e w4 ⟨k4,cap4,rfl,o4,h4⟩;have o5:=o3.tr o4.nx;have n5:=o5.nx;have e1:=jA.out _ _ cap4 w4 o4.iy;have e2:=jA.out D A c w4 (hr.nx (by decide) n5);generalize bf ch=sx at *;go_wp2_with fail;go_ret2;exact ⟨_,rfl,o5⟩
theorem KC (D:Nat->Prop) (A:Option Addr) (n c:Nat) (l:List ByteArray) (W:World) (hr:Rd W D 1 A n (bl (ay 2 (aQ l)))) (hl:(ay 2 (aQ l)).length=n) (hn:l.length<=2048) (hs:∀s∈l,s.size<=1024) (hC:(aQ l).length<=65536)
 (hcont:Calls Tryz.prog 197 #[.int .u8 2,.slice A n c] W (QC W (aQ l))):
 Calls Tryz.prog 62 #[.slice A n c] W (nC W l):=by
 have Hr:=ah (Ky D A n c l W hr hl hn hs hC hcont);clear hr hcont hl;go_enter Tryz.func62,Tryz.ntmps62;go_wp2_with fail;with_reducible refine Hr.out.mono ?_
 rintro e w1 ⟨v,rfl,h⟩;go_wp2_with fail;go_ret2;exact ⟨_,rfl,h⟩
theorem C_ (l:List ByteArray):0<(aQ l).length:=by
 have h:∀v,0<(aj v).length:=fun v=>by
  unfold aj;split<;>simp
 have:=h (bM l).length;unfold aQ;simp only[List.length_append];omega
end Go.Proofs.YtpakjclpjcngmaaGreat
