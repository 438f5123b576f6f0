/- Contracts and plain laws that the last text rests on. Conditions: each theorem states its own. -/
import Derived.Test.YtfljcllpmbnjaaaGreatKdQ29
import Derived.Test.YtfljcllpmbnjaaaGreatKdQ26
import Derived.Test.YtfljcllpmbnjaaaGreatKdQ27
import Derived.Test.YtfljcllpmbnjaaaGreatKdQ21
import Derived.Test.YtfljcllpmbnjaaaGreatKdQ28
set_option maxRecDepth 100000
set_option maxHeartbeats 32000000
set_option linter.unusedVariables false
namespace Go.Proofs.YtfljcllpmbnjaaaGreat
open Go.RowKit
theorem wz (D:Nat->Prop) (A:Option Addr) (n c:Nat) (l:List Int) (w:Nat) (hw:w<=2) (W:World) (hr:Rd W D 1 A n (bl (bf l w))) (hl:(bf l w).length=n) (hc:n<=c) (he:aO l=0):
 Calls Tryz.prog 55 #[.slice A n c,.int .i64 (w:Int)] W (Ar W l):=by
 match w,hw with
 |0,_=>exact qO D A n c l W hr hl hc he
 |1,_=>exact qN D A n c l W hr hl hc he
 |2,_=>exact qM D A n c l W hr hl hc he
theorem DY {W w5 w6:World} {D:Nat->Prop} {g:Nat} {A:Option Addr} {c:Nat} {T:List Nat} {p:Nat} {u:Value} (cu:aJ w5 D g A c T p 0) (hgl:g<W.heap.size) (fK:∀k,D k->k<W.heap.size) (c5:Ch (· =g) W w5)
 (hg:w5.grownBy w6 u.ownBlock) (hu:∀j,u.ownBlock=some j->W.heap.size<=j):aJ w6 D g A c T p 0/\Ch (· =g) W w6:=by
 have c6:Ch (fun j=>u.ownBlock=some j) w5 w6:=(Ch.refl _ w5).grown hg fun j hj _=>hj;exact ⟨cu.ch c6 (fun e=>by have:=hu _ e;omega) (fun k hk e=>by have:=hu _ e;have:=fK k hk;omega),c5.trans c6 fun i hi e=>by have:=hu _ e;omega⟩
def Xe (w:World) (D:Nat->Prop) (g:Nat) (A:Option Addr) (c:Nat) (xs:List Nat) (l:List Int) (e:Ending) (w':World):Prop:=
 ∃v,e=.returned v/\w'.ownsRow w.heap.size 2 1 v l.length (il l)/\aJ w' D g A c xs xs.length 0/\Ch (· =g) w w'
theorem IU (D:Nat->Prop) (g:Nat) (A:Option Addr) (c:Nat) (l:List Int) (W:World) (h:aJ W D g A c (bT l) 0 0) (he:aO l=0):
 Calls Tryz.prog 52 #[.pointer (some ⟨g,0,none⟩)] W (Xe W D g A c (bT l) l):=by
 obtain ⟨i0,hi0,hz0,hz1,hz2⟩:=info_parts Tryz.info5;have hd2:=z19 l;have hok:=z25 he;have hTe:bT l=[aY l]++bf l (aY l):=rfl;have hil:=Oi he;have hll:=(jH he).1;have hdec:=fun (D:Nat->Prop) (A:Option Addr) (c:Nat) (w:World) (h:Rd w D 1 A (bf l (aY l)).length (bl (bf l (aY l)))) (hc:(bf l (aY l)).length<=c)=>wz D A _ c l (aY l) hd2 w h rfl hc he;unfold Ar at hdec;have Xt:=ah hdec;have hgl:=h.blk.lt;have fK:=h.bnd;have hb0:=z12 h 1 (by omega);unfold Rx at hb0;have h1:((bT l).drop 0).take 1=[aY l]:=by rw[hTe];rfl
 rw[h1,Nat.zero_add]at hb0;have Hb0:=ah hb0;have hTl:(bT l).length=1+(bf l (aY l)).length:=by rw[hTe,List.length_append];rfl
 have hTd:∀k,k<(bf l (aY l)).length->((bT l).drop (1+k)).take 1=[(bf l (aY l)).getD k 0]:=fun k hk=>by
  rw[hTe,Nat.add_comm,show [aY l]++bf l (aY l)=aY l::bf l (aY l) from rfl,List.drop_succ_cons,List.drop_eq_getElem_cons hk,List.getD,List.getElem?_eq_getElem hk];rfl
 have HTd:=ah hTd;have hT1:(bT l).length<=1+(bf l (aY l)).length:=by omega
 have hT2:1+(bf l (aY l)).length<=(bT l).length:=by omega
 clear hdec hb0 h1 hTe hTd h hok he;have hEl:(bf l (aY l)).length<=1000000:=by omega
 clear hil hTl;generalize bf l (aY l)=E at *;generalize bT l=T at *;generalize aY l=d at *;have kd:IntKind.i64.wrap (d:Int)=(d:Int):=IntWalk.i64_in _ (by omega);go_enter Tryz.func52,Tryz.ntmps52;go_wp2_with fail;refine Hb0.out.mono ?_;rintro e w2 ⟨k2,cap2,rfl,t2,o2,hc2,hk2⟩;have hw2:=t2.dN.size;have c20:w2.cell? ⟨k2,0,none⟩=some (.int .u8 (d:Int)):=o2.cellAt 0 (by omega);have hk2l:k2<w2.heap.size:=(o2.lt k2 rfl).2;have SQ:g<w2.heap.size:=by omega
 have MC:∀k,D k->k<w2.heap.size:=fun k hk=>by have:=fK k hk;omega
 have Vs:=t2.cur;have YA:=t2.dN;clear Hb0 t2 o2;go_wp2_with fail;go_loopw [4] (fun v wr=>∃k:Nat,k<=E.length/\aJ wr D g A c T (1+k) 0/\wr.ownsRow w2.heap.size 5 1 v k (bl (E.take k))/\Ch (· =g) w2 wr) (fun v _=>E.length-jZ v)
 case atStart=>exact ⟨0,Nat.zero_le _,Vs,World.ownsRow_nil _ _ _ _,Ch.refl _ _⟩
 case round=>
  clear Vs;obtain ⟨w4,rfl⟩:∃w4:World,w4=wr:=⟨_,rfl⟩;obtain ⟨k,hk,cu4,o4,c4⟩:=hrel;obtain ⟨A4,c4',rfl,hc4,_⟩:=z05 o4;have hen:=EG cu4;by_cases hlt:k<E.length
  ·rw[show bn T.length (1+k) 0=5 by unfold bn;rw[if_neg (by simp),if_pos (by omega)]]at hen
   have fV:=ah hen;have HS:=ah (show bl (E.take (k+1))=bl (E.take k)++bl [E.getD k 0] by rw[List.take_succ_eq_append_getElem hlt,List.getD,List.getElem?_eq_getElem hlt];unfold bl;rw[List.map_append];rfl);have hx:=HTd.out k hlt;clear hen;generalize E.getD k 0=x at *;go_wp2_with fail;refine fV.out.mono ?_;rintro e w5 ⟨rfl,d5⟩;have cu5:=cu4.nx d5.nx;have o5:=z06 o4 d5.nx (fun _ _ hf=>hf);have c5:=c4.tr d5.nx;have hby:=z12 cu5 1 (by omega);unfold Rx at hby;rw[hx]at hby;have kG:=ah hby;have hw5:=c5.size;clear hby hx cu4 o4 c4 d5 fV;go_wp2_with fail;refine kG.out.mono ?_;rintro e w6 ⟨k6,cap6,rfl,t6,o6,hc6,hk6⟩;have hu:∀j,(Value.slice A4 k c4').ownBlock=some j->w2.heap.size<=j:=fun j hj=>(o5.lt j hj).1;have o56:=z06 o5 t6.dN (fun j hj e=>by have:=hu j hj;omega);have c6:Ch (· =g) w2 w6:=c5.trans t6.dN fun _ _ e=>e;have hw6:=c6.size;have r6:=Rd.bY o6;have one:∀(v':Value) (w8:World),w6.grownBy w8 (Value.slice A4 k c4').ownBlock->aJ w8 D g A c T (1+k+1) 0/\Ch (· =g) w2 w8:=fun v' w8 hg=>DY t6.cur SQ MC c6 hg hu;have One:=ah one;clear one t6 o6 o5 c5 c6 kG hu;go_wp2_with (at_builtin;refine z00 _ rfl (.tmp 12) (.tmp 14) _ rfl w2.heap.size 5 i0 _ 1 1 Tryz.underlying27 hi0 hz0 hz1 hz2 rfl (by omega) _ k (bl (E.take k)) rfl o56 _ (some ⟨k6,0,none⟩) 1 cap6 (bl [x]) rfl r6 (iP _) (by simp only[maxLen];omega) (by omega) (by omega) ?_;intro v' w8 h2 h3 h4)
   obtain ⟨A8,c8',rfl,_,_⟩:=z05 h2;go_roundw
   case rel=>
    obtain ⟨q1,q2⟩:=One.out (.slice A8 (k+1) c8') w8 h3;exact ⟨k+1,by omega,q1,by rw[HS.out];exact h2,q2⟩
   case measure=>simp[jZ];omega
  ·obtain rfl:E.length=k:=by omega
   rw[show bn T.length (1+E.length) 0=0 by unfold bn;rw[if_neg (by simp),if_neg (by omega)]]at hen;have fV:=ah hen;rw[List.take_length]at o4;have WH:1+E.length=T.length:=(by omega);rw[WH]at cu4;clear hen WH;go_wp2_with fail;refine fV.out.mono ?_;rintro e w5 ⟨rfl,d5⟩;have cu5:=cu4.nx d5.nx;have o5:=z06 o4 d5.nx (fun _ _ hf=>hf);have c5:=c4.tr d5.nx;have hk2g:k2≠g:=(by omega);have c50:w5.cell? ⟨k2,0,none⟩=some (.int .u8 (d:Int)):=(c5.cell hk2l hk2g).trans c20;have hcall:=Xt.out _ A4 c4' w5 (Rd.bY o5) hc4;have hw5:=c5.size;clear fV cu4 o4 c4 d5 Xt o5;go_wp2_with fail;with_reducible refine hcall.mono ?_
   rintro e w6 ⟨v6,rfl,o6⟩;go_wp2_with fail;go_ret;exact ⟨v6,rfl,iT o6.own (by omega),cu5.nx o6.nx,YA.trans (c5.tr o6.nx) fun _ _ e=>e⟩
def ED (W:World) (l:List Int) (e:Ending) (w':World):Prop:=
 ∃v,e=.returned (.tuple #[v,.int .i64 0])/\au W w' 2 1 v l.length (il l)
theorem IJ (D:Nat->Prop) (A:Option Addr) (n c:Nat) (l:List Int) (W:World) (hr:Rd W D 1 A n (bl (aC 1 (bT l)))) (hl:(aC 1 (bT l)).length=n) (hr0:aO l=0)
 (hcont:Calls Tryz.prog 92 #[.int .u8 1,.slice A n c] W (Jh W (bT l))):
 Calls Tryz.prog 51 #[.int .u8 1,.slice A n c,.func (.func 52) #[] #[],.func (.func 7) #[] #[]] W (ED W l):=by
 have hput:=fun (D:Nat->Prop) (A:Option Addr) (c:Nat) (w:World) (h:Rd w D 1 A l.length (il l))=>z5n D A l.length c l w h rfl hr0;have hcl:=fun (D:Nat->Prop) (g:Nat) (A:Option Addr) (c:Nat) (w:World) (h:aJ w D g A c (bT l) 0 0)=>IU D g A c l w h hr0;have hstr:=fun (D:Nat->Prop) (A:Option Addr) (c:Nat) (w:World) (h:Rd w D 1 A n (bl (aC 1 (bT l))))=>xB (P:=Tryz.prog) w 27 9 5 Tryz.underlying27 Tryz.underlying5 Tryz.underlying9 D A n c _ h;have iJ:=ah hput;have tJ:=ah hcl;have eU:=ah hstr;have Hc:=ah hcont;clear hput hcl hstr hcont;generalize bT l=fc at *;generalize aC 1 fc=ch at *;subst hl;go_enter Tryz.func51,Tryz.ntmps51;go_wp2_with fail;with_reducible refine Hc.out.mono ?_
 rintro e w1 ⟨g,A1,c1,D1,rfl,cu1,n1,hg,hD1⟩;go_wp2_with fail;with_reducible refine (tJ.out _ _ _ _ _ cu1).mono ?_
 rintro e w2 ⟨v2,rfl,o2,cu2,c2⟩;have n2:Nx W w2:=n1.trans c2 fun i hi e=>by omega
 have hs1:=n1.size;have vG:au W w2 2 1 v2 l.length (il l):=⟨iT o2 hs1,n2⟩;obtain ⟨A2,cc2,rfl,PW,_⟩:=z05 o2;have hen:=EG cu2;rw[show bn fc.length fc.length 0=0 by unfold bn;rw[if_neg (by simp),if_neg (by omega)]]at hen;have fV:=ah hen;clear hen o2 c2 cu1 cu2;go_wp2_with fail;with_reducible refine fV.out.mono ?_
 rintro e w3 ⟨rfl,d3⟩;have o3:=vG.tr d3.nx;clear d3 fV;go_wp2_with fail;with_reducible refine (iJ.out _ _ _ _ o3.rd).mono ?_
 rintro e w4 ⟨k4,cap4,rfl,o4,h4⟩;have o5:=o3.tr o4.nx;have n5:=o5.nx;have e1:=eU.out _ _ cap4 w4 o4.fM;have e2:=eU.out D A c w4 (hr.nx (by decide) n5);generalize b_ ch=sx at *;go_wp2_with fail;go_ret2;exact ⟨_,rfl,o5⟩
theorem Nq (D:Nat->Prop) (A:Option Addr) (n c:Nat) (l:List Int) (W:World) (hr:Rd W D 1 A n (bl (aC 1 (bT l)))) (hl:(aC 1 (bT l)).length=n) (hr0:aO l=0)
 (hcont:Calls Tryz.prog 92 #[.int .u8 1,.slice A n c] W (Jh W (bT l))):
 Calls Tryz.prog 21 #[.slice A n c] W (ED W l):=by
 have Hr:=ah (IJ D A n c l W hr hl hr0 hcont);clear hr hcont hl;go_enter Tryz.func21,Tryz.ntmps21;go_wp2_with fail;with_reducible refine Hr.out.mono ?_
 rintro e w1 ⟨v,rfl,h⟩;go_wp2_with fail;go_ret2;exact ⟨_,rfl,h⟩
theorem wH (D:Nat->Prop) (A:Option Addr) (n c:Nat) (l:List Int) (W:World) (hr:Rd W D 1 A n (bl (aC 1 (bT l)))) (dX:∀k,D k->k<W.heap.size) (hl:(aC 1 (bT l)).length=n) (hc:n<=c) (hr0:aO l=0):
 Calls Tryz.prog 21 #[.slice A n c] W (ED W l):=
 Nq D A n c l W hr hl hr0 (Yv D A n c 1 (bT l) W hr dX (z25 hr0) (by decide) hl hc (by have:=Oi hr0;have:=(jH hr0).1;omega) (by have:=Oi hr0;omega))
theorem wB (xs:List Nat) (p:Nat) (e:Int) (m:Nat):(bM xs p e m).1.length<=xs.length:=by
 unfold bM;split
 ·exact Nat.zero_le _
 ·split
  ·exact Nat.zero_le _
  ·split
   ·exact Nat.zero_le _
   ·split
    ·exact Nat.zero_le _
    ·simp only[List.length_take,List.length_drop]
     omega
def okW (l:List ByteArray):Prop:=∀s∈l,s.size<=1000000000
theorem okW.snoc {l:List ByteArray} {s:ByteArray} (h:okW l) (hs:s.size<=1000000000):okW (l++[s]):=fun y hy=>by
 rcases List.mem_append.1 hy with hy|hy
 ·exact h y hy
 ·rw[List.mem_singleton.1 hy];exact hs
theorem Vo (l:List ByteArray) (s:ByteArray):bW (l++[s])=bW l++[.string s]:=by simp[bW]
theorem Bj (D:Nat->Prop) (g:Nat) (A:Option Addr) (c:Nat) (T:List Nat) (W:World) (h:aJ W D g A c T 0 0):
 Calls Tryz.prog 59 #[.pointer (some ⟨g,0,none⟩)] W (lQ W D g A c T 9 bW fun l=>l.length<=2048/\∀s∈l,s.size<=1000000000):=by
 obtain ⟨i0,hi0,hz0,hz1,hz2⟩:=info_parts Tryz.gW;have hgl:=h.blk.lt;have fK:=h.bnd;have hTl:=h.len;have hnm:=FT h 2048 (by omega) (by omega);have hv:(aB T 0 0 2048).1<=2048:=Jp T 0 0 2048;obtain ⟨m,hn⟩:∃n,n=(aB T 0 0 2048).1:=⟨_,rfl⟩;obtain ⟨p1,hp1⟩:∃p,p=(aB T 0 0 2048).2.1:=⟨_,rfl⟩;obtain ⟨q1,hq1⟩:∃p,p=(aB T 0 0 2048).2.2:=⟨_,rfl⟩;rw[←hn,←hp1,←hq1]at hnm;rw[←hn]at hv;have kD:=ah hnm;clear hnm hn hp1 hq1 h;go_enter Tryz.func59,Tryz.ntmps59;go_wp2_with fail;refine kD.out.mono ?_;rintro e w1 ⟨rfl,t1⟩;clear kD;go_wp2_with fail;go_loopw [3,10] (fun v i wr=>∃(k p:Nat) (q:Int) (all:List ByteArray),k<=m/\all.length=k/\okW all/\i=.int .i64 (k:Int)/\aJ wr D g A c T p q/\wr.ownsRow W.heap.size 9 1 v k (bW all)/\Ch (· =g) W wr) (fun _ i _=>m-(intOf i).toNat)
 case atStart=>exact ⟨0,_,_,[],Nat.zero_le _,rfl,(fun z hz=>by cases hz),rfl,t1.cur,World.ownsRow_nil _ _ _ _,t1.dN⟩
 case round=>
  clear t1;obtain ⟨w4,rfl⟩:∃w4:World,w4=wr:=⟨_,rfl⟩;obtain ⟨k,p,q,all,hk,hlk,hok,rfl,cu4,o4,c4⟩:=hrel;have AQ:=ah hlk;have lN:=ah hok;clear hlk hok;by_cases hlt:k<m
  ·have htx:=Nk cu4 1024 (by omega)
   have hsh:=wB T p q 1024;obtain ⟨ys,hys⟩:∃n,n=(bM T p q 1024).1:=⟨_,rfl⟩;obtain ⟨p2,hp2⟩:∃p',p'=(bM T p q 1024).2.1:=⟨_,rfl⟩;obtain ⟨q2,hq2⟩:∃p',p'=(bM T p q 1024).2.2:=⟨_,rfl⟩;rw[←hys,←hp2,←hq2]at htx;rw[←hys]at hsh;have hsz:Hid ((b_ ys).size<=1000000000):=ah (by rw[Yd];omega);generalize b_ ys=sx at *;have Xg:=ah htx;have hw4:=c4.size;clear htx hys hp2 hq2 hsh;go_wp2_with fail;refine Xg.out.mono ?_;rintro e w5 ⟨rfl,t5⟩;have hu:∀j,u3.ownBlock=some j->W.heap.size<=j:=fun j hj=>(o4.lt j hj).1;have o5:=z06 o4 t5.dN (fun j hj e=>by have:=hu j hj;omega);have c5:Ch (· =g) W w5:=c4.trans t5.dN fun _ _ e=>e;have hw5:=c5.size;have one:∀(v':Value) (w6:World) (X:Obj),(w5.alloc X).grownBy w6 u3.ownBlock->aJ w6 D g A c T p2 q2/\Ch (· =g) W w6:=fun v' w6 X hg=>z39 t5.cur hgl fK c5 hg hu;have One:=ah one;clear one cu4 o4 c4 Xg;go_wp2_with (at_builtin;refine z00 _ rfl (.tmp 12) (.tmp 15) _ rfl W.heap.size 9 i0 _ 1 16 Tryz.underlying23 hi0 hz0 hz1 hz2 rfl (by omega) _ k (bW all) rfl (z06 o5 ((Ch.refl (fun _=>False) w5).alloc _) (fun _ _ hf=>hf)) (fun _=>True) _ 1 1 [_] rfl ⟨rfl,fun _=>⟨⟨w5.heap.size,0,none⟩,rfl,trivial,cell_one_new _ _ _⟩⟩ (by intro u hu;simp at hu;subst hu;rfl) (by simp only[maxLen];omega) (by omega) (by simp;omega) ?_;intro v' w6 h2 h3 h4)
   go_roundw
   case rel=>
    obtain ⟨q1,q2⟩:=One.out v' w6 _ h3;exact ⟨k+1,_,_,all++[sx],by omega,by rw[List.length_append,AQ.out];rfl,lN.out.snoc hsz.out,by go_num,q1,by rw[Vo];exact h2,q2⟩
   case measure=>simp[intOf];omega
  ·obtain rfl:m=k:=by omega
   have hnm:=FT cu4 2048 (by omega) (by omega);have hv2:(aB T p q 2048).1<=2048:=Jp T p q 2048;obtain ⟨n,hn⟩:∃n,n=(aB T p q 2048).1:=⟨_,rfl⟩;obtain ⟨p2,hp2⟩:∃p',p'=(aB T p q 2048).2.1:=⟨_,rfl⟩;obtain ⟨q2,hq2⟩:∃p',p'=(aB T p q 2048).2.2:=⟨_,rfl⟩;rw[←hn,←hp2,←hq2]at hnm;rw[←hn]at hv2;have kD:=ah hnm;have hw4:=c4.size;clear hnm hn hp2 hq2 cu4;go_wp2_with fail;refine kD.out.mono ?_;rintro e w5 ⟨rfl,t5⟩;have hu:∀j,u3.ownBlock=some j->W.heap.size<=j:=fun j hj=>(o4.lt j hj).1;have o5:=z06 o4 t5.dN (fun j hj e=>by have:=hu j hj;omega);have c5:Ch (· =g) W w5:=c4.trans t5.dN fun _ _ e=>e;have hw5:=c5.size;obtain ⟨Aa,ca,rfl,hca,_⟩:=z05 o5;have r5:=Rd.bY o5;clear o4 o5 c4 kD hu;have SL:g<w5.heap.size:=(by omega);have Me:∀k,D k->k<w5.heap.size:=fun k hk=>by have:=fK k hk;omega
   go_wp2_with fail;go_loopw [4] (fun v wr=>∃(a p:Nat) (q:Int) (l:List ByteArray),a<=n/\l.length=a/\okW l/\aJ wr D g A c T p q/\wr.ownsRow w5.heap.size 9 1 v a (bW l)/\Ch (· =g) w5 wr) (fun v _=>n-jZ v)
   case atStart=>exact ⟨0,_,_,[],Nat.zero_le _,rfl,(fun z hz=>by cases hz),t5.cur,World.ownsRow_nil _ _ _ _,Ch.refl _ _⟩
   case round=>
    clear t5;obtain ⟨w6,rfl⟩:∃w6:World,w6=wr:=⟨_,rfl⟩;obtain ⟨a,p,q,l,ha,hla,VT,cu6,o6,c6⟩:=hrel;have YW:=ah hla;have HOL:=ah VT;clear hla VT;obtain ⟨Ao,co,rfl,hao,_⟩:=z05 o6;have k1:IntKind.i64.wrap ((m:Int)-1)=(m:Int)-1:=IntWalk.i64_in _ (by omega);have k2:IntKind.i64.wrap ((n:Int)-(a:Int))=(n:Int)-(a:Int):=IntWalk.i64_in _ (by omega);by_cases hlt:a<n
    ·have Hn1:=ah (FT cu6 ((m:Int)-1) (by omega) (by omega))
     obtain ⟨ix,hix⟩:∃n,n=(aB T p q ((m:Int)-1)).1:=⟨_,rfl⟩;obtain ⟨p3,hp3⟩:∃p',p'=(aB T p q ((m:Int)-1)).2.1:=⟨_,rfl⟩;obtain ⟨q3,hq3⟩:∃p',p'=(aB T p q ((m:Int)-1)).2.2:=⟨_,rfl⟩;rw[←hix,←hp3,←hq3]at Hn1;have hn2:=fun w (cu:aJ w D g A c T p3 q3)=>FT cu ((n:Int)-(a:Int)) (by omega) (by omega)
     have hr2:(aB T p3 q3 ((n:Int)-(a:Int))).1<=n-a:=by
      rw[show (n:Int)-(a:Int)=((n-a:Nat):Int) by omega];exact Jp T p3 q3 (n-a)
     obtain ⟨r,hr⟩:∃n',n'=(aB T p3 q3 ((n:Int)-(a:Int))).1:=⟨_,rfl⟩;obtain ⟨p4,hp4⟩:∃p',p'=(aB T p3 q3 ((n:Int)-(a:Int))).2.1:=⟨_,rfl⟩;obtain ⟨q4,hq4⟩:∃p',p'=(aB T p3 q3 ((n:Int)-(a:Int))).2.2:=⟨_,rfl⟩;rw[←hr,←hp4,←hq4]at hn2;rw[←hr]at hr2;have Hn2:=ah hn2;clear hix hp3 hq3 hr hp4 hq4 hn2 cu6;have hu6:∀j,(Value.slice Ao a co).ownBlock=some j->w5.heap.size<=j:=fun j hj=>(o6.lt j hj).1;go_wp2_with fail;refine Hn1.out.mono ?_;rintro e w7 ⟨rfl,t7⟩;go_wp2_with fail;refine (Hn2.out _ t7.cur).mono ?_;rintro e w8 ⟨rfl,t8⟩;have t68:=t7.trans t8;have o8:=z06 o6 t68.dN (fun j hj e=>by have:=hu6 j hj;omega);have c8:Ch (· =g) w5 w8:=c6.trans t68.dN fun _ _ e=>e;clear t7 t8 o6 c6 Hn1 Hn2;by_cases hr0:r=0
     ·have hz:((r:Int)==0)=true:=by rw[beq_iff_eq];omega
      go_wp2_with fail;go_ret;have hl:=YW.out;exact ⟨l,_,_,_,rfl,⟨by omega,HOL.out⟩,by rw[hl];exact iT o8 (by omega),t68.cur,c5.trans c8 fun i hi e=>e⟩
     ·have hz:((r:Int)==0)=false:=by rw[beq_eq_false_iff_ne];omega
      by_cases hge0:m<=ix
      ·have hge:decide ((m:Int)<=(ix:Int))=true:=by rw[decide_eq_true_eq];omega
       have Ip:decide (m<=ix)=true:=by rw[decide_eq_true_eq];omega
       go_wp2_with fail;go_ret;have hl:=YW.out;exact ⟨l,_,_,_,rfl,⟨by omega,HOL.out⟩,by rw[hl];exact iT o8 (by omega),t68.cur,c5.trans c8 fun i hi e=>e⟩
      ·have hge:decide ((m:Int)<=(ix:Int))=false:=by rw[decide_eq_false_iff_not];omega
       have Ip:decide (m<=ix)=false:=by rw[decide_eq_false_iff_not];omega
       have SK:ix<all.length:=by have:=AQ.out;omega
       have Xi:=ah (yj (ss:=all) (k:=ix) SK)
       have hxs:Hid ((all.getD ix ByteArray.empty).size<=1000000000):=ah (by
        rw[List.getD,List.getElem?_eq_getElem SK];exact lN.out _ (List.getElem_mem SK))
       generalize all.getD ix ByteArray.empty=x at *;go_wp2_with fail;go_loopw [4,44] (fun v i wr=>∃(j:Nat) (l:List ByteArray),j<=r/\l.length=a+j/\okW l/\i=.int .i64 (j:Int)/\aJ wr D g A c T p4 q4/\wr.ownsRow w5.heap.size 9 1 v (a+j) (bW l)/\Ch (· =g) w5 wr) (fun _ i _=>r-(intOf i).toNat)
       case atStart=>exact ⟨0,l,Nat.zero_le _,YW.out,HOL.out,rfl,t68.cur,o8,c8⟩
       case round=>
        clear t68 o8 c8;obtain ⟨w9,rfl⟩:∃w9:World,w9=wr:=⟨_,rfl⟩;obtain ⟨j,l2,hj,VY,hok2,rfl,cu9,o9,c9⟩:=hrel;have HL2:=ah VY;have HO2:=ah hok2;clear VY hok2;by_cases hlj:j<r
        ·have r9:=r5.ch (by decide) c9 (fun k hk hd e=>by have:=hd.2.1;omega)
         obtain ⟨ad,rfl,_,hcell⟩:=r9.2 (by omega);have hc0:=hcell ix _ Xi.out;have hu:∀j,u4.ownBlock=some j->w5.heap.size<=j:=fun j hj=>(o9.lt j hj).1;have hw9:=c9.size;have one:∀(v':Value) (w6:World) (X:Obj),(w9.alloc X).grownBy w6 u4.ownBlock->aJ w6 D g A c T p4 q4/\Ch (· =g) w5 w6:=fun v' w6 X hg=>z39 cu9 SL Me c9 hg hu;have One:=ah one;clear one cu9 c9 hcell r9 hu;go_wp2_with (at_builtin;refine z00 _ rfl (.tmp 46) (.tmp 51) _ rfl w5.heap.size 9 i0 _ 1 16 Tryz.underlying23 hi0 hz0 hz1 hz2 rfl (by omega) _ (a+j) (bW l2) rfl (z06 o9 ((Ch.refl (fun _=>False) w9).alloc _) (fun _ _ hf=>hf)) (fun _=>True) _ 1 1 [_] rfl ⟨rfl,fun _=>⟨⟨w9.heap.size,0,none⟩,rfl,trivial,cell_one_new _ _ _⟩⟩ (by intro u hu;simp at hu;subst hu;rfl) (by simp only[maxLen];omega) (by omega) (by simp;omega) ?_;intro v' w6 h2 h3 h4)
         go_roundw
         case rel=>
          obtain ⟨q1,q2⟩:=One.out v' w6 _ h3;exact ⟨j+1,l2++[x],by omega,by rw[List.length_append,HL2.out];rfl,HO2.out.snoc hxs.out,by go_num,q1,by rw[show a+(j+1)=a+j+1 by omega,Vo];exact h2,q2⟩
         case measure=>simp[intOf];omega
        ·obtain rfl:r=j:=by omega
         obtain ⟨A9,c9',rfl,_,_⟩:=z05 o9;go_wp2_with fail;go_roundw
         case rel=>exact ⟨a+r,_,_,l2,by omega,HL2.out,HO2.out,cu9,o9,c9⟩
         case measure=>simp[jZ];omega
    ·obtain rfl:n=a:=by omega
     go_wp2_with fail;go_ret;have hl:=YW.out;exact ⟨l,_,_,_,rfl,⟨by omega,HOL.out⟩,by rw[hl];exact iT o6 (by omega),cu6,c5.trans c6 fun i hi e=>e⟩
end Go.Proofs.YtfljcllpmbnjaaaGreat
