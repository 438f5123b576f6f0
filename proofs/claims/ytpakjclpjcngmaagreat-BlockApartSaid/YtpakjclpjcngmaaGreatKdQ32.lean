/- Contracts and plain laws that the last text rests on. Conditions: each theorem states its own. -/
import Derived.Test.YtpakjclpjcngmaaGreatKdPdDelta4
import Derived.Test.YtpakjclpjcngmaaGreatKdQ28
import Derived.Test.YtpakjclpjcngmaaGreatKdQ31
import Derived.Test.YtpakjclpjcngmaaGreatKdQ9
set_option maxRecDepth 100000
set_option maxHeartbeats 32000000
set_option linter.unusedVariables false
namespace Go.Proofs.YtpakjclpjcngmaaGreat
open Go.RowKit
theorem zF (D:Nat->Prop) (A:Option Addr) (n c:Nat) (l:List Int) (w:Nat) (hw:w<=2) (W:World) (hr:Rd W D 1 A n (bl (bP l w))) (hl:(bP l w).length=n) (hc:n<=c) (he:aS l=0):
 Calls Tryz.prog 135 #[.slice A n c,.int .i64 (w:Int)] W (EO W l):=by
 match w,hw with
 |0,_=>exact t_ D A n c l W hr hl hc he
 |1,_=>exact tZ D A n c l W hr hl hc he
 |2,_=>exact tY D A n c l W hr hl hc he
theorem Jd {W w5 w6:World} {D:Nat->Prop} {g:Nat} {A:Option Addr} {c:Nat} {T:List Nat} {p:Nat} {u:Value} (cu:aH w5 D g A c T p 0) (hgl:g<W.heap.size) (iD:∀k,D k->k<W.heap.size) (c5:Ch (· =g) W w5)
 (hg:w5.grownBy w6 u.ownBlock) (hu:∀j,u.ownBlock=some j->W.heap.size<=j):aH w6 D g A c T p 0/\Ch (· =g) W w6:=by
 have c6:Ch (fun j=>u.ownBlock=some j) w5 w6:=(Ch.refl _ w5).grown hg fun j hj _=>hj;exact ⟨cu.ch c6 (fun e=>by have:=hu _ e;omega) (fun k hk e=>by have:=hu _ e;have:=iD k hk;omega),c5.trans c6 fun i hi e=>by have:=hu _ e;omega⟩
def aeK (w:World) (D:Nat->Prop) (g:Nat) (A:Option Addr) (c:Nat) (xs:List Nat) (l:List Int) (e:Ending) (w':World):Prop:=
 ∃v,e=.returned v/\w'.ownsRow w.heap.size 2 1 v l.length (il l)/\aH w' D g A c xs xs.length 0/\Ch (· =g) w w'
theorem OG (D:Nat->Prop) (g:Nat) (A:Option Addr) (c:Nat) (l:List Int) (W:World) (h:aH W D g A c (bI l) 0 0) (he:aS l=0):
 Calls Tryz.prog 134 #[.pointer (some ⟨g,0,none⟩)] W (aeK W D g A c (bI l) l):=by
 obtain ⟨i0,hi0,hz0,hz1,hz2⟩:=info_parts Tryz.info5;have hd2:=VJ l;have hok:=z3y he;have hTe:bI l=[bQ l]++bP l (bQ l):=rfl;have hil:=Yu he;have hll:=(JX he).1;have hdec:=fun (D:Nat->Prop) (A:Option Addr) (c:Nat) (w:World) (h:Rd w D 1 A (bP l (bQ l)).length (bl (bP l (bQ l)))) (hc:(bP l (bQ l)).length<=c)=>zF D A _ c l (bQ l) hd2 w h rfl hc he;unfold EO at hdec;have aeW:=ah hdec;have hgl:=h.blk.lt;have iD:=h.bnd;have hb0:=z16 h 1 (by omega);unfold Zj at hb0;have h1:((bI l).drop 0).take 1=[bQ l]:=by rw[hTe];rfl
 rw[h1,Nat.zero_add]at hb0;have Hb0:=ah hb0;have hTl:(bI l).length=1+(bP l (bQ l)).length:=by rw[hTe,List.length_append];rfl
 have hTd:∀k,k<(bP l (bQ l)).length->((bI l).drop (1+k)).take 1=[(bP l (bQ l)).getD k 0]:=fun k hk=>by
  rw[hTe,Nat.add_comm,show [bQ l]++bP l (bQ l)=bQ l::bP l (bQ l) from rfl,List.drop_succ_cons,List.drop_eq_getElem_cons hk,List.getD,List.getElem?_eq_getElem hk];rfl
 have HTd:=ah hTd;have hT1:(bI l).length<=1+(bP l (bQ l)).length:=by omega
 have hT2:1+(bP l (bQ l)).length<=(bI l).length:=by omega
 clear hdec hb0 h1 hTe hTd h hok he;have hEl:(bP l (bQ l)).length<=1000000:=by omega
 clear hil hTl;generalize bP l (bQ l)=E at *;generalize bI l=T at *;generalize bQ l=d at *;have kd:IntKind.i64.wrap (d:Int)=(d:Int):=IntWalk.i64_in _ (by omega);go_enter Tryz.func134,Tryz.ntmps134;go_wp2_with fail;refine Hb0.out.mono ?_;rintro e w2 ⟨k2,cap2,rfl,t2,o2,hc2,hk2⟩;have hw2:=t2.gW.size;have c20:w2.cell? ⟨k2,0,none⟩=some (.int .u8 (d:Int)):=o2.cellAt 0 (by omega);have hk2l:k2<w2.heap.size:=(o2.lt k2 rfl).2;have SQ:g<w2.heap.size:=by omega
 have Tj:∀k,D k->k<w2.heap.size:=fun k hk=>by have:=iD k hk;omega
 have t2c:=t2.cur;have t2g:=t2.gW;clear Hb0 t2 o2;go_wp2_with fail;go_loopw [4] (fun v wr=>∃k:Nat,k<=E.length/\aH wr D g A c T (1+k) 0/\wr.ownsRow w2.heap.size 5 1 v k (bl (E.take k))/\Ch (· =g) w2 wr) (fun v _=>E.length-mV v)
 case atStart=>exact ⟨0,Nat.zero_le _,t2c,World.ownsRow_nil _ _ _ _,Ch.refl _ _⟩
 case round=>
  clear t2c;obtain ⟨w4,rfl⟩:∃w4:World,w4=wr:=⟨_,rfl⟩;obtain ⟨k,hk,cu4,o4,c4⟩:=hrel;obtain ⟨A4,c4',rfl,hc4,_⟩:=z04 o4;have hen:=su cu4;by_cases hlt:k<E.length
  ·rw[show bg T.length (1+k) 0=5 by unfold bg;rw[if_neg (by simp),if_pos (by omega)]]at hen
   have jc:=ah hen;have HS:=ah (show bl (E.take (k+1))=bl (E.take k)++bl [E.getD k 0] by rw[List.take_succ_eq_append_getElem hlt,List.getD,List.getElem?_eq_getElem hlt];unfold bl;rw[List.map_append];rfl);have hx:=HTd.out k hlt;clear hen;generalize E.getD k 0=x at *;go_wp2_with fail;refine jc.out.mono ?_;rintro e w5 ⟨rfl,d5⟩;have cu5:=cu4.nx d5.nx;have o5:=z09 o4 d5.nx (fun _ _ hf=>hf);have c5:=c4.tr d5.nx;have hby:=z16 cu5 1 (by omega);unfold Zj at hby;rw[hx]at hby;have zZ:=ah hby;have hw5:=c5.size;clear hby hx cu4 o4 c4 d5 jc;go_wp2_with fail;refine zZ.out.mono ?_;rintro e w6 ⟨k6,cap6,rfl,t6,o6,hc6,hk6⟩;have hu:∀j,(Value.slice A4 k c4').ownBlock=some j->w2.heap.size<=j:=fun j hj=>(o5.lt j hj).1;have o56:=z09 o5 t6.gW (fun j hj e=>by have:=hu j hj;omega);have c6:Ch (· =g) w2 w6:=c5.trans t6.gW fun _ _ e=>e;have hw6:=c6.size;have r6:=Rd.dh o6;have one:∀(v':Value) (w8:World),w6.grownBy w8 (Value.slice A4 k c4').ownBlock->aH w8 D g A c T (1+k+1) 0/\Ch (· =g) w2 w8:=fun v' w8 hg=>Jd t6.cur SQ Tj c6 hg hu;have One:=ah one;clear one t6 o6 o5 c5 c6 zZ hu;go_wp2_with (at_builtin;refine z03 _ rfl (.tmp 12) (.tmp 14) _ rfl w2.heap.size 5 i0 _ 1 1 Tryz.underlying26 hi0 hz0 hz1 hz2 rfl (by omega) _ k (bl (E.take k)) rfl o56 _ (some ⟨k6,0,none⟩) 1 cap6 (bl [x]) rfl r6 (kR _) (by simp only[maxLen];omega) (by omega) (by omega) ?_;intro v' w8 h2 h3 h4)
   obtain ⟨A8,c8',rfl,_,_⟩:=z04 h2;go_roundw
   case rel=>
    obtain ⟨q1,q2⟩:=One.out (.slice A8 (k+1) c8') w8 h3;exact ⟨k+1,by omega,q1,by rw[HS.out];exact h2,q2⟩
   case measure=>simp[mV];omega
  ·obtain rfl:E.length=k:=by omega
   rw[show bg T.length (1+E.length) 0=0 by unfold bg;rw[if_neg (by simp),if_neg (by omega)]]at hen;have jc:=ah hen;rw[List.take_length]at o4;have hTk:1+E.length=T.length:=(by omega);rw[hTk]at cu4;clear hen hTk;go_wp2_with fail;refine jc.out.mono ?_;rintro e w5 ⟨rfl,d5⟩;have cu5:=cu4.nx d5.nx;have o5:=z09 o4 d5.nx (fun _ _ hf=>hf);have c5:=c4.tr d5.nx;have hk2g:k2≠g:=(by omega);have c50:w5.cell? ⟨k2,0,none⟩=some (.int .u8 (d:Int)):=(c5.cell hk2l hk2g).trans c20;have hcall:=aeW.out _ A4 c4' w5 (Rd.dh o5) hc4;have hw5:=c5.size;clear jc cu4 o4 c4 d5 aeW o5;go_wp2_with fail;with_reducible refine hcall.mono ?_
   rintro e w6 ⟨v6,rfl,o6⟩;go_wp2_with fail;go_ret;exact ⟨v6,rfl,kX o6.own (by omega),cu5.nx o6.nx,t2g.trans (c5.tr o6.nx) fun _ _ e=>e⟩
def JE (W:World) (l:List Int) (e:Ending) (w':World):Prop:=
 ∃v,e=.returned (.tuple #[v,.int .i64 0])/\ay W w' 2 1 v l.length (il l)
theorem OB (D:Nat->Prop) (A:Option Addr) (n c:Nat) (l:List Int) (W:World) (hr:Rd W D 1 A n (bl (aA 1 (bI l)))) (hl:(aA 1 (bI l)).length=n) (hr0:aS l=0)
 (hcont:Calls Tryz.prog 197 #[.int .u8 1,.slice A n c] W (Pm W (bI l))):
 Calls Tryz.prog 133 #[.int .u8 1,.slice A n c,.func (.func 134) #[] #[],.func (.func 97) #[] #[]] W (JE W l):=by
 have hput:=fun (D:Nat->Prop) (A:Option Addr) (c:Nat) (w:World) (h:Rd w D 1 A l.length (il l))=>z3U D A l.length c l w h rfl hr0;have hcl:=fun (D:Nat->Prop) (g:Nat) (A:Option Addr) (c:Nat) (w:World) (h:aH w D g A c (bI l) 0 0)=>OG D g A c l w h hr0;have hstr:=fun (D:Nat->Prop) (A:Option Addr) (c:Nat) (w:World) (h:Rd w D 1 A n (bl (aA 1 (bI l))))=>rX (P:=Tryz.prog) w 26 9 5 Tryz.underlying26 Tryz.underlying5 Tryz.underlying9 D A n c _ h;have lD:=ah hput;have AL:=ah hcl;have gK:=ah hstr;have Hc:=ah hcont;clear hput hcl hstr hcont;generalize bI l=fc at *;generalize aA 1 fc=ch at *;subst hl;go_enter Tryz.func133,Tryz.ntmps133;go_wp2_with fail;with_reducible refine Hc.out.mono ?_
 rintro e w1 ⟨g,A1,c1,D1,rfl,cu1,n1,hg,hD1⟩;go_wp2_with fail;with_reducible refine (AL.out _ _ _ _ _ cu1).mono ?_
 rintro e w2 ⟨v2,rfl,o2,cu2,c2⟩;have n2:Nx W w2:=n1.trans c2 fun i hi e=>by omega
 have hs1:=n1.size;have yP:ay W w2 2 1 v2 l.length (il l):=⟨kX o2 hs1,n2⟩;obtain ⟨A2,cc2,rfl,Ob,_⟩:=z04 o2;have hen:=su cu2;rw[show bg fc.length fc.length 0=0 by unfold bg;rw[if_neg (by simp),if_neg (by omega)]]at hen;have jc:=ah hen;clear hen o2 c2 cu1 cu2;go_wp2_with fail;with_reducible refine jc.out.mono ?_
 rintro e w3 ⟨rfl,d3⟩;have o3:=yP.tr d3.nx;clear d3 jc;go_wp2_with fail;with_reducible refine (lD.out _ _ _ _ o3.rd).mono ?_
 rintro e w4 ⟨k4,cap4,rfl,o4,h4⟩;have o5:=o3.tr o4.nx;have n5:=o5.nx;have e1:=gK.out _ _ cap4 w4 o4.jZ;have e2:=gK.out D A c w4 (hr.nx (by decide) n5);generalize aX ch=sx at *;go_wp2_with fail;go_ret2;exact ⟨_,rfl,o5⟩
theorem Ug (D:Nat->Prop) (A:Option Addr) (n c:Nat) (l:List Int) (W:World) (hr:Rd W D 1 A n (bl (aA 1 (bI l)))) (hl:(aA 1 (bI l)).length=n) (hr0:aS l=0)
 (hcont:Calls Tryz.prog 197 #[.int .u8 1,.slice A n c] W (Pm W (bI l))):
 Calls Tryz.prog 61 #[.slice A n c] W (JE W l):=by
 have Hr:=ah (OB D A n c l W hr hl hr0 hcont);clear hr hcont hl;go_enter Tryz.func61,Tryz.ntmps61;go_wp2_with fail;with_reducible refine Hr.out.mono ?_
 rintro e w1 ⟨v,rfl,h⟩;go_wp2_with fail;go_ret2;exact ⟨_,rfl,h⟩
theorem zJ (D:Nat->Prop) (A:Option Addr) (n c:Nat) (l:List Int) (W:World) (hr:Rd W D 1 A n (bl (aA 1 (bI l)))) (iJ:∀k,D k->k<W.heap.size) (hl:(aA 1 (bI l)).length=n) (hc:n<=c) (hr0:aS l=0):
 Calls Tryz.prog 61 #[.slice A n c] W (JE W l):=
 Ug D A n c l W hr hl hr0 (z2U D A n c 1 (bI l) W hr iJ (z3y hr0) (by decide) hl hc (by have:=Yu hr0;have:=(JX hr0).1;omega) (by have:=Yu hr0;omega))
theorem z2c (xs:List Nat) (p:Nat) (e:Int) (m:Nat):(aF xs p e (m:Int)).1<=m:=by
 unfold aF;split
 ·exact Nat.zero_le _
 ·split
  ·exact Nat.zero_le _
  ·split
   ·exact Nat.zero_le _
   ·simp only
    omega
def Vb (w:World) (D:Nat->Prop) (g:Nat) (A:Option Addr) (c:Nat) (xs:List Nat) (en:Ending) (w':World):Prop:=
 ∃(A1:Option Addr) (c1:Nat) (ys:List Nat) (p':Nat) (e':Int),en=.returned (.slice A1 ys.length c1)/\ys.length<=c1/\ys.length<=xs.length/\Rd w' (fun k=>w.heap.size<=k/\k<w'.heap.size) 1 A1 ys.length (bl ys)/\okB ys/\cO w D g A c xs p' e' w'
theorem z4k {w:World} {D:Nat->Prop} {g:Nat} {A:Option Addr} {c:Nat} {xs:List Nat} {p:Nat} {e:Int} (h:aH w D g A c xs p e) (n:Int):Calls Tryz.prog 132 #[.pointer (some ⟨g,0,none⟩),.int .i64 n] w (Vb w D g A c xs):=by
 by_cases he:e=0
 ·subst he
  by_cases hn:n<0∨(xs.length:Int)-p<n
  ·refine (z2R h n hn).mono ?_
   rintro en w' ⟨rfl,t⟩;exact ⟨none,0,[],_,_,rfl,Nat.le_refl _,Nat.zero_le _,Rd.none_ _ _ _ _,(fun x hx=>by cases hx),t⟩
  ·obtain ⟨m,rfl⟩:=Int.eq_ofNat_of_zero_le (show 0<=n by omega)
   have hpm:p+m<=xs.length:=(by omega);refine (z16 h m hpm).mono ?_;rintro en w' ⟨k,cap,rfl,t,o,hc,hk⟩;have hl:((xs.drop p).take m).length=m:=by rw[List.length_take,List.length_drop];omega
   refine ⟨some ⟨k,0,none⟩,cap,(xs.drop p).take m,_,_,by rw[hl],by omega,by omega,?_,fun x hx=>h.ok x (List.mem_of_mem_drop (List.mem_of_mem_take hx)),t⟩;rw[hl];exact (Rd.dh o).more fun j hj=>⟨hj.2.1,hj.2.2⟩
 ·refine (ug h he n).mono ?_
  rintro en w' ⟨rfl,rfl⟩;exact ⟨none,0,[],_,_,rfl,Nat.le_refl _,Nat.zero_le _,Rd.none_ _ _ _ _,(fun x hx=>by cases hx),cO.refl h⟩
theorem BR (g h:Nat) (bs:List Nat) (p:Nat) (w:World) (r:cZ w g h bs p):
 Calls Tryz.prog 142 #[.pointer (some ⟨g,0,none⟩),.int .i64 1] w fun e w'=>∃(b:Nat) (er:Int) (p':Nat),e=.returned (.tuple #[.int .u32 (b:Int),.int .i64 er])/\cZ w' g h bs p'/\Ch (· =g) w w':=by
 by_cases hp:p<8 * bs.length
 ·exact (qc g h bs p w r hp).mono fun e w' ⟨h1,h2,h3⟩=>⟨_,_,_,h1,h2,h3⟩
 ·refine (z2r g h bs p 1 w r (by decide) (by decide) (by omega)).mono ?_
  rintro e w' ⟨rfl,d⟩;obtain ⟨k,rfl⟩:=d;have n:Nx w (w.drewN k):=(Ch.refl _ w).drewN k;exact ⟨0,3,p,rfl,r.ch n (fun hf=>hf) (fun hf=>hf),n.mono fun _ _ hf=>hf.elim⟩
theorem z3B {W w5 w6:World} {D:Nat->Prop} {g:Nat} {A:Option Addr} {c:Nat} {T:List Nat} {p:Nat} {e:Int} {u:Value} {X:Obj} (cu:aH w5 D g A c T p e) (hgl:g<W.heap.size) (iD:∀k,D k->k<W.heap.size) (c5:Ch (· =g) W w5)
 (hg:(w5.alloc X).grownBy w6 u.ownBlock) (hu:∀j,u.ownBlock=some j->W.heap.size<=j):aH w6 D g A c T p e/\Ch (· =g) W w6:=by
 have c6:Ch (fun j=>u.ownBlock=some j) w5 w6:=((Ch.refl _ w5).alloc X).grown hg fun j hj _=>hj;exact ⟨cu.ch c6 (fun e=>by have:=hu _ e;omega) (fun j hj e=>by have:=hu _ e;have:=iD j hj;omega),c5.trans c6 fun i hi e=>by have:=hu _ e;omega⟩
def oC (w:World) (D:Nat->Prop) (g:Nat) (A:Option Addr) (c:Nat) (xs:List Nat) {α:Type} (t:TypeId) (cells:List α->List Value) (good:List α->Prop) (e:Ending) (w':World):Prop:=
 ∃(l:List α) (v:Value) (p':Nat) (e':Int),e=.returned v/\good l/\w'.ownsRow w.heap.size t 1 v l.length (cells l)/\aH w' D g A c xs p' e'/\Ch (· =g) w w'
theorem IJ (D:Nat->Prop) (g:Nat) (A:Option Addr) (c:Nat) (xs:List Nat) (W:World) (h:aH W D g A c xs 0 0):
 Calls Tryz.prog 140 #[.pointer (some ⟨g,0,none⟩)] W (oC W D g A c xs 4 lu fun l=>l.length<=2048):=by
 obtain ⟨i0,hi0,hz0,hz1,hz2⟩:=info_parts Tryz.Il;have hnm:=z17 h 2048 (by omega) (by omega);have iD:=h.bnd;have hxl:=h.len;have hv:(aF xs 0 0 2048).1<=2048:=z2c xs 0 0 2048;obtain ⟨n,hn⟩:∃n,n=(aF xs 0 0 2048).1:=⟨_,rfl⟩;obtain ⟨p1,hp1⟩:∃p,p=(aF xs 0 0 2048).2.1:=⟨_,rfl⟩;obtain ⟨q1,hq1⟩:∃p,p=(aF xs 0 0 2048).2.2:=⟨_,rfl⟩;rw[←hn,←hp1,←hq1]at hnm;rw[←hn]at hv;have kN:=ah hnm;clear hnm hn hp1 hq1 h;go_enter Tryz.func140,Tryz.ntmps140;go_wp2_with fail;with_reducible refine kN.out.mono ?_
 rintro e w1 ⟨rfl,t1⟩;have kd:((n:Int)+7) / 8=(((n+7) / 8:Nat):Int):=by omega
 obtain ⟨m,hm⟩:∃m,(n+7) / 8=m:=⟨_,rfl⟩;rw[hm]at kd;clear hm;go_wp2_with fail;with_reducible refine (z4k t1.cur (m:Int)).mono ?_
 rintro e w2 ⟨A2,c2,ys,p2,e2,rfl,hyc,hyl,r2,oky,t2⟩;go_wp2_with fail;with_reducible refine (z2J _ _ ys.length c2 ys w2 r2 (by omega) oky).mono ?_
 rintro e w3 ⟨rg,rh,rfl,rd3,hrg,hrh,hrg',hrh',n3⟩;have t3:cO W D g A c xs p2 e2 w3:=⟨(t1.trans t2).cur.nx n3,(t1.trans t2).gW.tr n3⟩;have hsz:=(t1.trans t2).gW.size;have hgw:g<w2.heap.size:=(t1.trans t2).cur.blk.lt;have hs3:=n3.size;clear t1 t2 r2;go_wp2_with fail;go_loopw [5,17] (fun v i wr=>∃(k p:Nat) (l:List Bool),k<=n/\l.length=k/\i=.int .i64 (k:Int)/\cZ wr rg rh ys p/\wr.ownsRow w3.heap.size 4 1 v k (lu l)/\Ch (· =rg) w3 wr) (fun _ i _=>n-(intOf i).toNat)
 case atStart=>exact ⟨0,0,[],Nat.zero_le _,rfl,rfl,rd3,World.ownsRow_nil _ _ _ _,Ch.refl _ _⟩
 case round=>
  obtain ⟨w4,rfl⟩:∃w4:World,w4=wr:=⟨_,rfl⟩;obtain ⟨k,p,l,hk,hlk,rfl,rd4,o4,c4⟩:=hrel;have EZ:=ah hlk;clear hlk;by_cases hlt:k<n
  ·have Hrb:=ah (BR rg rh ys p w4 rd4)
   have one:∀(w5:World) (u5:Value) (p':Nat),Ch (· =rg) w4 w5->cZ w5 rg rh ys p'->∀(v':Value) (w6:World) (X:Obj),(w5.alloc X).grownBy w6 u5.ownBlock->(∀j,u5.ownBlock=some j->w3.heap.size<=j)->cZ w6 rg rh ys p'/\Ch (· =rg) w3 w6:=fun w5 u5 p' c5 rd5 v' w6 X hg hu=>by
    have c6:Ch (fun j=>u5.ownBlock=some j) w5 w6:=((Ch.refl _ w5).alloc X).grown hg fun j hj _=>hj;exact ⟨rd5.ch c6 (fun e=>by have:=hu _ e;omega) (fun e=>by have:=hu _ e;omega),(c4.trans c5 fun _ _ e=>e).trans c6 fun i hi e=>by have:=hu _ e;omega⟩
   have One:=ah one;clear one;go_wp2_with fail;refine Hrb.out.mono ?_;rintro e w5 ⟨b,er,p',rfl,rd5,c5⟩;have o5:=z09 o4 c5 (fun j hj e=>by have:=(o4.lt j hj).1;omega);have hu5:∀j,u5.ownBlock=some j->w3.heap.size<=j:=fun j hj=>(o4.lt j hj).1;have hw5:=(c4.trans c5 fun _ _ e=>e).size;obtain ⟨x,hx⟩:∃x,x=((b:Int)==1):=⟨_,rfl⟩;have hx2:((b:Int)==1)=x:=hx.symm;clear hx;cases x
   all_goals
    go_wp2_with (at_builtin;refine z03 _ rfl (.tmp 24) (.tmp 27) _ rfl w3.heap.size 4 i0 _ 1 1 Tryz.underlying120 hi0 hz0 hz1 hz2 rfl (by omega) _ k (lu l) rfl (z09 o5 ((Ch.refl (fun _=>False) w5).alloc _) (fun _ _ hf=>hf)) (fun _=>True) _ 1 1 [_] rfl ⟨rfl,fun _=>⟨⟨w5.heap.size,0,none⟩,rfl,trivial,cell_one_new _ _ _⟩⟩ (by intro u hu;simp at hu;subst hu;rfl) (by simp only[maxLen];omega) (by omega) (by simp;omega) ?_;intro v' w6 h2 h3 h4)
    go_roundw
    case rel=>
     obtain ⟨q1,q2⟩:=One.out w5 u5 p' c5 rd5 v' w6 _ h3 hu5;have hz:∀z,lu (l++[z])=lu l++[.bool z]:=fun z=>by simp[lu]
     have hy:∀z,(l++[z]).length=k+1:=fun z=>by rw[List.length_append,EZ.out];rfl
     first
      |exact ⟨k+1,p',l++[false],by omega,hy _,by go_num,q1,by rw[hz];exact h2,q2⟩
      |exact ⟨k+1,p',l++[true],by omega,hy _,by go_num,q1,by rw[hz];exact h2,q2⟩
    case measure=>simp[intOf];omega
  ·have hgr:g≠rg:=by omega
   have hkn:k=n:=(by omega);go_wp2_with fail;go_ret;have hl:=EZ.out;refine ⟨l,_,_,_,rfl,by omega,by rw[hl];exact kX o4 (by omega),t3.cur.ch c4 hgr (fun j hj e=>by have:=iD j hj;omega),t3.gW.trans c4 fun i hi e=>by omega⟩
def Nu (L:List Nat):List Value:=L.map fun (z:Nat)=>Value.int .i64 (z:Int)
theorem FU (D:Nat->Prop) (g:Nat) (A:Option Addr) (c:Nat) (T:List Nat) (W:World) (h:aH W D g A c T 0 0):
 Calls Tryz.prog 138 #[.pointer (some ⟨g,0,none⟩)] W (oC W D g A c T 9 dM fun l=>l.length<=2048/\∀s∈l,s.size<=1000000000):=by
 obtain ⟨i0,hi0,hz0,hz1,hz2⟩:=info_parts Tryz.jH;obtain ⟨i1,hi1,hy0,hy1,hy2⟩:=info_parts Tryz.lK;have hgl:=h.blk.lt;have iD:=h.bnd;have hTl:=h.len;have hstr:=fun (D:Nat->Prop) (A:Option Addr) (n c:Nat) (t:List Nat) (w:World) (h:Rd w D 1 A n (bl t))=>rX (P:=Tryz.prog) w 26 9 5 Tryz.underlying26 Tryz.underlying5 Tryz.underlying9 D A n c _ h;have gK:=ah hstr;have hnm:=z17 h 2048 (by omega) (by omega);have hv:(aF T 0 0 2048).1<=2048:=z2c T 0 0 2048;obtain ⟨n,hn⟩:∃n,n=(aF T 0 0 2048).1:=⟨_,rfl⟩;obtain ⟨p1,hp1⟩:∃p,p=(aF T 0 0 2048).2.1:=⟨_,rfl⟩;obtain ⟨q1,hq1⟩:∃p,p=(aF T 0 0 2048).2.2:=⟨_,rfl⟩;rw[←hn,←hp1,←hq1]at hnm;rw[←hn]at hv;have kN:=ah hnm;clear hnm hn hp1 hq1 h hstr;go_enter Tryz.func138,Tryz.ntmps138;go_wp2_with fail;refine kN.out.mono ?_;rintro e w1 ⟨rfl,t1⟩;clear kN;go_wp2_with fail;go_loopw [3,9] (fun v i wr=>∃(k p:Nat) (q:Int) (L:List Nat),k<=n/\L.length=k/\(∀z∈L,z<=1024)/\i=.int .i64 (k:Int)/\aH wr D g A c T p q/\wr.ownsRow W.heap.size 3 1 v k (Nu L)/\Ch (· =g) W wr) (fun _ i _=>n-(intOf i).toNat)
 case atStart=>exact ⟨0,_,_,[],Nat.zero_le _,rfl,(fun z hz=>by cases hz),rfl,t1.cur,World.ownsRow_nil _ _ _ _,t1.gW⟩
 case round=>
  clear t1;obtain ⟨w4,rfl⟩:∃w4:World,w4=wr:=⟨_,rfl⟩;obtain ⟨k,p,q,L,hk,hlk,hz,rfl,cu4,o4,c4⟩:=hrel;have EZ:=ah hlk;have HLZ:=ah hz;clear hlk hz;by_cases hlt:k<n
  ·have hnm:=z17 cu4 1024 (by omega) (by omega)
   have hv:(aF T p q 1024).1<=1024:=z2c T p q 1024;obtain ⟨z,hn⟩:∃n,n=(aF T p q 1024).1:=⟨_,rfl⟩;obtain ⟨p2,hp1⟩:∃p',p'=(aF T p q 1024).2.1:=⟨_,rfl⟩;obtain ⟨q2,hq1⟩:∃p',p'=(aF T p q 1024).2.2:=⟨_,rfl⟩;rw[←hn,←hp1,←hq1]at hnm;rw[←hn]at hv;have kN:=ah hnm;have hw4:=c4.size;clear hnm hn hp1 hq1;go_wp2_with fail;refine kN.out.mono ?_;rintro e w5 ⟨rfl,t5⟩;have hu:∀j,u3.ownBlock=some j->W.heap.size<=j:=fun j hj=>(o4.lt j hj).1;have o5:=z09 o4 t5.gW (fun j hj e=>by have:=hu j hj;omega);have c5:Ch (· =g) W w5:=c4.trans t5.gW fun _ _ e=>e;have hw5:=c5.size;have one:∀(v':Value) (w6:World) (X:Obj),(w5.alloc X).grownBy w6 u3.ownBlock->aH w6 D g A c T p2 q2/\Ch (· =g) W w6:=fun v' w6 X hg=>z3B t5.cur hgl iD c5 hg hu;have One:=ah one;clear one cu4 o4 c4 kN;go_wp2_with (at_builtin;refine z03 _ rfl (.tmp 11) (.tmp 14) _ rfl W.heap.size 3 i1 _ 1 8 Tryz.underlying88 hi1 hy0 hy1 hy2 rfl (by omega) _ k (Nu L) rfl (z09 o5 ((Ch.refl (fun _=>False) w5).alloc _) (fun _ _ hf=>hf)) (fun _=>True) _ 1 1 [_] rfl ⟨rfl,fun _=>⟨⟨w5.heap.size,0,none⟩,rfl,trivial,cell_one_new _ _ _⟩⟩ (by intro u hu;simp at hu;subst hu;rfl) (by simp only[maxLen];omega) (by omega) (by simp;omega) ?_;intro v' w6 h2 h3 h4)
   go_roundw
   case rel=>
    obtain ⟨q1,q2⟩:=One.out v' w6 _ h3;refine ⟨k+1,_,_,L++[z],by omega,by rw[List.length_append,EZ.out];rfl,fun y hy=>?_,by go_num,q1,?_,q2⟩
    ·rcases List.mem_append.1 hy with hy|hy
     ·exact HLZ.out y hy
     ·rw[List.mem_singleton.1 hy];exact hv
    ·rw[show Nu (L++[z])=Nu L++[.int .i64 (z:Int)] by simp[Nu]]
     exact h2
   case measure=>simp[intOf];omega
  ·obtain rfl:n=k:=by omega
   obtain ⟨Al,cl,rfl,hcl,_⟩:=z04 o4;have r4:=Rd.dh o4;have hw4:=c4.size;have aaE:g<w4.heap.size:=(by omega);have Ti:∀k,D k->k<w4.heap.size:=fun k hk=>by have:=iD k hk;omega
   clear o4;go_wp2_with fail;go_loopw [4,19] (fun v i wr=>∃(k p:Nat) (q:Int) (l:List ByteArray),k<=n/\l.length=k/\(∀s∈l,s.size<=1000000000)/\i=.int .i64 (k:Int)/\aH wr D g A c T p q/\wr.ownsRow w4.heap.size 9 1 v k (dM l)/\Ch (· =g) w4 wr) (fun _ i _=>n-(intOf i).toNat)
   case atStart=>exact ⟨0,p,q,[],Nat.zero_le _,rfl,(fun z hz=>by cases hz),rfl,cu4,World.ownsRow_nil _ _ _ _,Ch.refl _ _⟩
   case round=>
    clear cu4;obtain ⟨w6,rfl⟩:∃w6:World,w6=wr:=⟨_,rfl⟩;obtain ⟨k,p,q,l,hk,hlk,hz,rfl,cu6,o6,c6⟩:=hrel;have HL2:=ah hlk;have HZ2:=ah hz;clear hlk hz;by_cases hlt:k<n
    ·have r6:=r4.ch (by decide) c6 (fun k hk hd e=>by have:=hd.2.1;omega)
     obtain ⟨ad,u,rfl,_,hu,hc0⟩:=r6.at_ hlt;have hkL:k<L.length:=by rw[EZ.out];exact hlt
     rw[Nu,List.getElem?_map,List.getElem?_eq_getElem hkL]at hu;have hzle:=HLZ.out _ (List.getElem_mem hkL);generalize L[k]=z at hu hzle;simp only[Option.map_some]at hu;injection hu with hu;subst hu;have hw6:=c6.size;have hu6:∀j,u4.ownBlock=some j->w4.heap.size<=j:=fun j hj=>(o6.lt j hj).1;have zZ:=ah (z4k cu6 (z:Int));clear r6 cu6;go_wp2_with fail;with_reducible refine zZ.out.mono ?_
     rintro e w7 ⟨A7,c7',ys,p7,q7,rfl,hyc,hyl,r7,oky,t7⟩;have o67:=z09 o6 t7.gW (fun j hj e=>by have:=hu6 j hj;omega);have c7:Ch (· =g) w4 w7:=c6.trans t7.gW fun _ _ e=>e;have e7:=gK.out _ _ ys.length c7' ys w7 r7;have hsz:Hid ((aX ys).size<=1000000000):=ah (by rw[z5D];omega);generalize aX ys=sx at *;have hw7:=c7.size;have one:∀(v':Value) (w8:World) (X:Obj),(w7.alloc X).grownBy w8 u4.ownBlock->aH w8 D g A c T p7 q7/\Ch (· =g) w4 w8:=fun v' w8 X hg=>z3B t7.cur aaE Ti c7 hg hu6;have One:=ah one;clear one t7 r7 o6 c6 c7 zZ hu6;go_wp2_with (at_builtin;refine z03 _ rfl (.tmp 23) (.tmp 28) _ rfl w4.heap.size 9 i0 _ 1 16 Tryz.underlying80 hi0 hz0 hz1 hz2 rfl (by omega) _ k (dM l) rfl (z09 o67 ((Ch.refl (fun _=>False) w7).alloc _) (fun _ _ hf=>hf)) (fun _=>True) _ 1 1 [_] rfl ⟨rfl,fun _=>⟨⟨w7.heap.size,0,none⟩,rfl,trivial,cell_one_new _ _ _⟩⟩ (by intro u hu;simp at hu;subst hu;rfl) (by simp only[maxLen];omega) (by omega) (by simp;omega) ?_;intro v' w8 h2 h3 h4)
     go_roundw
     case rel=>
      obtain ⟨q1,q2⟩:=One.out v' w8 _ h3;refine ⟨k+1,_,_,l++[sx],by omega,by rw[List.length_append,HL2.out];rfl,fun y hy=>?_,by go_num,q1,?_,q2⟩
      ·rcases List.mem_append.1 hy with hy|hy
       ·exact HZ2.out y hy
       ·rw[List.mem_singleton.1 hy];exact hsz.out
      ·rw[show dM (l++[sx])=dM l++[.string sx] by simp[dM]]
       exact h2
     case measure=>simp[intOf];omega
    ·have hkn:k=n:=by omega
     go_wp2_with fail;go_ret;have hl:=HL2.out;exact ⟨l,_,_,_,rfl,⟨by omega,HZ2.out⟩,by rw[hl];exact kX o6 (by omega),cu6,c4.trans c6 fun i hi e=>e⟩
theorem zG (xs:List Nat) (p:Nat) (e:Int) (m:Nat):(bT xs p e m).1.length<=xs.length:=by
 unfold bT;split
 ·exact Nat.zero_le _
 ·split
  ·exact Nat.zero_le _
  ·split
   ·exact Nat.zero_le _
   ·split
    ·exact Nat.zero_le _
    ·simp only[List.length_take,List.length_drop]
     omega
def okW (l:List ByteArray):Prop:=∀s∈l,s.size<=1000000000
theorem okW.snoc {l:List ByteArray} {s:ByteArray} (h:okW l) (hs:s.size<=1000000000):okW (l++[s]):=fun y hy=>by
 rcases List.mem_append.1 hy with hy|hy
 ·exact h y hy
 ·rw[List.mem_singleton.1 hy];exact hs
theorem vC (l:List ByteArray) (s:ByteArray):dM (l++[s])=dM l++[.string s]:=by simp[dM]
theorem FC (D:Nat->Prop) (g:Nat) (A:Option Addr) (c:Nat) (T:List Nat) (W:World) (h:aH W D g A c T 0 0):
 Calls Tryz.prog 137 #[.pointer (some ⟨g,0,none⟩)] W (oC W D g A c T 9 dM fun l=>l.length<=2048/\∀s∈l,s.size<=1000000000):=by
 obtain ⟨i0,hi0,hz0,hz1,hz2⟩:=info_parts Tryz.jH;have hgl:=h.blk.lt;have iD:=h.bnd;have hTl:=h.len;have hnm:=z17 h 2048 (by omega) (by omega);have hv:(aF T 0 0 2048).1<=2048:=z2c T 0 0 2048;obtain ⟨m,hn⟩:∃n,n=(aF T 0 0 2048).1:=⟨_,rfl⟩;obtain ⟨p1,hp1⟩:∃p,p=(aF T 0 0 2048).2.1:=⟨_,rfl⟩;obtain ⟨q1,hq1⟩:∃p,p=(aF T 0 0 2048).2.2:=⟨_,rfl⟩;rw[←hn,←hp1,←hq1]at hnm;rw[←hn]at hv;have kN:=ah hnm;clear hnm hn hp1 hq1 h;go_enter Tryz.func137,Tryz.ntmps137;go_wp2_with fail;refine kN.out.mono ?_;rintro e w1 ⟨rfl,t1⟩;clear kN;go_wp2_with fail;go_loopw [3,10] (fun v i wr=>∃(k p:Nat) (q:Int) (all:List ByteArray),k<=m/\all.length=k/\okW all/\i=.int .i64 (k:Int)/\aH wr D g A c T p q/\wr.ownsRow W.heap.size 9 1 v k (dM all)/\Ch (· =g) W wr) (fun _ i _=>m-(intOf i).toNat)
 case atStart=>exact ⟨0,_,_,[],Nat.zero_le _,rfl,(fun z hz=>by cases hz),rfl,t1.cur,World.ownsRow_nil _ _ _ _,t1.gW⟩
 case round=>
  clear t1;obtain ⟨w4,rfl⟩:∃w4:World,w4=wr:=⟨_,rfl⟩;obtain ⟨k,p,q,all,hk,hlk,hok,rfl,cu4,o4,c4⟩:=hrel;have EZ:=ah hlk;have mO:=ah hok;clear hlk hok;by_cases hlt:k<m
  ·have htx:=qQ cu4 1024 (by omega)
   have hsh:=zG T p q 1024;obtain ⟨ys,hys⟩:∃n,n=(bT T p q 1024).1:=⟨_,rfl⟩;obtain ⟨p2,hp2⟩:∃p',p'=(bT T p q 1024).2.1:=⟨_,rfl⟩;obtain ⟨q2,hq2⟩:∃p',p'=(bT T p q 1024).2.2:=⟨_,rfl⟩;rw[←hys,←hp2,←hq2]at htx;rw[←hys]at hsh;have hsz:Hid ((aX ys).size<=1000000000):=ah (by rw[z5D];omega);generalize aX ys=sx at *;have Htx:=ah htx;have hw4:=c4.size;clear htx hys hp2 hq2 hsh;go_wp2_with fail;refine Htx.out.mono ?_;rintro e w5 ⟨rfl,t5⟩;have hu:∀j,u3.ownBlock=some j->W.heap.size<=j:=fun j hj=>(o4.lt j hj).1;have o5:=z09 o4 t5.gW (fun j hj e=>by have:=hu j hj;omega);have c5:Ch (· =g) W w5:=c4.trans t5.gW fun _ _ e=>e;have hw5:=c5.size;have one:∀(v':Value) (w6:World) (X:Obj),(w5.alloc X).grownBy w6 u3.ownBlock->aH w6 D g A c T p2 q2/\Ch (· =g) W w6:=fun v' w6 X hg=>z3B t5.cur hgl iD c5 hg hu;have One:=ah one;clear one cu4 o4 c4 Htx;go_wp2_with (at_builtin;refine z03 _ rfl (.tmp 12) (.tmp 15) _ rfl W.heap.size 9 i0 _ 1 16 Tryz.underlying80 hi0 hz0 hz1 hz2 rfl (by omega) _ k (dM all) rfl (z09 o5 ((Ch.refl (fun _=>False) w5).alloc _) (fun _ _ hf=>hf)) (fun _=>True) _ 1 1 [_] rfl ⟨rfl,fun _=>⟨⟨w5.heap.size,0,none⟩,rfl,trivial,cell_one_new _ _ _⟩⟩ (by intro u hu;simp at hu;subst hu;rfl) (by simp only[maxLen];omega) (by omega) (by simp;omega) ?_;intro v' w6 h2 h3 h4)
   go_roundw
   case rel=>
    obtain ⟨q1,q2⟩:=One.out v' w6 _ h3;exact ⟨k+1,_,_,all++[sx],by omega,by rw[List.length_append,EZ.out];rfl,mO.out.snoc hsz.out,by go_num,q1,by rw[vC];exact h2,q2⟩
   case measure=>simp[intOf];omega
  ·obtain rfl:m=k:=by omega
   have hnm:=z17 cu4 2048 (by omega) (by omega);have hv2:(aF T p q 2048).1<=2048:=z2c T p q 2048;obtain ⟨n,hn⟩:∃n,n=(aF T p q 2048).1:=⟨_,rfl⟩;obtain ⟨p2,hp2⟩:∃p',p'=(aF T p q 2048).2.1:=⟨_,rfl⟩;obtain ⟨q2,hq2⟩:∃p',p'=(aF T p q 2048).2.2:=⟨_,rfl⟩;rw[←hn,←hp2,←hq2]at hnm;rw[←hn]at hv2;have kN:=ah hnm;have hw4:=c4.size;clear hnm hn hp2 hq2 cu4;go_wp2_with fail;refine kN.out.mono ?_;rintro e w5 ⟨rfl,t5⟩;have hu:∀j,u3.ownBlock=some j->W.heap.size<=j:=fun j hj=>(o4.lt j hj).1;have o5:=z09 o4 t5.gW (fun j hj e=>by have:=hu j hj;omega);have c5:Ch (· =g) W w5:=c4.trans t5.gW fun _ _ e=>e;have hw5:=c5.size;obtain ⟨Aa,ca,rfl,hca,_⟩:=z04 o5;have r5:=Rd.dh o5;clear o4 o5 c4 kN hu;have aaD:g<w5.heap.size:=(by omega);have Tf:∀k,D k->k<w5.heap.size:=fun k hk=>by have:=iD k hk;omega
   go_wp2_with fail;go_loopw [4] (fun v wr=>∃(a p:Nat) (q:Int) (l:List ByteArray),a<=n/\l.length=a/\okW l/\aH wr D g A c T p q/\wr.ownsRow w5.heap.size 9 1 v a (dM l)/\Ch (· =g) w5 wr) (fun v _=>n-mV v)
   case atStart=>exact ⟨0,_,_,[],Nat.zero_le _,rfl,(fun z hz=>by cases hz),t5.cur,World.ownsRow_nil _ _ _ _,Ch.refl _ _⟩
   case round=>
    clear t5;obtain ⟨w6,rfl⟩:∃w6:World,w6=wr:=⟨_,rfl⟩;obtain ⟨a,p,q,l,ha,hla,adX,cu6,o6,c6⟩:=hrel;have HLA:=ah hla;have HOL:=ah adX;clear hla adX;obtain ⟨Ao,co,rfl,hao,_⟩:=z04 o6;have k1:IntKind.i64.wrap ((m:Int)-1)=(m:Int)-1:=IntWalk.i64_in _ (by omega);have k2:IntKind.i64.wrap ((n:Int)-(a:Int))=(n:Int)-(a:Int):=IntWalk.i64_in _ (by omega);by_cases hlt:a<n
    ·have Hn1:=ah (z17 cu6 ((m:Int)-1) (by omega) (by omega))
     obtain ⟨ix,hix⟩:∃n,n=(aF T p q ((m:Int)-1)).1:=⟨_,rfl⟩;obtain ⟨p3,hp3⟩:∃p',p'=(aF T p q ((m:Int)-1)).2.1:=⟨_,rfl⟩;obtain ⟨q3,hq3⟩:∃p',p'=(aF T p q ((m:Int)-1)).2.2:=⟨_,rfl⟩;rw[←hix,←hp3,←hq3]at Hn1;have hn2:=fun w (cu:aH w D g A c T p3 q3)=>z17 cu ((n:Int)-(a:Int)) (by omega) (by omega)
     have hr2:(aF T p3 q3 ((n:Int)-(a:Int))).1<=n-a:=by
      rw[show (n:Int)-(a:Int)=((n-a:Nat):Int) by omega];exact z2c T p3 q3 (n-a)
     obtain ⟨r,hr⟩:∃n',n'=(aF T p3 q3 ((n:Int)-(a:Int))).1:=⟨_,rfl⟩;obtain ⟨p4,hp4⟩:∃p',p'=(aF T p3 q3 ((n:Int)-(a:Int))).2.1:=⟨_,rfl⟩;obtain ⟨q4,hq4⟩:∃p',p'=(aF T p3 q3 ((n:Int)-(a:Int))).2.2:=⟨_,rfl⟩;rw[←hr,←hp4,←hq4]at hn2;rw[←hr]at hr2;have Hn2:=ah hn2;clear hix hp3 hq3 hr hp4 hq4 hn2 cu6;have hu6:∀j,(Value.slice Ao a co).ownBlock=some j->w5.heap.size<=j:=fun j hj=>(o6.lt j hj).1;go_wp2_with fail;refine Hn1.out.mono ?_;rintro e w7 ⟨rfl,t7⟩;go_wp2_with fail;refine (Hn2.out _ t7.cur).mono ?_;rintro e w8 ⟨rfl,t8⟩;have t68:=t7.trans t8;have o8:=z09 o6 t68.gW (fun j hj e=>by have:=hu6 j hj;omega);have c8:Ch (· =g) w5 w8:=c6.trans t68.gW fun _ _ e=>e;clear t7 t8 o6 c6 Hn1 Hn2;by_cases hr0:r=0
     ·have hz:((r:Int)==0)=true:=by rw[beq_iff_eq];omega
      go_wp2_with fail;go_ret;have hl:=HLA.out;exact ⟨l,_,_,_,rfl,⟨by omega,HOL.out⟩,by rw[hl];exact kX o8 (by omega),t68.cur,c5.trans c8 fun i hi e=>e⟩
     ·have hz:((r:Int)==0)=false:=by rw[beq_eq_false_iff_ne];omega
      by_cases hge0:m<=ix
      ·have hge:decide ((m:Int)<=(ix:Int))=true:=by rw[decide_eq_true_eq];omega
       have NZ:decide (m<=ix)=true:=by rw[decide_eq_true_eq];omega
       go_wp2_with fail;go_ret;have hl:=HLA.out;exact ⟨l,_,_,_,rfl,⟨by omega,HOL.out⟩,by rw[hl];exact kX o8 (by omega),t68.cur,c5.trans c8 fun i hi e=>e⟩
      ·have hge:decide ((m:Int)<=(ix:Int))=false:=by rw[decide_eq_false_iff_not];omega
       have NZ:decide (m<=ix)=false:=by rw[decide_eq_false_iff_not];omega
       have aaB:ix<all.length:=by have:=EZ.out;omega
       have Hsx:=ah (Yx (ss:=all) (k:=ix) aaB)
       have hxs:Hid ((all.getD ix ByteArray.empty).size<=1000000000):=ah (by
        rw[List.getD,List.getElem?_eq_getElem aaB];exact mO.out _ (List.getElem_mem aaB))
       generalize all.getD ix ByteArray.empty=x at *;go_wp2_with fail;go_loopw [4,44] (fun v i wr=>∃(j:Nat) (l:List ByteArray),j<=r/\l.length=a+j/\okW l/\i=.int .i64 (j:Int)/\aH wr D g A c T p4 q4/\wr.ownsRow w5.heap.size 9 1 v (a+j) (dM l)/\Ch (· =g) w5 wr) (fun _ i _=>r-(intOf i).toNat)
       case atStart=>exact ⟨0,l,Nat.zero_le _,HLA.out,HOL.out,rfl,t68.cur,o8,c8⟩
       case round=>
        clear t68 o8 c8;obtain ⟨w9,rfl⟩:∃w9:World,w9=wr:=⟨_,rfl⟩;obtain ⟨j,l2,hj,ad_,hok2,rfl,cu9,o9,c9⟩:=hrel;have HL2:=ah ad_;have HO2:=ah hok2;clear ad_ hok2;by_cases hlj:j<r
        ·have r9:=r5.ch (by decide) c9 (fun k hk hd e=>by have:=hd.2.1;omega)
         obtain ⟨ad,rfl,_,hcell⟩:=r9.2 (by omega);have hc0:=hcell ix _ Hsx.out;have hu:∀j,u4.ownBlock=some j->w5.heap.size<=j:=fun j hj=>(o9.lt j hj).1;have hw9:=c9.size;have one:∀(v':Value) (w6:World) (X:Obj),(w9.alloc X).grownBy w6 u4.ownBlock->aH w6 D g A c T p4 q4/\Ch (· =g) w5 w6:=fun v' w6 X hg=>z3B cu9 aaD Tf c9 hg hu;have One:=ah one;clear one cu9 c9 hcell r9 hu;go_wp2_with (at_builtin;refine z03 _ rfl (.tmp 46) (.tmp 51) _ rfl w5.heap.size 9 i0 _ 1 16 Tryz.underlying80 hi0 hz0 hz1 hz2 rfl (by omega) _ (a+j) (dM l2) rfl (z09 o9 ((Ch.refl (fun _=>False) w9).alloc _) (fun _ _ hf=>hf)) (fun _=>True) _ 1 1 [_] rfl ⟨rfl,fun _=>⟨⟨w9.heap.size,0,none⟩,rfl,trivial,cell_one_new _ _ _⟩⟩ (by intro u hu;simp at hu;subst hu;rfl) (by simp only[maxLen];omega) (by omega) (by simp;omega) ?_;intro v' w6 h2 h3 h4)
         go_roundw
         case rel=>
          obtain ⟨q1,q2⟩:=One.out v' w6 _ h3;exact ⟨j+1,l2++[x],by omega,by rw[List.length_append,HL2.out];rfl,HO2.out.snoc hxs.out,by go_num,q1,by rw[show a+(j+1)=a+j+1 by omega,vC];exact h2,q2⟩
         case measure=>simp[intOf];omega
        ·obtain rfl:r=j:=by omega
         obtain ⟨A9,c9',rfl,_,_⟩:=z04 o9;go_wp2_with fail;go_roundw
         case rel=>exact ⟨a+r,_,_,l2,by omega,HL2.out,HO2.out,cu9,o9,c9⟩
         case measure=>simp[mV];omega
    ·obtain rfl:n=a:=by omega
     go_wp2_with fail;go_ret;have hl:=HLA.out;exact ⟨l,_,_,_,rfl,⟨by omega,HOL.out⟩,by rw[hl];exact kX o6 (by omega),cu6,c5.trans c6 fun i hi e=>e⟩
end Go.Proofs.YtpakjclpjcngmaaGreat
