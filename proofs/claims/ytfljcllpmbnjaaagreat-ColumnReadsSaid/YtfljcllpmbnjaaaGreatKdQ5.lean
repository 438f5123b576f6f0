/- Contracts and plain laws that the last text rests on. Conditions: each theorem states its own. -/
import Derived.Test.YtfljcllpmbnjaaaGreatKdQ4
import Derived.Deep.CutBlock
import Derived.Deep.DeepCutAuto
import Derived.Maps.OwnOps
import Derived.Test.YtfljcllpmbnjaaaGreatKdQ1
set_option maxRecDepth 100000
set_option maxHeartbeats 8000000
set_option linter.unusedVariables false
namespace Go.Proofs.YtfljcllpmbnjaaaGreat
open Go.RowKit Go.WideMaps Go.Maps Go.ChangeShapes
def WW (W:World) (xs:List Nat) (e:Ending) (w':World):Prop:=
 ∃v,e=.returned (.tuple #[v,.int .i64 0])/\w'.ownsRow (W.heap.size+2) 129 3 v (aF xs xs.length 0).length (jY (aF xs xs.length 0))/\Nx W w'
theorem Tryz.xk (w:World):(zeroValue 88).run Tryz.prog w=.ok (.slice none 0 0) w:=by kernel_rfl
theorem Tryz.vO:(Tryz.prog.info? 3).map (fun i=>(i.zero,i.size,i.bytes))=some (some (.int .i64 0),1,8):=by kernel_rfl
theorem uN (D:Nat->Prop) (bx:Nat) (A:Option Addr) (c:Nat) (xs:List Nat) (i:Nat) (W:World) (hb:W.cell? ⟨bx,0,none⟩=some (.slice A xs.length c)) (hr:Rd W D 1 A xs.length (bl xs)) (ok:okB xs) (hi:i+2<xs.length) (hl:xs.length<=65536):
 Calls Tryz.prog 134 #[.int .i64 (i:Int),.pointer (some ⟨bx,0,none⟩)] W fun e w'=>e=.returned (kV (fD xs i))/\Nx W w':=RY D bx A c xs i W hb hr ok hi hl
theorem SA {w:World} {B:Nat} {e:TypeId} {g n c m q:Nat} {zs:List Int} {z:Int} (h:w.ownsRow B e 1 (.slice (some ⟨g,0,none⟩) n c) m (zs.map (Value.int .i64))) (hl:q<zs.length) (hz:zs.getD q 0=z):w.cell? ⟨g,q,none⟩=some (.int .i64 z):=by
 have hu:(zs.map (Value.int .i64))[q]?=some (.int .i64 z):=by
  rw[←hz];simp[List.getD_eq_getElem?_getD,List.getElem?_eq_getElem hl]
 have:=h.cells (g:=g) rfl _ _ hu
 have e:Addr.add ⟨g,0,none⟩ q=⟨g,q,none⟩:=by
  unfold Addr.add;by_cases hj:q=0
  ·rw[if_pos hj,hj]
  ·rw[if_neg hj];simp
 rw[e]at this;exact this
def Srch (xs P:List Nat) (p tb:Nat) (w3:World) (k:Value) (wr:World):Prop:=
 ∃(j:Nat) (t2:Nat×Nat),k=.int .i64 ((j:Int)-1)/\j<=P.length/\Ch (fun g=>g=tb) w3 wr/\dD wr tb 129 (dh (tokF xs p t2)).toArray/\Hid (pO xs p P.reverse (0,0)=pO xs p (P.take j).reverse t2)/\t2.1<=258
theorem gq.apart {W w:World} {A:Option Addr} {c:Nat} {xs:List Nat} {q:Nat} {o:List Tok} {v u v':Value} {Z:Nat->Prop} {n:Nat} (m:gq W w A c xs q o v Z) (hu:∀No:Nat->Prop,w.Shuns (W.heap.size+1) No->∀g,u.ownBlock=some g->¬No g)
 (hl:v'.ownBlock=u.ownBlock∨v'.ownBlock=some n) (hn:w.heap.size<=n):∀g,v'.ownBlock=some g->¬(v.ownBlock=some g∨Z g):=by
 intro g hg hno;rcases hl with e|e
 ·exact hu _ m.shun g (by rw[←e];exact hg) hno
 ·rw[e]at hg
  injection hg with hg;rcases hno with h|h
  ·have:=(m.own.lt g h).2;omega
  ·have:=(m.zb g h).2.1;omega
def LayL (W:World) (A:Option Addr) (c:Nat) (xs:List Nat) (p:Nat) (o:List Tok) (v:Value) (tb:Nat) (tk:Tok) (mx:Nat) (s7 s79:Value) (wr:World):Prop:=
 ∃(i q:Nat),q=p+i/\i<=mx/\s7=.int .i64 (q:Int)/\s79=.int .i64 (i:Int)/\gq W wr A c xs q o v (fun g=>g=tb)/\dD wr tb 129 (dh tk).toArray
theorem Tryz.PS:(Tryz.prog.info? 129).map (fun i=>(i.zero,i.size,i.bytes))=some (some (.agg #[.int .i64 0,.int .i64 0,.int .u8 0]),3,24):=by kernel_rfl
theorem z4e (b:List Nat):∀f g p,b.length-p<=f->b.length-p<=g->aF b f p=aF b g p:=by
 intro f;induction f with
 |zero=>
  intro g p h1 h2;cases g with
  |zero=>rfl
  |succ g=>rw[aF,aF,if_pos (by omega)]
 |succ f ih=>
  intro g p h1 h2;cases g with
  |zero=>rw[aF,aF,if_pos (by omega)]
  |succ g=>
   rw[aF,aF];by_cases hp:b.length<=p
   ·rw[if_pos hp,if_pos hp]
   ·rw[if_neg hp,if_neg hp,ih g _ (by omega) (by omega)]
def TokL (W:World) (A:Option Addr) (c:Nat) (xs:List Nat) (s6 s7:Value) (wr:World):Prop:=
 ∃(p:Nat) (o:List Tok),s7=.int .i64 p/\p<=xs.length/\o.length<=p/\Hid (aF xs xs.length 0=o++aF xs (xs.length-p) p)/\gq W wr A c xs p o s6 (fun _=>False)
set_option maxRecDepth 100000 in
theorem Zp (D:Nat->Prop) (A:Option Addr) (c:Nat) (xs:List Nat) (W:World) (hr:Rd W D 1 A xs.length (bl xs)) (ok:okB xs) (hl:xs.length<=65536):
 Calls Tryz.prog 106 #[.slice A xs.length c] W (WW W xs):=by
 have hmm:= @run_makeMap Tryz.prog;obtain ⟨i0,hi0,hz0,hz1,hz2⟩:=info_parts Tryz.vO;obtain ⟨it,hit,hy0,hy1,hy2⟩:=info_parts Tryz.PS
 have T0:Hid (gq W ((W.alloc (.cells #[.slice A xs.length c] 27)).alloc (.map #[] 0)) A c xs 0 [] (.slice none 0 0) (fun _=>False)):=ah (by
  have hB:=dD.new W 27 #[.slice A xs.length c];have hg:=World.ownsGroups_made (H:=Unit) (W.alloc (.cells #[.slice A xs.length c] 27)) Tryz.prog 159 3 .i64;have hs:=World.Shuns_made (W.alloc (.cells #[.slice A xs.length c] 27)) (fun g=>(Value.slice none 0 0).ownBlock=some g∨False);have hsz:(W.alloc (.cells #[.slice A xs.length c] 27)).heap.size=W.heap.size+1:=by simp
  rw[hsz]at hg hs;exact ⟨((Ch.refl _ W).alloc _).alloc _,(hB.alloc _).cell 0,⟨_,0,hg,Reads.start xs,Nat.le_refl _⟩,World.ownsRow_nil _ _ _ _,hs,by simp,fun g hg=>hg.elim⟩)
 go_enter Tryz.func106,Tryz.ntmps106;go_wp2_with fail;go_loopw [6,7] (TokL W A c xs) (fun _ i _=>xs.length-(intOf i).toNat)
 case atStart=>exact ⟨0,[],rfl,Nat.zero_le _,Nat.zero_le _,ah (by simp),T0.out⟩
 case round=>
  clear T0;obtain ⟨w1,rfl⟩:∃w1:World,w1=wr:=⟨_,rfl⟩;obtain ⟨p,o,rfl,hp,ho,AP,m1⟩:=hrel;have b1:=m1.box;by_cases hlt:p<xs.length
  ·obtain ⟨ad,u,rfl,kN,hu,hc⟩:=(hr.nx (by decide) m1.nx).at_ hlt
   rw[tV hlt]at hu;injection hu with hu;subst hu;obtain ⟨x,hx⟩:∃x,xs.getD p 0=x:=⟨_,rfl⟩;rw[hx]at hc;have Hx:=ah hx;clear hx;obtain ⟨tb,htb⟩:∃tb,w1.heap.size=tb:=⟨_,rfl⟩;obtain ⟨w2,hw2⟩:∃w2,w1.alloc (.cells #[.int .i64 0,.int .i64 0,.int .u8 (x:Int)] 129)=w2:=⟨_,rfl⟩;have m2:=m1.with_ (.cells #[.int .i64 0,.int .i64 0,.int .u8 (x:Int)] 129);have hB2:=dD.new w1 129 #[.int .i64 0,.int .i64 0,.int .u8 (x:Int)];rw[hw2,htb]at m2;rw[hw2,htb]at hB2;go_upto_region 9 with fail
   try simp only[htb,hw2]
   clear htb hw2 m1 b1 hc;have b2:=m2.box;go_cut [30] (fun s30 wx=>s30=.bool (decide (p+2<xs.length))/\wx=w2)
   case first=>
    go_wp2_with fail;go_meet
    exact ⟨by congr 1;simp;omega,rfl⟩
   case rest=>
    obtain ⟨rfl,hw⟩:=hcut;rw[hw];clear hw;go_upto_if 30 with fail
    go_cut [] (fun wx=>gq W wx (some ad) c xs p o u6 (fun g=>g=tb)/\dD wx tb 129 (dh (tokF xs p (dR xs p))).toArray)
    case first=>
     by_cases h2:p+2<xs.length
     ·rw[show decide (p+2<xs.length)=true from decide_eq_true h2]
      have hkey:=Fe (z59 ok p);have hP:=nG xs p (fD xs p);have hPm:=fun i=>Zx (b:=xs) (at_:=p) (i:=i) (k:=fD xs p);have zA:dR xs p=pO xs p (t_ xs p (fD xs p)).reverse (0,0):=by unfold dR;rw[if_pos h2]
      have Am:=ah zA;have HPm:=ah hPm;clear zA hPm;go_wp2_with fail;refine (uN D W.heap.size (some ad) c xs p w2 b2 (hr.nx (by decide) m2.nx) ok h2 hl).mono ?_;rintro e w3 ⟨rfl,n3⟩;have m3:=m2.more n3;have hB3:=hB2.nx n3;clear hB2 m2 n3 b2;obtain ⟨Dm,N,g1,g2,g3⟩:=m3.grp;go_wp2_with (at_lookup;refine wpList_lookup_groups_shuns _ rfl _ _ 158 rfl 159 88 3 .i64 Tryz.keyed Tryz.underlying158 (Tryz.xk _) (W.heap.size+2) (W.heap.size+1) N Dm rfl g1 (by unfold maxLen;omega) _ _ rfl hkey ?_;intro v9 zs hat hoi hzl hback hsh;have hzs:=g2.look (z59 ok p) hoi hat;obtain ⟨A9,c9,hv9,hc91,hc92⟩:=z05 hoi.1;subst hv9)
      clear hback hat hzl g1 g2 g3;subst hzs;have QO:(zl (t_ xs p (fD xs p))).length=(t_ xs p (fD xs p)).length:=(by simp[zl]);have hshb:=hsh _ m3.shun;have Hoi:=ah hoi;clear hsh hoi;generalize hPP:t_ xs p (fD xs p)=P at *;have HPP:=ah hPP;clear hPP;rw[QO]at *;have LV:(dh (tokF xs p (0,0))).toArray= #[.int .i64 0,.int .i64 0,.int .u8 (x:Int)]:=by unfold tokF dh;rw[Hx.out];rfl
      rw[←LV]at hB3;clear LV QO hkey;have HB3:=ah hB3;clear hB3;go_wp2_with fail;go_loopw [10] (Srch xs P p tb w3) (fun k _=>(intOf k+1).toNat)
      case atStart=>exact ⟨P.length,(0,0),by congr 1;exact (IntWalk.i64_left _).symm.trans (IntWalk.i64_in _ (by omega)),Nat.le_refl _,Ch.refl _ _,HB3.out,ah (by rw[List.take_length]),by simp⟩
      case round=>
       clear HB3;obtain ⟨w4,rfl⟩:∃w4:World,w4=wr:=⟨_,rfl⟩;obtain ⟨j,t2,rfl,hj,ch4,hB4,Hs4,ht2⟩:=hrel;have hdone:dR xs p=t2->gq W w4 (some ad) c xs p o u6 (fun g=>g=tb)/\dD w4 tb 129 (dh (tokF xs p (dR xs p))).toArray:=fun e=>⟨m3.side ch4 rfl,by rw[e];exact hB4⟩;have kF:=ah hdone;clear hdone;have d0:w4.cell? ⟨tb,0,none⟩=some (.int .i64 (t2.1:Int)):=hB4.cell 0;by_cases hj0:j=0
       ·subst hj0
        have hb:dR xs p=t2:=by rw[Am.out,Hs4.out];rfl
        have Hb:=ah hb;clear hb;go_wp2_with fail;go_meet
        exact kF.out Hb.out
       ·obtain ⟨j,rfl⟩:∃j',j=j'+1:=⟨j-1,by omega⟩
        obtain ⟨g2,cap,hv,_,_⟩:=Hoi.out.1.form (by simp[zl];omega);injection hv with hA hlq hcc;clear hlq;subst hA;subst hcc;have hjl:j<P.length:=(by omega);obtain ⟨i,hiP⟩:∃i,P[j]=i:=⟨_,rfl⟩;have hcell:w4.cell? ⟨g2,j,none⟩=some (.int .i64 (i:Int)):=SA (z06 Hoi.out.1 ch4 (fun k hk e=>hshb k hk (.inr e))) (by simp[zl];omega) (by simp[zl,List.getElem?_eq_getElem hjl,hiP]);have him:=HPm.out i (by rw[←hiP];exact List.getElem_mem hjl);have hrev:(P.take (j+1)).reverse=i::(P.take j).reverse:=by rw[List.take_succ_eq_append_getElem hjl,List.reverse_append,hiP];rfl
        have hs5:pO xs p P.reverse (0,0)=if p-i<=32768/\t2.1<258 then pO xs p (P.take j).reverse (if t2.1<bF xs i p then (bF xs i p,p-i) else t2) else t2:=by rw[Hs4.out,hrev,pO]
        have Hs5:=ah hs5;have Hs4':=Hs4;have j1:(j:Int)<(P.length:Int):=(by omega);have j3:(j:Int)<((zl P).length:Int):=by simp[zl];omega
        have j4:j<(zl P).length:=by simp[zl];omega
        have k2:IntKind.i64.wrap ((j:Int)-1)=(j:Int)-1:=IntWalk.i64_in _ (by omega);have hpi:((p-i:Nat):Int)=(p:Int)-(i:Int):=(by omega);have j2:(0:Int)<=(j:Int):=(by omega);have e1:((j+1:Nat):Int)-1=(j:Int):=(by omega);have k1:IntKind.i64.wrap ((p:Int)-(i:Int))=(p:Int)-(i:Int):=IntWalk.i64_in _ (by omega);rw[e1];clear hs5 hrev Hs4 Hs4' hiP e1;by_cases jQ:p-i<=32768
        ·have f1:(p:Int)-(i:Int)<=32768:=by omega
         by_cases h258:t2.1<258
         ·have f2:(t2.1:Int)<258:=by omega
          have Hs6:Hid (pO xs p P.reverse (0,0)=pO xs p (P.take j).reverse (if t2.1<bF xs i p then (bF xs i p,p-i) else t2)):=ah (by rw[Hs5.out,if_pos ⟨jQ,h258⟩]);clear Hs5;have bx4:=(m3.side ch4 rfl).box;have hr4:=hr.nx (by decide) (m3.side ch4 rfl).nx;have frz:∀w:World,dD w tb 129 (dh (tokF xs p t2)).toArray->(∀i,w.frozen? ⟨tb,i,none⟩=false)/\∀i,w.cell? ⟨tb,i,none⟩=(#[.int .i64 (t2.1:Int),.int .i64 (t2.2:Int),.int .u8 ((tokF xs p t2).byte:Int)]:Array Value)[i]?:=fun w h=>⟨fun i=>h.frozen i,fun i=>h.cell i⟩;have Frz:=ah frz;clear frz;go_wp2_with fail
          go_region_held3 (fun w'=>w'.cell? ⟨W.heap.size,0,none⟩=some (.slice (some ad) xs.length c)/\w'.cell? ⟨g2,j,none⟩=some (.int .i64 (i:Int))) (first|exact f3|exact f4|go_keep) ((first
           |(go_at_call 135;refine (Pm D (some ad) c xs i p _ (hr4.nx (by decide) ((Ch.refl _ _).drew)) ok him.1 hlt hl).mono ?_;rintro e w5 ⟨rfl,n5⟩;have n5:Nx w4 w5:=((Ch.refl _ w4).drew).trans n5 (fun _ _ h=>h);have f3:=(n5.cell (World.block_lt_of_cell? w4 _ bx4)).trans bx4;have f4:=(n5.cell (World.block_lt_of_cell? w4 _ hcell)).trans hcell)))
          all_goals have hB5:=hB4.nx n5
          all_goals have hB5c:=(Frz.out w5 hB5).2
          all_goals have hB5f:=(Frz.out w5 hB5).1
          all_goals have d5:w5.cell? ⟨tb,0,none⟩=some (.int .i64 (t2.1:Int)):=hB5.cell 0
          all_goals have ch5:Ch (fun g=>g=tb) w3 w5:=ch4.trans n5 fun _ _ hf=>hf.elim
          all_goals have hn5:=XD xs i p
          all_goals generalize bF xs i p=nn at *
          all_goals by_cases hgt:t2.1<nn
          ·have hgt2:(t2.1:Int)<(nn:Int):=by omega
           have Hs7:Hid (pO xs p P.reverse (0,0)=pO xs p (P.take j).reverse (nn,p-i)):=ah (by rw[Hs6.out,if_pos hgt]);have Hpi:=ah hpi;clear Hs6 hpi;go_wp2_with fail;go_roundw
           case rel=>
            have hb6:(dh (tokF xs p (nn,p-i))).toArray= #[.int .i64 (nn:Int),.int .i64 ((p:Int)-(i:Int)),.int .u8 0]:=by
             unfold tokF dh;simp only;rw[Hpi.out,if_neg (by omega)];rfl
            exact ⟨j,(nn,p-i),by first|rfl|go_num,by omega,ch5.trans (EU w5 tb _ _ _) (fun _ _ h=>h),by rw[hb6];exact yu hB5 _ _ _,Hs7,hn5⟩
           case measure=>simp[intOf];try omega
          ·have hgt2:¬((t2.1:Int)<(nn:Int)):=by omega
           have Hs7:Hid (pO xs p P.reverse (0,0)=pO xs p (P.take j).reverse t2):=ah (by rw[Hs6.out,if_neg hgt]);clear Hs6;go_wp2_with fail;go_roundw
           case rel=>exact ⟨j,t2,by first|rfl|go_num,by omega,ch5,hB5,Hs7,ht2⟩
           case measure=>simp[intOf];try omega
         ·have f2:¬((t2.1:Int)<258):=by omega
          have hb:dR xs p=t2:=(by rw[Am.out,Hs5.out,if_neg (fun hh=>h258 hh.2)]);have Hb:=ah hb;clear hb Hs5;go_wp2_with fail;go_meet
          exact kF.out Hb.out
        ·have f1:¬((p:Int)-(i:Int)<=32768):=by omega
         have hb:dR xs p=t2:=(by rw[Am.out,Hs5.out,if_neg (fun hh=>jQ hh.1)]);have Hb:=ah hb;clear hb Hs5;go_wp2_with fail;go_meet
         exact kF.out Hb.out
     ·rw[show decide (p+2<xs.length)=false from decide_eq_false h2]
      go_wp2_with fail;go_meet
      refine ⟨m2,?_⟩;have e:dR xs p=(0,0):=by unfold dR;rw[if_neg h2]
      rw[e];unfold tokF dh;rw[Hx.out];exact hB2
    case rest=>
     obtain ⟨m6,hB6⟩:=hcut;have hgood:=XW xs p
     have hstep:aF xs (xs.length-p) p=tokF xs p (dR xs p)::aF xs (xs.length-p-1) (p+max (dR xs p).1 1):=by
      rw[show xs.length-p=(xs.length-p-1)+1 by omega,aF,if_neg (by omega)];rfl
     have pq:=ah hstep;clear hstep m2 hB2 b2;generalize dR xs p=t2 at *;obtain ⟨w6,rfl⟩:∃w6:World,w6=wc:=⟨_,rfl⟩;have d6:w6.cell? ⟨tb,0,none⟩=some (.int .i64 (t2.1:Int)):=hB6.cell 0;have htl:t2.1<=258:=by rcases hgood with e|e;rw[e];exact Nat.zero_le _;exact e.2.1
     have hte:p+t2.1<=xs.length:=by rcases hgood with e|e;rw[e];simp;omega;exact e.2.2.2.2.2.1
     obtain ⟨mx,hmx⟩:∃mx,max t2.1 1=mx:=⟨_,rfl⟩;have hmx2:max (t2.1:Int) 1=(mx:Int):=(by omega);have hmx3:p+mx<=xs.length:=(by omega);have hmx4:1<=mx/\mx<=258:=(by omega);rw[hmx]at pq;clear hgood hte;have Hmx:=ah hmx;clear hmx;go_upto_region 17 with fail
     go_cut [78,79] (fun s78 s79 wx=>s78=.int .i64 (mx:Int)/\s79=.int .i64 0/\wx=w6)
     case first=>
      go_wp2_with fail
      all_goals go_meet
      all_goals exact ⟨by congr 1;omega,rfl,rfl⟩
     case rest=>
      obtain ⟨rfl,rfl,hw⟩:=hcut;rw[hw];clear hw;have htok:(dh (tokF xs p t2)).toArray= #[.int .i64 (t2.1:Int),.int .i64 (t2.2:Int),.int .u8 ((tokF xs p t2).byte:Int)]:=rfl;have wV:=ah htok;clear htok;go_wp2_with fail;go_loopw [7,79] (LayL W (some ad) c xs p o u6 tb (tokF xs p t2) mx) (fun _ i _=>mx-(intOf i).toNat)
      case atStart=>exact ⟨0,p,rfl,Nat.zero_le _,rfl,rfl,m6,hB6⟩
      case round=>
       clear m6 hB6 d6;obtain ⟨w7,rfl⟩:∃w7:World,w7=wr:=⟨_,rfl⟩;obtain ⟨i,q,hq,hi,rfl,rfl,m7,hB7⟩:=hrel;have hqp:p<=q/\q<=p+mx:=(by omega);have Hq:=ah hq;have bx7:=m7.box;by_cases him:i<mx
       ·have hql:q<xs.length:=by omega
        have hnext:q+1=p+(i+1):=(by omega);have Rj:=ah hnext;clear hnext hq;by_cases h2:q+2<xs.length
        ·have hkey:=Fe (z59 ok q)
         have h2':(q:Int)+2<(xs.length:Int):=(by omega);go_wp2_with fail;refine (uN D W.heap.size (some ad) c xs q w7 bx7 (hr.nx (by decide) m7.nx) ok h2 hl).mono ?_;rintro e w8 ⟨rfl,n8⟩;have m8:=m7.more n8;have hB8:=hB7.nx n8;have bx8:=m8.box;clear m7 hB7 bx7 n8;go_wp2_with fail;refine (uN D W.heap.size (some ad) c xs q w8 bx8 (hr.nx (by decide) m8.nx) ok h2 hl).mono ?_;rintro e w9 ⟨rfl,n9⟩;have m9:=m8.more n9;have hB9:=hB8.nx n9;clear m8 hB8 bx8 n9;obtain ⟨Dm,N,g1,g2,g3⟩:=m9.grp;have hs9:=m9.size
         go_wp2_with (first
          |(at_lookup;refine wpList_lookup_groups_shuns _ rfl _ _ 158 rfl 159 88 3 .i64 Tryz.keyed Tryz.underlying158 (Tryz.xk _) (W.heap.size+2) (W.heap.size+1) N Dm rfl g1 (by unfold maxLen;omega) _ _ rfl hkey ?_;intro v9 zs hat hoi hzl hback hsh)
          |(at_builtin;refine wpList_append_own_at _ rfl _ _ 88 rfl (W.heap.size+2) 3 i0 (.int .i64 0) 1 8 Tryz.underlying88 hi0 hz0 hz1 hz2 rfl (by decide) _ _ _ rfl (hoi.1.alloc _) ⟨w9.heap.size,0,none⟩ 1 1 [.int .i64 (q:Int)] rfl rfl (cell_one_new _ _ _) (ints_oneCell .i64 [(q:Int)]) (by unfold maxLen;omega) (by omega) (by simp;omega) ?_;intro v' w10 hown' hgrow hnil hloc)
          |(at_mapUpdate;refine wpList_mapUpdate_back_shuns _ rfl _ _ _ 158 rfl Tryz.keyed Tryz.underlying158 hkey g1 (by unfold maxLen;omega) hoi m9.shun (m9.apart hsh hloc (by simp)) hback rfl rfl rfl ((World.grownBy_alloc _ _ _).trans hgrow) (hoi.appended hown' (WalkArith.wf_i64 (by omega))) (by simp;omega) (hloc.imp id (fun h=>⟨_,h,by simp⟩)) ?_;intro w11 hown2 hgrow2 hsh2))
         have hall:=(World.grownBy_alloc w9 _ _).trans hgrow;have hzs:=g2.look (z59 ok q) hoi hat;have m11:=m9.laid ok h2 g2 g3 hzs hsh (fun g hg=>(hoi.1.lt g hg).1) hall (hoi.appended hown' (WalkArith.wf_i64 (by omega))) hown2 hgrow2 hsh2;have hB11:=(hB9.grown hall (fun e=>hsh _ m9.shun tb e.symm (.inr rfl))).grown hgrow2 (fun e=>by have:=(m9.zb tb rfl).1;injection e with e;omega);go_wp2_with fail;go_roundw
         case rel=>exact ⟨i+1,q+1,Rj.out,by omega,by go_num,by go_num,m11,hB11⟩
         case measure=>simp[intOf];omega
        ·have h2':¬((q:Int)+2<(xs.length:Int)):=by omega
         have m8:=m7.reads h2;go_wp2_with fail;go_roundw
         case rel=>exact ⟨i+1,q+1,Rj.out,by omega,by go_num,by go_num,m8,hB7⟩
         case measure=>simp[intOf];omega
       ·have him2:i=mx:=by omega
        subst him2;rw[wV.out]at hB7;clear hq;have c0:w7.cell? ⟨tb,0,none⟩=some (.int .i64 (t2.1:Int)):=hB7.cell 0;have c1:w7.cell? ⟨tb,1,none⟩=some (.int .i64 (t2.2:Int)):=hB7.cell 1;have c2:w7.cell? ⟨tb,2,none⟩=some (.int .u8 ((tokF xs p t2).byte:Int)):=hB7.cell 2;have hs7:=m7.size;have how:=m7.own.alloc (.cells #[.int .i64 (t2.1:Int),.int .i64 (t2.2:Int),.int .u8 ((tokF xs p t2).byte:Int)] 129)
        have hrd:Rd (w7.alloc (.cells #[.int .i64 (t2.1:Int),.int .i64 (t2.2:Int),.int .u8 ((tokF xs p t2).byte:Int)] 129)) (fun k=>k=w7.heap.size) 3 (some ⟨w7.heap.size,0,none⟩) 1 (dh (tokF xs p t2)):=
         ⟨rfl,fun _=>⟨_,rfl,rfl,World.news_of_block (dD.new w7 129 #[.int .i64 (t2.1:Int),.int .i64 (t2.2:Int),.int .u8 ((tokF xs p t2).byte:Int)])⟩⟩
        have Ro:=ah hrd;have Jc:Hid (∀u∈dh (tokF xs p t2),u.oneCell'=true):=ah (by intro u hu;simp only[dh,List.mem_cons]at hu;rcases hu with rfl|rfl|rfl|h;rfl;rfl;rfl;cases h);clear hrd;go_wp2_with (at_builtin;refine z00 _ rfl (.tmp 101) (.tmp 103) _ rfl (W.heap.size+2) 129 it _ 3 24 Tryz.underlying125 hit hy0 hy1 hy2 rfl (by omega) u6 o.length (jY o) rfl how _ (some ⟨w7.heap.size,0,none⟩) 1 1 (dh (tokF xs p t2)) rfl Ro.out Jc.out (by simp only[maxLen];omega) (by omega) (by simp;omega) ?_;intro v8 w8 VO hg8 PX)
        have m8:=m7.push ((Ch.refl _ w7).alloc _) VO hg8 PX;go_roundw
        case rel=>
         refine ⟨q,o++[tokF xs p t2],rfl,by omega,by have:=Hq.out;simp;omega,ah ?_,m8⟩;rw[AP.out,pq.out,List.append_assoc,List.singleton_append,Hq.out,z4e xs (xs.length-p-1) (xs.length-(p+i)) (p+i) (by omega) (by omega)]
        case measure=>have:=Hq.out;simp[intOf];omega
  ·have hpl:p=xs.length:=by omega
   subst hpl;go_wp2_with fail;go_ret2;refine ⟨_,rfl,?_,m1.nx⟩;have e:aF xs xs.length 0=o:=by rw[AP.out,Nat.sub_self];simp[aF]
   rw[e];exact m1.own
end Go.Proofs.YtfljcllpmbnjaaaGreat
namespace Go.Proofs.YtfljcllpmbnjaaaGreat
open Go.RowKit
set_option maxRecDepth 100000 in
theorem GR (D:Nat->Prop) (A:Option Addr) (c:Nat) (xs:List Nat) (i k:Nat) (W:World) (hr:Rd W D 1 A xs.length (bl xs)) (ok:okB xs) (hik:i<k) (hk:k<xs.length) (hl:xs.length<=65536):
 Calls Tryz.prog 140 #[.slice A xs.length c,.int .i64 (i:Int),.int .i64 (k:Int)] W fun e w'=>e=.returned (.int .i64 (bF xs i k:Int))/\Nx W w':=by
 have k0:IntKind.i64.wrap ((xs.length:Int)-(k:Int))=(xs.length:Int)-(k:Int):=IntWalk.i64_in _ (by omega);go_enter Tryz.func140,Tryz.ntmps140;go_wp2_with fail;go_loopw [7] (fun v wr=>∃m:Nat,m<=258/\v=.int .i64 m/\Nx W wr/\Hid (bF xs i k=pY xs i k (258-m) m)) (fun v _=>258-(intOf v).toNat)
 case atStart=>exact ⟨0,by omega,rfl,Ch.refl _ _,ah rfl⟩
 case round=>
  obtain ⟨w1,rfl⟩:∃w1:World,w1=wr:=⟨_,rfl⟩;obtain ⟨m,hm,rfl,nx,H⟩:=hrel;by_cases h1:m<258
  ·have e1:258-m=(258-(m+1))+1:=by omega
   have q1:decide ((m:Int)<258)=true:=by simp;omega
   by_cases h2:k+m<xs.length
   ·obtain ⟨ad,u,rfl,kN,hu,hc⟩:=(hr.nx (by decide) nx).at_ (show i+m<xs.length by omega)
    obtain ⟨ad2,u2,hae,WJ,hu2,hc2⟩:=(hr.nx (by decide) nx).at_ h2;injection hae with hae;subst hae;rw[tV (by omega)]at hu hu2;injection hu with hu;injection hu2 with hu2;subst hu hu2;have k1:IntKind.i64.wrap ((i:Int)+(m:Int))=(i:Int)+(m:Int):=IntWalk.i64_in _ (by omega);have k2:IntKind.i64.wrap ((k:Int)+(m:Int))=(k:Int)+(m:Int):=IntWalk.i64_in _ (by omega);have t1:((i:Int)+(m:Int)).toNat=i+m:=(by omega);have t2:((k:Int)+(m:Int)).toNat=k+m:=(by omega);have q2:decide ((m:Int)<(xs.length:Int)-(k:Int))=true:=by simp;omega
    have i1:(0:Int)<=(i:Int)+(m:Int):=(by omega);have i2:(i:Int)+(m:Int)<(xs.length:Int):=(by omega);have i3:(0:Int)<=(k:Int)+(m:Int):=(by omega);have i4:(k:Int)+(m:Int)<(xs.length:Int):=(by omega);by_cases h3:xs.getD (i+m) 0=xs.getD (k+m) 0
    ·have Hs:Hid (bF xs i k=pY xs i k (258-(m+1)) (m+1)):=ah (by rw[H.out,e1,pY,if_pos ⟨h2,h3⟩])
     rw[←h3]at hc2;clear h3 e1;generalize xs.getD (i+m) 0=x at *;go_wp2_with fail;go_quiet (fail)
     go_wp2_with fail;go_roundw
     case rel=>exact ⟨m+1,by omega,by go_num,nx.drewN _,Hs⟩
     case measure=>simp[intOf];omega
    ·have Hs:Hid (bF xs i k=m):=ah (by rw[H.out,e1,pY,if_neg (fun hh=>h3 hh.2)])
     have h3':((xs.getD (i+m) 0:Int)==(xs.getD (k+m) 0:Int))=false:=by rw[beq_eq_false_iff_ne];omega
     clear h3 e1;generalize xs.getD (i+m) 0=x at *;generalize xs.getD (k+m) 0=y at *;go_wp2_with fail;go_quiet (fail)
     go_wp2_with fail;go_ret;exact ⟨by rw[Hs.out];rfl,nx.drewN _⟩
   ·have Hs:Hid (bF xs i k=m):=ah (by rw[H.out,e1,pY,if_neg (fun hh=>h2 hh.1)])
    have q2:decide ((m:Int)<(xs.length:Int)-(k:Int))=false:=by simp;omega
    clear e1;go_wp2_with fail;go_quiet (fail)
    go_wp2_with fail;go_ret;exact ⟨by rw[Hs.out];rfl,nx.drewN _⟩
  ·have hm8:m=258:=by omega
   subst hm8;have Hs:Hid (bF xs i k=258):=ah (by rw[H.out];rfl);go_wp2_with fail;go_quiet (fail)
   go_wp2_with fail;go_ret;exact ⟨by rw[Hs.out];rfl,nx.drewN _⟩
def RefL (W:World) (xs:List Nat) (s3 s4:Value) (wr:World):Prop:=
 ∃(p:Nat) (o:List Tok),s4=.int .i64 (p:Int)/\p<=xs.length/\o.length<=p/\Hid (aF xs xs.length 0=o++aF xs (xs.length-p) p)/\au W wr 138 3 s3 o.length (jY o)
def RefS (W:World) (xs:List Nat) (p tb:Nat) (w3:World) (s6:Value) (wr:World):Prop:=
 ∃(d:Nat) (t2:Nat×Nat),s6=.int .i64 (d:Int)/\1<=d/\d<=p+1/\Ch (fun g=>g=tb) w3 wr/\dD wr tb 138 (dh (tokF xs p t2)).toArray/\Hid (gK xs p p 1 (0,0)=gK xs p (p+1-d) d t2)/\t2.1<=258
theorem Tryz.LM:(Tryz.prog.info? 138).map (fun i=>(i.zero,i.size,i.bytes))=some (some (.agg #[.int .i64 0,.int .i64 0,.int .u8 0]),3,24):=by kernel_rfl
set_option maxRecDepth 100000 in
theorem CQ (D:Nat->Prop) (A:Option Addr) (c:Nat) (xs:List Nat) (W:World) (hr:Rd W D 1 A xs.length (bl xs)) (ok:okB xs) (hl:xs.length<=65536):
 Calls Tryz.prog 113 #[.slice A xs.length c] W fun e w'=>∃v,e=.returned v/\au W w' 138 3 v (aF xs xs.length 0).length (jY (aF xs xs.length 0)):=by
 obtain ⟨it,hit,hy0,hy1,hy2⟩:=info_parts Tryz.LM;have L0:=au.lit W W 138 (Ch.refl _ W) 3;go_enter Tryz.func113,Tryz.ntmps113;go_wp2_with fail;go_loopw [3,4] (RefL W xs) (fun _ i _=>xs.length-(intOf i).toNat)
 case atStart=>exact ⟨0,[],rfl,Nat.zero_le _,Nat.zero_le _,ah (by simp),L0⟩
 case round=>
  clear L0;obtain ⟨w1,rfl⟩:∃w1:World,w1=wr:=⟨_,rfl⟩;obtain ⟨p,o,rfl,hp,ho,AP,T1⟩:=hrel;by_cases hlt:p<xs.length
  ·obtain ⟨ad,u,rfl,kN,hu,hc⟩:=(hr.nx (by decide) T1.nx).at_ hlt
   rw[tV hlt]at hu;injection hu with hu;subst hu;obtain ⟨x,hx⟩:∃x,xs.getD p 0=x:=⟨_,rfl⟩;rw[hx]at hc;have Hx:=ah hx;clear hx;obtain ⟨tb,htb⟩:∃tb,w1.heap.size=tb:=⟨_,rfl⟩;obtain ⟨w2,hw2⟩:∃w2,w1.alloc (.cells #[.int .i64 0,.int .i64 0,.int .u8 (x:Int)] 138)=w2:=⟨_,rfl⟩;have T2:=T1.alloc (.cells #[.int .i64 0,.int .i64 0,.int .u8 (x:Int)] 138);have hB2:=dD.new w1 138 #[.int .i64 0,.int .i64 0,.int .u8 (x:Int)];have hvb:u3.ownBlock≠some tb:=fun e=>by have:=(T1.lt tb e).2;omega
   rw[hw2]at T2 hB2;rw[htb]at hB2;have htbW:W.heap.size<=tb:=by have:=T1.nx.size;omega
   have HW:=ah hw2;have HT:=ah htb;clear hw2 htb;go_upto_region 5 with fail
   try simp only[HT.out,HW.out]
   clear HT HW T1 hc;have LV:(dh (tokF xs p (0,0))).toArray= #[.int .i64 0,.int .i64 0,.int .u8 (x:Int)]:=by unfold tokF dh;rw[Hx.out];rfl
   rw[←LV]at hB2;clear LV;go_upto_block 2 with fail
   go_cut [] (fun wx=>au W wx 138 3 u3 o.length (jY o)/\dD wx tb 138 (dh (tokF xs p (dR xs p))).toArray)
   case first=>
    go_wp2_with fail;go_loopw [6] (RefS W xs p tb w2) (fun s6 _=>p+1-(intOf s6).toNat)
    case atStart=>exact ⟨1,(0,0),rfl,Nat.le_refl _,by omega,Ch.refl _ _,hB2,ah (by simp),by simp⟩
    case round=>
     clear hB2;obtain ⟨w4,rfl⟩:∃w4:World,w4=wr:=⟨_,rfl⟩;obtain ⟨d,t2,rfl,hd1,hd2,ch4,hB4,Hs,ht2⟩:=hrel
     have kF:Hid (∀(w':World) (t3:Nat×Nat),Ch (fun g=>g=tb) w2 w'->dD w' tb 138 (dh (tokF xs p t3)).toArray->gK xs p p 1 (0,0)=t3->au W w' 138 3 u3 o.length (jY o)/\dD w' tb 138 (dh (tokF xs p (dR xs p))).toArray):=
      ah fun w' t3 ch hb e=>⟨T2.ch ch (fun k hk e=>hvb (by rw[hk,e])) (fun i hi e=>by omega),by rw[←KR,e];exact hb⟩
     have d0:w4.cell? ⟨tb,0,none⟩=some (.int .i64 (t2.1:Int)):=hB4.cell 0;by_cases hdp:d<=p
     ·by_cases hd3:d<=32768
      ·obtain ⟨i,hi⟩:∃i,p-d=i:=⟨_,rfl⟩
       have hip:i<p:=(by omega);have e1:(p:Int)-(d:Int)=(i:Int):=(by omega);have kw:IntKind.i64.wrap (i:Int)=(i:Int):=IntWalk.i64_in _ (by omega);have f1:(d:Int)<=32768:=by omega
       have Hs5:Hid (gK xs p p 1 (0,0)=if bF xs i p=258 then (if 3<=bF xs i p/\t2.1<bF xs i p then (bF xs i p,d) else t2) else gK xs p (p+1-(d+1)) (d+1) (if 3<=bF xs i p/\t2.1<bF xs i p then (bF xs i p,d) else t2)):=ah (by
        rw[Hs.out,show p+1-d=(p+1-(d+1))+1 by omega,gK,if_pos ⟨hdp,hd3⟩,hi])
       have hr4:=hr.nx (by decide) ((T2.nx.trans ch4 fun k hk e=>by omega));clear Hs hi;go_wp2_with fail;refine (GR D (some ad) c xs i p w4 hr4 ok hip hlt hl).mono ?_;rintro e w5 ⟨rfl,n5⟩;have hB5:=hB4.nx n5;have ch5:Ch (fun g=>g=tb) w2 w5:=ch4.trans n5 fun _ _ hf=>hf.elim;have d5:w5.cell? ⟨tb,0,none⟩=some (.int .i64 (t2.1:Int)):=hB5.cell 0;have hn5:=XD xs i p;generalize bF xs i p=nn at *;by_cases h3:3<=nn
       ·have h3':¬((nn:Int)<3):=by omega
        have h3'':(3:Int)<=(nn:Int):=(by omega);by_cases hgt:t2.1<nn
        ·have hgt2:(t2.1:Int)<(nn:Int):=by omega
         have hb5c:∀i,w5.cell? ⟨tb,i,none⟩=(#[.int .i64 (t2.1:Int),.int .i64 (t2.2:Int),.int .u8 ((tokF xs p t2).byte:Int)]:Array Value)[i]?:=fun i=>hB5.cell i;have hb5f:∀i,w5.frozen? ⟨tb,i,none⟩=false:=fun i=>hB5.frozen i
         have hb6:(dh (tokF xs p (nn,d))).toArray= #[.int .i64 (nn:Int),.int .i64 (d:Int),.int .u8 0]:=by
          unfold tokF dh;simp only;rw[if_neg (by omega)];rfl
         have hB6:=yu (t:=138) (x0:=.int .i64 (t2.1:Int)) (x1:=.int .i64 (t2.2:Int)) (x2:=.int .u8 ((tokF xs p t2).byte:Int)) hB5 (.int .i64 (nn:Int)) (.int .i64 (d:Int)) (.int .u8 0);rw[←hb6]at hB6;have ch6:=ch5.trans (EU w5 tb (.int .i64 (nn:Int)) (.int .i64 (d:Int)) (.int .u8 0)) (fun _ _ h=>h);have HB6:=ah hB6;have HC6:=ah ch6;have hab:3<=nn/\t2.1<nn:=⟨h3,hgt⟩;clear hb6 hB6 ch6;by_cases h258:nn=258
         ·have hr1:gK xs p p 1 (0,0)=(nn,d):=by rw[Hs5.out,if_pos h258,if_pos hab]
          have Hr1:=ah hr1;clear Hs5 hr1 hab;subst h258;go_wp2_with fail;go_meet
          exact kF.out _ _ HC6.out HB6.out Hr1.out
         ·have Hr1:Hid (gK xs p p 1 (0,0)=gK xs p (p+1-(d+1)) (d+1) (nn,d)):=ah (by rw[Hs5.out,if_neg h258,if_pos hab])
          have hbq:((nn:Int)==258)=false:=by rw[beq_eq_false_iff_ne];omega
          clear Hs5 hab;go_wp2_with fail;go_roundw
          case rel=>exact ⟨d+1,(nn,d),by go_num,by omega,by omega,HC6.out,HB6.out,Hr1,hn5⟩
          case measure=>simp[intOf];omega
        ·have hgt2:¬((t2.1:Int)<(nn:Int)):=by omega
         have hnb:¬(3<=nn/\t2.1<nn):=fun hh=>hgt hh.2;by_cases h258:nn=258
         ·have hr1:gK xs p p 1 (0,0)=t2:=by rw[Hs5.out,if_pos h258,if_neg hnb]
          have Hr1:=ah hr1;have hbq:((nn:Int)==258)=true:=by rw[beq_iff_eq];omega
          clear Hs5 hr1 hnb;go_wp2_with fail;go_meet
          exact kF.out _ _ ch5 hB5 Hr1.out
         ·have Hr1:Hid (gK xs p p 1 (0,0)=gK xs p (p+1-(d+1)) (d+1) t2):=ah (by rw[Hs5.out,if_neg h258,if_neg hnb])
          have hbq:((nn:Int)==258)=false:=by rw[beq_eq_false_iff_ne];omega
          clear Hs5 hnb;go_wp2_with fail;go_roundw
          case rel=>exact ⟨d+1,t2,by go_num,by omega,by omega,ch5,hB5,Hr1,ht2⟩
          case measure=>simp[intOf];omega
       ·have h3':(nn:Int)<3:=by omega
        have h3'':¬((3:Int)<=(nn:Int)):=(by omega);have hnb:¬(3<=nn/\t2.1<nn):=fun hh=>h3 hh.1;have hne:¬nn=258:=(by omega);have Hr1:Hid (gK xs p p 1 (0,0)=gK xs p (p+1-(d+1)) (d+1) t2):=ah (by rw[Hs5.out,if_neg hne,if_neg hnb]);have hbq:((nn:Int)==258)=false:=by rw[beq_eq_false_iff_ne];omega
        clear Hs5 hnb;go_wp2_with fail;go_roundw
        case rel=>exact ⟨d+1,t2,by go_num,by omega,by omega,ch5,hB5,Hr1,ht2⟩
        case measure=>simp[intOf];omega
      ·have f1:¬((d:Int)<=32768):=by omega
       have hr1:gK xs p p 1 (0,0)=t2:=(by rw[Hs.out,show p+1-d=(p+1-(d+1))+1 by omega,gK,if_neg (fun hh=>hd3 hh.2)]);have Hr1:=ah hr1;clear hr1 Hs;go_wp2_with fail;go_meet
       exact kF.out _ _ ch4 hB4 Hr1.out
     ·have f1:¬((d:Int)<=(p:Int)):=by omega
      have hr1:gK xs p p 1 (0,0)=t2:=by rw[Hs.out,show p+1-d=0 by omega];rfl
      have Hr1:=ah hr1;clear hr1 Hs;go_wp2_with fail;go_meet
      exact kF.out _ _ ch4 hB4 Hr1.out
   case rest=>
    obtain ⟨T6,hB6⟩:=hcut;have hgood:=XW xs p
    have hstep:aF xs (xs.length-p) p=tokF xs p (dR xs p)::aF xs (xs.length-p-1) (p+max (dR xs p).1 1):=by
     rw[show xs.length-p=(xs.length-p-1)+1 by omega,aF,if_neg (by omega)];rfl
    have pq:=ah hstep;clear hstep T2 hB2;generalize dR xs p=t2 at *;obtain ⟨w7,rfl⟩:∃w7:World,w7=wc:=⟨_,rfl⟩;have htl:t2.1<=258:=by rcases hgood with e|e;rw[e];exact Nat.zero_le _;exact e.2.1
    have hte:p+t2.1<=xs.length:=by rcases hgood with e|e;rw[e];simp;omega;exact e.2.2.2.2.2.1
    clear hgood;have c0:w7.cell? ⟨tb,0,none⟩=some (.int .i64 (t2.1:Int)):=hB6.cell 0;have c1:w7.cell? ⟨tb,1,none⟩=some (.int .i64 (t2.2:Int)):=hB6.cell 1;have c2:w7.cell? ⟨tb,2,none⟩=some (.int .u8 ((tokF xs p t2).byte:Int)):=hB6.cell 2
    have hrd:Rd (w7.alloc (.cells #[.int .i64 (t2.1:Int),.int .i64 (t2.2:Int),.int .u8 ((tokF xs p t2).byte:Int)] 138)) (fun k=>k=w7.heap.size) 3 (some ⟨w7.heap.size,0,none⟩) 1 (dh (tokF xs p t2)):=
     ⟨rfl,fun _=>⟨_,rfl,rfl,World.news_of_block (dD.new w7 138 #[.int .i64 (t2.1:Int),.int .i64 (t2.2:Int),.int .u8 ((tokF xs p t2).byte:Int)])⟩⟩
    have Ro:=ah hrd;have Jc:Hid (∀u∈dh (tokF xs p t2),u.oneCell'=true):=ah (by intro u hu;simp only[dh,List.mem_cons]at hu;rcases hu with rfl|rfl|rfl|h;rfl;rfl;rfl;cases h);have T8:=T6.alloc (.cells #[.int .i64 (t2.1:Int),.int .i64 (t2.2:Int),.int .u8 ((tokF xs p t2).byte:Int)] 138);clear hrd;go_wp2_with (at_builtin;refine z01 rfl (.tmp 46) (.tmp 48) _ rfl 138 it _ 3 24 Tryz.underlying136 hit hy0 hy1 hy2 rfl (by omega) rfl T8 _ (some ⟨w7.heap.size,0,none⟩) 1 1 (dh (tokF xs p t2)) rfl Ro.out Jc.out (by simp only[maxLen];omega) (by omega) ?_;intro v9 w9 o9 m9;have d9:w9.cell? ⟨tb,0,none⟩=some (.int .i64 (t2.1:Int)):=((hB6.alloc _).ch m9.ch (fun e=>hvb e)).cell 0)
    have hmx:(if (t2.1:Int)<1 then 1 else (t2.1:Int))=((max t2.1 1:Nat):Int):=by split<;>omega
    first|rw[hmx]|rw[show max (t2.1:Int) 1=((max t2.1 1:Nat):Int) by omega]
    refine ⟨⟨p+max t2.1 1,o++[tokF xs p t2],by simp,by omega,by simp;omega,ah ?_,?_⟩,by simp only[intOf];omega⟩
    ·rw[AP.out,pq.out,List.append_assoc,List.singleton_append,z4e xs (xs.length-p-1) (xs.length-(p+max t2.1 1)) (p+max t2.1 1) (by omega) (by omega)]
    ·rw[List.length_append,EP,EO];exact o9
  ·have hpl:p=xs.length:=by omega
   have e:aF xs xs.length 0=o:=by rw[AP.out,hpl,Nat.sub_self];simp[aF]
   have He:=ah e;clear e AP;go_wp2_with fail;go_ret;exact ⟨_,rfl,by rw[He.out];exact T1⟩
end Go.Proofs.YtfljcllpmbnjaaaGreat
