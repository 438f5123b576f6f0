/- Contracts and plain laws that the last text rests on. Conditions: each theorem states its own. -/
import Derived.Test.YtdbfejfhpkakhaaGreatKKd2Q15
import Derived.Deep.CutBlock
import Derived.Deep.DeepCutAuto
import Derived.Maps.OwnOps
import Derived.Test.YtdbfejfhpkakhaaGreatKKd2Q16
set_option maxRecDepth 100000
set_option maxHeartbeats 8000000
set_option linter.unusedVariables false
set_option linter.unusedSimpArgs false
namespace Go.Proofs.YtdbfejfhpkakhaaGreat
open Go.RowKit Go.WideMaps Go.Maps Go.ChangeShapes
def Ya (W:World) (xs:List Nat) (e:Ending) (w':World):Prop:=
 ∃v,e=.returned (.tuple #[v,.int .i64 0])/\w'.ownsRow (W.heap.size+2) 312 3 v (aJ xs xs.length 0).length (qo (aJ xs xs.length 0))/\Nx W w'
theorem Tryz.vH (w:World):(zeroValue 195).run Tryz.prog w=.ok (.slice none 0 0) w:=by kernel_rfl
theorem Tryz.DY:(Tryz.prog.info? 3).map (fun i=>(i.zero,i.size,i.bytes))=some (some (.int .i64 0),1,8):=by kernel_rfl
theorem sW (D:Nat->Prop) (bx:Nat) (A:Option Addr) (c:Nat) (xs:List Nat) (i:Nat) (W:World) (hb:W.cell? ⟨bx,0,none⟩=some (.slice A xs.length c)) (hr:Rd W D 1 A xs.length (bl xs)) (ok:okB xs) (hi:i+2<xs.length) (hl:xs.length<=65536):
 Calls Tryz.prog 228 #[.int .i64 (i:Int),.pointer (some ⟨bx,0,none⟩)] W fun e w'=>e=.returned (kV (fV xs i))/\Nx W w':=TD D bx A c xs i W hb hr ok hi hl
theorem T_ {w:World} {B:Nat} {e:TypeId} {g n c m q:Nat} {zs:List Int} {z:Int} (h:w.ownsRow B e 1 (.slice (some ⟨g,0,none⟩) n c) m (zs.map (Value.int .i64))) (hl:q<zs.length) (hz:zs.getD q 0=z):w.cell? ⟨g,q,none⟩=some (.int .i64 z):=by
 have hu:(zs.map (Value.int .i64))[q]?=some (.int .i64 z):=by
  rw[←hz];simp[List.getD_eq_getElem?_getD,List.getElem?_eq_getElem hl]
 have:=h.cells (g:=g) rfl _ _ hu
 have e:Addr.add ⟨g,0,none⟩ q=⟨g,q,none⟩:=by
  unfold Addr.add;by_cases hj:q=0
  ·rw[if_pos hj,hj]
  ·rw[if_neg hj];simp
 rw[e]at this;exact this
def Srch (xs P:List Nat) (p tb:Nat) (w3:World) (k:Value) (wr:World):Prop:=
 ∃(j:Nat) (t2:Nat×Nat),k=.int .i64 ((j:Int)-1)/\j<=P.length/\Ch (fun g=>g=tb) w3 wr/\aG wr tb 312 (dG (tokF xs p t2)).toArray/\Hid (zh xs p P.reverse (0,0)=zh xs p (P.take j).reverse t2)/\t2.1<=258
theorem fP.apart {W w:World} {A:Option Addr} {c:Nat} {xs:List Nat} {q:Nat} {o:List Tok} {v u v':Value} {Z:Nat->Prop} {n:Nat} (m:fP W w A c xs q o v Z) (hu:∀No:Nat->Prop,w.Shuns (W.heap.size+1) No->∀g,u.ownBlock=some g->¬No g)
 (hl:v'.ownBlock=u.ownBlock∨v'.ownBlock=some n) (hn:w.heap.size<=n):∀g,v'.ownBlock=some g->¬(v.ownBlock=some g∨Z g):=by
 intro g hg hno;rcases hl with e|e
 ·exact hu _ m.shun g (by rw[←e];exact hg) hno
 ·rw[e]at hg
  injection hg with hg;rcases hno with h|h
  ·have:=(m.own.lt g h).2;omega
  ·have:=(m.zb g h).2.1;omega
def LayL (W:World) (A:Option Addr) (c:Nat) (xs:List Nat) (p:Nat) (o:List Tok) (v:Value) (tb:Nat) (tk:Tok) (mx:Nat) (s7 s79:Value) (wr:World):Prop:=
 ∃(i q:Nat),q=p+i/\i<=mx/\s7=.int .i64 (q:Int)/\s79=.int .i64 (i:Int)/\fP W wr A c xs q o v (fun g=>g=tb)/\aG wr tb 312 (dG tk).toArray
theorem Tryz.PI:(Tryz.prog.info? 312).map (fun i=>(i.zero,i.size,i.bytes))=some (some (.agg #[.int .i64 0,.int .i64 0,.int .u8 0]),3,24):=by kernel_rfl
theorem sO (b:List Nat):∀f g p,b.length-p<=f->b.length-p<=g->aJ b f p=aJ b g p:=by
 intro f;induction f with
 |zero=>
  intro g p h1 h2;cases g with
  |zero=>rfl
  |succ g=>rw[aJ,aJ,if_pos (by omega)]
 |succ f ih=>
  intro g p h1 h2;cases g with
  |zero=>rw[aJ,aJ,if_pos (by omega)]
  |succ g=>
   rw[aJ,aJ];by_cases hp:b.length<=p
   ·rw[if_pos hp,if_pos hp]
   ·rw[if_neg hp,if_neg hp,ih g _ (by omega) (by omega)]
def TokL (W:World) (A:Option Addr) (c:Nat) (xs:List Nat) (s6 s7:Value) (wr:World):Prop:=
 ∃(p:Nat) (o:List Tok),s7=.int .i64 p/\p<=xs.length/\o.length<=p/\Hid (aJ xs xs.length 0=o++aJ xs (xs.length-p) p)/\fP W wr A c xs p o s6 (fun _=>False)
set_option maxRecDepth 100000 in
theorem ZJ (D:Nat->Prop) (A:Option Addr) (c:Nat) (xs:List Nat) (W:World) (hr:Rd W D 1 A xs.length (bl xs)) (ok:okB xs) (hl:xs.length<=65536):
 Calls Tryz.prog 219 #[.slice A xs.length c] W (Ya W xs):=by
 have hmm:= @run_makeMap Tryz.prog;obtain ⟨i0,hi0,hz0,hz1,hz2⟩:=info_parts Tryz.DY;obtain ⟨it,hit,hy0,hy1,hy2⟩:=info_parts Tryz.PI
 have T0:Hid (fP W ((W.alloc (.cells #[.slice A xs.length c] 47)).alloc (.map #[] 0)) A c xs 0 [] (.slice none 0 0) (fun _=>False)):=ah (by
  have hB:=aG.new W 47 #[.slice A xs.length c];have hg:=World.ownsGroups_made (H:=Unit) (W.alloc (.cells #[.slice A xs.length c] 47)) Tryz.prog 319 3 .i64;have hs:=World.Shuns_made (W.alloc (.cells #[.slice A xs.length c] 47)) (fun g=>(Value.slice none 0 0).ownBlock=some g∨False);have hsz:(W.alloc (.cells #[.slice A xs.length c] 47)).heap.size=W.heap.size+1:=by simp
  rw[hsz]at hg hs;exact ⟨((Ch.refl _ W).alloc _).alloc _,(hB.alloc _).cell 0,⟨_,0,hg,Reads.start xs,Nat.le_refl _⟩,World.ownsRow_nil _ _ _ _,hs,by simp,fun g hg=>hg.elim⟩)
 go_enter Tryz.func219,Tryz.ntmps219;go_wp2_with fail;go_loopw [6,7] (TokL W A c xs) (fun _ i _=>xs.length-(intOf i).toNat)
 case atStart=>exact ⟨0,[],rfl,Nat.zero_le _,Nat.zero_le _,ah (by simp),T0.out⟩
 case round=>
  clear T0;obtain ⟨w1,rfl⟩:∃w1:World,w1=wr:=⟨_,rfl⟩;obtain ⟨p,o,rfl,hp,ho,Hsp,m1⟩:=hrel;have b1:=m1.box;by_cases hlt:p<xs.length
  ·obtain ⟨ad,u,rfl,UF,hu,hc⟩:=(hr.nx (by decide) m1.nx).at_ hlt
   rw[nU hlt]at hu;injection hu with hu;subst hu;obtain ⟨x,hx⟩:∃x,xs.getD p 0=x:=⟨_,rfl⟩;rw[hx]at hc;have Hx:=ah hx;clear hx;obtain ⟨tb,htb⟩:∃tb,w1.heap.size=tb:=⟨_,rfl⟩;obtain ⟨w2,hw2⟩:∃w2,w1.alloc (.cells #[.int .i64 0,.int .i64 0,.int .u8 (x:Int)] 312)=w2:=⟨_,rfl⟩;have m2:=m1.with_ (.cells #[.int .i64 0,.int .i64 0,.int .u8 (x:Int)] 312);have hB2:=aG.new w1 312 #[.int .i64 0,.int .i64 0,.int .u8 (x:Int)];rw[hw2,htb]at m2;rw[hw2,htb]at hB2;go_upto_region 9 with fail
   try simp only[htb,hw2]
   clear htb hw2 m1 b1 hc;have b2:=m2.box;go_cut [30] (fun s30 wx=>s30=.bool (decide (p+2<xs.length))/\wx=w2)
   case first=>
    go_wp2_with fail;go_meet
    exact ⟨by congr 1;simp;omega,rfl⟩
   case rest=>
    obtain ⟨rfl,hw⟩:=hcut;rw[hw];clear hw;go_upto_if 30 with fail
    go_cut [] (fun wx=>fP W wx (some ad) c xs p o u6 (fun g=>g=tb)/\aG wx tb 312 (dG (tokF xs p (fG xs p))).toArray)
    case first=>
     by_cases h2:p+2<xs.length
     ·rw[show decide (p+2<xs.length)=true from decide_eq_true h2]
      have hkey:=DX (WL ok p);have hP:=mG xs p (fV xs p);have hPm:=fun i=>z3v (b:=xs) (at_:=p) (i:=i) (k:=fV xs p);have xI:fG xs p=zh xs p (vI xs p (fV xs p)).reverse (0,0):=by unfold fG;rw[if_pos h2]
      have yP:=ah xI;have HPm:=ah hPm;clear xI hPm;go_wp2_with fail;refine (sW D W.heap.size (some ad) c xs p w2 b2 (hr.nx (by decide) m2.nx) ok h2 hl).mono ?_;rintro e w3 ⟨rfl,n3⟩;have m3:=m2.more n3;have hB3:=hB2.nx n3;clear hB2 m2 n3 b2;obtain ⟨Dm,N,g1,g2,g3⟩:=m3.grp;go_wp2_with (at_lookup;refine wpList_lookup_groups_shuns _ rfl _ _ 318 rfl 319 195 3 .i64 Tryz.keyed Tryz.underlying318 (Tryz.vH _) (W.heap.size+2) (W.heap.size+1) N Dm rfl g1 (by unfold maxLen;omega) _ _ rfl hkey ?_;intro v9 zs hat hoi hzl hback hsh;have hzs:=g2.look (WL ok p) hoi hat;obtain ⟨A9,c9,hv9,hc91,hc92⟩:=h_ hoi.1;subst hv9)
      clear hback hat hzl g1 g2 g3;subst hzs;have RP:(zl (vI xs p (fV xs p))).length=(vI xs p (fV xs p)).length:=(by simp[zl]);have hshb:=hsh _ m3.shun;have Hoi:=ah hoi;clear hsh hoi;generalize hPP:vI xs p (fV xs p)=P at *;have HPP:=ah hPP;clear hPP;rw[RP]at *;have Xz:(dG (tokF xs p (0,0))).toArray= #[.int .i64 0,.int .i64 0,.int .u8 (x:Int)]:=by unfold tokF dG;rw[Hx.out];rfl
      rw[←Xz]at hB3;clear Xz RP hkey;have HB3:=ah hB3;clear hB3;go_wp2_with fail;go_loopw [10] (Srch xs P p tb w3) (fun k _=>(intOf k+1).toNat)
      case atStart=>exact ⟨P.length,(0,0),by congr 1;exact (IntWalk.i64_left _).symm.trans (IntWalk.i64_in _ (by omega)),Nat.le_refl _,Ch.refl _ _,HB3.out,ah (by rw[List.take_length]),by simp⟩
      case round=>
       clear HB3;obtain ⟨w4,rfl⟩:∃w4:World,w4=wr:=⟨_,rfl⟩;obtain ⟨j,t2,rfl,hj,ch4,hB4,Hs4,ht2⟩:=hrel;have hdone:fG xs p=t2->fP W w4 (some ad) c xs p o u6 (fun g=>g=tb)/\aG w4 tb 312 (dG (tokF xs p (fG xs p))).toArray:=fun e=>⟨m3.side ch4 rfl,by rw[e];exact hB4⟩;have M_:=ah hdone;clear hdone;have d0:w4.cell? ⟨tb,0,none⟩=some (.int .i64 (t2.1:Int)):=hB4.cell 0;by_cases hj0:j=0
       ·subst hj0
        have hb:fG xs p=t2:=by rw[yP.out,Hs4.out];rfl
        have Hb:=ah hb;clear hb;go_wp2_with fail;go_meet
        exact M_.out Hb.out
       ·obtain ⟨j,rfl⟩:∃j',j=j'+1:=⟨j-1,by omega⟩
        obtain ⟨g2,cap,hv,_,_⟩:=Hoi.out.1.form (by simp[zl];omega);injection hv with hA hlq hcc;clear hlq;subst hA;subst hcc;have hjl:j<P.length:=(by omega);obtain ⟨i,hiP⟩:∃i,P[j]=i:=⟨_,rfl⟩;have hcell:w4.cell? ⟨g2,j,none⟩=some (.int .i64 (i:Int)):=T_ (z06 Hoi.out.1 ch4 (fun k hk e=>hshb k hk (.inr e))) (by simp[zl];omega) (by simp[zl,List.getElem?_eq_getElem hjl,hiP]);have him:=HPm.out i (by rw[←hiP];exact List.getElem_mem hjl);have hrev:(P.take (j+1)).reverse=i::(P.take j).reverse:=by rw[List.take_succ_eq_append_getElem hjl,List.reverse_append,hiP];rfl
        have hs5:zh xs p P.reverse (0,0)=if p-i<=32768/\t2.1<258 then zh xs p (P.take j).reverse (if t2.1<eP xs i p then (eP xs i p,p-i) else t2) else t2:=by rw[Hs4.out,hrev,zh]
        have Hs5:=ah hs5;have Hs4':=Hs4;have j1:(j:Int)<(P.length:Int):=(by omega);have j3:(j:Int)<((zl P).length:Int):=by simp[zl];omega
        have j4:j<(zl P).length:=by simp[zl];omega
        have k2:IntKind.i64.wrap ((j:Int)-1)=(j:Int)-1:=IntWalk.i64_in _ (by omega);have hpi:((p-i:Nat):Int)=(p:Int)-(i:Int):=(by omega);have j2:(0:Int)<=(j:Int):=(by omega);have e1:((j+1:Nat):Int)-1=(j:Int):=(by omega);have k1:IntKind.i64.wrap ((p:Int)-(i:Int))=(p:Int)-(i:Int):=IntWalk.i64_in _ (by omega);rw[e1];clear hs5 hrev Hs4 Hs4' hiP e1;by_cases XK:p-i<=32768
        ·have f1:(p:Int)-(i:Int)<=32768:=by omega
         by_cases h258:t2.1<258
         ·have f2:(t2.1:Int)<258:=by omega
          have Hs6:Hid (zh xs p P.reverse (0,0)=zh xs p (P.take j).reverse (if t2.1<eP xs i p then (eP xs i p,p-i) else t2)):=ah (by rw[Hs5.out,if_pos ⟨XK,h258⟩]);clear Hs5;have bx4:=(m3.side ch4 rfl).box;have hr4:=hr.nx (by decide) (m3.side ch4 rfl).nx;have frz:∀w:World,aG w tb 312 (dG (tokF xs p t2)).toArray->(∀i,w.frozen? ⟨tb,i,none⟩=false)/\∀i,w.cell? ⟨tb,i,none⟩=(#[.int .i64 (t2.1:Int),.int .i64 (t2.2:Int),.int .u8 ((tokF xs p t2).byte:Int)]:Array Value)[i]?:=fun w h=>⟨fun i=>h.frozen i,fun i=>h.cell i⟩;have Frz:=ah frz;clear frz;go_wp2_with fail
          go_region_held3 (fun w'=>w'.cell? ⟨W.heap.size,0,none⟩=some (.slice (some ad) xs.length c)/\w'.cell? ⟨g2,j,none⟩=some (.int .i64 (i:Int))) (first|exact f3|exact f4|go_keep) ((first
           |(go_at_call 229;refine (Ov D (some ad) c xs i p _ (hr4.nx (by decide) ((Ch.refl _ _).drew)) ok him.1 hlt hl).mono ?_;rintro e w5 ⟨rfl,n5⟩;have n5:Nx w4 w5:=((Ch.refl _ w4).drew).trans n5 (fun _ _ h=>h);have f3:=(n5.cell (World.block_lt_of_cell? w4 _ bx4)).trans bx4;have f4:=(n5.cell (World.block_lt_of_cell? w4 _ hcell)).trans hcell)))
          all_goals have hB5:=hB4.nx n5
          all_goals have hB5c:=(Frz.out w5 hB5).2
          all_goals have hB5f:=(Frz.out w5 hB5).1
          all_goals have d5:w5.cell? ⟨tb,0,none⟩=some (.int .i64 (t2.1:Int)):=hB5.cell 0
          all_goals have ch5:Ch (fun g=>g=tb) w3 w5:=ch4.trans n5 fun _ _ hf=>hf.elim
          all_goals have hn5:=wz xs i p
          all_goals generalize eP xs i p=nn at *
          all_goals by_cases hgt:t2.1<nn
          ·have hgt2:(t2.1:Int)<(nn:Int):=by omega
           have Hs7:Hid (zh xs p P.reverse (0,0)=zh xs p (P.take j).reverse (nn,p-i)):=ah (by rw[Hs6.out,if_pos hgt]);have Hpi:=ah hpi;clear Hs6 hpi;go_wp2_with fail;go_roundw
           case rel=>
            have hb6:(dG (tokF xs p (nn,p-i))).toArray= #[.int .i64 (nn:Int),.int .i64 ((p:Int)-(i:Int)),.int .u8 0]:=by
             unfold tokF dG;simp only;rw[Hpi.out,if_neg (by omega)];rfl
            exact ⟨j,(nn,p-i),by first|rfl|go_num,by omega,ch5.trans (OB w5 tb _ _ _) (fun _ _ h=>h),by rw[hb6];exact Jz hB5 _ _ _,Hs7,hn5⟩
           case measure=>simp[intOf];try omega
          ·have hgt2:¬((t2.1:Int)<(nn:Int)):=by omega
           have Hs7:Hid (zh xs p P.reverse (0,0)=zh xs p (P.take j).reverse t2):=ah (by rw[Hs6.out,if_neg hgt]);clear Hs6;go_wp2_with fail;go_roundw
           case rel=>exact ⟨j,t2,by first|rfl|go_num,by omega,ch5,hB5,Hs7,ht2⟩
           case measure=>simp[intOf];try omega
         ·have f2:¬((t2.1:Int)<258):=by omega
          have hb:fG xs p=t2:=(by rw[yP.out,Hs5.out,if_neg (fun hh=>h258 hh.2)]);have Hb:=ah hb;clear hb Hs5;go_wp2_with fail;go_meet
          exact M_.out Hb.out
        ·have f1:¬((p:Int)-(i:Int)<=32768):=by omega
         have hb:fG xs p=t2:=(by rw[yP.out,Hs5.out,if_neg (fun hh=>XK hh.1)]);have Hb:=ah hb;clear hb Hs5;go_wp2_with fail;go_meet
         exact M_.out Hb.out
     ·rw[show decide (p+2<xs.length)=false from decide_eq_false h2]
      go_wp2_with fail;go_meet
      refine ⟨m2,?_⟩;have e:fG xs p=(0,0):=by unfold fG;rw[if_neg h2]
      rw[e];unfold tokF dG;rw[Hx.out];exact hB2
    case rest=>
     obtain ⟨m6,hB6⟩:=hcut;have hgood:=nV xs p
     have hstep:aJ xs (xs.length-p) p=tokF xs p (fG xs p)::aJ xs (xs.length-p-1) (p+max (fG xs p).1 1):=by
      rw[show xs.length-p=(xs.length-p-1)+1 by omega,aJ,if_neg (by omega)];rfl
     have Sz:=ah hstep;clear hstep m2 hB2 b2;generalize fG xs p=t2 at *;obtain ⟨w6,rfl⟩:∃w6:World,w6=wc:=⟨_,rfl⟩;have d6:w6.cell? ⟨tb,0,none⟩=some (.int .i64 (t2.1:Int)):=hB6.cell 0;have htl:t2.1<=258:=by rcases hgood with e|e;rw[e];exact Nat.zero_le _;exact e.2.1
     have hte:p+t2.1<=xs.length:=by rcases hgood with e|e;rw[e];simp;omega;exact e.2.2.2.2.2.1
     obtain ⟨mx,hmx⟩:∃mx,max t2.1 1=mx:=⟨_,rfl⟩;have hmx2:max (t2.1:Int) 1=(mx:Int):=(by omega);have hmx3:p+mx<=xs.length:=(by omega);have hmx4:1<=mx/\mx<=258:=(by omega);rw[hmx]at Sz;clear hgood hte;have Hmx:=ah hmx;clear hmx;go_upto_region 17 with fail
     go_cut [78,79] (fun s78 s79 wx=>s78=.int .i64 (mx:Int)/\s79=.int .i64 0/\wx=w6)
     case first=>
      go_wp2_with fail
      all_goals go_meet
      all_goals exact ⟨by congr 1;omega,rfl,rfl⟩
     case rest=>
      obtain ⟨rfl,rfl,hw⟩:=hcut;rw[hw];clear hw;have htok:(dG (tokF xs p t2)).toArray= #[.int .i64 (t2.1:Int),.int .i64 (t2.2:Int),.int .u8 ((tokF xs p t2).byte:Int)]:=rfl;have CX:=ah htok;clear htok;go_wp2_with fail;go_loopw [7,79] (LayL W (some ad) c xs p o u6 tb (tokF xs p t2) mx) (fun _ i _=>mx-(intOf i).toNat)
      case atStart=>exact ⟨0,p,rfl,Nat.zero_le _,rfl,rfl,m6,hB6⟩
      case round=>
       clear m6 hB6 d6;obtain ⟨w7,rfl⟩:∃w7:World,w7=wr:=⟨_,rfl⟩;obtain ⟨i,q,hq,hi,rfl,rfl,m7,hB7⟩:=hrel;have hqp:p<=q/\q<=p+mx:=(by omega);have Hq:=ah hq;have bx7:=m7.box;by_cases him:i<mx
       ·have hql:q<xs.length:=by omega
        have hnext:q+1=p+(i+1):=(by omega);have SE:=ah hnext;clear hnext hq;by_cases h2:q+2<xs.length
        ·have hkey:=DX (WL ok q)
         have h2':(q:Int)+2<(xs.length:Int):=(by omega);go_wp2_with fail;refine (sW D W.heap.size (some ad) c xs q w7 bx7 (hr.nx (by decide) m7.nx) ok h2 hl).mono ?_;rintro e w8 ⟨rfl,n8⟩;have m8:=m7.more n8;have hB8:=hB7.nx n8;have bx8:=m8.box;clear m7 hB7 bx7 n8;go_wp2_with fail;refine (sW D W.heap.size (some ad) c xs q w8 bx8 (hr.nx (by decide) m8.nx) ok h2 hl).mono ?_;rintro e w9 ⟨rfl,n9⟩;have m9:=m8.more n9;have hB9:=hB8.nx n9;clear m8 hB8 bx8 n9;obtain ⟨Dm,N,g1,g2,g3⟩:=m9.grp;have hs9:=m9.size
         go_wp2_with (first
          |(at_lookup;refine wpList_lookup_groups_shuns _ rfl _ _ 318 rfl 319 195 3 .i64 Tryz.keyed Tryz.underlying318 (Tryz.vH _) (W.heap.size+2) (W.heap.size+1) N Dm rfl g1 (by unfold maxLen;omega) _ _ rfl hkey ?_;intro v9 zs hat hoi hzl hback hsh)
          |(at_builtin;refine wpList_append_own_at _ rfl _ _ 195 rfl (W.heap.size+2) 3 i0 (.int .i64 0) 1 8 Tryz.underlying195 hi0 hz0 hz1 hz2 rfl (by decide) _ _ _ rfl (hoi.1.alloc _) ⟨w9.heap.size,0,none⟩ 1 1 [.int .i64 (q:Int)] rfl rfl (cell_one_new _ _ _) (ints_oneCell .i64 [(q:Int)]) (by unfold maxLen;omega) (by omega) (by simp;omega) ?_;intro v' w10 hown' hgrow hnil hloc)
          |(at_mapUpdate;refine wpList_mapUpdate_back_shuns _ rfl _ _ _ 318 rfl Tryz.keyed Tryz.underlying318 hkey g1 (by unfold maxLen;omega) hoi m9.shun (m9.apart hsh hloc (by simp)) hback rfl rfl rfl ((World.grownBy_alloc _ _ _).trans hgrow) (hoi.appended hown' (WalkArith.wf_i64 (by omega))) (by simp;omega) (hloc.imp id (fun h=>⟨_,h,by simp⟩)) ?_;intro w11 hown2 hgrow2 hsh2))
         have hall:=(World.grownBy_alloc w9 _ _).trans hgrow;have hzs:=g2.look (WL ok q) hoi hat;have m11:=m9.laid ok h2 g2 g3 hzs hsh (fun g hg=>(hoi.1.lt g hg).1) hall (hoi.appended hown' (WalkArith.wf_i64 (by omega))) hown2 hgrow2 hsh2;have hB11:=(hB9.grown hall (fun e=>hsh _ m9.shun tb e.symm (.inr rfl))).grown hgrow2 (fun e=>by have:=(m9.zb tb rfl).1;injection e with e;omega);go_wp2_with fail;go_roundw
         case rel=>exact ⟨i+1,q+1,SE.out,by omega,by go_num,by go_num,m11,hB11⟩
         case measure=>simp[intOf];omega
        ·have h2':¬((q:Int)+2<(xs.length:Int)):=by omega
         have m8:=m7.reads h2;go_wp2_with fail;go_roundw
         case rel=>exact ⟨i+1,q+1,SE.out,by omega,by go_num,by go_num,m8,hB7⟩
         case measure=>simp[intOf];omega
       ·have him2:i=mx:=by omega
        subst him2;rw[CX.out]at hB7;clear hq;have c0:w7.cell? ⟨tb,0,none⟩=some (.int .i64 (t2.1:Int)):=hB7.cell 0;have c1:w7.cell? ⟨tb,1,none⟩=some (.int .i64 (t2.2:Int)):=hB7.cell 1;have c2:w7.cell? ⟨tb,2,none⟩=some (.int .u8 ((tokF xs p t2).byte:Int)):=hB7.cell 2;have hs7:=m7.size;have how:=m7.own.alloc (.cells #[.int .i64 (t2.1:Int),.int .i64 (t2.2:Int),.int .u8 ((tokF xs p t2).byte:Int)] 312)
        have hrd:Rd (w7.alloc (.cells #[.int .i64 (t2.1:Int),.int .i64 (t2.2:Int),.int .u8 ((tokF xs p t2).byte:Int)] 312)) (fun k=>k=w7.heap.size) 3 (some ⟨w7.heap.size,0,none⟩) 1 (dG (tokF xs p t2)):=
         ⟨rfl,fun _=>⟨_,rfl,rfl,World.news_of_block (aG.new w7 312 #[.int .i64 (t2.1:Int),.int .i64 (t2.2:Int),.int .u8 ((tokF xs p t2).byte:Int)])⟩⟩
        have jd:=ah hrd;have Hone:Hid (∀u∈dG (tokF xs p t2),u.oneCell'=true):=ah (by intro u hu;simp only[dG,List.mem_cons]at hu;rcases hu with rfl|rfl|rfl|h;rfl;rfl;rfl;cases h);clear hrd;go_wp2_with (at_builtin;refine z04 _ rfl (.tmp 101) (.tmp 103) _ rfl (W.heap.size+2) 312 it _ 3 24 Tryz.underlying308 hit hy0 hy1 hy2 rfl (by omega) u6 o.length (qo o) rfl how _ (some ⟨w7.heap.size,0,none⟩) 1 1 (dG (tokF xs p t2)) rfl jd.out Hone.out (by simp only[maxLen];omega) (by omega) (by simp;omega) ?_;intro v8 w8 XD hg8 hat8)
        have m8:=m7.push ((Ch.refl _ w7).alloc _) XD hg8 hat8;go_roundw
        case rel=>
         refine ⟨q,o++[tokF xs p t2],rfl,by omega,by have:=Hq.out;simp;omega,ah ?_,m8⟩;rw[Hsp.out,Sz.out,List.append_assoc,List.singleton_append,Hq.out,sO xs (xs.length-p-1) (xs.length-(p+i)) (p+i) (by omega) (by omega)]
        case measure=>have:=Hq.out;simp[intOf];omega
  ·have hpl:p=xs.length:=by omega
   subst hpl;go_wp2_with fail;go_ret2;refine ⟨_,rfl,?_,m1.nx⟩;have e:aJ xs xs.length 0=o:=by rw[Hsp.out,Nat.sub_self];simp[aJ]
   rw[e];exact m1.own
end Go.Proofs.YtdbfejfhpkakhaaGreat
namespace Go.Proofs.YtdbfejfhpkakhaaGreat
open Go.RowKit
def S_ (la n:Nat):List Nat:=[la,n % 256,n / 256,255-n % 256,255-n / 256]
def dA (xs:List Nat):List Nat:=S_ 1 xs.length++xs
theorem Dj:∀m:Nat,m<256->bits .xor .u8 (if IntKind.u8.signed=true then -1 else IntKind.u8.max) (m:Int)=((255-m:Nat):Int):=by decide+kernel
set_option maxRecDepth 100000 in
theorem Fp (D:Nat->Prop) (A:Option Addr) (c:Nat) (xs:List Nat) (W:World) (hr:Rd W D 1 A xs.length (bl xs)) (hc:xs.length<=c) (hl:xs.length<=65535):
 Calls Tryz.prog 222 #[.slice A xs.length c] W fun e w'=>∃v,e=.returned v/\aF W w' 5 1 v (dA xs).length (bl (dA xs)):=by
 obtain ⟨i0,hi0,hz0,hz1,hz2⟩:=info_parts Tryz.info5;have HR:=ah hr;obtain ⟨len,hlen⟩:∃len,xs.length=len:=⟨_,rfl⟩;rw[hlen]at hc hl HR ⊢;have Hlen:=ah hlen;have hc1:(len:Int)<=(c:Int):=by omega
 obtain ⟨qa,hqa⟩:∃qa,len % 256=qa:=⟨_,rfl⟩;obtain ⟨qb,hqb⟩:∃qb,len / 256=qb:=⟨_,rfl⟩;have ha256:qa<256:=by omega
 have hb256:qb<256:=by omega
 have k1:IntKind.u8.wrap (len:Int)=(qa:Int):=by
  have:IntKind.u8.wrap (len:Int)=(len:Int) % 256:=by simp[IntKind.wrap,IntKind.bits,IntKind.signed]
  omega
 have k2:(len:Int) / 256=(qb:Int):=by omega
 have k3:IntKind.u8.wrap (qb:Int)=(qb:Int):=by
  have:IntKind.u8.wrap (qb:Int)=(qb:Int) % 256:=by simp[IntKind.wrap,IntKind.bits,IntKind.signed]
  omega
 have Hqa:=ah hqa;have Hqb:=ah hqb;clear hqa hqb;clear hr hlen;go_enter Tryz.func222,Tryz.ntmps222;go_wp2_with fail;refine wp_loop_rounds 1 ?_;rw[rounds_succ];go_upto_region 2 with fail
 go_cut [4] (fun s4 wx=>s4=.int .i64 (len:Int)/\wx=W)
 case first=>
  go_wp2_with fail
  all_goals go_meet
  all_goals exact ⟨by first|rfl|(congr 1;omega),rfl⟩
 case rest=>
  obtain ⟨rfl,hw⟩:=hcut;rw[hw];clear hw;go_upto_region 6 with fail
  have T0:=aF.nil W (W.alloc (.cells #[.int .u8 1,.int .u8 (qa:Int),.int .u8 (qb:Int),.int .u8 (bits .xor .u8 (if IntKind.u8.signed=true then -1 else IntKind.u8.max) (qa:Int)),.int .u8 (bits .xor .u8 (if IntKind.u8.signed=true then -1 else IntKind.u8.max) (qb:Int))] 5)) 5 1 ((Ch.refl _ W).alloc _)
  have iO:Rd (W.alloc (.cells #[.int .u8 1,.int .u8 (qa:Int),.int .u8 (qb:Int),.int .u8 (bits .xor .u8 (if IntKind.u8.signed=true then -1 else IntKind.u8.max) (qa:Int)),.int .u8 (bits .xor .u8 (if IntKind.u8.signed=true then -1 else IntKind.u8.max) (qb:Int))] 5)) (fun k=>k=W.heap.size) 1 (some ⟨W.heap.size,0,none⟩) 5 (bl [1,qa,qb,255-qa,255-qb]):=
   ⟨rfl,fun _=>⟨_,rfl,rfl,by rw[Dj qa ha256,Dj qb hb256];exact World.news_of_block (aG.new W 5 #[.int .u8 1,.int .u8 (qa:Int),.int .u8 (qb:Int),.int .u8 ((255-qa:Nat):Int),.int .u8 ((255-qb:Nat):Int)])⟩⟩
  have HR5:=ah iO;clear iO
  go_wp2_with (at_builtin;first
   |(refine z05 rfl (.tmp 13) (.tmp 27) _ rfl 5 i0 _ 1 1 Tryz.underlying47 hi0 hz0 hz1 hz2 rfl (by omega) rfl T0 _ (some ⟨W.heap.size,0,none⟩) 5 5 (bl [1,qa,qb,255-qa,255-qb]) rfl HR5.out (jk _) (by simp[maxLen]) (by omega) ?_;intro v3 w3 o3 m3)
   |(refine z05 rfl (.tmp 29) (.tmp 32) _ rfl 5 i0 _ 1 1 Tryz.underlying47 hi0 hz0 hz1 hz2 rfl (by omega) rfl o3 _ A len c (bl xs) rfl (HR.out.nx (by decide) o3.nx) (jk _) (by simp only[maxLen];omega) (by omega) ?_;intro v4 w4 o4 m4))
  all_goals go_ret
  all_goals
   refine ⟨_,rfl,?_⟩;have e1:(dA xs).length=0+5+len:=by simp[dA,S_,Hlen.out];omega
   have e2:bl (dA xs)=[]++bl [1,qa,qb,255-qa,255-qb]++bl xs:=(by simp[dA,S_,Hlen.out,Hqa.out,Hqb.out,bl]);rw[e1,e2];exact o4
theorem Oh (l:List Tok):(qo l).length=3 * l.length:=by
 induction l with
 |nil=>rfl
 |cons t l ih=>
  have e:qo (t::l)=dG t++qo l:=rfl;rw[e,List.length_append,ih,List.length_cons];simp[dG];omega
theorem lD {l:List Tok} {k:Nat} (h:k<l.length) (j:Nat) (hj:j<3):(qo l)[3 * k+j]?=(dG l[k])[j]?:=by
 have e:l=l.take k++l[k]::l.drop (k+1):=by rw[←List.drop_eq_getElem_cons h,List.take_append_drop]
 have e3:∀(a:List Tok) (t:Tok) (b:List Tok),qo (a++t::b)=qo a++(dG t++qo b):=fun a t b=>by simp[qo]
 have e2:=e3 (l.take k) l[k] (l.drop (k+1));have hl:(qo (l.take k)).length=3 * k:=by rw[Oh,List.length_take,Nat.min_eq_left (by omega)]
 rw[←e]at e2;rw[e2,List.getElem?_append_right (by omega),hl,show 3 * k+j-3 * k=j by omega,List.getElem?_append_left (by simp[dG];exact hj)]
theorem ZN {w:World} {B:Nat} {e:TypeId} {g c n:Nat} {l:List Tok} {k q:Nat} (h:w.ownsRow B e 3 (.slice (some ⟨g,0,none⟩) n c) n (qo l)) (hk:k<l.length) (hq:3 * k=q):
 w.cell? ⟨g,q,none⟩=some (.int .i64 (l[k].len:Int))/\w.cell? ⟨g,q+1,none⟩=some (.int .i64 (l[k].dist:Int))/\w.cell? ⟨g,q+2,none⟩=some (.int .u8 (l[k].byte:Int)):=by
 have adz:∀j,Addr.add ⟨g,0,none⟩ j=⟨g,j,none⟩:=fun j=>by
  unfold Addr.add;by_cases hj:j=0
  ·rw[if_pos hj,hj]
  ·rw[if_neg hj];simp
 have hc:=h.cells (g:=g) rfl;have e0:=hc _ _ (lD hk 0 (by omega));have e1:=hc _ _ (lD hk 1 (by omega));have e2:=hc _ _ (lD hk 2 (by omega));rw[adz,hq]at e0 e1 e2;exact ⟨e0,e1,e2⟩
def Yb (t:Tok):Prop:=(t.len=0/\t.byte<256)∨(3<=t.len/\t.len<=258/\1<=t.dist/\t.dist<=32768)
theorem z2E {xs:List Nat} (ok:okB xs):∀f p,∀t∈aJ xs f p,Yb t:=by
 intro f;induction f with
 |zero=>intro p t h;cases h
 |succ f ih=>
  intro p t h;rw[aJ]at h;split at h
  ·cases h
  ·rcases List.mem_cons.1 h with h|h
   ·subst h
    rcases nV xs p with e|e
    ·rw[e];exact .inl ⟨rfl,WO ok p⟩
    ·exact .inr ⟨e.1,e.2.1,e.2.2.1,e.2.2.2.1⟩
   ·exact ih _ t h
theorem xW (e:Nat):(z11 e).length<=30:=by
 unfold z11;split
 ·rw[z12];omega
 ·rw[List.length_append,z17,z12]
  have h2:=(Jb (b:=4) (m:=e) 20 0).2;unfold jy;omega
theorem zK (t:Tok):(vJ t).length<=60:=by
 unfold vJ;split
 ·exact Nat.le_trans (Rl _) (by omega)
 ·rw[List.length_append];have:=mY t.len;have:=xW (t.dist-1);omega
theorem z2k (l:List Tok):(vg l).length<=3+60 * l.length:=by
 unfold vg;rw[List.length_append,z17]
 have:(l.flatMap vJ).length<=60 * l.length:=by
  induction l with
  |nil=>simp
  |cons t l ih=>
   have:=zK t;rw[List.flatMap_cons,List.length_append,List.length_cons];omega
 omega
theorem z1O {l:List Tok} {k:Nat} (h:k<l.length):vg (l.take (k+1))=vg (l.take k)++vJ l[k]:=by
 rw[List.take_succ_eq_append_getElem h];unfold vg;rw[List.flatMap_append,List.append_assoc];simp
def bY (xs:List Nat):List Nat:=if (pack (kD (aJ xs xs.length 0))).length<(dA xs).length then pack (kD (aJ xs xs.length 0)) else dA xs
def dU (W w:World) (g:Nat) (l:List Bool):Prop:=∃h,gY w g h l/\(∀j,h=some j->W.heap.size<=j)/\Nx W w
theorem dU.next {W w w1:World} {g:Nat} {h:Option Nat} {l2:List Bool} (n:Nx W w) (hg:W.heap.size<=g) (hh:∀j,h=some j->W.heap.size<=j) (t:f_ w g h l2 w1):dU W w1 g l2:=by
 obtain ⟨h1,r1,q1,c1⟩:=t;exact ⟨h1,r1,TR n.size hh q1,Xk n c1 hg hh⟩
set_option maxRecDepth 100000 in
theorem zY (D:Nat->Prop) (A:Option Addr) (c:Nat) (xs:List Nat) (W:World) (hr:Rd W D 1 A xs.length (bl xs)) (ok:okB xs) (hc:xs.length<=c) (hl:xs.length<=65535):
 Calls Tryz.prog 203 #[.slice A xs.length c] W fun e w'=>∃A' c',e=.returned (.tuple #[.slice A' (bY xs).length c',.int .i64 0])/\(∃D',Rd w' D' 1 A' (bY xs).length (bl (bY xs)))/\Nx W w':=by
 go_enter Tryz.func203,Tryz.ntmps203;go_wp2_with fail;refine (ZJ D A c xs W hr ok (by omega)).mono ?_;rintro e w1 ⟨v,rfl,ho,n1⟩;have hr1:=hr.nx (by decide) n1;have htl:=z2h (b:=xs) xs.length 0;have htok:=z2E ok xs.length 0;have HD:Hid (bY xs=if (pack (kD (aJ xs xs.length 0))).length<(dA xs).length then pack (kD (aJ xs xs.length 0)) else dA xs):=ah rfl;generalize aJ xs xs.length 0=l at *;obtain ⟨nt,hnt⟩:∃nt,l.length=nt:=⟨_,rfl⟩;rw[hnt]at ho htl;obtain ⟨A1,c1,rfl,_,_⟩:=h_ ho;have SC:=ah hnt;have Ho:=ah ho;have CX:=ah htok;have hnew:=gY.new w1;have nw:Nx w1 (w1.alloc (.cells #[.slice none 0 0,.int .i64 0] 268)):=(Ch.refl _ w1).alloc _;obtain ⟨g,hg⟩:∃g,w1.heap.size=g:=⟨_,rfl⟩;have hg1:w1.heap.size<=g:=by omega
 rw[hg]at hnew;clear hnt ho htok;go_wp2_with fail;refine (Tf g none [] 3 3 _ hnew (by simp) (by omega) (by omega)).mono ?_;rintro e w2 ⟨rfl,t2⟩;have h2:=dU.next nw hg1 (by intro j hj;cases hj) t2;clear t2 hnew nw;go_wp2_with fail;go_loopw [25] (fun i wr=>∃k:Nat,k<=nt/\i=.int .i64 (k:Int)/\dU w1 wr g (vg (l.take k))) (fun i _=>nt-(intOf i).toNat)
 case atStart=>exact ⟨0,Nat.zero_le _,rfl,by simpa [vg]using h2⟩
 case round=>
  clear h2;obtain ⟨w3,rfl⟩:∃w3:World,w3=wr:=⟨_,rfl⟩;obtain ⟨k,hk,rfl,h3,rw3,hh3,nx3⟩:=hrel
  have hl3:(vg (l.take k)).length<=10000000:=by
   have h1:=z2k (l.take k);have h2:(l.take k).length<=k:=by simp;omega
   omega
  by_cases hlt:k<nt
  ·have hkl:k<l.length:=by rw[SC.out];exact hlt
   obtain ⟨g1,cap,hv,_,_⟩:=Ho.out.form (by omega);injection hv with hA hlq hcc;clear hlq;subst hA;subst hcc;obtain ⟨q,hq⟩:∃q,3 * k=q:=⟨_,rfl⟩;obtain ⟨a0,a1,a2⟩:=ZN (z06 Ho.out nx3 (fun _ _ hf=>hf)) hkl hq;have hq':k * 3=q:=(by omega);have hlt2:(k:Int)<(nt:Int):=(by omega);have hk0:(0:Int)<=(k:Int):=(by omega);have jU:=ah (z1O hkl);have htk:=CX.out _ (List.getElem_mem hkl);clear hq;generalize l[k]=tk at *;obtain ⟨tb,htb⟩:∃tb,w3.heap.size=tb:=⟨_,rfl⟩;obtain ⟨w4,hw4⟩:∃w4,w3.alloc (.cells #[.int .i64 (tk.len:Int),.int .i64 (tk.dist:Int),.int .u8 (tk.byte:Int)] 312)=w4:=⟨_,rfl⟩;have n4:Nx w3 (w3.alloc (.cells #[.int .i64 (tk.len:Int),.int .i64 (tk.dist:Int),.int .u8 (tk.byte:Int)] 312)):=(Ch.refl _ w3).alloc _;have hB4:=aG.new w3 312 #[.int .i64 (tk.len:Int),.int .i64 (tk.dist:Int),.int .u8 (tk.byte:Int)];rw[hw4]at n4 hB4;rw[htb]at hB4;have HW:=ah hw4;have HT:=ah htb;have rw4:=rw3.ch n4 (fun hf=>hf) (fun _ _ hf=>hf);have nx4:=nx3.tr n4;clear htb hw4 rw3;go_upto_region 9 with fail
   try simp only[HT.out,HW.out]
   clear HT HW a0 a1 a2 n4 nx3;have d0:w4.cell? ⟨tb,0,none⟩=some (.int .i64 (tk.len:Int)):=hB4.cell 0;have d1:w4.cell? ⟨tb,1,none⟩=some (.int .i64 (tk.dist:Int)):=hB4.cell 1;have d2:w4.cell? ⟨tb,2,none⟩=some (.int .u8 (tk.byte:Int)):=hB4.cell 2;by_cases hz:tk.len=0
   ·have hb:vJ tk=jV tk.byte:=by unfold vJ;rw[if_pos hz]
    have Hb:=ah hb;have hby:tk.byte<256:=by rcases htk with h|h;exact h.2;omega
    have Xu:((tk.len:Int)==0)=true:=by rw[beq_iff_eq];omega
    clear hb htk hz;go_wp2_with fail;refine (Oa g h3 _ tk.byte w4 rw4 (by omega) (by omega)).mono ?_;rintro e w5 ⟨rfl,t5⟩;have h5:=dU.next nx4 hg1 hh3 t5;go_wp2_with fail;go_roundw
    case rel=>exact ⟨k+1,by omega,by go_num,by rw[jU.out,Hb.out];exact h5⟩
    case measure=>simp[intOf];omega
   ·have hb:vJ tk=zA tk.len++z11 (tk.dist-1):=by unfold vJ;rw[if_neg hz]
    have Hb:=ah hb;have hok:3<=tk.len/\tk.len<=258/\1<=tk.dist/\tk.dist<=32768:=by rcases htk with h|h;exact absurd h.1 hz;exact h
    have Xu:((tk.len:Int)==0)=false:=by rw[beq_eq_false_iff_ne];omega
    clear hb htk hz;go_wp2_with fail;refine (z2G g h3 _ tk.len tk.dist w4 rw4 (by omega) hok.1 hok.2.1 hok.2.2.1 hok.2.2.2).mono ?_;rintro e w5 ⟨rfl,t5⟩;have h5:=dU.next nx4 hg1 hh3 t5;go_wp2_with fail;go_roundw
    case rel=>exact ⟨k+1,by omega,by go_num,by rw[jU.out,Hb.out];exact h5⟩
    case measure=>simp[intOf];omega
  ·have hkn:k=nt:=by omega
   have htake:l.take k=l:=List.take_of_length_le (by rw[SC.out];omega);rw[htake]at rw3 hl3;have hlt2:¬((k:Int)<(nt:Int)):=(by omega);clear htake;go_wp2_with fail;refine (Oa g h3 _ 256 w3 rw3 (by omega) (by omega)).mono ?_;rintro e w4 ⟨rfl,t4⟩;obtain ⟨h4,rw4,hh4,nx4⟩:=dU.next nx3 hg1 hh3 t4;rw[show vg l++jV 256=kD l from rfl]at rw4;have hl4:(kD l).length<=20000000:=by unfold kD;rw[List.length_append];have:=Rl 256;omega
   clear t4 rw3;go_wp2_with fail;refine (z30 g h4 _ w4 rw4 (by omega)).mono ?_;rintro e w5 ⟨k5,cap5,rfl,hk5,hk5',ho5,iO,nx5⟩;have hr5:=(hr1.nx (by decide) nx4).nx (by decide) nx5;go_wp2_with fail;refine (Fp D A c xs w5 hr5 hc hl).mono ?_;rintro e w6 ⟨v6,rfl,ho6⟩;obtain ⟨A6,c6,rfl,_,_⟩:=ho6.form;have nx6:=ho6.nx;have hall:=n1.tr ((nx4.tr nx5).tr nx6);have uD:=iO.nx (by decide) nx6;have hs6:=ho6.rd;clear ho5 iO ho6;generalize pack (kD l)=pf at *;generalize dA xs=ps at *;by_cases hlt3:pf.length<ps.length
   ·have hd:bY xs=pf:=by rw[HD.out,if_pos hlt3]
    have Hd:=ah hd;have hlt4:(pf.length:Int)<(ps.length:Int):=(by omega);clear hd;go_wp2_with fail;go_ret2;rw[Hd.out];exact ⟨_,_,rfl,⟨_,uD⟩,hall⟩
   ·have hd:bY xs=ps:=by rw[HD.out,if_neg hlt3]
    have Hd:=ah hd;have hlt4:¬((pf.length:Int)<(ps.length:Int)):=(by omega);clear hd;go_wp2_with fail;go_ret2;rw[Hd.out];exact ⟨_,_,rfl,⟨_,hs6⟩,hall⟩
theorem lK (A:Option Addr) (n c:Nat) (W:World) (hn:65536<n):
 Calls Tryz.prog 219 #[.slice A n c] W fun e w'=>e=.returned (.tuple #[.slice none 0 0,.int .i64 5])/\Nx W w':=by
 have hn2:(65536:Int)<(n:Int):=by omega
 go_enter Tryz.func219,Tryz.ntmps219;go_wp2_with fail;go_ret2;exact ⟨rfl,(Ch.refl _ W).alloc _⟩
theorem z3p (A:Option Addr) (n c:Nat) (W:World) (hn:65536<n):
 Calls Tryz.prog 203 #[.slice A n c] W fun e w'=>e=.returned (.tuple #[.slice none 0 0,.int .i64 5])/\Nx W w':=by
 go_enter Tryz.func203,Tryz.ntmps203;go_wp2_with fail;refine (lK A n c W hn).mono ?_;rintro e w1 ⟨rfl,n1⟩;go_wp2_with fail;go_ret2;exact ⟨rfl,n1⟩
set_option maxRecDepth 100000 in
theorem lM (D:Nat->Prop) (A:Option Addr) (c:Nat) (xs:List Nat) (W:World) (hr:Rd W D 1 A xs.length (bl xs)) (ok:okB xs) (hl:xs.length<=65536) (m:Nat) (hfew:(pack (kD (aJ xs xs.length 0))).length<m)
 (hS:∀w:World,Rd w D 1 A xs.length (bl xs)->Calls Tryz.prog 222 #[.slice A xs.length c] w fun e w'=>∃A' c',e=.returned (.slice A' m c')/\Nx w w'):
 Calls Tryz.prog 203 #[.slice A xs.length c] W fun e w'=>∃A' c',e=.returned (.tuple #[.slice A' (pack (kD (aJ xs xs.length 0))).length c',.int .i64 0])/\(∃D',Rd w' D' 1 A' (pack (kD (aJ xs xs.length 0))).length (bl (pack (kD (aJ xs xs.length 0)))))/\Nx W w':=by
 have HS:=ah hS;clear hS;have htl:=z2h (b:=xs) xs.length 0;have htok:=z2E ok xs.length 0;obtain ⟨l,hlt0⟩:∃l,aJ xs xs.length 0=l:=⟨_,rfl⟩;rw[hlt0]at hfew htl htok ⊢;have HL0:=ah hlt0;clear hlt0;go_enter Tryz.func203,Tryz.ntmps203;go_wp2_with fail;refine (ZJ D A c xs W hr ok (by omega)).mono ?_;rintro e w1 ⟨v,rfl,ho,n1⟩;have hr1:=hr.nx (by decide) n1;rw[HL0.out]at ho;obtain ⟨nt,hnt⟩:∃nt,l.length=nt:=⟨_,rfl⟩;rw[hnt]at ho htl;obtain ⟨A1,c1,rfl,_,_⟩:=h_ ho;have SC:=ah hnt;have Ho:=ah ho;have CX:=ah htok;have hnew:=gY.new w1;have nw:Nx w1 (w1.alloc (.cells #[.slice none 0 0,.int .i64 0] 268)):=(Ch.refl _ w1).alloc _;obtain ⟨g,hg⟩:∃g,w1.heap.size=g:=⟨_,rfl⟩;have hg1:w1.heap.size<=g:=by omega
 rw[hg]at hnew;clear hnt ho htok;go_wp2_with fail;refine (Tf g none [] 3 3 _ hnew (by simp) (by omega) (by omega)).mono ?_;rintro e w2 ⟨rfl,t2⟩;have h2:=dU.next nw hg1 (by intro j hj;cases hj) t2;clear t2 hnew nw;go_wp2_with fail;go_loopw [25] (fun i wr=>∃k:Nat,k<=nt/\i=.int .i64 (k:Int)/\dU w1 wr g (vg (l.take k))) (fun i _=>nt-(intOf i).toNat)
 case atStart=>exact ⟨0,Nat.zero_le _,rfl,by simpa [vg]using h2⟩
 case round=>
  clear h2;obtain ⟨w3,rfl⟩:∃w3:World,w3=wr:=⟨_,rfl⟩;obtain ⟨k,hk,rfl,h3,rw3,hh3,nx3⟩:=hrel
  have hl3:(vg (l.take k)).length<=10000000:=by
   have h1:=z2k (l.take k);have h2:(l.take k).length<=k:=by simp;omega
   omega
  by_cases hlt:k<nt
  ·have hkl:k<l.length:=by rw[SC.out];exact hlt
   obtain ⟨g1,cap,hv,_,_⟩:=Ho.out.form (by omega);injection hv with hA hlq hcc;clear hlq;subst hA;subst hcc;obtain ⟨q,hq⟩:∃q,3 * k=q:=⟨_,rfl⟩;obtain ⟨a0,a1,a2⟩:=ZN (z06 Ho.out nx3 (fun _ _ hf=>hf)) hkl hq;have hq':k * 3=q:=(by omega);have hlt2:(k:Int)<(nt:Int):=(by omega);have hk0:(0:Int)<=(k:Int):=(by omega);have jU:=ah (z1O hkl);have htk:=CX.out _ (List.getElem_mem hkl);clear hq;generalize l[k]=tk at *;obtain ⟨tb,htb⟩:∃tb,w3.heap.size=tb:=⟨_,rfl⟩;obtain ⟨w4,hw4⟩:∃w4,w3.alloc (.cells #[.int .i64 (tk.len:Int),.int .i64 (tk.dist:Int),.int .u8 (tk.byte:Int)] 312)=w4:=⟨_,rfl⟩;have n4:Nx w3 (w3.alloc (.cells #[.int .i64 (tk.len:Int),.int .i64 (tk.dist:Int),.int .u8 (tk.byte:Int)] 312)):=(Ch.refl _ w3).alloc _;have hB4:=aG.new w3 312 #[.int .i64 (tk.len:Int),.int .i64 (tk.dist:Int),.int .u8 (tk.byte:Int)];rw[hw4]at n4 hB4;rw[htb]at hB4;have HW:=ah hw4;have HT:=ah htb;have rw4:=rw3.ch n4 (fun hf=>hf) (fun _ _ hf=>hf);have nx4:=nx3.tr n4;clear htb hw4 rw3;go_upto_region 9 with fail
   try simp only[HT.out,HW.out]
   clear HT HW a0 a1 a2 n4 nx3;have d0:w4.cell? ⟨tb,0,none⟩=some (.int .i64 (tk.len:Int)):=hB4.cell 0;have d1:w4.cell? ⟨tb,1,none⟩=some (.int .i64 (tk.dist:Int)):=hB4.cell 1;have d2:w4.cell? ⟨tb,2,none⟩=some (.int .u8 (tk.byte:Int)):=hB4.cell 2;by_cases hz:tk.len=0
   ·have hb:vJ tk=jV tk.byte:=by unfold vJ;rw[if_pos hz]
    have Hb:=ah hb;have hby:tk.byte<256:=by rcases htk with h|h;exact h.2;omega
    have Xu:((tk.len:Int)==0)=true:=by rw[beq_iff_eq];omega
    clear hb htk hz;go_wp2_with fail;refine (Oa g h3 _ tk.byte w4 rw4 (by omega) (by omega)).mono ?_;rintro e w5 ⟨rfl,t5⟩;have h5:=dU.next nx4 hg1 hh3 t5;go_wp2_with fail;go_roundw
    case rel=>exact ⟨k+1,by omega,by go_num,by rw[jU.out,Hb.out];exact h5⟩
    case measure=>simp[intOf];omega
   ·have hb:vJ tk=zA tk.len++z11 (tk.dist-1):=by unfold vJ;rw[if_neg hz]
    have Hb:=ah hb;have hok:3<=tk.len/\tk.len<=258/\1<=tk.dist/\tk.dist<=32768:=by rcases htk with h|h;exact absurd h.1 hz;exact h
    have Xu:((tk.len:Int)==0)=false:=by rw[beq_eq_false_iff_ne];omega
    clear hb htk hz;go_wp2_with fail;refine (z2G g h3 _ tk.len tk.dist w4 rw4 (by omega) hok.1 hok.2.1 hok.2.2.1 hok.2.2.2).mono ?_;rintro e w5 ⟨rfl,t5⟩;have h5:=dU.next nx4 hg1 hh3 t5;go_wp2_with fail;go_roundw
    case rel=>exact ⟨k+1,by omega,by go_num,by rw[jU.out,Hb.out];exact h5⟩
    case measure=>simp[intOf];omega
  ·have hkn:k=nt:=by omega
   have htake:l.take k=l:=List.take_of_length_le (by rw[SC.out];omega);rw[htake]at rw3 hl3;have hlt2:¬((k:Int)<(nt:Int)):=(by omega);clear htake;go_wp2_with fail;refine (Oa g h3 _ 256 w3 rw3 (by omega) (by omega)).mono ?_;rintro e w4 ⟨rfl,t4⟩;obtain ⟨h4,rw4,hh4,nx4⟩:=dU.next nx3 hg1 hh3 t4;rw[show vg l++jV 256=kD l from rfl]at rw4;have hl4:(kD l).length<=20000000:=by unfold kD;rw[List.length_append];have:=Rl 256;omega
   clear t4 rw3;go_wp2_with fail;refine (z30 g h4 _ w4 rw4 (by omega)).mono ?_;rintro e w5 ⟨k5,cap5,rfl,hk5,hk5',ho5,iO,nx5⟩;have hr5:=(hr1.nx (by decide) nx4).nx (by decide) nx5;go_wp2_with fail;refine (HS.out w5 hr5).mono ?_;rintro e w6 ⟨A6,c6,rfl,nx6⟩;have hall:=n1.tr ((nx4.tr nx5).tr nx6);have uD:=iO.nx (by decide) nx6;clear ho5 iO;obtain ⟨pf,hpf⟩:∃pf,pack (kD l)=pf:=⟨_,rfl⟩;rw[hpf]at uD hfew ⊢;have Zy:=ah hpf;clear hpf;have hlt4:(pf.length:Int)<(m:Int):=(by omega);go_wp2_with fail;go_ret2;rw[Zy.out];exact ⟨_,_,rfl,⟨_,uD⟩,hall⟩
set_option maxRecDepth 100000 in
theorem oP (D:Nat->Prop) (A:Option Addr) (c:Nat) (xs:List Nat) (W:World) (hr:Rd W D 1 A 65536 (bl xs)) (hc:65536<=c):
 Calls Tryz.prog 222 #[.slice A 65536 c] W fun e w'=>∃A' c',e=.returned (.slice A' 65546 c')/\Nx W w':=by
 obtain ⟨i0,hi0,hz0,hz1,hz2⟩:=info_parts Tryz.info5;obtain ⟨ad,hA,UF,_⟩:=hr.2 (by omega);subst hA;have hlx:xs.length=65536:=by have:=hr.1;rw[Rh]at this;omega
 have hr1:Rd W D 1 (some ad) 65535 (bl (xs.take 65535)):=by
  have:=hr.take (k:=65535) (by omega);rw[Nat.mul_one]at this;rw[show bl (xs.take 65535)=(bl xs).take 65535 by simp[bl,List.map_take]];exact this
 have hr2:Rd W D 1 (some (ad.add 65535)) 1 (bl (xs.drop 65535)):=by
  have h0:=hr.cut (k:=65535) (cap:=c) (by omega) (by omega);rw[if_neg (by omega),Nat.mul_one]at h0;rw[show bl (xs.drop 65535)=(bl xs).drop 65535 by simp[bl,List.map_drop]];exact h0
 have T0:=aF.nil W (W.alloc (.cells #[.int .u8 0,.int .u8 255,.int .u8 255,.int .u8 0,.int .u8 0] 5)) 5 1 ((Ch.refl _ W).alloc _)
 have iO:Rd (W.alloc (.cells #[.int .u8 0,.int .u8 255,.int .u8 255,.int .u8 0,.int .u8 0] 5)) (fun k=>k=W.heap.size) 1 (some ⟨W.heap.size,0,none⟩) 5 (bl [0,255,255,0,0]):=
  ⟨rfl,fun _=>⟨_,rfl,rfl,World.news_of_block (aG.new W 5 #[.int .u8 0,.int .u8 255,.int .u8 255,.int .u8 0,.int .u8 0])⟩⟩
 have HR5:=ah iO;have HR1:=ah hr1;have HR2:=ah hr2;have hc1:(65535:Int)<=(c:Int):=by omega
 have hc2:(65536:Int)<=(c:Int):=by omega
 have hc3:¬c=65535:=by omega
 clear iO hr hr1 hr2;go_enter Tryz.func222,Tryz.ntmps222;go_wp2_with fail;refine wp_loop_rounds 2 ?_;rw[rounds_succ]
 go_wp2_with (at_builtin;first
  |(refine z05 rfl (.tmp 13) (.tmp 27) _ rfl 5 i0 _ 1 1 Tryz.underlying47 hi0 hz0 hz1 hz2 rfl (by omega) rfl T0 _ (some ⟨W.heap.size,0,none⟩) 5 5 (bl [0,255,255,0,0]) rfl HR5.out (jk _) (by simp[maxLen]) (by omega) ?_;intro v3 w3 o3 m3)
  |(refine z05 rfl (.tmp 29) (.tmp 32) _ rfl 5 i0 _ 1 1 Tryz.underlying47 hi0 hz0 hz1 hz2 rfl (by omega) rfl o3 _ (some ad) 65535 c (bl (xs.take 65535)) rfl (HR1.out.nx (by decide) o3.nx) (jk _) (by simp[maxLen]) (by omega) ?_;intro v4 w4 o4 m4))
 have T1:=o4.alloc (.cells #[.int .u8 1,.int .u8 1,.int .u8 0,.int .u8 254,.int .u8 255] 5)
 have iO:Rd (w4.alloc (.cells #[.int .u8 1,.int .u8 1,.int .u8 0,.int .u8 254,.int .u8 255] 5)) (fun k=>k=w4.heap.size) 1 (some ⟨w4.heap.size,0,none⟩) 5 (bl [1,1,0,254,255]):=
  ⟨rfl,fun _=>⟨_,rfl,rfl,World.news_of_block (aG.new w4 5 #[.int .u8 1,.int .u8 1,.int .u8 0,.int .u8 254,.int .u8 255])⟩⟩
 have HR6:=ah iO;obtain ⟨c2,hcc⟩:∃c2,c-65535=c2:=⟨_,rfl⟩;have hc4:(1:Int)<=(c2:Int):=by omega
 simp only[hcc];obtain ⟨n4,hn4⟩:∃n4,0+5+65535=n4:=⟨_,rfl⟩;have hn5:n4+5+1=65546:=by omega
 have Hn5:=ah hn5;have hn6:n4<=100000:=by omega
 rw[hn4]at T1;clear iO hcc hc hc1 hc2 hc3 hlx HR1 HR5 T0 o3 m3 o4 m4 hn4 hn5;rw[rounds_succ]
 go_wp2_with (at_builtin;first
  |(refine z05 rfl (.tmp 13) (.tmp 27) _ rfl 5 i0 _ 1 1 Tryz.underlying47 hi0 hz0 hz1 hz2 rfl (by omega) rfl T1 _ (some ⟨w4.heap.size,0,none⟩) 5 5 (bl [1,1,0,254,255]) rfl HR6.out (jk _) (by simp only[maxLen];omega) (by omega) ?_;intro v5 w5 o5 m5)
  |(refine z05 rfl (.tmp 29) (.tmp 32) _ rfl 5 i0 _ 1 1 Tryz.underlying47 hi0 hz0 hz1 hz2 rfl (by omega) rfl o5 _ (some (ad.add 65535)) 1 c2 (bl (xs.drop 65535)) rfl (HR2.out.nx (by decide) o5.nx) (jk _) (by simp only[maxLen];omega) (by omega) ?_;intro v6 w6 o6 m6;rw[Hn5.out]at o6;obtain ⟨A6,c6,rfl,_,_⟩:=o6.form))
 all_goals go_ret
 all_goals first|exact o6.nx|exact ⟨⟨_,_,rfl⟩,o6.nx⟩|exact ⟨_,_,rfl,o6.nx⟩
set_option maxRecDepth 100000 in
theorem z3o (D:Nat->Prop) (A:Option Addr) (c:Nat) (xs:List Nat) (W:World) (hr:Rd W D 1 A xs.length (bl xs)) (ok:okB xs) (hl:xs.length<=65536) (m:Nat) (hfew:¬(pack (kD (aJ xs xs.length 0))).length<m)
 (hS:∀w:World,Rd w D 1 A xs.length (bl xs)->Calls Tryz.prog 222 #[.slice A xs.length c] w fun e w'=>∃A' c',e=.returned (.slice A' m c')/\Nx w w'):
 Calls Tryz.prog 203 #[.slice A xs.length c] W fun e w'=>∃A' c',e=.returned (.tuple #[.slice A' m c',.int .i64 0])/\Nx W w':=by
 have HS:=ah hS;clear hS;have htl:=z2h (b:=xs) xs.length 0;have htok:=z2E ok xs.length 0;obtain ⟨l,hlt0⟩:∃l,aJ xs xs.length 0=l:=⟨_,rfl⟩;rw[hlt0]at hfew htl htok;have HL0:=ah hlt0;clear hlt0;go_enter Tryz.func203,Tryz.ntmps203;go_wp2_with fail;refine (ZJ D A c xs W hr ok (by omega)).mono ?_;rintro e w1 ⟨v,rfl,ho,n1⟩;have hr1:=hr.nx (by decide) n1;rw[HL0.out]at ho;obtain ⟨nt,hnt⟩:∃nt,l.length=nt:=⟨_,rfl⟩;rw[hnt]at ho htl;obtain ⟨A1,c1,rfl,_,_⟩:=h_ ho;have SC:=ah hnt;have Ho:=ah ho;have CX:=ah htok;have hnew:=gY.new w1;have nw:Nx w1 (w1.alloc (.cells #[.slice none 0 0,.int .i64 0] 268)):=(Ch.refl _ w1).alloc _;obtain ⟨g,hg⟩:∃g,w1.heap.size=g:=⟨_,rfl⟩;have hg1:w1.heap.size<=g:=by omega
 rw[hg]at hnew;clear hnt ho htok;go_wp2_with fail;refine (Tf g none [] 3 3 _ hnew (by simp) (by omega) (by omega)).mono ?_;rintro e w2 ⟨rfl,t2⟩;have h2:=dU.next nw hg1 (by intro j hj;cases hj) t2;clear t2 hnew nw;go_wp2_with fail;go_loopw [25] (fun i wr=>∃k:Nat,k<=nt/\i=.int .i64 (k:Int)/\dU w1 wr g (vg (l.take k))) (fun i _=>nt-(intOf i).toNat)
 case atStart=>exact ⟨0,Nat.zero_le _,rfl,by simpa [vg]using h2⟩
 case round=>
  clear h2;obtain ⟨w3,rfl⟩:∃w3:World,w3=wr:=⟨_,rfl⟩;obtain ⟨k,hk,rfl,h3,rw3,hh3,nx3⟩:=hrel
  have hl3:(vg (l.take k)).length<=10000000:=by
   have h1:=z2k (l.take k);have h2:(l.take k).length<=k:=by simp;omega
   omega
  by_cases hlt:k<nt
  ·have hkl:k<l.length:=by rw[SC.out];exact hlt
   obtain ⟨g1,cap,hv,_,_⟩:=Ho.out.form (by omega);injection hv with hA hlq hcc;clear hlq;subst hA;subst hcc;obtain ⟨q,hq⟩:∃q,3 * k=q:=⟨_,rfl⟩;obtain ⟨a0,a1,a2⟩:=ZN (z06 Ho.out nx3 (fun _ _ hf=>hf)) hkl hq;have hq':k * 3=q:=(by omega);have hlt2:(k:Int)<(nt:Int):=(by omega);have hk0:(0:Int)<=(k:Int):=(by omega);have jU:=ah (z1O hkl);have htk:=CX.out _ (List.getElem_mem hkl);clear hq;generalize l[k]=tk at *;obtain ⟨tb,htb⟩:∃tb,w3.heap.size=tb:=⟨_,rfl⟩;obtain ⟨w4,hw4⟩:∃w4,w3.alloc (.cells #[.int .i64 (tk.len:Int),.int .i64 (tk.dist:Int),.int .u8 (tk.byte:Int)] 312)=w4:=⟨_,rfl⟩;have n4:Nx w3 (w3.alloc (.cells #[.int .i64 (tk.len:Int),.int .i64 (tk.dist:Int),.int .u8 (tk.byte:Int)] 312)):=(Ch.refl _ w3).alloc _;have hB4:=aG.new w3 312 #[.int .i64 (tk.len:Int),.int .i64 (tk.dist:Int),.int .u8 (tk.byte:Int)];rw[hw4]at n4 hB4;rw[htb]at hB4;have HW:=ah hw4;have HT:=ah htb;have rw4:=rw3.ch n4 (fun hf=>hf) (fun _ _ hf=>hf);have nx4:=nx3.tr n4;clear htb hw4 rw3;go_upto_region 9 with fail
   try simp only[HT.out,HW.out]
   clear HT HW a0 a1 a2 n4 nx3;have d0:w4.cell? ⟨tb,0,none⟩=some (.int .i64 (tk.len:Int)):=hB4.cell 0;have d1:w4.cell? ⟨tb,1,none⟩=some (.int .i64 (tk.dist:Int)):=hB4.cell 1;have d2:w4.cell? ⟨tb,2,none⟩=some (.int .u8 (tk.byte:Int)):=hB4.cell 2;by_cases hz:tk.len=0
   ·have hb:vJ tk=jV tk.byte:=by unfold vJ;rw[if_pos hz]
    have Hb:=ah hb;have hby:tk.byte<256:=by rcases htk with h|h;exact h.2;omega
    have Xu:((tk.len:Int)==0)=true:=by rw[beq_iff_eq];omega
    clear hb htk hz;go_wp2_with fail;refine (Oa g h3 _ tk.byte w4 rw4 (by omega) (by omega)).mono ?_;rintro e w5 ⟨rfl,t5⟩;have h5:=dU.next nx4 hg1 hh3 t5;go_wp2_with fail;go_roundw
    case rel=>exact ⟨k+1,by omega,by go_num,by rw[jU.out,Hb.out];exact h5⟩
    case measure=>simp[intOf];omega
   ·have hb:vJ tk=zA tk.len++z11 (tk.dist-1):=by unfold vJ;rw[if_neg hz]
    have Hb:=ah hb;have hok:3<=tk.len/\tk.len<=258/\1<=tk.dist/\tk.dist<=32768:=by rcases htk with h|h;exact absurd h.1 hz;exact h
    have Xu:((tk.len:Int)==0)=false:=by rw[beq_eq_false_iff_ne];omega
    clear hb htk hz;go_wp2_with fail;refine (z2G g h3 _ tk.len tk.dist w4 rw4 (by omega) hok.1 hok.2.1 hok.2.2.1 hok.2.2.2).mono ?_;rintro e w5 ⟨rfl,t5⟩;have h5:=dU.next nx4 hg1 hh3 t5;go_wp2_with fail;go_roundw
    case rel=>exact ⟨k+1,by omega,by go_num,by rw[jU.out,Hb.out];exact h5⟩
    case measure=>simp[intOf];omega
  ·have hkn:k=nt:=by omega
   have htake:l.take k=l:=List.take_of_length_le (by rw[SC.out];omega);rw[htake]at rw3 hl3;have hlt2:¬((k:Int)<(nt:Int)):=(by omega);clear htake;go_wp2_with fail;refine (Oa g h3 _ 256 w3 rw3 (by omega) (by omega)).mono ?_;rintro e w4 ⟨rfl,t4⟩;obtain ⟨h4,rw4,hh4,nx4⟩:=dU.next nx3 hg1 hh3 t4;rw[show vg l++jV 256=kD l from rfl]at rw4;have hl4:(kD l).length<=20000000:=by unfold kD;rw[List.length_append];have:=Rl 256;omega
   clear t4 rw3;go_wp2_with fail;refine (z30 g h4 _ w4 rw4 (by omega)).mono ?_;rintro e w5 ⟨k5,cap5,rfl,hk5,hk5',ho5,iO,nx5⟩;have hr5:=(hr1.nx (by decide) nx4).nx (by decide) nx5;go_wp2_with fail;refine (HS.out w5 hr5).mono ?_;rintro e w6 ⟨A6,c6,rfl,nx6⟩;have hall:=n1.tr ((nx4.tr nx5).tr nx6);have uD:=iO.nx (by decide) nx6;clear ho5 iO;obtain ⟨pf,hpf⟩:∃pf,pack (kD l)=pf:=⟨_,rfl⟩;rw[hpf]at uD hfew ⊢;have Zy:=ah hpf;clear hpf;have hlt4:¬((pf.length:Int)<(m:Int)):=(by omega);go_wp2_with fail;go_ret2;exact ⟨_,_,rfl,hall⟩
def SX (W:World) (xs:List Nat) (e:Ending) (w':World):Prop:=
 ∃A' c' L,e=.returned (.tuple #[.slice A' L c',.int .i64 0])/\Nx W w'/\((bY xs).length<xs.length->L=(bY xs).length/\∃D',Rd w' D' 1 A' (bY xs).length (bl (bY xs)))/\(¬(bY xs).length<xs.length->xs.length<=L)
theorem lJ (xs:List Nat):(dA xs).length=xs.length+5:=by simp[dA,S_]
theorem oQ (D:Nat->Prop) (A:Option Addr) (n c:Nat) (xs:List Nat) (W:World) (hr:Rd W D 1 A n (bl xs)) (ok:okB xs) (hl:xs.length=n) (hc:n<=c) (hn:n<=65536):
 Calls Tryz.prog 203 #[.slice A n c] W (SX W xs):=by
 subst hl;by_cases h5:xs.length<=65535
 ·refine (zY D A c xs W hr ok hc h5).mono ?_
  rintro e w' ⟨A',c',rfl,hrd,n1⟩;exact ⟨A',c',_,rfl,n1,fun _=>⟨rfl,hrd⟩,fun h=>by omega⟩
 ·have h6:xs.length=65536:=by omega
  have hS:∀w:World,Rd w D 1 A xs.length (bl xs)->Calls Tryz.prog 222 #[.slice A xs.length c] w fun e w'=>∃A' c',e=.returned (.slice A' 65546 c')/\Nx w w':=fun w h=>by
   rw[h6]at h ⊢;exact oP D A c xs w h (by omega)
  have hs1:=lJ xs;by_cases hm:(pack (kD (aJ xs xs.length 0))).length<65546
  ·refine (lM D A c xs W hr ok (by omega) 65546 hm hS).mono ?_
   rintro e w' ⟨A',c',rfl,hrd,n1⟩;refine ⟨A',c',_,rfl,n1,fun h=>?_,fun h=>?_⟩
   ·have e1:bY xs=pack (kD (aJ xs xs.length 0)):=by
     unfold bY at h ⊢;split at h
     ·next h2=>rw[if_pos h2]
     ·omega
    rw[e1];exact ⟨rfl,hrd⟩
   ·have:¬(pack (kD (aJ xs xs.length 0))).length<xs.length:=fun h2=>h (by
     unfold bY;rw[if_pos (by omega)];exact h2)
    omega
  ·refine (z3o D A c xs W hr ok (by omega) 65546 hm hS).mono ?_
   rintro e w' ⟨A',c',rfl,n1⟩;refine ⟨A',c',_,rfl,n1,fun h=>?_,fun h=>by omega⟩;exfalso
   unfold bY at h;split at h<;>omega
end Go.Proofs.YtdbfejfhpkakhaaGreat
