/- Contracts and plain laws that the last text rests on. Conditions: each theorem states its own. -/
import Derived.Test.YtpakjclpjcngmaaGreatKqQ22
import Derived.Test.YtpakjclpjcngmaaGreatKqQ33
import Derived.Test.YtpakjclpjcngmaaGreatKqQ3
import Derived.Deep.CutBlock
import Derived.Deep.DeepCutAuto
import Derived.Test.YtpakjclpjcngmaaGreatKqQ5
import Derived.Test.YtpakjclpjcngmaaGreatKqQ2
import Derived.Maps.Views
import Derived.Maps.OwnOps
import Derived.Test.YtpakjclpjcngmaaGreatKqQ18
import Derived.BigRegion
set_option maxRecDepth 100000
set_option maxHeartbeats 8000000
set_option linter.unusedVariables false
namespace Go.Proofs.YtpakjclpjcngmaaGreat
open Go.RowKit
structure Py (w:World) (q:dN) (B:Option Addr) (d:Nat):Prop where
 rd:Rd w (fun k=>k<w.heap.size) 3 B q.ms.length (Ry q.ms)
 sm:∀x∈q.ms,x.small
 i0:i64 q.lo
 i1:i64 q.hi
 i2:i64 q.limit
 hd:q.ms.length<=d
 hd2:d<=maxLen
theorem Py.nx {w w':World} {q:dN} {B:Option Addr} {d:Nat} (h:Py w q B d) (c:Nx w w'):Py w' q B d:=
 ⟨(h.rd.nx (by decide) c).more fun k hk=>Nat.lt_of_lt_of_le hk c.size,h.sm,h.i0,h.i1,h.i2,h.hd,h.hd2⟩
theorem z3E {w:World} {q:dN} {B:Option Addr} {d:Nat} (h:Py w q B d):Calls Tryz.prog 33 #[iU q B d] w fun e w'=>e=.returned (.bool (kW q))/\Nx w w':=
 qj q h.rd (fun _ h=>h) h.sm h.i0 h.i1 h.i2 h.hd h.hd2
theorem vP {w:World} {q:dN} {B:Option Addr} {d:Nat} {D:Nat->Prop} {x:RV} (h:Py w q B d) (h8:kW q=true) (hx:x.ok w D) (hf:x.row.few):Calls Tryz.prog 86 #[iU q B d,bG x] w fun e w'=>e=.returned (.bool (jo q x.row))/\Nx w w':=
 z5j q x hx hf.1 h.rd h.sm h.i0 h.i1 h.i2 h.hd h.hd2 hf.2 (by
  unfold kW at h8;rw[Bool.and_eq_true,decide_eq_true_eq]at h8;have:=h8.1.2.2.2.1;omega)
theorem KA {w:World} {q:dN} {B:Option Addr} {d:Nat} {D:Nat->Prop} {x:RV} (h:Py w q B d) (hx:x.ok w D) (hf:x.row.few):Calls Tryz.prog 35 #[iU q B d,bG x] w fun e w'=>e=.returned (.bool (Vd q x.row))/\Nx w w':=
 Nr q x hx hf.1 h.rd (fun _ h=>h) h.sm h.i0 h.i1 h.i2 h.hd h.hd2 hf.2
def iY (q:dN) (p:au->Bool) (l:List au):List au:=(zy q (l.filter p)).map (mg q)
section
variable {q : dN} {p : au → Bool} {l : List au} {x : au}
theorem Uy (h:p x=false):iY q p (l++[x])=iY q p l:=by
 unfold iY;rw[List.filter_append];simp[h]
theorem zK:(iY q p l).length=if q.limit=0 then (l.filter p).length else min q.limit.toNat (l.filter p).length:=by
 unfold iY zy;by_cases h:q.limit=0
 ·simp[h]
 ·simp[h]
theorem Uz (h:p x=true) (hl:q.limit=0∨(iY q p l).length<q.limit.toNat):iY q p (l++[x])=iY q p l++[mg q x]:=by
 have e:=zK (q:=q) (p:=p) (l:=l);unfold iY zy at *;rw[List.filter_append];by_cases h0:q.limit=0
 ·simp[h,h0]
 ·simp only[h0,if_false,false_or]at *
  rw[e]at hl;have h1:(l.filter p).length<q.limit.toNat:=by omega
  rw[List.take_of_length_le (by simp[h];omega),List.take_of_length_le (by omega)];simp[h]
theorem UA (h0:q.limit≠0) (hl:q.limit.toNat<=(iY q p l).length):iY q p (l++[x])=iY q p l:=by
 have e:=zK (q:=q) (p:=p) (l:=l);unfold iY zy at *;rw[List.filter_append];simp only[h0,if_false]at *;rw[e]at hl;rw[List.take_append_of_le_length (by omega)]
end
def afr (q:dN) (l:List RV) (w:World) (e:Ending) (w':World):Prop:=∃v os,e=.returned v/\dO w w' v os/\os.map (fun x=>x.row)=z15 q (l.map fun x=>x.row)
structure uG (W w5 wr:World) (v:Value) (os:List RV):Prop where
 rows:dO W wr v os
 own:aA w5 wr 58 9 v os.length (gq os)
theorem uG.tr {W w5 wr w':World} {v:Value} {os:List RV} (h:uG W w5 wr v os) (c:Nx wr w'):uG W w5 w' v os:=⟨h.rows.tr c,h.own.tr c⟩
theorem uG.nil {W w5:World} (c:Nx W w5):uG W w5 w5 (.slice none 0 0) []:=⟨dO.nil W w5 c,aA.nil w5 w5 _ 9 (Ch.refl _ _)⟩
theorem uG.app {W w5 w6 w8:World} {v v':Value} {os:List RV} {y:RV} (h:uG W w5 w6 v os) (hW:Nx W w5) (o:aA w5 w8 58 9 v' (os.length+1) (gq os++gq [y])) (m:Moved w6 w8 v v')
 (hy:y.ok w6 (fun k=>W.heap.size<=k/\k<w5.heap.size)):uG W w5 w8 v' (os++[y]):=by
 refine ⟨h.rows.app (ys:=[y]) (o.weak hW) m fun z hz=>?_,by rw[List.length_append,show gq (os++[y])=gq os++gq [y] by simp[gq]];exact o⟩;rw[List.mem_singleton]at hz;subst hz;refine hy.ch (Ch.refl (fun _=>False) w6) (fun _ _ _ hf=>hf) fun k hk=>⟨hk.1,Nat.lt_of_lt_of_le hk.2 h.own.nx.size,fun e=>?_⟩;have:=(h.own.lt k e).1;omega
section
variable {w : World} {D : Nat → Prop} {A B : Option Addr} {n c d : Nat} {l : List RV} {q : dN}
theorem z4x (l:List au) (h:kW q=false):z15 q l=[]:=by unfold z15;rw[h];rfl
theorem z4y (l:List au) (h:kW q=true):z15 q l=iY q (jo q) (eP dW l):=by unfold z15 iY;rw[h];rfl
theorem rP (hq:Py w q B d) (h:Rd w D 9 A n (gq l)) (hl:l.length=n) (hn:n<=1000000) (hk:∀x∈l,x.ok w D/\x.row.few):
 Calls Tryz.prog 36 #[iU q B d,.slice A n c] w (afr q l w):=by
 obtain ⟨i0,hi0,hz0,hz1,hz2⟩:=info_parts Tryz.lH;have HQ:=ah (fun w' (c':Nx w w')=>z3E (hq.nx c'));have HK0:=ah (fun (h8:kW q=true) w' (c':Nx w w') (x:RV) (D:Nat->Prop) (hx:x.ok w' D) (hf:x.row.few)=>vP (hq.nx c') h8 hx hf);have HS:=ah (fun w' (c':Nx w w')=>MI (c:=c) (h.nx (by decide) c') hl hn fun x hx=>⟨(hk x hx).1.ch c' (fun _ _ _ hf=>hf) fun _ hD=>hD,by have:=(hk x hx).2.2;omega⟩);have Hl:=ah hl;have aeP:=ah (fun x hx=>(hk x hx).2);have Hok:=ah (fun h=>z4x (q:=q) (l.map fun x=>x.row) h);have aeJ:=ah (fun h=>z4y (q:=q) (l.map fun x=>x.row) h);have hi64:=hq.i2;have SI:kW q=true->0<=q.limit/\q.limit<=2048:=fun h=>(yE h).2.2;have HST:Hid (∀x,mg q x=if q.texts then x else { x with text:=⟨#[]⟩}):=ah (fun x=>rfl);have HKP:=ah (fun (l:List au) (x:au) (h1:jo q x=true) (h2:q.limit=0∨(iY q (jo q) l).length<q.limit.toNat)=>Uz (q:=q) (p:=jo q) (l:=l) (x:=x) h1 h2);have HSK:=ah (fun (l:List au) (x:au) (h1:jo q x=false)=>Uy (q:=q) (p:=jo q) (l:=l) (x:=x) h1);have HFU:=ah (fun (l:List au) (x:au) (h1:q.limit≠0) (h2:q.limit.toNat<=(iY q (jo q) l).length)=>UA (q:=q) (p:=jo q) (l:=l) (x:=x) h1 h2);obtain ⟨lo,hi,ms,limit,texts⟩:=q;clear h hl hk hq;have HB:=ah (aG.new w 66 #[.int .i64 lo,.int .i64 hi,.slice B ms.length d,.int .i64 limit,.bool texts]);have HN:=ah ((Ch.refl (fun _=>False) w).alloc (.cells #[.int .i64 lo,.int .i64 hi,.slice B ms.length d,.int .i64 limit,.bool texts] 66));unfold iU at *;simp only at *;cases hqr:kW ⟨lo,hi,ms,limit,texts⟩
 ·have hE:=ah (Hok.out hqr)
  rw[hqr]at HQ;clear hqr HK0 HS SI;go_enter Tryz.func36,Tryz.ntmps36;go_wp2_with fail;refine (HQ.out _ HN.out).mono ?_;rintro e w1 ⟨rfl,n1⟩;have N1:=ah (HN.out.tr n1);have b1:=HB.out.nx n1;clear n1;go_wp2_with fail;go_ret;exact ⟨_,[],rfl,dO.nil _ _ N1.out,by rw[hE.out];rfl⟩
 ·have hE:=ah (aeJ.out hqr)
  obtain ⟨hlim1,hlim2⟩:=SI hqr;have HK:=ah (HK0.out hqr);rw[hqr]at HQ;clear hqr HK0 Hok aeJ SI;go_enter Tryz.func36,Tryz.ntmps36;go_wp2_with fail;refine (HQ.out _ HN.out).mono ?_;rintro e w1 ⟨rfl,n1⟩;have N1:=ah (HN.out.tr n1);have B1:=ah (HB.out.nx n1);clear n1 HN HB HQ;go_wp2_with fail;refine (HS.out _ N1.out).mono ?_;rintro e w5 ⟨v0,zs,rfl,hr5,hm5⟩;obtain ⟨A0,c0,rfl,hc1,hc2⟩:=hr5.form
  have hzn:zs.length=n:=by
   have:=congrArg List.length hm5;rw[List.length_map,(z2k _ _).length_eq,List.length_map,Hl.out]at this;exact this
  have hsub:∀z∈zs,z.row∈l.map fun x=>x.row:=fun z hz=>by
   have h1:z.row∈zs.map fun x=>x.row:=List.mem_map_of_mem hz;rw[hm5]at h1;exact (z2k _ _).subset h1
  have HFEW:=ah (fun z (hz:z∈zs)=>(by
   obtain ⟨x,hx,e⟩:=List.mem_map.1 (hsub z hz);rw[←e];exact aeP.out x hx:z.row.few))
  have HR5:=ah hr5;have HW:=ah (N1.out.tr hr5.own.nx);have B5:=ah (B1.out.nx hr5.own.nx);have HM5:=ah hm5;have HW1:=ah N1.out.size;subst hzn;clear hr5 hm5 hsub aeP HS N1 B1;generalize hnn:zs.length=n at *;have HZL:=ah hnn
  have RD5:Hid (Rd w5 (fun k=>k<w5.heap.size) 9 A0 n (gq zs)):=ah (by
   have h:=HR5.out;rw[←HZL.out]at h ⊢;exact h.rd)
  clear hnn;go_wp2_with fail;go_loopw [5,14] (fun v i wr=>∃(k:Nat) (os:List RV),k<=n/\i=.int .i64 (k:Int)/\Hid (uG w w5 wr v os)/\Hid (os.map (fun x=>x.row)=iY ⟨lo,hi,ms,limit,texts⟩ (jo ⟨lo,hi,ms,limit,texts⟩) ((zs.take k).map fun x=>x.row))) (fun _ i _=>n-(intOf i).toNat)
  case atStart=>exact ⟨0,[],Nat.zero_le _,rfl,ah (uG.nil HW.out),ah (by unfold iY zy;simp)⟩
  case round=>
   obtain ⟨w4,rfl⟩:∃w4:World,w4=wr:=⟨_,rfl⟩;obtain ⟨k,os,hkn,rfl,Hr,Hm⟩:=hrel;by_cases hlt:k<n
   ·have hkl:k<zs.length:=by rw[HZL.out];exact hlt
    have hosl:os.length<=k:=by
     have:=congrArg List.length Hm.out;rw[List.length_map,zK]at this;have h2:=List.length_filter_le (jo ⟨lo,hi,ms,limit,texts⟩) ((zs.take k).map fun x=>x.row);rw[List.length_map,List.length_take]at h2;simp only at this;split at this<;>omega
    have b4:=B5.out.nx Hr.out.own.nx;obtain ⟨ad,rfl,hb,p0,p1,p2,p3,p4,p5,p6,p7,p8⟩:=zW (RD5.out.nx (by decide) Hr.out.own.nx) hkl;have HX:=ah (HFEW.out _ (List.getElem_mem hkl));have HXO:=ah (HR5.out.ok _ (List.getElem_mem hkl));have HT:=ah (show ((zs.take (k+1)).map fun x=>x.row)=((zs.take k).map fun x=>x.row)++[zs[k].row] by rw[List.take_succ_eq_append_getElem hkl,List.map_append];rfl);have HB4:=ah b4;have q0:w4.cell? ⟨w.heap.size,0,none⟩=some (.int .i64 lo):=b4.cell 0;have q1:w4.cell? ⟨w.heap.size,1,none⟩=some (.int .i64 hi):=b4.cell 1;have q2:w4.cell? ⟨w.heap.size,2,none⟩=some (.slice B ms.length d):=b4.cell 2;have q3:w4.cell? ⟨w.heap.size,3,none⟩=some (.int .i64 limit):=b4.cell 3;have q4:w4.cell? ⟨w.heap.size,4,none⟩=some (.bool texts):=b4.cell 4;have hbl:w.heap.size<w4.heap.size:=b4.lt;clear b4 hb;generalize zs[k]=x at *;obtain ⟨⟨kind,time,ay,text,value,null,maker,seq,place⟩,A1,c1⟩:=x;simp only at p0 p1 p2 p3 p4 p5 p6 p7 p8 HX HXO HT;obtain ⟨A6,c6,hu5,hc6,hm6⟩:=Hr.out.rows.form;subst hu5;have hosc:os.length<=1000000:=(by omega);obtain ⟨kb,hkb⟩:∃kb,kb=(jo ⟨lo,hi,ms,limit,texts⟩ ⟨kind,time,ay,text,value,null,maker,seq,place⟩&&(decide (limit=0)||decide ((os.length:Int)<limit))):=⟨_,rfl⟩;have HKB:=ah hkb;clear hkb;have hk1:=ah (HK.out (w4.alloc (.cells #[.int .i64 kind,.int .i64 time,.slice A1 ay.length c1,.string text,.int .i64 value,.bool null,.int .i64 maker,.int .i64 seq,.int .i64 place] 58)) ((HW.out.tr Hr.out.own.nx).alloc _) ⟨⟨kind,time,ay,text,value,null,maker,seq,place⟩,A1,c1⟩ _ (HXO.out.ch (Hr.out.own.nx.alloc _) (D':=fun k=>w1.heap.size<=k/\k<w5.heap.size) (fun _ _ _ hf=>hf) (fun k hk=>⟨hk.1,hk.2.1⟩)) HX.out);unfold bG at hk1;simp only at hk1;go_upto_region 7 with fail
    go_cut [32] (fun s32 wx=>s32=.bool kb/\Hid (Nx (w4.alloc (.cells #[.int .i64 kind,.int .i64 time,.slice A1 ay.length c1,.string text,.int .i64 value,.bool null,.int .i64 maker,.int .i64 seq,.int .i64 place] 58)) wx))
    case first=>
     go_wp2_with fail;refine hk1.out.mono ?_;rintro e w6 ⟨rfl,n6⟩;have N6:=ah n6;have b6:=HB4.out.nx (((Ch.refl _ w4).alloc _).tr n6);have r3:w6.cell? ⟨w.heap.size,3,none⟩=some (.int .i64 limit):=b6.cell 3;clear n6 b6 hk1 q0 q1 q2 q3 q4 p0 p1 p2 p3 p4 p5 p6 p7 p8;cases hkp:jo ⟨lo,hi,ms,limit,texts⟩ ⟨kind,time,ay,text,value,null,maker,seq,place⟩
     ·rw[hkp]at HKB
      clear hkp;go_wp2_with fail;go_meet
      exact ⟨by rw[HKB.out];rfl,N6⟩
     ·rw[hkp]at HKB
      clear hkp;by_cases h0:limit=0
      ·subst h0
       go_wp2_with fail;go_meet
       exact ⟨by rw[HKB.out];rfl,N6⟩
      ·have h0b:(limit==0)=false:=by simpa using h0
       by_cases h1:(os.length:Int)<limit
       ·have h1b:decide ((os.length:Int)<limit)=true:=decide_eq_true h1
        have H0:=ah h0;have HKB2:=ah (show kb=true by rw[HKB.out,h1b];simp);clear h0 HKB;go_wp2_with fail;go_meet
        exact ⟨by rw[HKB2.out],N6⟩
       ·have h1b:decide ((os.length:Int)<limit)=false:=decide_eq_false h1
        have HKB2:=ah (show kb=false by rw[HKB.out,h1b];simp[h0]);have H0:=ah h0;clear h0 HKB;go_wp2_with fail;go_meet
        exact ⟨by rw[HKB2.out],N6⟩
    case rest=>
     obtain ⟨rfl,N6⟩:=hcut;obtain ⟨w6,rfl⟩:∃w6:World,w6=wc:=⟨_,rfl⟩;have N46:=ah (((Ch.refl (fun _=>False) w4).alloc _).tr N6.out);have b6:=HB4.out.nx N46.out;have d6:=(aG.new w4 58 #[.int .i64 kind,.int .i64 time,.slice A1 ay.length c1,.string text,.int .i64 value,.bool null,.int .i64 maker,.int .i64 seq,.int .i64 place]).nx N6.out;have r4:w6.cell? ⟨w.heap.size,4,none⟩=some (.bool texts):=b6.cell 4;have e0:w6.cell? ⟨w4.heap.size,0,none⟩=some (.int .i64 kind):=d6.cell 0;have e1:w6.cell? ⟨w4.heap.size,1,none⟩=some (.int .i64 time):=d6.cell 1;have e2:w6.cell? ⟨w4.heap.size,2,none⟩=some (.slice A1 ay.length c1):=d6.cell 2;have e3:w6.cell? ⟨w4.heap.size,3,none⟩=some (.string text):=d6.cell 3;have e4:w6.cell? ⟨w4.heap.size,4,none⟩=some (.int .i64 value):=d6.cell 4;have e5:w6.cell? ⟨w4.heap.size,5,none⟩=some (.bool null):=d6.cell 5;have e6:w6.cell? ⟨w4.heap.size,6,none⟩=some (.int .i64 maker):=d6.cell 6;have e7:w6.cell? ⟨w4.heap.size,7,none⟩=some (.int .i64 seq):=d6.cell 7;have e8:w6.cell? ⟨w4.heap.size,8,none⟩=some (.int .i64 place):=d6.cell 8;have fz:w6.frozen? ⟨w4.heap.size,3,none⟩=false:=d6.frozen 3;have hlt6:w4.heap.size<w6.heap.size:=d6.lt;clear b6 d6 hk1 N6;cases kb
     ·have HRR:Hid (os.map (fun x=>x.row)=iY ⟨lo,hi,ms,limit,texts⟩ (jo ⟨lo,hi,ms,limit,texts⟩) ((zs.take (k+1)).map fun x=>x.row)):=ah (by
       rw[HT.out];cases hkp:jo ⟨lo,hi,ms,limit,texts⟩ ⟨kind,time,ay,text,value,null,maker,seq,place⟩
       ·rw[HSK.out _ _ hkp];exact Hm.out
       ·have:=HKB.out
        rw[hkp,Bool.true_and]at this;have h2:=this.symm;rw[Bool.or_eq_false_iff,decide_eq_false_iff_not,decide_eq_false_iff_not]at h2;rw[HFU.out _ _ h2.1 (by rw[←Hm.out,List.length_map];omega)];exact Hm.out)
      have HA:=ah (Hr.out.tr N46.out);clear HKB;go_wp2_with fail;go_roundw
      case rel=>exact ⟨k+1,os,by omega,by go_num,HA,HRR⟩
      case measure=>simp[intOf];omega
     ·have HRR:Hid (os.map (fun x=>x.row)++[mg ⟨lo,hi,ms,limit,texts⟩ ⟨kind,time,ay,text,value,null,maker,seq,place⟩]=iY ⟨lo,hi,ms,limit,texts⟩ (jo ⟨lo,hi,ms,limit,texts⟩) ((zs.take (k+1)).map fun x=>x.row)):=ah (by
       rw[HT.out];have:=HKB.out.symm;rw[Bool.and_eq_true,Bool.or_eq_true,decide_eq_true_eq,decide_eq_true_eq]at this;rw[HKP.out _ _ this.1 (by rw[←Hm.out,List.length_map];omega),Hm.out])
      rw[HST.out]at HRR;cases texts
      ·simp only[Bool.false_eq_true,if_false]at HRR
       have HA:=ah (Hr.out.tr (N46.out.setCell (p:=⟨w4.heap.size,3,none⟩) (fun h=>absurd h (Nat.lt_irrefl _)) (.string ⟨#[]⟩)));have HY:Hid (RV.ok (w6.setCell ⟨w4.heap.size,3,none⟩ (.string ⟨#[]⟩)) (fun k=>w.heap.size<=k/\k<w5.heap.size) ⟨⟨kind,time,ay,⟨#[]⟩,value,null,maker,seq,place⟩,A1,c1⟩):=ah (RV.ok.ch (x:=⟨⟨kind,time,ay,⟨#[]⟩,value,null,maker,seq,place⟩,A1,c1⟩) (w:=w5) HXO.out (Hr.out.own.nx.tr (N46.out.setCell (p:=⟨w4.heap.size,3,none⟩) (fun h=>absurd h (Nat.lt_irrefl _)) (.string ⟨#[]⟩))) (fun _ _ _ hf=>hf) (fun k hk=>⟨Nat.le_trans HW1.out hk.1,hk.2.1⟩));have HL9:=ah (Rd.GZ (w6.setCell ⟨w4.heap.size,3,none⟩ (.string ⟨#[]⟩)) ⟨⟨kind,time,ay,⟨#[]⟩,value,null,maker,seq,place⟩,A1,c1⟩);have HS:=ah HA.out.own.nx.size;simp only[World.size_setCell]at HL9 HS;clear HK HKB HB4 HXO q0 q1 q2 q3 q4 p0 p1 p2 p3 p4 p5 p6 p7 p8;go_wp2_with (at_builtin;refine z03 _ rfl (.tmp 38) (.tmp 40) _ rfl w5.heap.size 58 i0 _ 9 96 Tryz.underlying22 hi0 hz0 hz1 hz2 rfl (by omega) (.slice A6 os.length c6) os.length (gq os) rfl (HA.out.own.alloc _).own _ (some ⟨w6.heap.size,0,none⟩) 1 1 _ rfl HL9.out (z41 _) (by simp only[maxLen];omega) (by omega) (by have:=HS.out;simp;omega) ?_;intro v7 w7 jv gr7 at7;obtain ⟨o7,m7⟩:=Pm HA.out.own ((Ch.refl _ _).alloc _) jv gr7 at7;have G7:=ah (HA.out.app (y:=⟨⟨kind,time,ay,⟨#[]⟩,value,null,maker,seq,place⟩,A1,c1⟩) HW.out o7 m7 HY.out);clear jv gr7 at7 o7 m7)
       go_roundw
       case rel=>exact ⟨k+1,_,by omega,by go_num,G7,ah (by rw[List.map_append];exact HRR.out)⟩
       case measure=>simp[intOf];omega
      ·simp only[if_true]at HRR
       have HA:=ah (Hr.out.tr N46.out);have HY:Hid (RV.ok w6 (fun k=>w.heap.size<=k/\k<w5.heap.size) ⟨⟨kind,time,ay,text,value,null,maker,seq,place⟩,A1,c1⟩):=ah (RV.ok.ch (x:=⟨⟨kind,time,ay,text,value,null,maker,seq,place⟩,A1,c1⟩) (w:=w5) HXO.out (Hr.out.own.nx.tr N46.out) (fun _ _ _ hf=>hf) (fun k hk=>⟨Nat.le_trans HW1.out hk.1,hk.2.1⟩));have HL9:=ah (Rd.GZ (w6) ⟨⟨kind,time,ay,text,value,null,maker,seq,place⟩,A1,c1⟩);have HS:=ah HA.out.own.nx.size;simp only[]at HL9 HS;clear HK HKB HB4 HXO q0 q1 q2 q3 q4 p0 p1 p2 p3 p4 p5 p6 p7 p8;go_wp2_with (at_builtin;refine z03 _ rfl (.tmp 38) (.tmp 40) _ rfl w5.heap.size 58 i0 _ 9 96 Tryz.underlying22 hi0 hz0 hz1 hz2 rfl (by omega) (.slice A6 os.length c6) os.length (gq os) rfl (HA.out.own.alloc _).own _ (some ⟨w6.heap.size,0,none⟩) 1 1 _ rfl HL9.out (z41 _) (by simp only[maxLen];omega) (by omega) (by have:=HS.out;simp;omega) ?_;intro v7 w7 jv gr7 at7;obtain ⟨o7,m7⟩:=Pm HA.out.own ((Ch.refl _ _).alloc _) jv gr7 at7;have G7:=ah (HA.out.app (y:=⟨⟨kind,time,ay,text,value,null,maker,seq,place⟩,A1,c1⟩) HW.out o7 m7 HY.out);clear jv gr7 at7 o7 m7)
       go_roundw
       case rel=>exact ⟨k+1,_,by omega,by go_num,G7,ah (by rw[List.map_append];exact HRR.out)⟩
       case measure=>simp[intOf];omega
   ·have hkn2:zs.take k=zs:=List.take_of_length_le (by rw[HZL.out];omega)
    have HE2:=ah (show os.map (fun x=>x.row)=z15 ⟨lo,hi,ms,limit,texts⟩ (l.map fun x=>x.row) by rw[hE.out,Hm.out,hkn2,HM5.out]);clear hkn2;go_wp2_with fail;go_ret;exact ⟨_,os,rfl,Hr.out.rows,HE2.out⟩
end
end Go.Proofs.YtpakjclpjcngmaaGreat
namespace Go.Proofs.YtpakjclpjcngmaaGreat
open Go.RowKit Go.Maps Ps
def zn (ms:List kT) (p:PV):Bool:=match jT p.text.data.toList with
 |some l=>Ve l ms
 |none=>false
def cO (ms:List kT) (ps:List PV):List Int:=ps.flatMap fun p=>if zn ms p then p.gs else []
theorem GL (ms:List kT) (ps:List PV) (p:PV):cO ms (ps++[p])=cO ms ps++(if zn ms p then p.gs else []):=by
 unfold cO;rw[List.flatMap_append];simp
def pO (q:dN) (s:aN):Bool:=decide (s.lo<q.hi/\q.lo<=s.hi)
def vU (q:dN) (N:List Int) (ss:List aN) (i:Nat):Bool:=match ss[i]? with
 |some s=>N.contains (i:Int)&&pO q s
 |none=>false
def kM (q:dN) (N:List Int) (ss:List aN) (k:Nat):List Int:=((List.range k).filter (vU q N ss)).map fun i:Nat=>(i:Int)
theorem Ti (q:dN) (N:List Int) (ss:List aN):kM q N ss 0=[]:=rfl
theorem KN (q:dN) (N:List Int) (ss:List aN) (k:Nat):(kM q N ss k).length<=k:=by
 unfold kM;rw[List.length_map];have:=List.length_filter_le (vU q N ss) (List.range k);rw[List.length_range]at this;exact this
theorem Tq {q:dN} {N:List Int} {ss:List aN} {k:Nat} (hk:k<ss.length) (h:N.contains (k:Int)=true) (hs:pO q ss[k]=true):kM q N ss (k+1)=kM q N ss k++[(k:Int)]:=by
 unfold kM
 have e:vU q N ss k=true:=by
  unfold vU;rw[List.getElem?_eq_getElem hk];simp only;rw[h,hs];rfl
 rw[List.range_succ,List.filter_append,List.filter_cons,if_pos e,List.map_append];rfl
theorem KL {q:dN} {N:List Int} {ss:List aN} {k:Nat} (hk:k<ss.length) (h:N.contains (k:Int)=false∨pO q ss[k]=false):kM q N ss (k+1)=kM q N ss k:=by
 unfold kM
 have e:vU q N ss k=false:=by
  unfold vU;rw[List.getElem?_eq_getElem hk];simp only;rcases h with h|h
  ·rw[h];rfl
  ·rw[h];simp
 rw[List.range_succ,List.filter_append,List.filter_cons,if_neg (by rw[e];decide),List.filter_nil,List.append_nil]
def gZ (q:dN) (ss:List aN) (ps:List PV):List Int:=if kW q then kM q (cO q.ms ps) ss ss.length else []
theorem Io (q:dN) (ss:List aN) (ps:List PV):(gZ q ss ps).length<=ss.length:=by
 unfold gZ;split
 ·exact KN ..
 ·simp
/-! memory -/
structure PV.ok (w:World) (D:Nat->Prop) (x:PV):Prop where
 rd:Rd w D 1 x.A x.gs.length (ints x.gs)
 tx:x.text.size<=1024
 gn:x.gs.length<=2048
 gi:∀g∈x.gs,i64 g
theorem KO {w:World} {D:Nat->Prop} {A:Option Addr} {n k:Nat} {l:List Int} (h:Rd w D 1 A n (ints l)) (hk:k<l.length):∃ad,A=some ad/\D ad.block/\w.cell? (ad.add k)=some (.int .i64 l[k]):=by
 have hn:0<n:=by have:=h.1;unfold ints at this;simp at this;omega
 obtain ⟨ad,rfl,hb,hc⟩:=h.2 hn;exact ⟨ad,rfl,hb,hc k _ (by unfold ints;rw[List.getElem?_map,List.getElem?_eq_getElem hk];rfl)⟩
/-! a map of numbers as a set -/
theorem Tryz.CZ:Keyed Tryz.prog 3:=int_keyed Tryz.underlying3
theorem Lu (w:World):(zeroValue 4).run Tryz.prog w=.ok (.bool false) w:=by kernel_rfl
theorem z3G {v:Value} {z:DataW Unit×List MemPlace} (h:plainElem Tryz.prog 4 v=some z):∃b,v=.bool b/\z=(.lit (.bool b),[]):=by
 unfold plainElem at h;rw[Tryz.underlying4]at h;cases v<;>simp at h
 subst h;exact ⟨_,rfl,rfl⟩
def Named (w:World) (b n:Nat) (l:List Int):Prop:=∃D:DataW Unit,w.ownsMap Tryz.prog 3 (plainElem Tryz.prog 4) b n D/\IsMap D/\∀i:Int,D.atKey (.int .i64 i) (.lit (.bool false))=.lit (.bool (l.contains i))
theorem Named.made (w:World):Named (w.alloc (.map #[] 0)) w.heap.size 0 []:=⟨_,World.ownsMap_made w _ _ _,isMap_empty,fun i=>rfl⟩
theorem Named.nx {w w':World} {b n:Nat} {l:List Int} (h:Named w b n l) (c:Nx w w'):Named w' b n l:=by
 obtain ⟨D,h1,h2,h3⟩:=h;refine ⟨D,?_,h2,h3⟩;have hlt:=h1.lt;obtain ⟨es,clock,hb,F,hs,hD⟩:=h1;exact ⟨es,clock,(c.block_ hlt).trans hb,F,hs,hD⟩
theorem uM {a:Int} (h:i64 a):(Lit.int .i64 a).wf=true:=by
 obtain ⟨h3,h4⟩:=h;have h1:IntKind.i64.min= -9223372036854775808:=rfl;have h2:IntKind.i64.max=9223372036854775807:=rfl;simp only[Lit.wf,Bool.and_eq_true,decide_eq_true_eq];omega
theorem Named.look {w:World} {b n:Nat} {l:List Int} (h:Named w b n l) {i:Int} (hi:i64 i):(Instr.lookup 206 (.map (some b)) (.int .i64 i) false).run Tryz.prog w=.ok (.bool (l.contains i)) w:=by
 obtain ⟨D,h1,h2,h3⟩:=h;obtain ⟨v,ps,hrun,hv⟩:=h1.lookup Tryz.CZ Tryz.underlying206 (Lu w) (plainElem_bool Tryz.underlying4 false) (keyOf_int_mk Tryz.underlying3 (uM hi));obtain ⟨c,rfl,hc⟩:=z3G hv;simp only[Prod.mk.injEq]at hc;have h4:=hc.1;rw[h3]at h4;injection h4 with h4;injection h4 with h4;rw[hrun,h4]
theorem Named.put {w:World} {b n:Nat} {l:List Int} (h:Named w b n l) (hn:n<maxLen) {i:Int} (hi:i64 i):∃w',(Instr.mapUpdate 206 (.map (some b)) (.int .i64 i) (.bool true)).run Tryz.prog w=.ok () w'/\Named w' b (n+1) (l++[i])/\Ch (· =b) w w':=by
 obtain ⟨D,h1,h2,h3⟩:=h;obtain ⟨w',hrun,hown,hg⟩:=h1.update Tryz.CZ Tryz.underlying206 hn (keyOf_int_mk Tryz.underlying3 (uM hi)) (plainElem_bool Tryz.underlying4 true);refine ⟨w',hrun,⟨_,hown,h2.put _ _,fun j=>?_⟩,(Ch.refl (· =b) w).grown hg (fun k hk _=>by cases hk;rfl)⟩;by_cases e:j=i
 ·subst e
  rw[atKey_put_same h2 (show WideAt.IsKeyLit (Lit.int .i64 j) from trivial)];simp
 ·rw[atKey_put_other (fun he=>e (by injection he)),h3]
  simp[e]
end Go.Proofs.YtpakjclpjcngmaaGreat
namespace Go.Proofs.YtpakjclpjcngmaaGreat
open Go.RowKit
def CO:dN:=⟨5,9,[],0,true⟩
def jZ:au:=⟨1,5,[],⟨#[120]⟩,0,false,1,1,0⟩
theorem qH:kW CO=true:=by decide
theorem GY:Vd CO jZ=true:=by decide
theorem CJ:z15 CO [jZ]=[jZ]:=by
 unfold z15;rw[qH];rfl
theorem z5o (w:World):Calls Tryz.prog 31 #[] w fun e w'=>e=.returned (.bool true)/\Nx w w':=by
 have N3:=ah (show Nx w (((w.alloc (.cells #[.int .i64 5,.int .i64 9,.slice none 0 0,.int .i64 0,.bool true] 66)).alloc (.cells #[.int .i64 1,.int .i64 5,.slice none 0 0,.string ⟨#[120]⟩,.int .i64 0,.bool false,.int .i64 1,.int .i64 1,.int .i64 0] 58)).alloc (.cells #[.int .i64 1,.int .i64 5,.slice none 0 0,.string ⟨#[120]⟩,.int .i64 0,.bool false,.int .i64 1,.int .i64 1,.int .i64 0] 58)) from (((Ch.refl _ w).alloc _).alloc _).alloc _);have B1:=ah (show aG (((w.alloc (.cells #[.int .i64 5,.int .i64 9,.slice none 0 0,.int .i64 0,.bool true] 66)).alloc (.cells #[.int .i64 1,.int .i64 5,.slice none 0 0,.string ⟨#[120]⟩,.int .i64 0,.bool false,.int .i64 1,.int .i64 1,.int .i64 0] 58)).alloc (.cells #[.int .i64 1,.int .i64 5,.slice none 0 0,.string ⟨#[120]⟩,.int .i64 0,.bool false,.int .i64 1,.int .i64 1,.int .i64 0] 58)) w.heap.size 66 #[.int .i64 5,.int .i64 9,.slice none 0 0,.int .i64 0,.bool true] from ((aG.new w _ _).alloc _).alloc _)
 have B2:=ah (show aG (((w.alloc (.cells #[.int .i64 5,.int .i64 9,.slice none 0 0,.int .i64 0,.bool true] 66)).alloc (.cells #[.int .i64 1,.int .i64 5,.slice none 0 0,.string ⟨#[120]⟩,.int .i64 0,.bool false,.int .i64 1,.int .i64 1,.int .i64 0] 58)).alloc (.cells #[.int .i64 1,.int .i64 5,.slice none 0 0,.string ⟨#[120]⟩,.int .i64 0,.bool false,.int .i64 1,.int .i64 1,.int .i64 0] 58)) (w.heap.size+1) 58 #[.int .i64 1,.int .i64 5,.slice none 0 0,.string ⟨#[120]⟩,.int .i64 0,.bool false,.int .i64 1,.int .i64 1,.int .i64 0] by
  have:=(aG.new (w.alloc (.cells #[.int .i64 5,.int .i64 9,.slice none 0 0,.int .i64 0,.bool true] 66)) 58 #[.int .i64 1,.int .i64 5,.slice none 0 0,.string ⟨#[120]⟩,.int .i64 0,.bool false,.int .i64 1,.int .i64 1,.int .i64 0]).alloc (.cells #[.int .i64 1,.int .i64 5,.slice none 0 0,.string ⟨#[120]⟩,.int .i64 0,.bool false,.int .i64 1,.int .i64 1,.int .i64 0] 58);simpa using this)
 have ny:=ah (show Rd (((w.alloc (.cells #[.int .i64 5,.int .i64 9,.slice none 0 0,.int .i64 0,.bool true] 66)).alloc (.cells #[.int .i64 1,.int .i64 5,.slice none 0 0,.string ⟨#[120]⟩,.int .i64 0,.bool false,.int .i64 1,.int .i64 1,.int .i64 0] 58)).alloc (.cells #[.int .i64 1,.int .i64 5,.slice none 0 0,.string ⟨#[120]⟩,.int .i64 0,.bool false,.int .i64 1,.int .i64 1,.int .i64 0] 58)) (fun k=>k=w.heap.size+1+1) 9 (some ⟨w.heap.size+1+1,0,none⟩) 1 (gq [⟨jZ,none,0⟩]) by
  have:=Rd.GZ ((w.alloc (.cells #[.int .i64 5,.int .i64 9,.slice none 0 0,.int .i64 0,.bool true] 66)).alloc (.cells #[.int .i64 1,.int .i64 5,.slice none 0 0,.string ⟨#[120]⟩,.int .i64 0,.bool false,.int .i64 1,.int .i64 1,.int .i64 0] 58)) ⟨jZ,none,0⟩;rw[World.size_alloc,World.size_alloc]at this;exact this)
 have HQ:∀w,Py w CO none 0:=fun w=>⟨Rd.none_ _ _ _ _,(by intro x hx;cases hx),⟨by decide,by decide⟩,⟨by decide,by decide⟩,⟨by decide,by decide⟩,by decide,by decide⟩;have EI:∀w,RV.ok w (fun _=>False) ⟨jZ,none,0⟩:=fun w=>⟨Rd.none_ _ _ _ _,by decide,by decide⟩;have VA:jZ.few:=⟨⟨(by intro y hy;cases hy),by decide,⟨by decide,by decide⟩,⟨by decide,by decide⟩,⟨by decide,by decide⟩,⟨by decide,by decide⟩,⟨by decide,by decide⟩,⟨by decide,by decide⟩⟩,by decide⟩
 have HA:=ah (rP (c:=1) (HQ (((w.alloc (.cells #[.int .i64 5,.int .i64 9,.slice none 0 0,.int .i64 0,.bool true] 66)).alloc (.cells #[.int .i64 1,.int .i64 5,.slice none 0 0,.string ⟨#[120]⟩,.int .i64 0,.bool false,.int .i64 1,.int .i64 1,.int .i64 0] 58)).alloc (.cells #[.int .i64 1,.int .i64 5,.slice none 0 0,.string ⟨#[120]⟩,.int .i64 0,.bool false,.int .i64 1,.int .i64 1,.int .i64 0] 58))) ny.out rfl (by decide) (by
  intro x hx;rw[List.mem_singleton]at hx;subst hx;exact ⟨(EI _).ch (Ch.refl (fun _=>False) _) (fun _ _ _ hf=>hf) (fun _ hf=>hf.elim),VA⟩))
 have HR:=ah (fun w=>z3E (HQ w));have HK:=ah (fun w=>KA (HQ w) (EI w) VA);rw[qH]at HR;rw[GY]at HK;unfold iU CO at HA HR HK;unfold bG jZ at HK;simp only at HA HR HK;clear HQ EI VA;go_enter Tryz.func31,Tryz.ntmps31;go_wp2_with fail;refine HA.out.mono ?_;rintro e w5 ⟨v,os,rfl,hr,hm⟩;have hm2:os.map (fun x=>x.row)=[jZ]:=hm.trans CJ;obtain ⟨y,rfl⟩:∃y,os=[y]:=List.length_eq_one_iff.1 (by have:=congrArg List.length hm2;simpa using this);have hy:y.row=jZ:=by simpa using hm2
 obtain ⟨A,c,rfl,hc1,hc2⟩:=hr.form;obtain ⟨ad,rfl, -, -, -, -,t5, -⟩:=zW hr.rd (k:=0) (by simp);simp only[List.getElem_cons_zero,Nat.zero_mul]at t5;rw[hy]at t5;have HT5:=ah t5;have N5:=ah (N3.out.tr hr.own.nx);have b1:=B1.out.nx hr.own.nx;have b2:=B2.out.nx hr.own.nx;have p0:w5.cell? ⟨w.heap.size,0,none⟩=some (.int .i64 5):=b1.cell 0;have p1:w5.cell? ⟨w.heap.size,1,none⟩=some (.int .i64 9):=b1.cell 1;have p2:w5.cell? ⟨w.heap.size,2,none⟩=some (.slice none 0 0):=b1.cell 2;have p3:w5.cell? ⟨w.heap.size,3,none⟩=some (.int .i64 0):=b1.cell 3;have p4:w5.cell? ⟨w.heap.size,4,none⟩=some (.bool true):=b1.cell 4;have q0:w5.cell? ⟨w.heap.size+1,0,none⟩=some (.int .i64 1):=b2.cell 0;have q1:w5.cell? ⟨w.heap.size+1,1,none⟩=some (.int .i64 5):=b2.cell 1;have q2:w5.cell? ⟨w.heap.size+1,2,none⟩=some (.slice none 0 0):=b2.cell 2;have q3:w5.cell? ⟨w.heap.size+1,3,none⟩=some (.string ⟨#[120]⟩):=b2.cell 3;have q4:w5.cell? ⟨w.heap.size+1,4,none⟩=some (.int .i64 0):=b2.cell 4;have q5:w5.cell? ⟨w.heap.size+1,5,none⟩=some (.bool false):=b2.cell 5;have q6:w5.cell? ⟨w.heap.size+1,6,none⟩=some (.int .i64 1):=b2.cell 6;have q7:w5.cell? ⟨w.heap.size+1,7,none⟩=some (.int .i64 1):=b2.cell 7;have q8:w5.cell? ⟨w.heap.size+1,8,none⟩=some (.int .i64 0):=b2.cell 8;have C1:=ah b1;have C2:=ah b2;clear b1 b2 hr hm hm2 hy t5 HA ny B1 B2;unfold jZ at HT5;simp only at HT5;go_wp2_with fail;refine (HR.out _).mono ?_;rintro e w6 ⟨rfl,n6⟩;have N6:=ah n6;have b1:=C1.out.nx n6;have b2:=C2.out.nx n6;have r0:w6.cell? ⟨w.heap.size,0,none⟩=some (.int .i64 5):=b1.cell 0;have r1:w6.cell? ⟨w.heap.size,1,none⟩=some (.int .i64 9):=b1.cell 1;have r2:w6.cell? ⟨w.heap.size,2,none⟩=some (.slice none 0 0):=b1.cell 2;have r3:w6.cell? ⟨w.heap.size,3,none⟩=some (.int .i64 0):=b1.cell 3;have r4:w6.cell? ⟨w.heap.size,4,none⟩=some (.bool true):=b1.cell 4;have s0:w6.cell? ⟨w.heap.size+1,0,none⟩=some (.int .i64 1):=b2.cell 0;have s1:w6.cell? ⟨w.heap.size+1,1,none⟩=some (.int .i64 5):=b2.cell 1;have s2:w6.cell? ⟨w.heap.size+1,2,none⟩=some (.slice none 0 0):=b2.cell 2;have s3:w6.cell? ⟨w.heap.size+1,3,none⟩=some (.string ⟨#[120]⟩):=b2.cell 3;have s4:w6.cell? ⟨w.heap.size+1,4,none⟩=some (.int .i64 0):=b2.cell 4;have s5:w6.cell? ⟨w.heap.size+1,5,none⟩=some (.bool false):=b2.cell 5;have s6:w6.cell? ⟨w.heap.size+1,6,none⟩=some (.int .i64 1):=b2.cell 6;have s7:w6.cell? ⟨w.heap.size+1,7,none⟩=some (.int .i64 1):=b2.cell 7;have s8:w6.cell? ⟨w.heap.size+1,8,none⟩=some (.int .i64 0):=b2.cell 8;clear p0 p1 p2 p3 p4 q0 q1 q2 q3 q4 q5 q6 q7 q8 b1 b2 n6;go_wp2_with fail;refine (HK.out _).mono ?_;rintro e w7 ⟨rfl,n7⟩;have N7:=ah (N6.out.tr n7);have t7:=(N7.out.cell (World.block_lt_of_cell? w5 _ HT5.out) (fun h=>h)).trans HT5.out;have z:ad.add 0=ad:=rfl;rw[z]at t7;clear n7 r0 r1 r2 r3 r4 s0 s1 s2 s3 s4 s5 s6 s7 s8 z;go_wp2_with fail;go_ret;exact ⟨rfl,N5.out.tr N7.out⟩
def afo (q:dN) (l:List RV) (w:World) (e:Ending) (w':World):Prop:=∃b:Bool,e=.returned (.bool b)/\(b=true->q.ms.length<=20/\l.length<=60/\∀x∈l,x.row.ay.length<=50)/\Nx w w'
section
variable {w : World} {D : Nat → Prop} {A B : Option Addr} {n c d : Nat} {l : List RV} {q : dN}
theorem Xx (hq:Py w q B d) (h:Rd w D 9 A n (gq l)) (hl:l.length=n) (hsm:∀x∈l,x.row.small) (hn:n<=9223372036854775807):
 Calls Tryz.prog 32 #[iU q B d,.slice A n c] w (afo q l w):=by
 have Hl:=ah hl;have H:=ah h;have hd:=hq.hd;have hd2:=hq.hd2;unfold maxLen at hd2;obtain ⟨lo,hi,ms,limit,texts⟩:=q;have HN:=ah ((Ch.refl (fun _=>False) w).alloc (.cells #[.int .i64 lo,.int .i64 hi,.slice B ms.length d,.int .i64 limit,.bool texts] 66));clear hl h hq;unfold iU;simp only at *;by_cases a1:20<ms.length
 ·have a1':(20:Int)<(ms.length:Int):=by omega
  go_enter Tryz.func32,Tryz.ntmps32;go_wp2_with fail;go_ret;exact ⟨false,rfl,(fun h=>by cases h),HN.out⟩
 have a1':¬(20:Int)<(ms.length:Int):=by omega
 by_cases a2:60<n
 ·have a2':(60:Int)<(n:Int):=by omega
  go_enter Tryz.func32,Tryz.ntmps32;go_wp2_with fail;go_ret;exact ⟨false,rfl,(fun h=>by cases h),HN.out⟩
 have a2':¬(60:Int)<(n:Int):=by omega
 go_enter Tryz.func32,Tryz.ntmps32;go_wp2_with fail;go_loopw [18] (fun i wr=>∃k:Nat,k<=n/\i=.int .i64 (k:Int)/\Nx w wr/\Hid (∀x∈l.take k,x.row.ay.length<=50)) (fun i _=>n-(intOf i).toNat)
 case atStart=>exact ⟨0,Nat.zero_le _,rfl,HN.out,ah (by simp)⟩
 case round=>
  obtain ⟨w4,rfl⟩:∃w4:World,w4=wr:=⟨_,rfl⟩;obtain ⟨k,hk,rfl,hn4,Ha⟩:=hrel;have N4:=ah hn4;by_cases hlt:k<n
  ·have hkl:k<l.length:=by rw[Hl.out];exact hlt
   obtain ⟨ad,rfl, -,p0,p1,p2,p3,p4,p5,p6,p7,p8⟩:=zW (H.out.nx (by decide) hn4) hkl;have HT:=ah (List.take_succ_eq_append_getElem hkl);have hs:=(hsm _ (List.getElem_mem hkl)).2.1;clear hn4;generalize l[k]=x at *
   have HA2:=ah (fun (h:x.row.ay.length<=50)=>show ∀x∈l.take (k+1),x.row.ay.length<=50 by
    rw[HT.out];intro y hy;rcases List.mem_append.1 hy with hy|hy
    ·exact Ha.out y hy
    ·rw[List.mem_singleton]at hy;subst hy;exact h)
   obtain ⟨⟨kind,time,ay,text,value,null,maker,seq,place⟩,A1,c1⟩:=x;simp only at p0 p1 p2 p3 p4 p5 p6 p7 p8 hs HA2;by_cases b1:50<ay.length
   ·have b1':(50:Int)<(ay.length:Int):=by omega
    go_wp2_with fail;go_ret;exact ⟨false,rfl,(fun h=>by cases h),N4.out.alloc _⟩
   have b1':¬(50:Int)<(ay.length:Int):=(by omega);have HR:=ah (HA2.out (by omega));by_cases b2:2000<text.size
   ·have b2':(2000:Int)<(text.size:Int):=by omega
    go_wp2_with fail;go_ret;exact ⟨false,rfl,(fun h=>by cases h),N4.out.alloc _⟩
   have b2':¬(2000:Int)<(text.size:Int):=(by omega);go_wp2_with fail;go_roundw
   case rel=>exact ⟨k+1,by omega,by go_num,N4.out.alloc _,HR⟩
   case measure=>simp[intOf];omega
  ·have HR:=ah (show ∀x∈l,x.row.ay.length<=50 by
    have:=Ha.out;rw[List.take_of_length_le (by rw[Hl.out];omega)]at this;exact this)
   clear hn4;go_wp2_with fail;go_ret;exact ⟨true,rfl,fun _=>⟨by simp only;omega,by rw[Hl.out];omega,HR.out⟩,N4.out⟩
end
theorem TY {x y:au} (h:fU x y=0):x.time=y.time/\x.maker=y.maker/\x.seq=y.seq/\x.place=y.place:=by
 unfold fU or4 at h;have a:=z29 x.time y.time;have b:=z29 x.maker y.maker;have c:=z29 x.seq y.seq;have d:=z29 x.place y.place;by_cases ha:g_ x.time y.time=0
 ·rw[if_pos ha]at h
  by_cases hb:g_ x.maker y.maker=0
  ·rw[if_pos hb]at h
   by_cases hc:g_ x.seq y.seq=0
   ·rw[if_pos hc]at h
    exact ⟨a.1 ha,b.1 hb,c.1 hc,d.1 h⟩
   ·rw[if_neg hc]at h
    exact absurd h hc
  ·rw[if_neg hb]at h
   exact absurd h hb
 ·rw[if_neg ha]at h
  exact absurd h ha
section
variable {w : World} {D D2 : Nat → Prop}
theorem MF (x y:RV) (hx:x.ok w D) (hy:y.ok w D2) (hl:x.row.ay.length<=1000000000):
 Calls Tryz.prog 50 #[bG x,bG y] w (UF (x.row=y.row) w):=by
 have HC:=ah (fun w=>zB x y w);have HZ:=ah (fun (h:fU x.row y.row=0)=>TY h);have HNZ:=ah (fun (h:x.row=y.row)=>show fU x.row y.row=0 by rw[h];exact cmp_eq rfl rfl rfl rfl);obtain ⟨⟨kind,time,ay,text,value,null,maker,seq,place⟩,A1,c1⟩:=x;obtain ⟨⟨kind2,bH,dD,dh,value2,dn,aU,seq2,aT⟩,A2,c2⟩:=y;have HL:=ah (fun w' (c':Nx w w')=>MG (c:=c1) (d:=c2) (hx.1.nx (by decide) c') rfl hl (hy.1.nx (by decide) c') rfl);have zT:Hid (∀a b:ByteArray,(a.toList==b.toList)=decide (a=b)):=ah str_eq;clear hx hy;unfold bG at *;simp only at *;have HB1:=ah ((aG.new w 58 #[.int .i64 kind,.int .i64 time,.slice A1 ay.length c1,.string text,.int .i64 value,.bool null,.int .i64 maker,.int .i64 seq,.int .i64 place]).alloc (.cells #[.int .i64 kind2,.int .i64 bH,.slice A2 dD.length c2,.string dh,.int .i64 value2,.bool dn,.int .i64 aU,.int .i64 seq2,.int .i64 aT] 58));have HB2:Hid (aG ((w.alloc (.cells #[.int .i64 kind,.int .i64 time,.slice A1 ay.length c1,.string text,.int .i64 value,.bool null,.int .i64 maker,.int .i64 seq,.int .i64 place] 58)).alloc (.cells #[.int .i64 kind2,.int .i64 bH,.slice A2 dD.length c2,.string dh,.int .i64 value2,.bool dn,.int .i64 aU,.int .i64 seq2,.int .i64 aT] 58)) (w.heap.size+1) 58 #[.int .i64 kind2,.int .i64 bH,.slice A2 dD.length c2,.string dh,.int .i64 value2,.bool dn,.int .i64 aU,.int .i64 seq2,.int .i64 aT]):=ah (by have:=aG.new (w.alloc (.cells #[.int .i64 kind,.int .i64 time,.slice A1 ay.length c1,.string text,.int .i64 value,.bool null,.int .i64 maker,.int .i64 seq,.int .i64 place] 58)) 58 #[.int .i64 kind2,.int .i64 bH,.slice A2 dD.length c2,.string dh,.int .i64 value2,.bool dn,.int .i64 aU,.int .i64 seq2,.int .i64 aT];simpa using this);have HN:=ah (((Ch.refl (fun _=>False) w).alloc (.cells #[.int .i64 kind,.int .i64 time,.slice A1 ay.length c1,.string text,.int .i64 value,.bool null,.int .i64 maker,.int .i64 seq,.int .i64 place] 58)).alloc (.cells #[.int .i64 kind2,.int .i64 bH,.slice A2 dD.length c2,.string dh,.int .i64 value2,.bool dn,.int .i64 aU,.int .i64 seq2,.int .i64 aT] 58));generalize fU _ _=z at *;go_enter Tryz.func50,Tryz.ntmps50;go_wp2_with fail;refine (HC.out _).mono ?_;rintro e w5 ⟨rfl,n5⟩;have N5:=ah (HN.out.tr n5);have b1:=HB1.out.nx n5;have b2:=HB2.out.nx n5;have p0:w5.cell? ⟨w.heap.size,0,none⟩=some (.int .i64 kind):=b1.cell 0;have p1:w5.cell? ⟨w.heap.size,1,none⟩=some (.int .i64 time):=b1.cell 1;have p2:w5.cell? ⟨w.heap.size,2,none⟩=some (.slice A1 ay.length c1):=b1.cell 2;have p3:w5.cell? ⟨w.heap.size,3,none⟩=some (.string text):=b1.cell 3;have p4:w5.cell? ⟨w.heap.size,4,none⟩=some (.int .i64 value):=b1.cell 4;have p5:w5.cell? ⟨w.heap.size,5,none⟩=some (.bool null):=b1.cell 5;have p6:w5.cell? ⟨w.heap.size,6,none⟩=some (.int .i64 maker):=b1.cell 6;have p7:w5.cell? ⟨w.heap.size,7,none⟩=some (.int .i64 seq):=b1.cell 7;have p8:w5.cell? ⟨w.heap.size,8,none⟩=some (.int .i64 place):=b1.cell 8;have q0:w5.cell? ⟨w.heap.size+1,0,none⟩=some (.int .i64 kind2):=b2.cell 0;have q1:w5.cell? ⟨w.heap.size+1,1,none⟩=some (.int .i64 bH):=b2.cell 1;have q2:w5.cell? ⟨w.heap.size+1,2,none⟩=some (.slice A2 dD.length c2):=b2.cell 2;have q3:w5.cell? ⟨w.heap.size+1,3,none⟩=some (.string dh):=b2.cell 3;have q4:w5.cell? ⟨w.heap.size+1,4,none⟩=some (.int .i64 value2):=b2.cell 4;have q5:w5.cell? ⟨w.heap.size+1,5,none⟩=some (.bool dn):=b2.cell 5;have q6:w5.cell? ⟨w.heap.size+1,6,none⟩=some (.int .i64 aU):=b2.cell 6;have q7:w5.cell? ⟨w.heap.size+1,7,none⟩=some (.int .i64 seq2):=b2.cell 7;have q8:w5.cell? ⟨w.heap.size+1,8,none⟩=some (.int .i64 aT):=b2.cell 8;clear n5 b1 b2 HB1 HB2 HC HN;by_cases hz:z=0
 ·have E:=ah (HZ.out hz)
  subst hz;clear HZ HNZ;by_cases hk:kind=kind2
  ·subst hk
   by_cases ht:text=dh
   ·subst ht
    by_cases hv:value=value2
    ·subst hv
     by_cases hn:null=dn
     ·subst hn
      have hnn:(null==null)=true:=(by simp);go_wp2_with fail;refine (HL.out _ N5.out).mono ?_;rintro e w6 ⟨b,rfl,hb,n6⟩;have HBB:=ah hb;have N6:=ah (N5.out.tr n6);clear hb n6;go_wp2_with fail;go_ret;refine ⟨b,rfl,?_,N6.out⟩;rw[HBB.out];obtain ⟨e1,e2,e3,e4⟩:=E.out;subst e1;subst e2;subst e3;subst e4
      simp
     ·have h1:(null==dn)=false:=by simpa using hn
      have HR:=ah hn;clear hn;go_wp2_with fail;go_ret;exact ⟨false,rfl,by simp[HR.out],N5.out⟩
    ·have h1:(value==value2)=false:=by simpa using hv
     have HR:=ah hv;clear hv;go_wp2_with fail;go_ret;exact ⟨false,rfl,by simp[HR.out],N5.out⟩
   ·have h1:(text.toList==dh.toList)=false:=by rw[zT.out];exact decide_eq_false ht
    have HR:=ah ht;clear ht;go_wp2_with fail;go_ret;exact ⟨false,rfl,by simp[HR.out],N5.out⟩
  ·have h1:(kind==kind2)=false:=by simpa using hk
   have HR:=ah hk;clear hk;go_wp2_with fail;go_ret;exact ⟨false,rfl,by simp[HR.out],N5.out⟩
 ·have h1:(z==0)=false:=by simpa using hz
  have HR:=ah (fun h=>hz (HNZ.out h));clear hz HZ HNZ;go_wp2_with fail;go_ret;exact ⟨false,rfl,by simpa using HR.out,N5.out⟩
end
structure ng (w:World) (D:Nat->Prop) (A:Option Addr) (l:List RV):Prop where
 rd:Rd w D 9 A l.length (gq l)
 ok:∀x∈l,x.ok w D/\x.row.ay.length<=1000000000
theorem ng.nx {w w':World} {D:Nat->Prop} {A:Option Addr} {l:List RV} (h:ng w D A l) (c:Nx w w'):ng w' D A l:=
 ⟨h.rd.nx (by decide) c,fun x hx=>⟨(h.ok x hx).1.ch c (fun _ _ _ hf=>hf) fun _ hD=>hD,(h.ok x hx).2⟩⟩
section
variable {w : World} {D D2 : Nat → Prop} {A B : Option Addr} {n c m d : Nat} {l ls : List RV}
theorem yu (hr:ng w D A l) (hl:l.length=n) (hn:n<=1000000000) (hr2:ng w D2 B ls) (hm:ls.length=m):
 Calls Tryz.prog 16 #[.slice A n c,.slice B m d] w (UF (l.map (fun x=>x.row)=ls.map fun x=>x.row) w):=by
 have Hl:=ah hl;have Hm:=ah hm;have Hr:=ah hr;have Hr2:=ah hr2;by_cases hnm:n=m
 ·subst hnm
  clear hl hm hr hr2;go_enter Tryz.func16,Tryz.ntmps16;go_wp2_with fail;go_loopw [13] (fun i wr=>∃k:Nat,k<=n/\i=.int .i64 (k:Int)/\Nx w wr/\Hid ((l.take k).map (fun x=>x.row)=(ls.take k).map fun x=>x.row)) (fun i _=>n-(intOf i).toNat)
  case atStart=>exact ⟨0,Nat.zero_le _,rfl,Ch.refl _ _,ah rfl⟩
  case round=>
   obtain ⟨w4,rfl⟩:∃w4:World,w4=wr:=⟨_,rfl⟩;obtain ⟨k,hk,rfl,hn4,He⟩:=hrel;by_cases hlt:k<n
   ·have hkl:k<l.length:=by rw[Hl.out];exact hlt
    have hkm:k<ls.length:=by rw[Hm.out];exact hlt
    have Ll:=ah (fun w' (c':Nx w4 w')=>zW (Hr.out.nx (hn4.tr c')).rd hkl);have Yo:=ah (fun w' (c':Nx w4 w')=>zW (Hr2.out.nx (hn4.tr c')).rd hkm);have HS:=ah (fun w' (c':Nx w4 w')=>MF (w:=w') (D:=D) (D2:=D2) l[k] ls[k] (((Hr.out.nx (hn4.tr c')).ok _ (List.getElem_mem hkl)).1) (((Hr2.out.nx (hn4.tr c')).ok _ (List.getElem_mem hkm)).1) ((Hr.out.ok _ (List.getElem_mem hkl)).2));have HT:=ah (fun (h:l[k].row=ls[k].row)=>show (l.take (k+1)).map (fun x=>x.row)=(ls.take (k+1)).map fun x=>x.row by rw[List.take_succ_eq_append_getElem hkl,List.take_succ_eq_append_getElem hkm,List.map_append,List.map_append,He.out];simp[h])
    have HD:=ah (fun (h:¬l[k].row=ls[k].row)=>show ¬(l.map (fun x=>x.row)=ls.map fun x=>x.row) by
     intro e;apply h
     have e2:=congrArg (fun q=>q[k]?) e;simpa [List.getElem?_eq_getElem hkl,List.getElem?_eq_getElem hkm]using e2)
    have N4:=ah hn4;clear hn4;generalize l[k]=x at *;generalize ls[k]=y at *;obtain ⟨⟨kind,time,ay,text,value,null,maker,seq,place⟩,A1,c1⟩:=x;obtain ⟨⟨kind2,bH,dD,dh,value2,dn,aU,seq2,aT⟩,A2,c2⟩:=y;unfold bG at HS;simp only at HS Ll Yo HT HD;obtain ⟨ad,rfl, -, -⟩:=Ll.out _ (Ch.refl _ _);obtain ⟨ad2,rfl, -, -⟩:=Yo.out _ (Ch.refl _ _);go_wp2_with fail;have hnd:Nx w4 w4.drew:=(Ch.refl _ w4).drew;refine wp_region_still_tail 8 rfl (by kernel_rfl) ?_;change wpStill _ _ w4.drew _ _ _;obtain ⟨ad',ea, -,p0,p1,p2,p3,p4,p5,p6,p7,p8⟩:=Ll.out _ hnd;injection ea with ea;subst ea;obtain ⟨ad2',ea, -,q0,q1,q2,q3,q4,q5,q6,q7,q8⟩:=Yo.out _ hnd;injection ea with ea;subst ea;have Yq:=ah hnd;clear hnd;generalize w4.drew=w6 at *;simp only[List.take_succ_cons,List.take_zero,List.drop_succ_cons,List.drop_zero]
    repeat still_step
    refine wpStill_nil ?_;clear p0 p1 p2 p3 p4 p5 p6 p7 p8 q0 q1 q2 q3 q4 q5 q6 q7 q8 Ll Yo;go_wp2_with fail;refine (HS.out _ (Ch.refl (fun _=>False) w4).drew).mono ?_;rintro e w7 ⟨b,rfl,hb,n7⟩;have N7:=ah (N4.out.drew.tr n7);have HBB:=ah hb;clear n7 hb HS Yq;cases b
    ·have HR:=ah (HD.out (fun h=>by have:=HBB.out.2 h;cases this))
     go_wp2_with fail;go_ret;exact ⟨false,rfl,by simp[HR.out],N7.out⟩
    ·have HR:=ah (HT.out (HBB.out.1 rfl))
     go_wp2_with fail;go_roundw
     case rel=>exact ⟨k+1,by omega,by go_num,N7.out,HR⟩
     case measure=>simp[intOf];omega
   ·have HR:Hid (l.map (fun x=>x.row)=ls.map fun x=>x.row):=ah (by
     have:=He.out;rw[List.take_of_length_le (by rw[Hl.out];omega),List.take_of_length_le (by rw[Hm.out];omega)]at this;exact this)
    have N4:=ah hn4;clear hn4;go_wp2_with fail;go_ret;exact ⟨true,rfl,by simp[HR.out],N4.out⟩
 ·have HR:Hid (¬(l.map (fun x=>x.row)=ls.map fun x=>x.row)):=ah (fun e=>hnm (by have:=congrArg List.length e;simpa [Hl.out,Hm.out]using this))
  have hne:((n:Int) !=(m:Int))=true:=by rw[bne_iff_ne];omega
  clear hl hm hnm hr hr2;go_enter Tryz.func16,Tryz.ntmps16;go_wp2_with fail;go_ret;exact ⟨false,rfl,by simp[HR.out],Ch.refl _ _⟩
end
section
variable {w : World} {D : Nat → Prop} {A B : Option Addr} {n c d : Nat} {l : List RV} {q : dN}
theorem Jj {q:dN} {l:List au} {x:au} (h:x∈z15 q l):∃y∈l,x.ay=y.ay:=by
 cases hr:kW q
 ·rw[z4x _ hr]at h
  cases h
 ·rw[z4y _ hr]at h
  unfold iY at h;obtain ⟨y,hy,rfl⟩:=List.mem_map.1 h
  have h2:y∈(eP dW l).filter (jo q):=by
   unfold zy at hy;split at hy
   ·exact hy
   ·exact List.mem_of_mem_take hy
  refine ⟨y,(z2k dW l).subset (List.mem_filter.1 h2).1,?_⟩;unfold mg;split<;>rfl
theorem Jk (q:dN) (l:List au):(z15 q l).length<=l.length:=by
 unfold z15;split
 ·rw[List.length_map]
  have e1:(zy q ((eP dW l).filter (jo q))).length<=((eP dW l).filter (jo q)).length:=by
   unfold zy;split
   ·exact Nat.le_refl _
   ·rw[List.length_take];omega
  have e2:=List.length_filter_le (jo q) (eP dW l);have e3:=(z2k dW l).length_eq;omega
 ·simp
theorem z5V {q:dN} {l os:List RV} {w w':World} {A:Option Addr} {c:Nat} (hr:dO w w' (.slice A os.length c) os) (hm:os.map (fun x=>x.row)=z15 q (l.map fun x=>x.row)) (hl:∀x∈l,x.row.ay.length<=1000000000):ng w' (fun k=>k<w'.heap.size) A os:=by
 refine ⟨hr.rd,fun x hx=>⟨(hr.ok x hx).ch (Ch.refl (fun _=>False) w') (fun _ _ _ hf=>hf) fun k hk=>hk.2.1,?_⟩⟩;have h1:x.row∈os.map fun x=>x.row:=List.mem_map_of_mem hx;rw[hm]at h1;obtain ⟨y,hy,e⟩:=Jj h1;obtain ⟨z,hz,rfl⟩:=List.mem_map.1 hy;rw[e];exact hl z hz
end
end Go.Proofs.YtpakjclpjcngmaaGreat
