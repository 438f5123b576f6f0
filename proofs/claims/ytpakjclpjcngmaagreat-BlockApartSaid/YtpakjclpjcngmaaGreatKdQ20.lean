/- Contracts and plain laws that the last text rests on. Conditions: each theorem states its own. -/
import Derived.Test.YtpakjclpjcngmaaGreatKdQ19
import Derived.Test.YtpakjclpjcngmaaGreatKdQ18
import Derived.Test.YtpakjclpjcngmaaGreatKdQ5
import Derived.Deep.CutBlock
import Derived.Deep.DeepCutAuto
import Derived.Test.YtpakjclpjcngmaaGreatKdQ4
import Derived.Test.YtpakjclpjcngmaaGreatKdQ3
import Derived.Maps.Views
import Derived.Maps.OwnOps
import Derived.BigRegion
set_option maxRecDepth 100000
set_option maxHeartbeats 8000000
set_option linter.unusedVariables false
namespace Go.Proofs.YtpakjclpjcngmaaGreat
open Go.RowKit
section
variable {q : aeI} {p : au → Bool} {l : List au} {x : au}
end
section
variable {w : World} {D : Nat → Prop} {A B : Option Addr} {n c d : Nat} {l : List RV} {q : aeI}
end
end Go.Proofs.YtpakjclpjcngmaaGreat
namespace Go.Proofs.YtpakjclpjcngmaaGreat
open Go.RowKit Go.Maps Ps
/-! memory -/
/-! a map of numbers as a set -/
end Go.Proofs.YtpakjclpjcngmaaGreat
namespace Go.Proofs.YtpakjclpjcngmaaGreat
open Go.RowKit
theorem Ui {x y:au} (h:fQ x y=0):x.time=y.time/\x.maker=y.maker/\x.seq=y.seq/\x.place=y.place:=by
 unfold fQ or4 at h;have a:=Zl x.time y.time;have b:=Zl x.maker y.maker;have c:=Zl x.seq y.seq;have d:=Zl x.place y.place;by_cases ha:h_ x.time y.time=0
 ·rw[if_pos ha]at h
  by_cases hb:h_ x.maker y.maker=0
  ·rw[if_pos hb]at h
   by_cases hc:h_ x.seq y.seq=0
   ·rw[if_pos hc]at h
    exact ⟨a.1 ha,b.1 hb,c.1 hc,d.1 h⟩
   ·rw[if_neg hc]at h
    exact absurd h hc
  ·rw[if_neg hb]at h
   exact absurd h hb
 ·rw[if_neg ha]at h
  exact absurd h ha
section
variable {w : World} {D D2 : Nat → Prop}
theorem MN (x y:RV) (hx:x.ok w D) (hy:y.ok w D2) (hl:x.row.aB.length<=4398046511104):
 Calls Tryz.prog 50 #[bV x,bV y] w (UM (x.row=y.row) w):=by
 have HC:=ah (fun w=>zI x y w);have HZ:=ah (fun (h:fQ x.row y.row=0)=>Ui h);have HNZ:=ah (fun (h:x.row=y.row)=>show fQ x.row y.row=0 by rw[h];exact cmp_eq rfl rfl rfl rfl);obtain ⟨⟨kind,time,aB,text,value,null,maker,seq,place⟩,A1,c1⟩:=x;obtain ⟨⟨kind2,bJ,dH,dn,value2,dw,aZ,seq2,aY⟩,A2,c2⟩:=y;have HL:=ah (fun w' (c':Nx w w')=>MO (c:=c1) (d:=c2) (hx.1.nx (by decide) c') rfl hl (hy.1.nx (by decide) c') rfl);have Ad:Hid (∀a b:ByteArray,(a.toList==b.toList)=decide (a=b)):=ah str_eq;clear hx hy;unfold bV at *;simp only at *;have HB1:=ah ((aJ.new w 58 #[.int .i64 kind,.int .i64 time,.slice A1 aB.length c1,.string text,.int .i64 value,.bool null,.int .i64 maker,.int .i64 seq,.int .i64 place]).alloc (.cells #[.int .i64 kind2,.int .i64 bJ,.slice A2 dH.length c2,.string dn,.int .i64 value2,.bool dw,.int .i64 aZ,.int .i64 seq2,.int .i64 aY] 58));have HB2:Hid (aJ ((w.alloc (.cells #[.int .i64 kind,.int .i64 time,.slice A1 aB.length c1,.string text,.int .i64 value,.bool null,.int .i64 maker,.int .i64 seq,.int .i64 place] 58)).alloc (.cells #[.int .i64 kind2,.int .i64 bJ,.slice A2 dH.length c2,.string dn,.int .i64 value2,.bool dw,.int .i64 aZ,.int .i64 seq2,.int .i64 aY] 58)) (w.heap.size+1) 58 #[.int .i64 kind2,.int .i64 bJ,.slice A2 dH.length c2,.string dn,.int .i64 value2,.bool dw,.int .i64 aZ,.int .i64 seq2,.int .i64 aY]):=ah (by have:=aJ.new (w.alloc (.cells #[.int .i64 kind,.int .i64 time,.slice A1 aB.length c1,.string text,.int .i64 value,.bool null,.int .i64 maker,.int .i64 seq,.int .i64 place] 58)) 58 #[.int .i64 kind2,.int .i64 bJ,.slice A2 dH.length c2,.string dn,.int .i64 value2,.bool dw,.int .i64 aZ,.int .i64 seq2,.int .i64 aY];simpa using this);have HN:=ah (((Ch.refl (fun _=>False) w).alloc (.cells #[.int .i64 kind,.int .i64 time,.slice A1 aB.length c1,.string text,.int .i64 value,.bool null,.int .i64 maker,.int .i64 seq,.int .i64 place] 58)).alloc (.cells #[.int .i64 kind2,.int .i64 bJ,.slice A2 dH.length c2,.string dn,.int .i64 value2,.bool dw,.int .i64 aZ,.int .i64 seq2,.int .i64 aY] 58));generalize fQ _ _=z at *;go_enter Tryz.func50,Tryz.ntmps50;go_wp2_with fail;refine (HC.out _).mono ?_;rintro e w5 ⟨rfl,n5⟩;have N5:=ah (HN.out.tr n5);have b1:=HB1.out.nx n5;have b2:=HB2.out.nx n5;have p0:w5.cell? ⟨w.heap.size,0,none⟩=some (.int .i64 kind):=b1.cell 0;have p1:w5.cell? ⟨w.heap.size,1,none⟩=some (.int .i64 time):=b1.cell 1;have p2:w5.cell? ⟨w.heap.size,2,none⟩=some (.slice A1 aB.length c1):=b1.cell 2;have p3:w5.cell? ⟨w.heap.size,3,none⟩=some (.string text):=b1.cell 3;have p4:w5.cell? ⟨w.heap.size,4,none⟩=some (.int .i64 value):=b1.cell 4;have p5:w5.cell? ⟨w.heap.size,5,none⟩=some (.bool null):=b1.cell 5;have p6:w5.cell? ⟨w.heap.size,6,none⟩=some (.int .i64 maker):=b1.cell 6;have p7:w5.cell? ⟨w.heap.size,7,none⟩=some (.int .i64 seq):=b1.cell 7;have p8:w5.cell? ⟨w.heap.size,8,none⟩=some (.int .i64 place):=b1.cell 8;have q0:w5.cell? ⟨w.heap.size+1,0,none⟩=some (.int .i64 kind2):=b2.cell 0;have q1:w5.cell? ⟨w.heap.size+1,1,none⟩=some (.int .i64 bJ):=b2.cell 1;have q2:w5.cell? ⟨w.heap.size+1,2,none⟩=some (.slice A2 dH.length c2):=b2.cell 2;have q3:w5.cell? ⟨w.heap.size+1,3,none⟩=some (.string dn):=b2.cell 3;have q4:w5.cell? ⟨w.heap.size+1,4,none⟩=some (.int .i64 value2):=b2.cell 4;have q5:w5.cell? ⟨w.heap.size+1,5,none⟩=some (.bool dw):=b2.cell 5;have q6:w5.cell? ⟨w.heap.size+1,6,none⟩=some (.int .i64 aZ):=b2.cell 6;have q7:w5.cell? ⟨w.heap.size+1,7,none⟩=some (.int .i64 seq2):=b2.cell 7;have q8:w5.cell? ⟨w.heap.size+1,8,none⟩=some (.int .i64 aY):=b2.cell 8;clear n5 b1 b2 HB1 HB2 HC HN;by_cases hz:z=0
 ·have E:=ah (HZ.out hz)
  subst hz;clear HZ HNZ;by_cases hk:kind=kind2
  ·subst hk
   by_cases ht:text=dn
   ·subst ht
    by_cases hv:value=value2
    ·subst hv
     by_cases hn:null=dw
     ·subst hn
      have hnn:(null==null)=true:=(by simp);go_wp2_with fail;refine (HL.out _ N5.out).mono ?_;rintro e w6 ⟨b,rfl,hb,n6⟩;have HBB:=ah hb;have N6:=ah (N5.out.tr n6);clear hb n6;go_wp2_with fail;go_ret;refine ⟨b,rfl,?_,N6.out⟩;rw[HBB.out];obtain ⟨e1,e2,e3,e4⟩:=E.out;subst e1;subst e2;subst e3;subst e4
      simp
     ·have h1:(null==dw)=false:=by simpa using hn
      have HR:=ah hn;clear hn;go_wp2_with fail;go_ret;exact ⟨false,rfl,by simp[HR.out],N5.out⟩
    ·have h1:(value==value2)=false:=by simpa using hv
     have HR:=ah hv;clear hv;go_wp2_with fail;go_ret;exact ⟨false,rfl,by simp[HR.out],N5.out⟩
   ·have h1:(text.toList==dn.toList)=false:=by rw[Ad.out];exact decide_eq_false ht
    have HR:=ah ht;clear ht;go_wp2_with fail;go_ret;exact ⟨false,rfl,by simp[HR.out],N5.out⟩
  ·have h1:(kind==kind2)=false:=by simpa using hk
   have HR:=ah hk;clear hk;go_wp2_with fail;go_ret;exact ⟨false,rfl,by simp[HR.out],N5.out⟩
 ·have h1:(z==0)=false:=by simpa using hz
  have HR:=ah (fun h=>hz (HNZ.out h));clear hz HZ HNZ;go_wp2_with fail;go_ret;exact ⟨false,rfl,by simpa using HR.out,N5.out⟩
end
structure xG (w:World) (D:Nat->Prop) (A:Option Addr) (l:List RV):Prop where
 rd:Rd w D 9 A l.length (ji l)
 ok:∀x∈l,x.ok w D/\x.row.aB.length<=4398046511104
theorem xG.nx {w w':World} {D:Nat->Prop} {A:Option Addr} {l:List RV} (h:xG w D A l) (c:Nx w w'):xG w' D A l:=
 ⟨h.rd.nx (by decide) c,fun x hx=>⟨(h.ok x hx).1.ch c (fun _ _ _ hf=>hf) fun _ hD=>hD,(h.ok x hx).2⟩⟩
section
variable {w : World} {D D2 : Nat → Prop} {A B : Option Addr} {n c m d : Nat} {l ls : List RV}
theorem z36 (hr:xG w D A l) (hl:l.length=n) (hn:n<=4398046511104) (hr2:xG w D2 B ls) (hm:ls.length=m):
 Calls Tryz.prog 16 #[.slice A n c,.slice B m d] w (UM (l.map (fun x=>x.row)=ls.map fun x=>x.row) w):=by
 have Hl:=ah hl;have Hm:=ah hm;have Hr:=ah hr;have Hr2:=ah hr2;by_cases hnm:n=m
 ·subst hnm
  clear hl hm hr hr2;go_enter Tryz.func16,Tryz.ntmps16;go_wp2_with fail;go_loopw [13] (fun i wr=>∃k:Nat,k<=n/\i=.int .i64 (k:Int)/\Nx w wr/\Hid ((l.take k).map (fun x=>x.row)=(ls.take k).map fun x=>x.row)) (fun i _=>n-(intOf i).toNat)
  case atStart=>exact ⟨0,Nat.zero_le _,rfl,Ch.refl _ _,ah rfl⟩
  case round=>
   obtain ⟨w4,rfl⟩:∃w4:World,w4=wr:=⟨_,rfl⟩;obtain ⟨k,hk,rfl,hn4,He⟩:=hrel;by_cases hlt:k<n
   ·have hkl:k<l.length:=by rw[Hl.out];exact hlt
    have hkm:k<ls.length:=by rw[Hm.out];exact hlt
    have LG:=ah (fun w' (c':Nx w4 w')=>z2n (Hr.out.nx (hn4.tr c')).rd hkl);have Yd:=ah (fun w' (c':Nx w4 w')=>z2n (Hr2.out.nx (hn4.tr c')).rd hkm);have HS:=ah (fun w' (c':Nx w4 w')=>MN (w:=w') (D:=D) (D2:=D2) l[k] ls[k] (((Hr.out.nx (hn4.tr c')).ok _ (List.getElem_mem hkl)).1) (((Hr2.out.nx (hn4.tr c')).ok _ (List.getElem_mem hkm)).1) ((Hr.out.ok _ (List.getElem_mem hkl)).2));have HT:=ah (fun (h:l[k].row=ls[k].row)=>show (l.take (k+1)).map (fun x=>x.row)=(ls.take (k+1)).map fun x=>x.row by rw[List.take_succ_eq_append_getElem hkl,List.take_succ_eq_append_getElem hkm,List.map_append,List.map_append,He.out];simp[h])
    have HD:=ah (fun (h:¬l[k].row=ls[k].row)=>show ¬(l.map (fun x=>x.row)=ls.map fun x=>x.row) by
     intro e;apply h
     have e2:=congrArg (fun q=>q[k]?) e;simpa [List.getElem?_eq_getElem hkl,List.getElem?_eq_getElem hkm]using e2)
    have N4:=ah hn4;clear hn4;generalize l[k]=x at *;generalize ls[k]=y at *;obtain ⟨⟨kind,time,aB,text,value,null,maker,seq,place⟩,A1,c1⟩:=x;obtain ⟨⟨kind2,bJ,dH,dn,value2,dw,aZ,seq2,aY⟩,A2,c2⟩:=y;unfold bV at HS;simp only at HS LG Yd HT HD;obtain ⟨ad,rfl, -, -⟩:=LG.out _ (Ch.refl _ _);obtain ⟨ad2,rfl, -, -⟩:=Yd.out _ (Ch.refl _ _);go_wp2_with fail;have hnd:Nx w4 w4.drew:=(Ch.refl _ w4).drew;refine wp_region_still_tail 8 rfl (by kernel_rfl) ?_;change wpStill _ _ w4.drew _ _ _;obtain ⟨ad',ea, -,p0,p1,p2,p3,p4,p5,p6,p7,p8⟩:=LG.out _ hnd;injection ea with ea;subst ea;obtain ⟨ad2',ea, -,q0,q1,q2,q3,q4,q5,q6,q7,q8⟩:=Yd.out _ hnd;injection ea with ea;subst ea;have Yh:=ah hnd;clear hnd;generalize w4.drew=w6 at *;simp only[List.take_succ_cons,List.take_zero,List.drop_succ_cons,List.drop_zero]
    repeat still_step
    refine wpStill_nil ?_;clear p0 p1 p2 p3 p4 p5 p6 p7 p8 q0 q1 q2 q3 q4 q5 q6 q7 q8 LG Yd;go_wp2_with fail;refine (HS.out _ (Ch.refl (fun _=>False) w4).drew).mono ?_;rintro e w7 ⟨b,rfl,hb,n7⟩;have N7:=ah (N4.out.drew.tr n7);have HBB:=ah hb;clear n7 hb HS Yh;cases b
    ·have HR:=ah (HD.out (fun h=>by have:=HBB.out.2 h;cases this))
     go_wp2_with fail;go_ret;exact ⟨false,rfl,by simp[HR.out],N7.out⟩
    ·have HR:=ah (HT.out (HBB.out.1 rfl))
     go_wp2_with fail;go_roundw
     case rel=>exact ⟨k+1,by omega,by go_num,N7.out,HR⟩
     case measure=>simp[intOf];omega
   ·have HR:Hid (l.map (fun x=>x.row)=ls.map fun x=>x.row):=ah (by
     have:=He.out;rw[List.take_of_length_le (by rw[Hl.out];omega),List.take_of_length_le (by rw[Hm.out];omega)]at this;exact this)
    have N4:=ah hn4;clear hn4;go_wp2_with fail;go_ret;exact ⟨true,rfl,by simp[HR.out],N4.out⟩
 ·have HR:Hid (¬(l.map (fun x=>x.row)=ls.map fun x=>x.row)):=ah (fun e=>hnm (by have:=congrArg List.length e;simpa [Hl.out,Hm.out]using this))
  have hne:((n:Int) !=(m:Int))=true:=by rw[bne_iff_ne];omega
  clear hl hm hnm hr hr2;go_enter Tryz.func16,Tryz.ntmps16;go_wp2_with fail;go_ret;exact ⟨false,rfl,by simp[HR.out],Ch.refl _ _⟩
end
end Go.Proofs.YtpakjclpjcngmaaGreat
