/- Contracts and plain laws that the last text rests on. Conditions: each theorem states its own. -/
import Derived.Test.YtdbfejfhpkakhaaGreatKKd2Q5
import Derived.Test.YtdbfejfhpkakhaaGreatKKd2Q6
import Derived.Lib.RowBridge
import Derived.Sort.Walk0
import Derived.Test.YtdbfejfhpkakhaaGreatKKd2Q2
import Derived.Test.YtdbfejfhpkakhaaGreatKKd2Q3
import Derived.Test.YtdbfejfhpkakhaaGreatKKd2Q4
import Derived.Laws.StructEq
import Derived.Deep.QuietTactic
import Derived.BigQuiet
set_option maxRecDepth 100000
set_option maxHeartbeats 4000000
set_option linter.unusedVariables false
set_option linter.unusedSimpArgs false
namespace Go.Proofs.YtdbfejfhpkakhaaGreat
open Go.RowKit
theorem Nr (a b:ByteArray):Op.bytesLess a.toList b.toList=bD a b:=by
 unfold bD;rw[Proofs.bytesLess_eq,ByteArray.toList_eq,ByteArray.toList_eq]
theorem kK {l:List bT} {k:Nat} (h:k<l.length):dR l k=l[k]:=by
 unfold dR;rw[List.getD_eq_getElem?_getD,List.getElem?_eq_getElem h];rfl
section
variable {w : World} {D : Nat → Prop} {A : Option Addr} {n c : Nat} {l : List bT}
theorem ZH (hr:Rd w D 2 A n (lbl l)) (hl:l.length=n) (hn:n<=9223372036854775807) (hsm:∀x∈l,x.small):
 Calls Tryz.prog 19 #[.slice A n c] w fun e w'=>e=.returned (.bool (gQ l))/\Nx w w':=by
 have hbad:∀k,k<l.length->iL l k=false->gQ l=false:=fun k h hf=>by
  unfold gQ;rw[Bool.and_eq_false_iff];right
  rw[List.all_eq_false];exact ⟨k,List.mem_range.2 h,by rw[hf];simp⟩
 have hgood:(∀i,i<l.length->iL l i=true)->gQ l=decide (l.length<=4):=fun h=>by
  unfold gQ;rw[show ((List.range l.length).all fun i=>iL l i)=true from Dh.2 h,Bool.and_true]
 have Hl:=ah hl;have CY:=ah hbad;have yO:=ah hgood;have Hsm:=ah hsm;clear hl hbad hgood hsm;go_enter Tryz.func19,Tryz.ntmps19;go_wp2_with fail;go_loopw [7] (fun i wr=>∃k:Nat,k<=n/\i=.int .i64 (k:Int)/\Nx w wr/\Hid (∀i,i<k->iL l i=true)) (fun i _=>n-(intOf i).toNat)
 case atStart=>exact ⟨0,Nat.zero_le _,rfl,Ch.refl _ _,ah fun i hi=>by omega⟩
 case round=>
  obtain ⟨w4,rfl⟩:∃w4:World,w4=wr:=⟨_,rfl⟩;obtain ⟨k,hk,rfl,hn4,He⟩:=hrel;by_cases hlt:k<n
  ·have hkl:k<l.length:=by rw[Hl.out];exact hlt
   obtain ⟨ad,rfl,hb,p0,p1⟩:=SY (hr.nx (by decide) hn4) hkl;have hsx:=Hsm.out _ (List.getElem_mem hkl);have hB:=ah (fun h=>CY.out k hkl h)
   have hG:Hid (iL l k=true->∀i,i<k+1->iL l i=true):=ah (fun h i hi=>by
    by_cases e:i=k
    ·subst e;exact h
    ·exact He.out i (by omega))
   have hnm:=fun w=>name_any l[k].name w hsx.1;have HF:Hid (iL l k=(bK l[k].name&&decide (l[k].value.size<=16)&&(decide (k=0)||bD (dR l (k-1)).name l[k].name))):=ah (by unfold iL;rw[kK hkl]);obtain ⟨j,hj⟩:∃j,k-1=j:=⟨_,rfl⟩
   have xA:0<k->∃pv:ByteArray,(dR l j).name=pv/\∀o,(w4.alloc o).cell? (ad.add (j * 2))=some (.string pv):=fun h0=>by
    have hjl:j<l.length:=(by omega);obtain ⟨ad2,e2,_,q0,_⟩:=SY (hr.nx (by decide) hn4) hjl;injection e2 with e2;subst e2;refine ⟨_,by rw[kK hjl],fun o=>?_⟩;exact (World.cell?_alloc_lt w4 o _ (World.block_lt_of_cell? w4 _ q0)).trans q0
   rw[hj]at HF;have Hn4:=ah hn4;clear hn4 hsx;generalize l[k]=x at *;have Va:=ah hnm;clear hnm;cases kQ:bK x.name
   ·have Hk:=ah (hB.out (by rw[HF.out,kQ];rfl))
    rw[kQ]at Va;clear kQ;go_wp2_with fail;go_quiet ((first|(go_at_call 41;exact z14 (Va.out _))))
    go_wp2_with fail;go_ret;exact ⟨by rw[Hk.out];rfl,(Hn4.out.alloc _).drewN _⟩
   ·rw[kQ]at Va
    by_cases hv:x.value.size<=16
    ·have hv1:¬(16:Int)<(x.value.size:Int):=by omega
     by_cases h0:0<k
     ·obtain ⟨pv,hpv,q0⟩:=xA h0
      have h0':(0:Int)<(k:Int):=(by omega);have kj:(k:Int)-1=(j:Int):=(by omega);have kw:IntKind.i64.wrap (j:Int)=(j:Int):=IntWalk.i64_in _ (by omega);have kb:(j:Int)<(n:Int):=(by omega);have kb2:j<n:=(by omega);cases hbl:bD pv x.name
      ·have Hk:=ah (hB.out (by rw[HF.out,kQ,hpv,hbl,decide_eq_false (show ¬k=0 by omega)];simp))
       have hq:Op.bytesLess pv.toList x.name.toList=false:=by rw[Nr];exact hbl
       clear kQ hbl xA hpv hj;go_wp2_with fail;go_quiet ((first|(go_at_call 41;exact z14 (Va.out _))))
       go_wp2_with fail;go_ret;exact ⟨by rw[Hk.out];rfl,(Hn4.out.alloc _).drewN _⟩
      ·have Hk:=ah (hG.out (by rw[HF.out,kQ,hpv,hbl,decide_eq_true hv];simp))
       have hq:Op.bytesLess pv.toList x.name.toList=true:=by rw[Nr];exact hbl
       clear kQ hbl xA hpv hj;go_wp2_with fail;go_quiet ((first|(go_at_call 41;exact z14 (Va.out _))))
       go_wp2_with fail;go_roundw
       case rel=>exact ⟨k+1,by omega,by go_num,(Hn4.out.alloc _).drewN _,ah Hk.out⟩
       case measure=>simp[intOf];omega
     ·have Hk:=ah (hG.out (by rw[HF.out,kQ,decide_eq_true hv,decide_eq_true (show k=0 by omega)];rfl))
      have hA:decide (0<k)=false:=by rw[decide_eq_false_iff_not];exact h0
      have hV:decide ((16:Int)<(x.value.size:Int))=false:=by rw[decide_eq_false_iff_not];exact hv1
      clear kQ xA hj h0 hv1 hv;go_wp2_with fail;go_quiet ((first|(go_at_call 41;exact z14 (Va.out _))))
      go_wp2_with fail;go_roundw
      case rel=>exact ⟨k+1,by omega,by go_num,(Hn4.out.alloc _).drewN _,ah Hk.out⟩
      case measure=>simp[intOf];omega
    ·have hv1:(16:Int)<(x.value.size:Int):=by omega
     have Hk:=ah (hB.out (by rw[HF.out,kQ,decide_eq_false hv];rfl));clear kQ xA hj;go_wp2_with fail;go_quiet ((first|(go_at_call 41;exact z14 (Va.out _))))
     go_wp2_with fail;go_ret;exact ⟨by rw[Hk.out];rfl,(Hn4.out.alloc _).drewN _⟩
  ·have Hk:=ah (yO.out fun i hi=>He.out i (by have:=Hl.out;omega))
   have hkn:k=n:=(by omega);have e:Hid (decide (l.length<=4)=decide ((n:Int)<=4)):=ah (by rw[Hl.out,decide_eq_decide];omega);have Hn4:=ah hn4;clear hn4;go_wp2_with fail;go_ret;exact ⟨by rw[Hk.out,e.out];rfl,Hn4.out⟩
end
end Go.Proofs.YtdbfejfhpkakhaaGreat
namespace Go.Proofs.YtdbfejfhpkakhaaGreat
open Go.RowKit Ps
theorem qK (c:Nat) (hc:c<256) (w:World):Calls Tryz.prog 72 #[.int .u8 (c:Int)] w fun e w'=>e=.returned (.bool (zk c))/\w=w':=by
 by_cases a:32<=c/\c<=126/\c≠34/\c≠92
 ·have HR:Hid (zk c=true):=ah (decide_eq_true a)
  have b1:(32:Int)<=(c:Int):=by omega
  have b2:(c:Int)<=126:=by omega
  have b3:((c:Int) !=34)=true:=by rw[bne_iff_ne];omega
  have b4:((c:Int) !=92)=true:=by rw[bne_iff_ne];omega
  clear a;go_enter Tryz.func72,Tryz.ntmps72;go_wp2_with fail;go_ret;exact ⟨by rw[HR.out];rfl,rfl⟩
 ·have HR:Hid (zk c=false):=ah (decide_eq_false a)
  by_cases b1:(32:Int)<=(c:Int)
  ·by_cases b2:(c:Int)<=126
   ·by_cases b3:(c:Int)=34
    ·have b3':((c:Int) !=34)=false:=by rw[b3];rfl
     clear a b3;go_enter Tryz.func72,Tryz.ntmps72;go_wp2_with fail;go_ret;exact ⟨by rw[HR.out];rfl,rfl⟩
    ·have b3':((c:Int) !=34)=true:=by rw[bne_iff_ne];exact b3
     have b4':((c:Int) !=92)=false:=by rw[bne_eq_false_iff_eq];omega
     clear a b3;go_enter Tryz.func72,Tryz.ntmps72;go_wp2_with fail;go_ret;exact ⟨by rw[HR.out];rfl,rfl⟩
   ·clear a
    go_enter Tryz.func72,Tryz.ntmps72;go_wp2_with fail;go_ret;exact ⟨by rw[HR.out];rfl,rfl⟩
  ·clear a
   go_enter Tryz.func72,Tryz.ntmps72;go_wp2_with fail;go_ret;exact ⟨by rw[HR.out];rfl,rfl⟩
end Go.Proofs.YtdbfejfhpkakhaaGreat
namespace Go.Proofs.YtdbfejfhpkakhaaGreat
open Go.RowKit
theorem Es {x y:aC} (h:x.time<y.time):dQ x y= -1:=by simp[dQ,or4,eU];omega
theorem Ey {x y:aC} (h:y.time<x.time):dQ x y=1:=by simp[dQ,or4,eU];omega
theorem Ep {x y:aC} (h0:x.time=y.time) (h:x.maker<y.maker):dQ x y= -1:=by simp[dQ,or4,eU,h0];omega
theorem Ew {x y:aC} (h0:x.time=y.time) (h:y.maker<x.maker):dQ x y=1:=by simp[dQ,or4,eU,h0];omega
theorem Eo {x y:aC} (h0:x.time=y.time) (h1:x.maker=y.maker) (h:x.seq<y.seq):dQ x y= -1:=by simp[dQ,or4,eU,h0,h1];omega
theorem Eu {x y:aC} (h0:x.time=y.time) (h1:x.maker=y.maker) (h:y.seq<x.seq):dQ x y=1:=by simp[dQ,or4,eU,h0,h1];omega
theorem En {x y:aC} (h0:x.time=y.time) (h1:x.maker=y.maker) (h2:x.seq=y.seq) (h:x.place<y.place):dQ x y= -1:=by simp[dQ,or4,eU,h0,h1,h2];omega
theorem Et {x y:aC} (h0:x.time=y.time) (h1:x.maker=y.maker) (h2:x.seq=y.seq) (h:y.place<x.place):dQ x y=1:=by simp[dQ,or4,eU,h0,h1,h2];omega
theorem cmp_eq {x y:aC} (h0:x.time=y.time) (h1:x.maker=y.maker) (h2:x.seq=y.seq) (h3:x.place=y.place):dQ x y=0:=by simp[dQ,or4,eU,h0,h1,h2,h3]
def yL (x y:aC) (k:Nat):Prop:=(0<k->x.time=y.time)/\(1<k->x.maker=y.maker)/\(2<k->x.seq=y.seq)/\(3<k->x.place=y.place)
section
variable {w : World}
theorem uK (x y:RV) (w:World):Calls Tryz.prog 55 #[aK x,aK y] w fun e w'=>e=.returned (.int .i64 (dQ x.row y.row))/\Nx w w':=by
 obtain ⟨⟨kind,time,ak,text,value,null,maker,seq,place⟩,A1,c1⟩:=x;obtain ⟨⟨kind2,aU,bJ,bH,value2,bI,aP,seq2,aO⟩,A2,c2⟩:=y;unfold aK;simp only;generalize hX:(⟨kind,time,ak,text,value,null,maker,seq,place⟩:aC)=X;generalize hY:(⟨kind2,aU,bJ,bH,value2,bI,aP,seq2,aO⟩:aC)=Y;have E:Hid (X.time=time/\X.maker=maker/\X.seq=seq/\X.place=place/\Y.time=aU/\Y.maker=aP/\Y.seq=seq2/\Y.place=aO):=ah (by subst hX;subst hY;exact ⟨rfl,rfl,rfl,rfl,rfl,rfl,rfl,rfl⟩);clear hX hY;go_enter Tryz.func55,Tryz.ntmps55;go_wp2_with fail;go_loopw [28] (fun i wr=>∃k:Nat,k<=4/\i=.int .i64 (k:Int)/\Nx w wr/\Hid (aG wr (w.heap.size+1+1) 73 #[.int .i64 time,.int .i64 maker,.int .i64 seq,.int .i64 place])/\Hid (aG wr (w.heap.size+1+1+1) 73 #[.int .i64 aU,.int .i64 aP,.int .i64 seq2,.int .i64 aO])/\Hid (yL X Y k)) (fun i _=>4-(intOf i).toNat)
 case atStart=>
  refine ⟨0,by decide,rfl,((((Ch.refl _ w).alloc _).alloc _).alloc _).alloc _,ah ?_,ah ?_,ah ⟨fun h=>by omega,fun h=>by omega,fun h=>by omega,fun h=>by omega⟩⟩
  ·refine aG.alloc ?_ _
   have:=aG.new ((w.alloc (.cells #[.int .i64 kind,.int .i64 time,.slice A1 ak.length c1,.string text,.int .i64 value,.bool null,.int .i64 maker,.int .i64 seq,.int .i64 place] 79)).alloc (.cells #[.int .i64 kind2,.int .i64 aU,.slice A2 bJ.length c2,.string bH,.int .i64 value2,.bool bI,.int .i64 aP,.int .i64 seq2,.int .i64 aO] 79)) 73 #[.int .i64 time,.int .i64 maker,.int .i64 seq,.int .i64 place];simpa using this
  ·have:=aG.new (((w.alloc (.cells #[.int .i64 kind,.int .i64 time,.slice A1 ak.length c1,.string text,.int .i64 value,.bool null,.int .i64 maker,.int .i64 seq,.int .i64 place] 79)).alloc (.cells #[.int .i64 kind2,.int .i64 aU,.slice A2 bJ.length c2,.string bH,.int .i64 value2,.bool bI,.int .i64 aP,.int .i64 seq2,.int .i64 aO] 79)).alloc (.cells #[.int .i64 time,.int .i64 maker,.int .i64 seq,.int .i64 place] 73)) 73 #[.int .i64 aU,.int .i64 aP,.int .i64 seq2,.int .i64 aO]
   simpa using this
 case round=>
  obtain ⟨w4,rfl⟩:∃w4:World,w4=wr:=⟨_,rfl⟩;obtain ⟨k,hk,rfl,hn4,H1,H2,Hs⟩:=hrel;have N4:=ah hn4;clear hn4;rcases k with _|_|_|_|k
  ·have p:=H1.out.cell 0
   have r:=H2.out.cell 0;simp only[List.getElem?_toArray,List.getElem?_cons_zero]at p r;have hx:X.time=time:=E.out.1;have hy:Y.time=aU:=E.out.2.2.2.2.1;have EK:=ah (fun (h:time<aU)=>Es (x:=X) (y:=Y) (by rw[hx,hy];exact h));have Vr:=ah (fun (h:aU<time)=>Ey (x:=X) (y:=Y) (by rw[hx,hy];exact h));have Iw:=ah (fun (h1:¬time<aU) (h2:¬aU<time)=>(⟨fun _=>by rw[hx,hy];omega,fun h=>by omega,fun h=>by omega,fun h=>by omega⟩:yL X Y 1));clear hx hy;by_cases h1:time<aU
   ·have HR:=ah (EK.out h1)
    go_wp2_with fail;go_quiet (fail)
    go_wp2_with fail;go_ret;exact ⟨by rw[HR.out];rfl,by first|exact N4.out.drewN _|exact (N4.out.drewN _).drewN _⟩
   ·by_cases h2:aU<time
    ·have HR:=ah (Vr.out h2)
     go_wp2_with fail;go_quiet (fail)
     go_wp2_with fail;go_quiet (fail)
     go_wp2_with fail;go_ret;exact ⟨by rw[HR.out];rfl,by first|exact N4.out.drewN _|exact (N4.out.drewN _).drewN _⟩
    ·have HR:=ah (Iw.out h1 h2)
     go_wp2_with fail;go_quiet (fail)
     go_wp2_with fail;go_quiet (fail)
     go_wp2_with fail;go_roundw
     case rel=>exact ⟨1,by decide,by go_num,N4.out.drewN _,ah (H1.out.drewN _),ah (H2.out.drewN _),HR⟩
     case measure=>simp[intOf]
  ·have p:=H1.out.cell 1
   have r:=H2.out.cell 1;simp only[List.getElem?_toArray,List.getElem?_cons_succ,List.getElem?_cons_zero]at p r;have hx:X.maker=maker:=E.out.2.1;have hy:Y.maker=aP:=E.out.2.2.2.2.2.1;have g0:X.time=Y.time:=Hs.out.1 (by decide);have EK:=ah (fun (h:maker<aP)=>Ep (x:=X) (y:=Y) g0 (by rw[hx,hy];exact h));have Vr:=ah (fun (h:aP<maker)=>Ew (x:=X) (y:=Y) g0 (by rw[hx,hy];exact h));have Iw:=ah (fun (h1:¬maker<aP) (h2:¬aP<maker)=>(⟨fun _=>g0,fun _=>by rw[hx,hy];omega,fun h=>by omega,fun h=>by omega⟩:yL X Y 2));clear hx hy g0;by_cases h1:maker<aP
   ·have HR:=ah (EK.out h1)
    go_wp2_with fail;go_quiet (fail)
    go_wp2_with fail;go_ret;exact ⟨by rw[HR.out];rfl,by first|exact N4.out.drewN _|exact (N4.out.drewN _).drewN _⟩
   ·by_cases h2:aP<maker
    ·have HR:=ah (Vr.out h2)
     go_wp2_with fail;go_quiet (fail)
     go_wp2_with fail;go_quiet (fail)
     go_wp2_with fail;go_ret;exact ⟨by rw[HR.out];rfl,by first|exact N4.out.drewN _|exact (N4.out.drewN _).drewN _⟩
    ·have HR:=ah (Iw.out h1 h2)
     go_wp2_with fail;go_quiet (fail)
     go_wp2_with fail;go_quiet (fail)
     go_wp2_with fail;go_roundw
     case rel=>exact ⟨2,by decide,by go_num,N4.out.drewN _,ah (H1.out.drewN _),ah (H2.out.drewN _),HR⟩
     case measure=>simp[intOf]
  ·have p:=H1.out.cell 2
   have r:=H2.out.cell 2;simp only[List.getElem?_toArray,List.getElem?_cons_succ,List.getElem?_cons_zero]at p r;have hx:X.seq=seq:=E.out.2.2.1;have hy:Y.seq=seq2:=E.out.2.2.2.2.2.2.1;have g0:X.time=Y.time:=Hs.out.1 (by decide);have g1:X.maker=Y.maker:=Hs.out.2.1 (by decide);have EK:=ah (fun (h:seq<seq2)=>Eo (x:=X) (y:=Y) g0 g1 (by rw[hx,hy];exact h));have Vr:=ah (fun (h:seq2<seq)=>Eu (x:=X) (y:=Y) g0 g1 (by rw[hx,hy];exact h));have Iw:=ah (fun (h1:¬seq<seq2) (h2:¬seq2<seq)=>(⟨fun _=>g0,fun _=>g1,fun _=>by rw[hx,hy];omega,fun h=>by omega⟩:yL X Y 3));clear hx hy g0 g1;by_cases h1:seq<seq2
   ·have HR:=ah (EK.out h1)
    go_wp2_with fail;go_quiet (fail)
    go_wp2_with fail;go_ret;exact ⟨by rw[HR.out];rfl,by first|exact N4.out.drewN _|exact (N4.out.drewN _).drewN _⟩
   ·by_cases h2:seq2<seq
    ·have HR:=ah (Vr.out h2)
     go_wp2_with fail;go_quiet (fail)
     go_wp2_with fail;go_quiet (fail)
     go_wp2_with fail;go_ret;exact ⟨by rw[HR.out];rfl,by first|exact N4.out.drewN _|exact (N4.out.drewN _).drewN _⟩
    ·have HR:=ah (Iw.out h1 h2)
     go_wp2_with fail;go_quiet (fail)
     go_wp2_with fail;go_quiet (fail)
     go_wp2_with fail;go_roundw
     case rel=>exact ⟨3,by decide,by go_num,N4.out.drewN _,ah (H1.out.drewN _),ah (H2.out.drewN _),HR⟩
     case measure=>simp[intOf]
  ·have p:=H1.out.cell 3
   have r:=H2.out.cell 3;simp only[List.getElem?_toArray,List.getElem?_cons_succ,List.getElem?_cons_zero]at p r;have hx:X.place=place:=E.out.2.2.2.1;have hy:Y.place=aO:=E.out.2.2.2.2.2.2.2;have g0:X.time=Y.time:=Hs.out.1 (by decide);have g1:X.maker=Y.maker:=Hs.out.2.1 (by decide);have g2:X.seq=Y.seq:=Hs.out.2.2.1 (by decide);have EK:=ah (fun (h:place<aO)=>En (x:=X) (y:=Y) g0 g1 g2 (by rw[hx,hy];exact h));have Vr:=ah (fun (h:aO<place)=>Et (x:=X) (y:=Y) g0 g1 g2 (by rw[hx,hy];exact h));have Iw:=ah (fun (h1:¬place<aO) (h2:¬aO<place)=>(⟨fun _=>g0,fun _=>g1,fun _=>g2,fun _=>by rw[hx,hy];omega⟩:yL X Y 4));clear hx hy g0 g1 g2;by_cases h1:place<aO
   ·have HR:=ah (EK.out h1)
    go_wp2_with fail;go_quiet (fail)
    go_wp2_with fail;go_ret;exact ⟨by rw[HR.out];rfl,by first|exact N4.out.drewN _|exact (N4.out.drewN _).drewN _⟩
   ·by_cases h2:aO<place
    ·have HR:=ah (Vr.out h2)
     go_wp2_with fail;go_quiet (fail)
     go_wp2_with fail;go_quiet (fail)
     go_wp2_with fail;go_ret;exact ⟨by rw[HR.out];rfl,by first|exact N4.out.drewN _|exact (N4.out.drewN _).drewN _⟩
    ·have HR:=ah (Iw.out h1 h2)
     go_wp2_with fail;go_quiet (fail)
     go_wp2_with fail;go_quiet (fail)
     go_wp2_with fail;go_roundw
     case rel=>exact ⟨4,by decide,by go_num,N4.out.drewN _,ah (H1.out.drewN _),ah (H2.out.drewN _),HR⟩
     case measure=>simp[intOf]
  ·have hk4:k=0:=by omega
   subst hk4;have HR:=ah (cmp_eq (x:=X) (y:=Y) (Hs.out.1 (by decide)) (Hs.out.2.1 (by decide)) (Hs.out.2.2.1 (by decide)) (Hs.out.2.2.2 (by decide)));go_wp2_with fail;go_ret;exact ⟨by rw[HR.out];rfl,N4.out⟩
end
section
variable {w : World} {D D2 : Nat → Prop} {A B : Option Addr} {n c m d : Nat} {l ls : List bT}
end
end Go.Proofs.YtdbfejfhpkakhaaGreat
namespace Go.Proofs.YtdbfejfhpkakhaaGreat
open Go.RowKit Ps
section
variable {w : World}
end
end Go.Proofs.YtdbfejfhpkakhaaGreat
