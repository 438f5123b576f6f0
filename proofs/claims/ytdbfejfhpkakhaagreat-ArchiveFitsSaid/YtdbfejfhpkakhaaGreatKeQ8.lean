/- Contracts and plain laws that the last text rests on. Conditions: each theorem states its own. -/
import Derived.Test.YtdbfejfhpkakhaaGreatKeQ6
import Derived.Test.YtdbfejfhpkakhaaGreatKeQ7
import Derived.Lib.RowBridge
import Derived.Sort.Walk0
import Derived.Test.YtdbfejfhpkakhaaGreatKeQ2
import Derived.Test.YtdbfejfhpkakhaaGreatKeQ4
set_option maxRecDepth 100000
set_option maxHeartbeats 4000000
set_option linter.unusedVariables false
namespace Go.Proofs.YtdbfejfhpkakhaaGreat
open Go.RowKit
theorem KT (a b:ByteArray):Op.bytesLess a.toList b.toList=bC a b:=by
 unfold bC;rw[Proofs.bytesLess_eq,ByteArray.toList_eq,ByteArray.toList_eq]
theorem jW {l:List bZ} {k:Nat} (h:k<l.length):dL l k=l[k]:=by
 unfold dL;rw[List.getD_eq_getElem?_getD,List.getElem?_eq_getElem h];rfl
section
variable {w : World} {D : Nat → Prop} {A : Option Addr} {n c : Nat} {l : List bZ}
theorem Yb (hr:Rd w D 2 A n (lbl l)) (hl:l.length=n) (hn:n<=9223372036854775807) (hsm:∀x∈l,x.small):
 Calls Tryz.prog 19 #[.slice A n c] w fun e w'=>e=.returned (.bool (gK l))/\Nx w w':=by
 have hbad:∀k,k<l.length->iC l k=false->gK l=false:=fun k h hf=>by
  unfold gK;rw[Bool.and_eq_false_iff];right
  rw[List.all_eq_false];exact ⟨k,List.mem_range.2 h,by rw[hf];simp⟩
 have hgood:(∀i,i<l.length->iC l i=true)->gK l=decide (l.length<=4):=fun h=>by
  unfold gK;rw[show ((List.range l.length).all fun i=>iC l i)=true from yH.2 h,Bool.and_true]
 have Hl:=ah hl;have nV:=ah hbad;have jr:=ah hgood;have Hsm:=ah hsm;clear hl hbad hgood hsm;go_enter Tryz.func19,Tryz.ntmps19;go_wp2_with fail;go_loopw [7] (fun i wr=>∃k:Nat,k<=n/\i=.int .i64 (k:Int)/\Nx w wr/\Hid (∀i,i<k->iC l i=true)) (fun i _=>n-(intOf i).toNat)
 case atStart=>exact ⟨0,Nat.zero_le _,rfl,Ch.refl _ _,ah fun i hi=>by omega⟩
 case round=>
  obtain ⟨w4,rfl⟩:∃w4:World,w4=wr:=⟨_,rfl⟩;obtain ⟨k,hk,rfl,hn4,He⟩:=hrel;by_cases hlt:k<n
  ·have hkl:k<l.length:=by rw[Hl.out];exact hlt
   obtain ⟨ad,rfl,hb,p0,p1⟩:=mM (hr.nx (by decide) hn4) hkl;have hsx:=Hsm.out _ (List.getElem_mem hkl);have hB:=ah (fun h=>nV.out k hkl h)
   have hG:Hid (iC l k=true->∀i,i<k+1->iC l i=true):=ah (fun h i hi=>by
    by_cases e:i=k
    ·subst e;exact h
    ·exact He.out i (by omega))
   have hnm:=fun w=>name_any l[k].name w hsx.1;have HF:Hid (iC l k=(aT l[k].name&&decide (l[k].value.size<=16)&&(decide (k=0)||bC (dL l (k-1)).name l[k].name))):=ah (by unfold iC;rw[jW hkl]);obtain ⟨j,hj⟩:∃j,k-1=j:=⟨_,rfl⟩
   have wK:0<k->∃pv:ByteArray,(dL l j).name=pv/\∀o,(w4.alloc o).cell? (ad.add (j * 2))=some (.string pv):=fun h0=>by
    have hjl:j<l.length:=(by omega);obtain ⟨ad2,e2,_,q0,_⟩:=mM (hr.nx (by decide) hn4) hjl;injection e2 with e2;subst e2;refine ⟨_,by rw[jW hjl],fun o=>?_⟩;exact (World.cell?_alloc_lt w4 o _ (World.block_lt_of_cell? w4 _ q0)).trans q0
   rw[hj]at HF;have Hn4:=ah hn4;clear hn4 hsx;generalize l[k]=x at *;have Sr:=ah hnm;clear hnm;cases iE:aT x.name
   ·have Hk:=ah (hB.out (by rw[HF.out,iE];rfl))
    rw[iE]at Sr;clear iE;go_wp2_with fail;go_quiet ((first|(go_at_call 41;exact Gw (Sr.out _))))
    go_wp2_with fail;go_ret;exact ⟨by rw[Hk.out];rfl,(Hn4.out.alloc _).drewN _⟩
   ·rw[iE]at Sr
    by_cases hv:x.value.size<=16
    ·have hv1:¬(16:Int)<(x.value.size:Int):=by omega
     by_cases h0:0<k
     ·obtain ⟨pv,hpv,q0⟩:=wK h0
      have h0':(0:Int)<(k:Int):=(by omega);have kj:(k:Int)-1=(j:Int):=(by omega);have kw:IntKind.i64.wrap (j:Int)=(j:Int):=IntWalk.i64_in _ (by omega);have kb:(j:Int)<(n:Int):=(by omega);have kb2:j<n:=(by omega);cases hbl:bC pv x.name
      ·have Hk:=ah (hB.out (by rw[HF.out,iE,hpv,hbl,decide_eq_false (show ¬k=0 by omega)];simp))
       have hq:Op.bytesLess pv.toList x.name.toList=false:=by rw[KT];exact hbl
       clear iE hbl wK hpv hj;go_wp2_with fail;go_quiet ((first|(go_at_call 41;exact Gw (Sr.out _))))
       go_wp2_with fail;go_ret;exact ⟨by rw[Hk.out];rfl,(Hn4.out.alloc _).drewN _⟩
      ·have Hk:=ah (hG.out (by rw[HF.out,iE,hpv,hbl,decide_eq_true hv];simp))
       have hq:Op.bytesLess pv.toList x.name.toList=true:=by rw[KT];exact hbl
       clear iE hbl wK hpv hj;go_wp2_with fail;go_quiet ((first|(go_at_call 41;exact Gw (Sr.out _))))
       go_wp2_with fail;go_roundw
       case rel=>exact ⟨k+1,by omega,by go_num,(Hn4.out.alloc _).drewN _,ah Hk.out⟩
       case measure=>simp[intOf];omega
     ·have Hk:=ah (hG.out (by rw[HF.out,iE,decide_eq_true hv,decide_eq_true (show k=0 by omega)];rfl))
      have hA:decide (0<k)=false:=by rw[decide_eq_false_iff_not];exact h0
      have hV:decide ((16:Int)<(x.value.size:Int))=false:=by rw[decide_eq_false_iff_not];exact hv1
      clear iE wK hj h0 hv1 hv;go_wp2_with fail;go_quiet ((first|(go_at_call 41;exact Gw (Sr.out _))))
      go_wp2_with fail;go_roundw
      case rel=>exact ⟨k+1,by omega,by go_num,(Hn4.out.alloc _).drewN _,ah Hk.out⟩
      case measure=>simp[intOf];omega
    ·have hv1:(16:Int)<(x.value.size:Int):=by omega
     have Hk:=ah (hB.out (by rw[HF.out,iE,decide_eq_false hv];rfl));clear iE wK hj;go_wp2_with fail;go_quiet ((first|(go_at_call 41;exact Gw (Sr.out _))))
     go_wp2_with fail;go_ret;exact ⟨by rw[Hk.out];rfl,(Hn4.out.alloc _).drewN _⟩
  ·have Hk:=ah (jr.out fun i hi=>He.out i (by have:=Hl.out;omega))
   have hkn:k=n:=(by omega);have e:Hid (decide (l.length<=4)=decide ((n:Int)<=4)):=ah (by rw[Hl.out,decide_eq_decide];omega);have Hn4:=ah hn4;clear hn4;go_wp2_with fail;go_ret;exact ⟨by rw[Hk.out,e.out];rfl,Hn4.out⟩
end
end Go.Proofs.YtdbfejfhpkakhaaGreat
namespace Go.Proofs.YtdbfejfhpkakhaaGreat
open Go.RowKit Ps
theorem qB (c:Nat) (hc:c<256) (w:World):Calls Tryz.prog 72 #[.int .u8 (c:Int)] w fun e w'=>e=.returned (.bool (Pn c))/\w=w':=by
 by_cases a:32<=c/\c<=126/\c≠34/\c≠92
 ·have HR:Hid (Pn c=true):=ah (decide_eq_true a)
  have b1:(32:Int)<=(c:Int):=by omega
  have b2:(c:Int)<=126:=by omega
  have b3:((c:Int) !=34)=true:=by rw[bne_iff_ne];omega
  have b4:((c:Int) !=92)=true:=by rw[bne_iff_ne];omega
  clear a;go_enter Tryz.func72,Tryz.ntmps72;go_wp2_with fail;go_ret;exact ⟨by rw[HR.out];rfl,rfl⟩
 ·have HR:Hid (Pn c=false):=ah (decide_eq_false a)
  by_cases b1:(32:Int)<=(c:Int)
  ·by_cases b2:(c:Int)<=126
   ·by_cases b3:(c:Int)=34
    ·have b3':((c:Int) !=34)=false:=by rw[b3];rfl
     clear a b3;go_enter Tryz.func72,Tryz.ntmps72;go_wp2_with fail;go_ret;exact ⟨by rw[HR.out];rfl,rfl⟩
    ·have b3':((c:Int) !=34)=true:=by rw[bne_iff_ne];exact b3
     have b4':((c:Int) !=92)=false:=by rw[bne_eq_false_iff_eq];omega
     clear a b3;go_enter Tryz.func72,Tryz.ntmps72;go_wp2_with fail;go_ret;exact ⟨by rw[HR.out];rfl,rfl⟩
   ·clear a
    go_enter Tryz.func72,Tryz.ntmps72;go_wp2_with fail;go_ret;exact ⟨by rw[HR.out];rfl,rfl⟩
  ·clear a
   go_enter Tryz.func72,Tryz.ntmps72;go_wp2_with fail;go_ret;exact ⟨by rw[HR.out];rfl,rfl⟩
end Go.Proofs.YtdbfejfhpkakhaaGreat
