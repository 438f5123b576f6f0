/- Contracts and plain laws that the last text rests on. Conditions: each theorem states its own. -/
import Derived.Test.YtpakjclpjcngmaaGreatKqQ17
import Derived.Test.YtpakjclpjcngmaaGreatKqQ10
import Derived.Lib.RowBridge
import Derived.Sort.Walk0
import Derived.Test.YtpakjclpjcngmaaGreatKqQ2
import Derived.Test.YtpakjclpjcngmaaGreatKqQ5
import Derived.Test.YtpakjclpjcngmaaGreatKqQ16
import Derived.Laws.StructEq
set_option maxRecDepth 100000
set_option maxHeartbeats 8000000
set_option linter.unusedVariables false
namespace Go.Proofs.YtpakjclpjcngmaaGreat
open Go.RowKit
theorem nZ (a b:ByteArray):Op.bytesLess a.toList b.toList=jQ a b:=by
 unfold jQ;rw[Proofs.bytesLess_eq,ByteArray.toList_eq,ByteArray.toList_eq]
theorem str_eq (a b:ByteArray):(a.toList==b.toList)=decide (a=b):=by
 rw[Bool.eq_iff_iff,beq_iff_eq,decide_eq_true_iff];constructor
 ·intro h
  rw[ByteArray.toList_eq,ByteArray.toList_eq]at h;cases a;cases b
  simpa [Array.ext_iff]using congrArg List.toArray h
 ·rintro rfl;rfl
theorem yU {l:List dP} {k:Nat} (h:k<l.length):jw l k=l[k]:=by
 unfold jw;rw[List.getD_eq_getElem?_getD,List.getElem?_eq_getElem h];rfl
section
variable {w : World} {D : Nat → Prop} {A : Option Addr} {n c : Nat} {l : List dP}
theorem get_any (hr:Rd w D 2 A n (lbl l)) (hl:l.length=n) (nm:ByteArray) (hn:n<=1000000):
 Calls Tryz.prog 210 #[.slice A n c,.string nm] w fun e w'=>e=.returned (.tuple #[.string ((ji l nm).getD ⟨#[]⟩),.bool (ji l nm).isSome])/\Nx w w':=by
 have Hl:=ah hl;clear hl;go_enter Tryz.func210,Tryz.ntmps210;go_wp2_with fail;go_loopw [10] (fun i wr=>∃k:Nat,k<=n/\i=.int .i64 (k:Int)/\Nx w wr/\Hid (ji l nm=ji (l.drop k) nm)) (fun i _=>n-(intOf i).toNat)
 case atStart=>exact ⟨0,Nat.zero_le _,rfl,Ch.refl _ _,ah rfl⟩
 case round=>
  obtain ⟨w4,rfl⟩:∃w4:World,w4=wr:=⟨_,rfl⟩;obtain ⟨k,hk,rfl,hn4,He⟩:=hrel;by_cases hlt:k<n
  ·have hkl:k<l.length:=by rw[Hl.out];exact hlt
   obtain ⟨ad,rfl,hb,p0,p1⟩:=mD (hr.nx (by decide) hn4) hkl;have Hd:=ah (List.drop_eq_getElem_cons hkl);have hq:=str_eq l[k].name nm;have Hn4:=ah hn4;clear hn4;generalize l[k]=x at *;by_cases he:x.name=nm
   ·have he2:(x.name.toList==nm.toList)=true:=by rw[hq];simpa using he
    have Hr:Hid (ji l nm=some x.value):=ah (by rw[He.out,Hd.out];unfold ji;rw[if_pos he]);clear he hq;go_wp2_with fail;exact bodyPost_ret (v:=.tuple #[.string x.value,.bool true]) (by simp[results,Tryz.results210,go_sem]) rfl ⟨by rw[Hr.out];rfl,Hn4.out.alloc _⟩
   ·have he2:(x.name.toList==nm.toList)=false:=by rw[hq];simpa using he
    have Hr:Hid (ji l nm=ji (l.drop (k+1)) nm):=ah (by rw[He.out,Hd.out];unfold ji;rw[if_neg he];cases l.drop (k+1)<;>rfl);clear he hq;go_wp2_with fail;go_roundw
    case rel=>exact ⟨k+1,by omega,by go_num,Hn4.out.alloc _,Hr⟩
    case measure=>simp[intOf];omega
  ·obtain rfl:k=n:=by omega
   have Hr:Hid (ji l nm=none):=ah (by rw[He.out,List.drop_of_length_le (by rw[Hl.out];exact Nat.le_refl _)];rfl);have Hn4:=ah hn4;clear hn4;go_wp2_with fail;exact bodyPost_ret (v:=.tuple #[.string ⟨#[]⟩,.bool false]) (by simp[results,Tryz.results210,go_sem]) rfl ⟨by rw[Hr.out];rfl,Hn4.out⟩
theorem z3B (hr:Rd w D 2 A n (lbl l)) (hl:l.length=n) (hn:n<=9223372036854775807) (hsm:∀x∈l,x.small):
 Calls Tryz.prog 145 #[.slice A n c] w fun e w'=>e=.returned (.bool (jH l))/\Nx w w':=by
 have hbad:∀k,k<l.length->nC l k=false->jH l=false:=fun k h hf=>by
  unfold jH;rw[Bool.and_eq_false_iff];right
  rw[List.all_eq_false];exact ⟨k,List.mem_range.2 h,by rw[hf];simp⟩
 have hgood:(∀i,i<l.length->nC l i=true)->jH l=decide (l.length<=4):=fun h=>by
  unfold jH;rw[show ((List.range l.length).all fun i=>nC l i)=true from z2r.2 h,Bool.and_true]
 have Hl:=ah hl;have abj:=ah hbad;have aeN:=ah hgood;have Hsm:=ah hsm;clear hl hbad hgood hsm;go_enter Tryz.func145,Tryz.ntmps145;go_wp2_with fail;go_loopw [7] (fun i wr=>∃k:Nat,k<=n/\i=.int .i64 (k:Int)/\Nx w wr/\Hid (∀i,i<k->nC l i=true)) (fun i _=>n-(intOf i).toNat)
 case atStart=>exact ⟨0,Nat.zero_le _,rfl,Ch.refl _ _,ah fun i hi=>by omega⟩
 case round=>
  obtain ⟨w4,rfl⟩:∃w4:World,w4=wr:=⟨_,rfl⟩;obtain ⟨k,hk,rfl,hn4,He⟩:=hrel;by_cases hlt:k<n
  ·have hkl:k<l.length:=by rw[Hl.out];exact hlt
   obtain ⟨ad,rfl,hb,p0,p1⟩:=mD (hr.nx (by decide) hn4) hkl;have hsx:=Hsm.out _ (List.getElem_mem hkl);have hB:=ah (fun h=>abj.out k hkl h)
   have hG:Hid (nC l k=true->∀i,i<k+1->nC l i=true):=ah (fun h i hi=>by
    by_cases e:i=k
    ·subst e;exact h
    ·exact He.out i (by omega))
   have hnm:=fun w=>name_any l[k].name w hsx.1;have HF:Hid (nC l k=(fE l[k].name&&decide (l[k].value.size<=16)&&(decide (k=0)||jQ (jw l (k-1)).name l[k].name))):=ah (by unfold nC;rw[yU hkl]);obtain ⟨j,hj⟩:∃j,k-1=j:=⟨_,rfl⟩
   have Dq:0<k->∃pv:ByteArray,(jw l j).name=pv/\∀o,(w4.alloc o).cell? (ad.add (j * 2))=some (.string pv):=fun h0=>by
    have hjl:j<l.length:=(by omega);obtain ⟨ad2,e2,_,q0,_⟩:=mD (hr.nx (by decide) hn4) hjl;injection e2 with e2;subst e2;refine ⟨_,by rw[yU hjl],fun o=>?_⟩;exact (World.cell?_alloc_lt w4 o _ (World.block_lt_of_cell? w4 _ q0)).trans q0
   rw[hj]at HF;have Hn4:=ah hn4;clear hn4 hsx;generalize l[k]=x at *;have lT:=ah hnm;clear hnm;cases Px:fE x.name
   ·have Hk:=ah (hB.out (by rw[HF.out,Px];rfl))
    rw[Px]at lT;clear Px;go_wp2_with fail;go_quiet ((first|(go_at_call 161;exact VJ (lT.out _))))
    go_wp2_with fail;go_ret;exact ⟨by rw[Hk.out];rfl,(Hn4.out.alloc _).drewN _⟩
   ·rw[Px]at lT
    by_cases hv:x.value.size<=16
    ·have hv1:¬(16:Int)<(x.value.size:Int):=by omega
     by_cases h0:0<k
     ·obtain ⟨pv,hpv,q0⟩:=Dq h0
      have h0':(0:Int)<(k:Int):=(by omega);have kj:(k:Int)-1=(j:Int):=(by omega);have kw:IntKind.i64.wrap (j:Int)=(j:Int):=IntWalk.i64_in _ (by omega);have kb:(j:Int)<(n:Int):=(by omega);have kb2:j<n:=(by omega);cases hbl:jQ pv x.name
      ·have Hk:=ah (hB.out (by rw[HF.out,Px,hpv,hbl,decide_eq_false (show ¬k=0 by omega)];simp))
       have hq:Op.bytesLess pv.toList x.name.toList=false:=by rw[nZ];exact hbl
       clear Px hbl Dq hpv hj;go_wp2_with fail;go_quiet ((first|(go_at_call 161;exact VJ (lT.out _))))
       go_wp2_with fail;go_ret;exact ⟨by rw[Hk.out];rfl,(Hn4.out.alloc _).drewN _⟩
      ·have Hk:=ah (hG.out (by rw[HF.out,Px,hpv,hbl,decide_eq_true hv];simp))
       have hq:Op.bytesLess pv.toList x.name.toList=true:=by rw[nZ];exact hbl
       clear Px hbl Dq hpv hj;go_wp2_with fail;go_quiet ((first|(go_at_call 161;exact VJ (lT.out _))))
       go_wp2_with fail;go_roundw
       case rel=>exact ⟨k+1,by omega,by go_num,(Hn4.out.alloc _).drewN _,ah Hk.out⟩
       case measure=>simp[intOf];omega
     ·have Hk:=ah (hG.out (by rw[HF.out,Px,decide_eq_true hv,decide_eq_true (show k=0 by omega)];rfl))
      have hA:decide (0<k)=false:=by rw[decide_eq_false_iff_not];exact h0
      have hV:decide ((16:Int)<(x.value.size:Int))=false:=by rw[decide_eq_false_iff_not];exact hv1
      clear Px Dq hj h0 hv1 hv;go_wp2_with fail;go_quiet ((first|(go_at_call 161;exact VJ (lT.out _))))
      go_wp2_with fail;go_roundw
      case rel=>exact ⟨k+1,by omega,by go_num,(Hn4.out.alloc _).drewN _,ah Hk.out⟩
      case measure=>simp[intOf];omega
    ·have hv1:(16:Int)<(x.value.size:Int):=by omega
     have Hk:=ah (hB.out (by rw[HF.out,Px,decide_eq_false hv];rfl));clear Px Dq hj;go_wp2_with fail;go_quiet ((first|(go_at_call 161;exact VJ (lT.out _))))
     go_wp2_with fail;go_ret;exact ⟨by rw[Hk.out];rfl,(Hn4.out.alloc _).drewN _⟩
  ·have Hk:=ah (aeN.out fun i hi=>He.out i (by have:=Hl.out;omega))
   have hkn:k=n:=(by omega);have e:Hid (decide (l.length<=4)=decide ((n:Int)<=4)):=ah (by rw[Hl.out,decide_eq_decide];omega);have Hn4:=ah hn4;clear hn4;go_wp2_with fail;go_ret;exact ⟨by rw[Hk.out,e.out];rfl,Hn4.out⟩
end
end Go.Proofs.YtpakjclpjcngmaaGreat
namespace Go.Proofs.YtpakjclpjcngmaaGreat
open Go.RowKit Ps
def YT (c:Nat):Int:=match Ak c with
 |some x=>(x:Int)
 |none=> -1
theorem wR (c:Nat) (hc:c<256) (w:World):Calls Tryz.prog 201 #[.int .u8 (c:Int)] w fun e w'=>e=.returned (.int .i64 (YT c))/\w=w':=by
 by_cases a1:48<=c/\c<=57
 ·have HR:Hid (YT c=(c:Int)-48):=ah (by unfold YT Ak;rw[if_pos a1];simp only;omega)
  have b1:(48:Int)<=(c:Int):=by omega
  have b2:(c:Int)<=57:=by omega
  clear a1;go_enter Tryz.func201,Tryz.ntmps201;go_wp2_with fail;go_ret;exact ⟨by rw[HR.out];rfl,rfl⟩
 ·by_cases a2:97<=c/\c<=102
  ·have HR:Hid (YT c=(c:Int)-97+10):=ah (by unfold YT Ak;rw[if_neg a1,if_pos a2];simp only;omega)
   have b1:(48:Int)<=(c:Int):=(by omega);have b2:¬(c:Int)<=57:=(by omega);have b3:(97:Int)<=(c:Int):=(by omega);have b4:(c:Int)<=102:=(by omega);clear a1 a2;go_enter Tryz.func201,Tryz.ntmps201;go_wp2_with fail;go_ret;exact ⟨by rw[HR.out];rfl,rfl⟩
  ·have HR:Hid (YT c= -1):=ah (by unfold YT Ak;rw[if_neg a1,if_neg a2])
   by_cases c1:(48:Int)<=(c:Int)
   ·have b2:¬(c:Int)<=57:=by omega
    by_cases c2:(97:Int)<=(c:Int)
    ·have b4:¬(c:Int)<=102:=by omega
     clear a1 a2;go_enter Tryz.func201,Tryz.ntmps201;go_wp2_with fail;go_ret;exact ⟨by rw[HR.out];rfl,rfl⟩
    ·clear a1 a2
     go_enter Tryz.func201,Tryz.ntmps201;go_wp2_with fail;go_ret;exact ⟨by rw[HR.out];rfl,rfl⟩
   ·have c2:¬(97:Int)<=(c:Int):=by omega
    clear a1 a2;go_enter Tryz.func201,Tryz.ntmps201;go_wp2_with fail;go_ret;exact ⟨by rw[HR.out];rfl,rfl⟩
theorem z3F (c:Nat) (hc:c<256) (w:World):Calls Tryz.prog 174 #[.int .u8 (c:Int)] w fun e w'=>e=.returned (.bool (EU c))/\w=w':=by
 by_cases a:32<=c/\c<=126/\c≠34/\c≠92
 ·have HR:Hid (EU c=true):=ah (decide_eq_true a)
  have b1:(32:Int)<=(c:Int):=by omega
  have b2:(c:Int)<=126:=by omega
  have b3:((c:Int) !=34)=true:=by rw[bne_iff_ne];omega
  have b4:((c:Int) !=92)=true:=by rw[bne_iff_ne];omega
  clear a;go_enter Tryz.func174,Tryz.ntmps174;go_wp2_with fail;go_ret;exact ⟨by rw[HR.out];rfl,rfl⟩
 ·have HR:Hid (EU c=false):=ah (decide_eq_false a)
  by_cases b1:(32:Int)<=(c:Int)
  ·by_cases b2:(c:Int)<=126
   ·by_cases b3:(c:Int)=34
    ·have b3':((c:Int) !=34)=false:=by rw[b3];rfl
     clear a b3;go_enter Tryz.func174,Tryz.ntmps174;go_wp2_with fail;go_ret;exact ⟨by rw[HR.out];rfl,rfl⟩
    ·have b3':((c:Int) !=34)=true:=by rw[bne_iff_ne];exact b3
     have b4':((c:Int) !=92)=false:=by rw[bne_eq_false_iff_eq];omega
     clear a b3;go_enter Tryz.func174,Tryz.ntmps174;go_wp2_with fail;go_ret;exact ⟨by rw[HR.out];rfl,rfl⟩
   ·clear a
    go_enter Tryz.func174,Tryz.ntmps174;go_wp2_with fail;go_ret;exact ⟨by rw[HR.out];rfl,rfl⟩
  ·clear a
   go_enter Tryz.func174,Tryz.ntmps174;go_wp2_with fail;go_ret;exact ⟨by rw[HR.out];rfl,rfl⟩
end Go.Proofs.YtpakjclpjcngmaaGreat
namespace Go.Proofs.YtpakjclpjcngmaaGreat
open Go.RowKit
theorem empty_eq (s:ByteArray):decide (s=⟨#[]⟩)=decide (s.size=0):=by
 rw[decide_eq_decide];constructor
 ·rintro rfl;rfl
 ·intro h
  obtain ⟨a⟩:=s;have:a= #[]:=Array.eq_empty_of_size_eq_zero h;rw[this]
theorem aaM (s:ByteArray):s.toList.isEmpty=decide (s.size=0):=by
 rw[ByteArray.toList_eq];obtain ⟨a⟩:=s;show a.toList.isEmpty=decide (a.size=0)
 rw[Bool.eq_iff_iff,List.isEmpty_iff,decide_eq_true_iff];constructor
 ·intro h
  rw[←Array.length_toList,h];rfl
 ·intro h
  exact List.eq_nil_of_length_eq_zero (by rw[Array.length_toList];exact h)
theorem WJ (v p:ByteArray) (h:p.size<=v.size):((v.extract 0 p.size).toList==p.toList)=qP v p:=by
 unfold qP;rw[decide_eq_true h,Bool.true_and,Bool.eq_iff_iff,beq_iff_eq,decide_eq_true_iff,ByteArray.toList_eq,ByteArray.toList_eq];have e:(v.extract 0 p.size).data.toList=v.data.toList.take p.size:=by simp
 rw[e]
section
variable {w : World} {D : Nat → Prop} {A : Option Addr} {n c : Nat} {l : List dP}
theorem Et (m:kT) (hm:m.small) (w:World):
 Calls Tryz.prog 84 #[.agg #[.string m.name,.int .i64 m.way,.string m.value]] w fun e w'=>e=.returned (.bool (dF m))/\Nx w w':=by
 have hnm:=fun w=>name_any m.name w hm.1;have hnx:∀o,Nx w (w.alloc o):=fun o=>(Ch.refl _ w).alloc o;have HF:Hid (dF m=(fE m.name&&decide (m.value.size<=16)&&(decide (1<=m.way/\m.way<=4))&&(decide (m.way≠4)||decide (m.value.size=0)))):=ah rfl;have he:=str_eq m.value ⟨#[]⟩;rw[empty_eq]at he;obtain ⟨nm,way,val⟩:=m;simp only at *;have zO:=ah hnx;clear hm hnx;cases hv:fE nm
 ·rw[hv]at hnm
  have lT:=ah hnm;have HR:Hid (dF ⟨nm,way,val⟩=false):=ah (by rw[HF.out,hv];rfl);clear hnm hv he;go_enter Tryz.func84,Tryz.ntmps84;go_wp2_with fail;refine (lT.out _).mono ?_;rintro e w1 ⟨rfl,rfl⟩;go_wp2_with fail;go_ret;exact ⟨by rw[HR.out];rfl,zO.out _⟩
 ·rw[hv]at hnm
  have lT:=ah hnm;have Hv:=ah hv;clear hnm hv;by_cases h1:1<=way
  ·by_cases h4:way<=4
   ·by_cases h16:val.size<=16
    ·have k16:(val.size:Int)<=16:=by omega
     by_cases h5:way=4
     ·have k5:(way !=4)=false:=by rw[h5];rfl
      have HR:Hid (dF ⟨nm,way,val⟩=decide (val.size=0)):=ah (by rw[HF.out,Hv.out,decide_eq_true h16,decide_eq_true (show 1<=way/\way<=4 from ⟨h1,h4⟩),decide_eq_false (show ¬way≠4 by omega)];simp);clear h5 h16 he;rw[←aaM]at HR;go_enter Tryz.func84,Tryz.ntmps84;go_wp2_with fail;refine (lT.out _).mono ?_;rintro e w1 ⟨rfl,rfl⟩;go_wp2_with fail;go_ret;exact ⟨by rw[HR.out];rfl,zO.out _⟩
     ·have k5:(way !=4)=true:=by rw[bne_iff_ne];exact h5
      have HR:Hid (dF ⟨nm,way,val⟩=true):=ah (by rw[HF.out,Hv.out,decide_eq_true h16,decide_eq_true (show 1<=way/\way<=4 from ⟨h1,h4⟩),decide_eq_true h5];rfl);clear h5 h16 he;go_enter Tryz.func84,Tryz.ntmps84;go_wp2_with fail;refine (lT.out _).mono ?_;rintro e w1 ⟨rfl,rfl⟩;go_wp2_with fail;go_ret;exact ⟨by rw[HR.out];rfl,zO.out _⟩
    ·have k16:¬(val.size:Int)<=16:=by omega
     have HR:Hid (dF ⟨nm,way,val⟩=false):=ah (by rw[HF.out,Hv.out,decide_eq_false h16];rfl);clear h16 he;go_enter Tryz.func84,Tryz.ntmps84;go_wp2_with fail;refine (lT.out _).mono ?_;rintro e w1 ⟨rfl,rfl⟩;go_wp2_with fail;go_ret;exact ⟨by rw[HR.out];rfl,zO.out _⟩
   ·have HR:Hid (dF ⟨nm,way,val⟩=false):=ah (by rw[HF.out,Hv.out,decide_eq_false (show ¬(1<=way/\way<=4) by omega)];simp)
    clear he;go_enter Tryz.func84,Tryz.ntmps84;go_wp2_with fail;refine (lT.out _).mono ?_;rintro e w1 ⟨rfl,rfl⟩;go_wp2_with fail;go_ret;exact ⟨by rw[HR.out];rfl,zO.out _⟩
  ·have HR:Hid (dF ⟨nm,way,val⟩=false):=ah (by rw[HF.out,Hv.out,decide_eq_false (show ¬(1<=way/\way<=4) by omega)];simp)
   clear he;go_enter Tryz.func84,Tryz.ntmps84;go_wp2_with fail;refine (lT.out _).mono ?_;rintro e w1 ⟨rfl,rfl⟩;go_wp2_with fail;go_ret;exact ⟨by rw[HR.out];rfl,zO.out _⟩
theorem QO (v p:ByteArray) (w:World) (hv:v.size<=9223372036854775807) (hp:p.size<=9223372036854775807):Calls Tryz.prog 256 #[.string v,.string p] w fun e w'=>e=.returned (.bool (qP v p))/\w=w':=by
 by_cases h:p.size<=v.size
 ·have k:(p.size:Int)<=(v.size:Int):=by omega
  have HR:=ah (WJ v p h);go_enter Tryz.func256,Tryz.ntmps256;go_wp2_with fail;go_ret;exact ⟨by rw[←HR.out];rfl,rfl⟩
 ·have k:¬(p.size:Int)<=(v.size:Int):=by omega
  have HR:Hid (qP v p=false):=ah (by unfold qP;rw[decide_eq_false h];rfl);clear h;go_enter Tryz.func256,Tryz.ntmps256;go_wp2_with fail;go_ret;exact ⟨by rw[HR.out];rfl,rfl⟩
theorem SQ (v p:ByteArray) (w:World) (hv:v.size<=9223372036854775807) (hp:p.size<=9223372036854775807):Calls Tryz.prog 211 #[.string v,.string p] w fun e w'=>e=.returned (.bool (qP v p))/\w=w':=by
 have H:=ah (fun w=>QO v p w hv hp);go_enter Tryz.func211,Tryz.ntmps211;go_wp2_with fail;refine (H.out _).mono ?_;rintro e w1 ⟨rfl,rfl⟩;go_wp2_with fail;go_ret;exact ⟨rfl,rfl⟩
end
theorem DL:∀{l:List dP} {n v:ByteArray},ji l n=some v->∃x∈l,x.value=v
 |[],n,v,h=>by simp[ji]at h
 |x::l,n,v,h=>by
  unfold ji at h;by_cases e:x.name=n
  ·rw[if_pos e]at h
   injection h with h;exact ⟨x,List.mem_cons_self,h⟩
  ·rw[if_neg e]at h
   obtain ⟨y,hy,e2⟩:=DL h;exact ⟨y,List.mem_cons_of_mem _ hy,e2⟩
section
variable {w : World} {D D2 : Nat → Prop} {A B : Option Addr} {n c m d : Nat} {l : List dP} {ms : List kT}
theorem wB (hr:Rd w D 2 A n (lbl l)) (hl:l.length=n) (hn:n<=1000000) (hsm:∀x∈l,x.small) (hr2:Rd w D2 3 B m (Ry ms)) (hm:ms.length=m) (hmn:m<=1000000) (jB:∀x∈ms,x.small):
 Calls Tryz.prog 162 #[.slice A n c,.slice B m d] w fun e w'=>e=.returned (.bool (Ve l ms))/\Nx w w':=by
 have Hl:=ah hl;have Hm:=ah hm;have Hrt:=ah (z3B (c:=c) hr hl (by omega) hsm);have Hget:=ah (fun w' (hn':Nx w w') nm=>get_any (c:=c) (hr.nx (by decide) hn') hl nm hn);have Hsm:=ah hsm;have abf:=ah jB;have hfin:Ve l ms=(jH l&&ms.all fun x=>dF x&&Fq x (ji l x.name)):=rfl;have fG:=ah hfin;clear hl hm hsm jB hfin hr;go_enter Tryz.func162,Tryz.ntmps162;go_wp2_with fail;refine Hrt.out.mono ?_;rintro e w1 ⟨rfl,n1⟩;go_wp2_with fail;go_loopw [5,14] (fun s5 i wr=>∃(k:Nat) (b:Bool),k<=m/\i=.int .i64 (k:Int)/\s5=.bool b/\Nx w wr/\Hid (b=(jH l&&(ms.take k).all fun x=>Fq x (ji l x.name)))/\Hid ((ms.take k).all dF=true)) (fun _ i _=>m-(intOf i).toNat)
 case atStart=>exact ⟨0,_,Nat.zero_le _,rfl,rfl,n1,ah (by simp),ah (by simp)⟩
 case round=>
  obtain ⟨w4,rfl⟩:∃w4:World,w4=wr:=⟨_,rfl⟩;obtain ⟨k,b,hk,rfl,rfl,hn4,Hb,Ha⟩:=hrel;by_cases hlt:k<m
  ·have hkl:k<ms.length:=by rw[Hm.out];exact hlt
   obtain ⟨ad,rfl,hb,p0,p1,p2⟩:=RH (hr2.nx (by decide) hn4) hkl;have hsx:=abf.out _ (List.getElem_mem hkl);have HT:=ah (List.take_succ_eq_append_getElem hkl)
   have HD:=ah (fun (h:dF ms[k]=false)=>show Ve l ms=false by
    rw[fG.out,Bool.and_eq_false_iff];right
    rw[List.all_eq_false];exact ⟨_,List.getElem_mem hkl,by rw[h];simp⟩)
   have Hg:=ah (fun o=>Hget.out _ (hn4.alloc o) ms[k].name);have hak:=fun w=>Et ms[k] hsx w;generalize ms[k]=x at *;obtain ⟨nm,way,val⟩:=x;simp only at p0 p1 p2 hsx HT HD Hg hak;have HB:=ah (aG.new w4 142 #[.string nm,.int .i64 way,.string val]);have Hn4:=ah hn4;have HVal:Hid (val.size<=9223372036854775807):=ah hsx.2.1;clear hn4 hsx;cases hav:dF ⟨nm,way,val⟩
   ·rw[hav]at hak
    have Hak:=ah hak;have HR:=ah (HD.out hav);clear hak hav;go_wp2_with fail;refine (Hg.out _).mono ?_;rintro e w5 ⟨rfl,n5⟩;have hb5:=HB.out.nx n5;have q0:w5.cell? ⟨w4.heap.size,0,none⟩=some (.string nm):=hb5.cell 0;have q1:w5.cell? ⟨w4.heap.size,1,none⟩=some (.int .i64 way):=hb5.cell 1;have q2:w5.cell? ⟨w4.heap.size,2,none⟩=some (.string val):=hb5.cell 2;have N5:=ah ((Hn4.out.alloc _).tr n5);clear n5 hb5;go_wp2_with fail;refine (Hak.out _).mono ?_;rintro e w6 ⟨rfl,n6⟩;go_wp2_with fail;go_ret;exact ⟨by rw[HR.out];rfl,N5.out.tr n6⟩
   ·rw[hav]at hak
    have Hak:=ah hak
    have hway:way=1∨way=2∨way=3∨way=4:=by
     unfold dF at hav;simp only[Bool.and_eq_true,decide_eq_true_eq]at hav;have:=hav.1.2;omega
    have HA2:Hid ((ms.take (k+1)).all dF=true):=ah (by rw[HT.out,List.all_append,Ha.out];simp[hav])
    have HW:Hid (∀r,(b&&Fq ⟨nm,way,val⟩ (ji l nm))=r->r=(jH l&&(ms.take (k+1)).all fun x=>Fq x (ji l x.name))):=ah (fun r h=>by
     rw[←h,HT.out,List.all_append,Hb.out,Bool.and_assoc];simp)
    have oI:=ah (fun v (h:ji l nm=some v)=>DL h);generalize ji l nm=o at *;clear hak hav;have hfq:∀v:ByteArray,(v.toList==val.toList)=decide (v=val):=fun v=>str_eq v val;have Hfq:=ah hfq;clear hfq;rcases hway with rfl|rfl|rfl|rfl
    all_goals
     cases b
     all_goals
      rcases o with _|v
      all_goals
       go_wp2_with fail;refine (Hg.out _).mono ?_;rintro e w5 ⟨rfl,n5⟩;have hb5:=HB.out.nx n5;have q0:w5.cell? ⟨w4.heap.size,0,none⟩=some (.string nm):=hb5.cell 0;have q1:=hb5.cell 1;have q2:w5.cell? ⟨w4.heap.size,2,none⟩=some (.string val):=hb5.cell 2;simp only[List.getElem?_toArray,List.getElem?_cons_succ,List.getElem?_cons_zero]at q1;have N5:=ah ((Hn4.out.alloc _).tr n5);have HB5:=ah hb5;clear n5 hb5;simp only[Option.getD_none,Option.getD_some,Option.isSome_none,Option.isSome_some];go_wp2_with fail;refine (Hak.out _).mono ?_;rintro e w6 ⟨rfl,n6⟩;have hb6:=HB5.out.nx n6;have z0:w6.cell? ⟨w4.heap.size,0,none⟩=some (.string nm):=hb6.cell 0;have z1:=hb6.cell 1;have z2:w6.cell? ⟨w4.heap.size,2,none⟩=some (.string val):=hb6.cell 2;simp only[List.getElem?_toArray,List.getElem?_cons_succ,List.getElem?_cons_zero]at z1;have N6:=ah (N5.out.tr n6);clear n6 hb6 q0 q1 q2;go_wp2_with fail
       first
       |(go_roundw
         case rel=>exact ⟨k+1,_,by omega,by go_num,rfl,N6.out,ah (HW.out _ (by simp[Fq,Hfq.out])),HA2⟩
         case measure=>simp[intOf];omega)
       |(refine (SQ v val _ (by obtain ⟨y,hy,e⟩:=oI.out v rfl;rw[←e];exact (Hsm.out y hy).2) HVal.out).mono ?_
         rintro e w7 ⟨rfl,rfl⟩;go_wp2_with fail;go_roundw
         case rel=>exact ⟨k+1,_,by omega,by go_num,rfl,N6.out,ah (HW.out _ (by simp[Fq])),HA2⟩
         case measure=>simp[intOf];omega)
  ·have hkk:ms.take k=ms:=List.take_of_length_le (by rw[Hm.out];omega)
   have HR:Hid (Ve l ms=b):=ah (by
    have ha:=Ha.out;have hb:=Hb.out;rw[hkk]at ha hb;rw[fG.out,hb];congr 1
    rw[List.all_eq_true]at ha;rw[Bool.eq_iff_iff,List.all_eq_true,List.all_eq_true];exact ⟨fun h x hx=>by have:=h x hx;rw[ha x hx,Bool.true_and]at this;exact this,fun h x hx=>by rw[ha x hx,Bool.true_and];exact h x hx⟩)
   have Hn4:=ah hn4;clear hn4 hkk;go_wp2_with fail;go_ret;exact ⟨by rw[HR.out];rfl,Hn4.out⟩
end
theorem XH {x y:au} (h:x.time<y.time):fU x y= -1:=by simp[fU,or4,g_];omega
theorem XL {x y:au} (h:y.time<x.time):fU x y=1:=by simp[fU,or4,g_];omega
theorem XG {x y:au} (h0:x.time=y.time) (h:x.maker<y.maker):fU x y= -1:=by simp[fU,or4,g_,h0];omega
theorem XK {x y:au} (h0:x.time=y.time) (h:y.maker<x.maker):fU x y=1:=by simp[fU,or4,g_,h0];omega
theorem XF {x y:au} (h0:x.time=y.time) (h1:x.maker=y.maker) (h:x.seq<y.seq):fU x y= -1:=by simp[fU,or4,g_,h0,h1];omega
theorem XJ {x y:au} (h0:x.time=y.time) (h1:x.maker=y.maker) (h:y.seq<x.seq):fU x y=1:=by simp[fU,or4,g_,h0,h1];omega
theorem XE {x y:au} (h0:x.time=y.time) (h1:x.maker=y.maker) (h2:x.seq=y.seq) (h:x.place<y.place):fU x y= -1:=by simp[fU,or4,g_,h0,h1,h2];omega
theorem XI {x y:au} (h0:x.time=y.time) (h1:x.maker=y.maker) (h2:x.seq=y.seq) (h:y.place<x.place):fU x y=1:=by simp[fU,or4,g_,h0,h1,h2];omega
theorem cmp_eq {x y:au} (h0:x.time=y.time) (h1:x.maker=y.maker) (h2:x.seq=y.seq) (h3:x.place=y.place):fU x y=0:=by simp[fU,or4,g_,h0,h1,h2,h3]
def Ew (x y:au) (k:Nat):Prop:=(0<k->x.time=y.time)/\(1<k->x.maker=y.maker)/\(2<k->x.seq=y.seq)/\(3<k->x.place=y.place)
section
variable {w : World}
theorem zB (x y:RV) (w:World):Calls Tryz.prog 116 #[bG x,bG y] w fun e w'=>e=.returned (.int .i64 (fU x.row y.row))/\Nx w w':=by
 obtain ⟨⟨kind,time,ay,text,value,null,maker,seq,place⟩,A1,c1⟩:=x;obtain ⟨⟨kind2,bH,dD,dh,value2,dn,aU,seq2,aT⟩,A2,c2⟩:=y;unfold bG;simp only;generalize hX:(⟨kind,time,ay,text,value,null,maker,seq,place⟩:au)=X;generalize hY:(⟨kind2,bH,dD,dh,value2,dn,aU,seq2,aT⟩:au)=Y;have E:Hid (X.time=time/\X.maker=maker/\X.seq=seq/\X.place=place/\Y.time=bH/\Y.maker=aU/\Y.seq=seq2/\Y.place=aT):=ah (by subst hX;subst hY;exact ⟨rfl,rfl,rfl,rfl,rfl,rfl,rfl,rfl⟩);clear hX hY;go_enter Tryz.func116,Tryz.ntmps116;go_wp2_with fail;go_loopw [28] (fun i wr=>∃k:Nat,k<=4/\i=.int .i64 (k:Int)/\Nx w wr/\Hid (aG wr (w.heap.size+1+1) 238 #[.int .i64 time,.int .i64 maker,.int .i64 seq,.int .i64 place])/\Hid (aG wr (w.heap.size+1+1+1) 238 #[.int .i64 bH,.int .i64 aU,.int .i64 seq2,.int .i64 aT])/\Hid (Ew X Y k)) (fun i _=>4-(intOf i).toNat)
 case atStart=>
  refine ⟨0,by decide,rfl,((((Ch.refl _ w).alloc _).alloc _).alloc _).alloc _,ah ?_,ah ?_,ah ⟨fun h=>by omega,fun h=>by omega,fun h=>by omega,fun h=>by omega⟩⟩
  ·refine aG.alloc ?_ _
   have:=aG.new ((w.alloc (.cells #[.int .i64 kind,.int .i64 time,.slice A1 ay.length c1,.string text,.int .i64 value,.bool null,.int .i64 maker,.int .i64 seq,.int .i64 place] 58)).alloc (.cells #[.int .i64 kind2,.int .i64 bH,.slice A2 dD.length c2,.string dh,.int .i64 value2,.bool dn,.int .i64 aU,.int .i64 seq2,.int .i64 aT] 58)) 238 #[.int .i64 time,.int .i64 maker,.int .i64 seq,.int .i64 place];simpa using this
  ·have:=aG.new (((w.alloc (.cells #[.int .i64 kind,.int .i64 time,.slice A1 ay.length c1,.string text,.int .i64 value,.bool null,.int .i64 maker,.int .i64 seq,.int .i64 place] 58)).alloc (.cells #[.int .i64 kind2,.int .i64 bH,.slice A2 dD.length c2,.string dh,.int .i64 value2,.bool dn,.int .i64 aU,.int .i64 seq2,.int .i64 aT] 58)).alloc (.cells #[.int .i64 time,.int .i64 maker,.int .i64 seq,.int .i64 place] 238)) 238 #[.int .i64 bH,.int .i64 aU,.int .i64 seq2,.int .i64 aT]
   simpa using this
 case round=>
  obtain ⟨w4,rfl⟩:∃w4:World,w4=wr:=⟨_,rfl⟩;obtain ⟨k,hk,rfl,hn4,H1,H2,Hs⟩:=hrel;have N4:=ah hn4;clear hn4;rcases k with _|_|_|_|k
  ·have p:=H1.out.cell 0
   have r:=H2.out.cell 0;simp only[List.getElem?_toArray,List.getElem?_cons_zero]at p r;have hx:X.time=time:=E.out.1;have hy:Y.time=bH:=E.out.2.2.2.2.1;have HLT:=ah (fun (h:time<bH)=>XH (x:=X) (y:=Y) (by rw[hx,hy];exact h));have HGT:=ah (fun (h:bH<time)=>XL (x:=X) (y:=Y) (by rw[hx,hy];exact h));have UO:=ah (fun (h1:¬time<bH) (h2:¬bH<time)=>(⟨fun _=>by rw[hx,hy];omega,fun h=>by omega,fun h=>by omega,fun h=>by omega⟩:Ew X Y 1));clear hx hy;by_cases h1:time<bH
   ·have HR:=ah (HLT.out h1)
    go_wp2_with fail;go_quiet (fail)
    go_wp2_with fail;go_ret;exact ⟨by rw[HR.out];rfl,by first|exact N4.out.drewN _|exact (N4.out.drewN _).drewN _⟩
   ·by_cases h2:bH<time
    ·have HR:=ah (HGT.out h2)
     go_wp2_with fail;go_quiet (fail)
     go_wp2_with fail;go_quiet (fail)
     go_wp2_with fail;go_ret;exact ⟨by rw[HR.out];rfl,by first|exact N4.out.drewN _|exact (N4.out.drewN _).drewN _⟩
    ·have HR:=ah (UO.out h1 h2)
     go_wp2_with fail;go_quiet (fail)
     go_wp2_with fail;go_quiet (fail)
     go_wp2_with fail;go_roundw
     case rel=>exact ⟨1,by decide,by go_num,N4.out.drewN _,ah (H1.out.drewN _),ah (H2.out.drewN _),HR⟩
     case measure=>simp[intOf]
  ·have p:=H1.out.cell 1
   have r:=H2.out.cell 1;simp only[List.getElem?_toArray,List.getElem?_cons_succ,List.getElem?_cons_zero]at p r;have hx:X.maker=maker:=E.out.2.1;have hy:Y.maker=aU:=E.out.2.2.2.2.2.1;have g0:X.time=Y.time:=Hs.out.1 (by decide);have HLT:=ah (fun (h:maker<aU)=>XG (x:=X) (y:=Y) g0 (by rw[hx,hy];exact h));have HGT:=ah (fun (h:aU<maker)=>XK (x:=X) (y:=Y) g0 (by rw[hx,hy];exact h));have UO:=ah (fun (h1:¬maker<aU) (h2:¬aU<maker)=>(⟨fun _=>g0,fun _=>by rw[hx,hy];omega,fun h=>by omega,fun h=>by omega⟩:Ew X Y 2));clear hx hy g0;by_cases h1:maker<aU
   ·have HR:=ah (HLT.out h1)
    go_wp2_with fail;go_quiet (fail)
    go_wp2_with fail;go_ret;exact ⟨by rw[HR.out];rfl,by first|exact N4.out.drewN _|exact (N4.out.drewN _).drewN _⟩
   ·by_cases h2:aU<maker
    ·have HR:=ah (HGT.out h2)
     go_wp2_with fail;go_quiet (fail)
     go_wp2_with fail;go_quiet (fail)
     go_wp2_with fail;go_ret;exact ⟨by rw[HR.out];rfl,by first|exact N4.out.drewN _|exact (N4.out.drewN _).drewN _⟩
    ·have HR:=ah (UO.out h1 h2)
     go_wp2_with fail;go_quiet (fail)
     go_wp2_with fail;go_quiet (fail)
     go_wp2_with fail;go_roundw
     case rel=>exact ⟨2,by decide,by go_num,N4.out.drewN _,ah (H1.out.drewN _),ah (H2.out.drewN _),HR⟩
     case measure=>simp[intOf]
  ·have p:=H1.out.cell 2
   have r:=H2.out.cell 2;simp only[List.getElem?_toArray,List.getElem?_cons_succ,List.getElem?_cons_zero]at p r;have hx:X.seq=seq:=E.out.2.2.1;have hy:Y.seq=seq2:=E.out.2.2.2.2.2.2.1;have g0:X.time=Y.time:=Hs.out.1 (by decide);have g1:X.maker=Y.maker:=Hs.out.2.1 (by decide);have HLT:=ah (fun (h:seq<seq2)=>XF (x:=X) (y:=Y) g0 g1 (by rw[hx,hy];exact h));have HGT:=ah (fun (h:seq2<seq)=>XJ (x:=X) (y:=Y) g0 g1 (by rw[hx,hy];exact h));have UO:=ah (fun (h1:¬seq<seq2) (h2:¬seq2<seq)=>(⟨fun _=>g0,fun _=>g1,fun _=>by rw[hx,hy];omega,fun h=>by omega⟩:Ew X Y 3));clear hx hy g0 g1;by_cases h1:seq<seq2
   ·have HR:=ah (HLT.out h1)
    go_wp2_with fail;go_quiet (fail)
    go_wp2_with fail;go_ret;exact ⟨by rw[HR.out];rfl,by first|exact N4.out.drewN _|exact (N4.out.drewN _).drewN _⟩
   ·by_cases h2:seq2<seq
    ·have HR:=ah (HGT.out h2)
     go_wp2_with fail;go_quiet (fail)
     go_wp2_with fail;go_quiet (fail)
     go_wp2_with fail;go_ret;exact ⟨by rw[HR.out];rfl,by first|exact N4.out.drewN _|exact (N4.out.drewN _).drewN _⟩
    ·have HR:=ah (UO.out h1 h2)
     go_wp2_with fail;go_quiet (fail)
     go_wp2_with fail;go_quiet (fail)
     go_wp2_with fail;go_roundw
     case rel=>exact ⟨3,by decide,by go_num,N4.out.drewN _,ah (H1.out.drewN _),ah (H2.out.drewN _),HR⟩
     case measure=>simp[intOf]
  ·have p:=H1.out.cell 3
   have r:=H2.out.cell 3;simp only[List.getElem?_toArray,List.getElem?_cons_succ,List.getElem?_cons_zero]at p r;have hx:X.place=place:=E.out.2.2.2.1;have hy:Y.place=aT:=E.out.2.2.2.2.2.2.2;have g0:X.time=Y.time:=Hs.out.1 (by decide);have g1:X.maker=Y.maker:=Hs.out.2.1 (by decide);have g2:X.seq=Y.seq:=Hs.out.2.2.1 (by decide);have HLT:=ah (fun (h:place<aT)=>XE (x:=X) (y:=Y) g0 g1 g2 (by rw[hx,hy];exact h));have HGT:=ah (fun (h:aT<place)=>XI (x:=X) (y:=Y) g0 g1 g2 (by rw[hx,hy];exact h));have UO:=ah (fun (h1:¬place<aT) (h2:¬aT<place)=>(⟨fun _=>g0,fun _=>g1,fun _=>g2,fun _=>by rw[hx,hy];omega⟩:Ew X Y 4));clear hx hy g0 g1 g2;by_cases h1:place<aT
   ·have HR:=ah (HLT.out h1)
    go_wp2_with fail;go_quiet (fail)
    go_wp2_with fail;go_ret;exact ⟨by rw[HR.out];rfl,by first|exact N4.out.drewN _|exact (N4.out.drewN _).drewN _⟩
   ·by_cases h2:aT<place
    ·have HR:=ah (HGT.out h2)
     go_wp2_with fail;go_quiet (fail)
     go_wp2_with fail;go_quiet (fail)
     go_wp2_with fail;go_ret;exact ⟨by rw[HR.out];rfl,by first|exact N4.out.drewN _|exact (N4.out.drewN _).drewN _⟩
    ·have HR:=ah (UO.out h1 h2)
     go_wp2_with fail;go_quiet (fail)
     go_wp2_with fail;go_quiet (fail)
     go_wp2_with fail;go_roundw
     case rel=>exact ⟨4,by decide,by go_num,N4.out.drewN _,ah (H1.out.drewN _),ah (H2.out.drewN _),HR⟩
     case measure=>simp[intOf]
  ·have hk4:k=0:=by omega
   subst hk4;have HR:=ah (cmp_eq (x:=X) (y:=Y) (Hs.out.1 (by decide)) (Hs.out.2.1 (by decide)) (Hs.out.2.2.1 (by decide)) (Hs.out.2.2.2 (by decide)));go_wp2_with fail;go_ret;exact ⟨by rw[HR.out];rfl,N4.out⟩
end
def UF (p:Prop) (w:World) (e:Ending) (w':World):Prop:=∃b:Bool,e=.returned (.bool b)/\(b=true↔p)/\Nx w w'
theorem dP.neq (a b c d:ByteArray) (w:World):(Op.equalIn 10000 135 (.agg #[.string a,.string b]) (.agg #[.string c,.string d])).run Tryz.prog w=.ok (a.toList==c.toList&&b.toList==d.toList) w:=by
 have u3:=Tryz.underlying9;have a3:=Tryz.isAgg9;have z3:=Tryz.sizeOf9;have hS:Tryz.prog.underlying 135=some (.struct (Tryz.prog.fieldsOf 135)):=by kernel_rfl
 have hp:Tryz.prog.stoodInHeld 135=false:=by kernel_rfl
 rw[show (10000:Nat)=9999+1 from rfl,run_equalIn_agg w 9999 135 _ _ hS hp];simp only[Program.fieldsOf,Tryz.underlying135];go_simp;by_cases h1:a.toList=c.toList<;>by_cases h2:b.toList=d.toList<;>simp[h1,h2]
section
variable {w : World} {D D2 : Nat → Prop} {A B : Option Addr} {n c m d : Nat} {l ls : List dP}
theorem MG (hr:Rd w D 2 A n (lbl l)) (hl:l.length=n) (hn:n<=1000000000) (hr2:Rd w D2 2 B m (lbl ls)) (hm:ls.length=m):
 Calls Tryz.prog 117 #[.slice A n c,.slice B m d] w (UF (l=ls) w):=by
 have Hl:=ah hl;have Hm:=ah hm;by_cases hnm:n=m
 ·subst hnm
  clear hl hm;go_enter Tryz.func117,Tryz.ntmps117;go_wp2_with fail;go_loopw [13] (fun i wr=>∃k:Nat,k<=n/\i=.int .i64 (k:Int)/\Nx w wr/\Hid (l.take k=ls.take k)) (fun i _=>n-(intOf i).toNat)
  case atStart=>exact ⟨0,Nat.zero_le _,rfl,Ch.refl _ _,ah rfl⟩
  case round=>
   obtain ⟨w4,rfl⟩:∃w4:World,w4=wr:=⟨_,rfl⟩;obtain ⟨k,hk,rfl,hn4,He⟩:=hrel;by_cases hlt:k<n
   ·have hkl:k<l.length:=by rw[Hl.out];exact hlt
    have hkm:k<ls.length:=by rw[Hm.out];exact hlt
    obtain ⟨ad,rfl, -,p0,p1⟩:=mD (hr.nx (by decide) hn4) hkl;obtain ⟨ad2,rfl, -,q0,q1⟩:=mD (hr2.nx (by decide) hn4) hkm;have HS:=ah (fun (h:l[k]=ls[k])=>show l.take (k+1)=ls.take (k+1) by rw[List.take_succ_eq_append_getElem hkl,List.take_succ_eq_append_getElem hkm,He.out,h])
    have HD:=ah (fun (h:l[k]≠ls[k])=>show ¬l=ls by
     intro e;refine h ?_;subst e;rfl)
    have N4:=ah hn4;clear hn4;generalize l[k]=x at *;generalize ls[k]=y at *;obtain ⟨xn,xv⟩:=x;obtain ⟨yn,yv⟩:=y;simp only at p0 p1 q0 q1;have e1:=str_eq xn yn;have e2:=str_eq xv yv;have hgd:∀(op:BinOp) (x y:Operand) (w:World),(eqGuard op 135 x y (.agg #[.string xn,.string xv]) (.agg #[.string yn,.string yv])).run Tryz.prog w=.ok () w:=fun op x y w=>run_eqGuard_agg w op _ x y _ _ (by kernel_rfl)
    have hne:∀w,(binOp .neq 135 (.agg #[.string xn,.string xv]) (.agg #[.string yn,.string yv])).run Tryz.prog w=.ok (.bool (!(xn.toList==yn.toList&&xv.toList==yv.toList))) w:=fun w=>by
     rw[run_neq_struct,dP.neq];rfl
    by_cases he:xn=yn/\xv=yv
    ·have HR:=ah (HS.out (by rw[he.1,he.2]))
     have hbb:(!(xn.toList==yn.toList&&xv.toList==yv.toList))=false:=by rw[e1,e2,decide_eq_true he.1,decide_eq_true he.2];rfl
     rw[hbb]at hne;clear e1 e2 hbb he;go_wp2_with fail;go_quiet (fail)
     go_wp2_with fail;go_roundw
     case rel=>exact ⟨k+1,by omega,by go_num,N4.out.drewN _,HR⟩
     case measure=>simp[intOf];omega
    ·have HR:=ah (HD.out (fun h=>he (by injection h with h1 h2;exact ⟨h1,h2⟩)))
     have hbb:(!(xn.toList==yn.toList&&xv.toList==yv.toList))=true:=by
      rw[e1,e2];by_cases h1:xn=yn
      ·rw[decide_eq_true h1,decide_eq_false (fun h2=>he ⟨h1,h2⟩)];rfl
      ·rw[decide_eq_false h1];rfl
     rw[hbb]at hne;clear e1 e2 hbb he;go_wp2_with fail;go_quiet (fail)
     go_wp2_with fail;go_ret;exact ⟨false,rfl,by simp[HR.out],N4.out.drewN _⟩
   ·have HR:Hid (l=ls):=ah (by
     have:=He.out;rw[List.take_of_length_le (by rw[Hl.out];omega),List.take_of_length_le (by rw[Hm.out];omega)]at this;exact this)
    have N4:=ah hn4;clear hn4;go_wp2_with fail;go_ret;exact ⟨true,rfl,by simp[HR.out],N4.out⟩
 ·have HR:Hid (¬l=ls):=ah (fun e=>hnm (by rw[←Hl.out,←Hm.out,e]))
  have hne:((n:Int) !=(m:Int))=true:=by rw[bne_iff_ne];omega
  clear hl hm hnm;go_enter Tryz.func117,Tryz.ntmps117;go_wp2_with fail;go_ret;exact ⟨false,rfl,by simp[HR.out],Ch.refl _ _⟩
end
end Go.Proofs.YtpakjclpjcngmaaGreat
