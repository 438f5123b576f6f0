/- Contracts and plain laws that the last text rests on. Conditions: each theorem states its own. -/
import Derived.Test.YtpakjclpjcngmaaGreatKdQ17
import Derived.Test.YtpakjclpjcngmaaGreatKdQ10
import Derived.Lib.RowBridge
import Derived.Sort.Walk0
import Derived.Test.YtpakjclpjcngmaaGreatKdQ3
import Derived.Test.YtpakjclpjcngmaaGreatKdQ4
import Derived.Deep.QuietTactic
import Derived.BigQuiet
import Derived.Test.YtpakjclpjcngmaaGreatKdQ16
import Derived.Laws.StructEq
set_option maxRecDepth 100000
set_option maxHeartbeats 8000000
set_option linter.unusedVariables false
namespace Go.Proofs.YtpakjclpjcngmaaGreat
open Go.RowKit
theorem nV (a b:ByteArray):Op.bytesLess a.toList b.toList=jS a b:=by
 unfold jS;rw[Proofs.bytesLess_eq,ByteArray.toList_eq,ByteArray.toList_eq]
theorem str_eq (a b:ByteArray):(a.toList==b.toList)=decide (a=b):=by
 rw[Bool.eq_iff_iff,beq_iff_eq,decide_eq_true_iff];constructor
 ·intro h
  rw[ByteArray.toList_eq,ByteArray.toList_eq]at h;cases a;cases b
  simpa [Array.ext_iff]using congrArg List.toArray h
 ·rintro rfl;rfl
theorem zf {l:List dO} {k:Nat} (h:k<l.length):jy l k=l[k]:=by
 unfold jy;rw[List.getD_eq_getElem?_getD,List.getElem?_eq_getElem h];rfl
section
variable {w : World} {D : Nat → Prop} {A : Option Addr} {n c : Nat} {l : List dO}
theorem get_any (hr:Rd w D 2 A n (lbl l)) (hl:l.length=n) (nm:ByteArray) (hn:n<=1000000):
 Calls Tryz.prog 210 #[.slice A n c,.string nm] w fun e w'=>e=.returned (.tuple #[.string ((qI l nm).getD ⟨#[]⟩),.bool (qI l nm).isSome])/\Nx w w':=by
 have Hl:=ah hl;clear hl;go_enter Tryz.func210,Tryz.ntmps210;go_wp2_with fail;go_loopw [10] (fun i wr=>∃k:Nat,k<=n/\i=.int .i64 (k:Int)/\Nx w wr/\Hid (qI l nm=qI (l.drop k) nm)) (fun i _=>n-(intOf i).toNat)
 case atStart=>exact ⟨0,Nat.zero_le _,rfl,Ch.refl _ _,ah rfl⟩
 case round=>
  obtain ⟨w4,rfl⟩:∃w4:World,w4=wr:=⟨_,rfl⟩;obtain ⟨k,hk,rfl,hn4,He⟩:=hrel;by_cases hlt:k<n
  ·have hkl:k<l.length:=by rw[Hl.out];exact hlt
   obtain ⟨ad,rfl,hb,p0,p1⟩:=mg (hr.nx (by decide) hn4) hkl;have Hd:=ah (List.drop_eq_getElem_cons hkl);have hq:=str_eq l[k].name nm;have Hn4:=ah hn4;clear hn4;generalize l[k]=x at *;by_cases he:x.name=nm
   ·have he2:(x.name.toList==nm.toList)=true:=by rw[hq];simpa using he
    have Hr:Hid (qI l nm=some x.value):=ah (by rw[He.out,Hd.out];unfold qI;rw[if_pos he]);clear he hq;go_wp2_with fail;exact bodyPost_ret (v:=.tuple #[.string x.value,.bool true]) (by simp[results,Tryz.results210,go_sem]) rfl ⟨by rw[Hr.out];rfl,Hn4.out.alloc _⟩
   ·have he2:(x.name.toList==nm.toList)=false:=by rw[hq];simpa using he
    have Hr:Hid (qI l nm=qI (l.drop (k+1)) nm):=ah (by rw[He.out,Hd.out];unfold qI;rw[if_neg he];cases l.drop (k+1)<;>rfl);clear he hq;go_wp2_with fail;go_roundw
    case rel=>exact ⟨k+1,by omega,by go_num,Hn4.out.alloc _,Hr⟩
    case measure=>simp[intOf];omega
  ·obtain rfl:k=n:=by omega
   have Hr:Hid (qI l nm=none):=ah (by rw[He.out,List.drop_of_length_le (by rw[Hl.out];exact Nat.le_refl _)];rfl);have Hn4:=ah hn4;clear hn4;go_wp2_with fail;exact bodyPost_ret (v:=.tuple #[.string ⟨#[]⟩,.bool false]) (by simp[results,Tryz.results210,go_sem]) rfl ⟨by rw[Hr.out];rfl,Hn4.out⟩
theorem z5O (hr:Rd w D 2 A n (lbl l)) (hl:l.length=n) (hn:n<=9223372036854775807) (hsm:∀x∈l,x.small):
 Calls Tryz.prog 145 #[.slice A n c] w fun e w'=>e=.returned (.bool (jU l))/\Nx w w':=by
 have hbad:∀k,k<l.length->ni l k=false->jU l=false:=fun k h hf=>by
  unfold jU;rw[Bool.and_eq_false_iff];right
  rw[List.all_eq_false];exact ⟨k,List.mem_range.2 h,by rw[hf];simp⟩
 have hgood:(∀i,i<l.length->ni l i=true)->jU l=decide (l.length<=4):=fun h=>by
  unfold jU;rw[show ((List.range l.length).all fun i=>ni l i)=true from z2C.2 h,Bool.and_true]
 have Hl:=ah hl;have abj:=ah hbad;have aeU:=ah hgood;have Hsm:=ah hsm;clear hl hbad hgood hsm;go_enter Tryz.func145,Tryz.ntmps145;go_wp2_with fail;go_loopw [7] (fun i wr=>∃k:Nat,k<=n/\i=.int .i64 (k:Int)/\Nx w wr/\Hid (∀i,i<k->ni l i=true)) (fun i _=>n-(intOf i).toNat)
 case atStart=>exact ⟨0,Nat.zero_le _,rfl,Ch.refl _ _,ah fun i hi=>by omega⟩
 case round=>
  obtain ⟨w4,rfl⟩:∃w4:World,w4=wr:=⟨_,rfl⟩;obtain ⟨k,hk,rfl,hn4,He⟩:=hrel;by_cases hlt:k<n
  ·have hkl:k<l.length:=by rw[Hl.out];exact hlt
   obtain ⟨ad,rfl,hb,p0,p1⟩:=mg (hr.nx (by decide) hn4) hkl;have hsx:=Hsm.out _ (List.getElem_mem hkl);have hB:=ah (fun h=>abj.out k hkl h)
   have hG:Hid (ni l k=true->∀i,i<k+1->ni l i=true):=ah (fun h i hi=>by
    by_cases e:i=k
    ·subst e;exact h
    ·exact He.out i (by omega))
   have hnm:=fun w=>name_any l[k].name w hsx.1;have HF:Hid (ni l k=(fM l[k].name&&decide (l[k].value.size<=16)&&(decide (k=0)||jS (jy l (k-1)).name l[k].name))):=ah (by unfold ni;rw[zf hkl]);obtain ⟨j,hj⟩:∃j,k-1=j:=⟨_,rfl⟩
   have Dw:0<k->∃pv:ByteArray,(jy l j).name=pv/\∀o,(w4.alloc o).cell? (ad.add (j * 2))=some (.string pv):=fun h0=>by
    have hjl:j<l.length:=(by omega);obtain ⟨ad2,e2,_,q0,_⟩:=mg (hr.nx (by decide) hn4) hjl;injection e2 with e2;subst e2;refine ⟨_,by rw[zf hjl],fun o=>?_⟩;exact (World.cell?_alloc_lt w4 o _ (World.block_lt_of_cell? w4 _ q0)).trans q0
   rw[hj]at HF;have Hn4:=ah hn4;clear hn4 hsx;generalize l[k]=x at *;have kN:=ah hnm;clear hnm;cases PL:fM x.name
   ·have Hk:=ah (hB.out (by rw[HF.out,PL];rfl))
    rw[PL]at kN;clear PL;go_wp2_with fail;go_quiet ((first|(go_at_call 161;exact VG (kN.out _))))
    go_wp2_with fail;go_ret;exact ⟨by rw[Hk.out];rfl,(Hn4.out.alloc _).drewN _⟩
   ·rw[PL]at kN
    by_cases hv:x.value.size<=16
    ·have hv1:¬(16:Int)<(x.value.size:Int):=by omega
     by_cases h0:0<k
     ·obtain ⟨pv,hpv,q0⟩:=Dw h0
      have h0':(0:Int)<(k:Int):=(by omega);have kj:(k:Int)-1=(j:Int):=(by omega);have kw:IntKind.i64.wrap (j:Int)=(j:Int):=IntWalk.i64_in _ (by omega);have kb:(j:Int)<(n:Int):=(by omega);have kb2:j<n:=(by omega);cases hbl:jS pv x.name
      ·have Hk:=ah (hB.out (by rw[HF.out,PL,hpv,hbl,decide_eq_false (show ¬k=0 by omega)];simp))
       have hq:Op.bytesLess pv.toList x.name.toList=false:=by rw[nV];exact hbl
       clear PL hbl Dw hpv hj;go_wp2_with fail;go_quiet ((first|(go_at_call 161;exact VG (kN.out _))))
       go_wp2_with fail;go_ret;exact ⟨by rw[Hk.out];rfl,(Hn4.out.alloc _).drewN _⟩
      ·have Hk:=ah (hG.out (by rw[HF.out,PL,hpv,hbl,decide_eq_true hv];simp))
       have hq:Op.bytesLess pv.toList x.name.toList=true:=by rw[nV];exact hbl
       clear PL hbl Dw hpv hj;go_wp2_with fail;go_quiet ((first|(go_at_call 161;exact VG (kN.out _))))
       go_wp2_with fail;go_roundw
       case rel=>exact ⟨k+1,by omega,by go_num,(Hn4.out.alloc _).drewN _,ah Hk.out⟩
       case measure=>simp[intOf];omega
     ·have Hk:=ah (hG.out (by rw[HF.out,PL,decide_eq_true hv,decide_eq_true (show k=0 by omega)];rfl))
      have hA:decide (0<k)=false:=by rw[decide_eq_false_iff_not];exact h0
      have hV:decide ((16:Int)<(x.value.size:Int))=false:=by rw[decide_eq_false_iff_not];exact hv1
      clear PL Dw hj h0 hv1 hv;go_wp2_with fail;go_quiet ((first|(go_at_call 161;exact VG (kN.out _))))
      go_wp2_with fail;go_roundw
      case rel=>exact ⟨k+1,by omega,by go_num,(Hn4.out.alloc _).drewN _,ah Hk.out⟩
      case measure=>simp[intOf];omega
    ·have hv1:(16:Int)<(x.value.size:Int):=by omega
     have Hk:=ah (hB.out (by rw[HF.out,PL,decide_eq_false hv];rfl));clear PL Dw hj;go_wp2_with fail;go_quiet ((first|(go_at_call 161;exact VG (kN.out _))))
     go_wp2_with fail;go_ret;exact ⟨by rw[Hk.out];rfl,(Hn4.out.alloc _).drewN _⟩
  ·have Hk:=ah (aeU.out fun i hi=>He.out i (by have:=Hl.out;omega))
   have hkn:k=n:=(by omega);have e:Hid (decide (l.length<=4)=decide ((n:Int)<=4)):=ah (by rw[Hl.out,decide_eq_decide];omega);have Hn4:=ah hn4;clear hn4;go_wp2_with fail;go_ret;exact ⟨by rw[Hk.out,e.out];rfl,Hn4.out⟩
end
end Go.Proofs.YtpakjclpjcngmaaGreat
namespace Go.Proofs.YtpakjclpjcngmaaGreat
open Go.RowKit Ps
def YR (c:Nat):Int:=match AB c with
 |some x=>(x:Int)
 |none=> -1
theorem wU (c:Nat) (hc:c<256) (w:World):Calls Tryz.prog 201 #[.int .u8 (c:Int)] w fun e w'=>e=.returned (.int .i64 (YR c))/\w=w':=by
 by_cases a1:48<=c/\c<=57
 ·have HR:Hid (YR c=(c:Int)-48):=ah (by unfold YR AB;rw[if_pos a1];simp only;omega)
  have b1:(48:Int)<=(c:Int):=by omega
  have b2:(c:Int)<=57:=by omega
  clear a1;go_enter Tryz.func201,Tryz.ntmps201;go_wp2_with fail;go_ret;exact ⟨by rw[HR.out];rfl,rfl⟩
 ·by_cases a2:97<=c/\c<=102
  ·have HR:Hid (YR c=(c:Int)-97+10):=ah (by unfold YR AB;rw[if_neg a1,if_pos a2];simp only;omega)
   have b1:(48:Int)<=(c:Int):=(by omega);have b2:¬(c:Int)<=57:=(by omega);have b3:(97:Int)<=(c:Int):=(by omega);have b4:(c:Int)<=102:=(by omega);clear a1 a2;go_enter Tryz.func201,Tryz.ntmps201;go_wp2_with fail;go_ret;exact ⟨by rw[HR.out];rfl,rfl⟩
  ·have HR:Hid (YR c= -1):=ah (by unfold YR AB;rw[if_neg a1,if_neg a2])
   by_cases c1:(48:Int)<=(c:Int)
   ·have b2:¬(c:Int)<=57:=by omega
    by_cases c2:(97:Int)<=(c:Int)
    ·have b4:¬(c:Int)<=102:=by omega
     clear a1 a2;go_enter Tryz.func201,Tryz.ntmps201;go_wp2_with fail;go_ret;exact ⟨by rw[HR.out];rfl,rfl⟩
    ·clear a1 a2
     go_enter Tryz.func201,Tryz.ntmps201;go_wp2_with fail;go_ret;exact ⟨by rw[HR.out];rfl,rfl⟩
   ·have c2:¬(97:Int)<=(c:Int):=by omega
    clear a1 a2;go_enter Tryz.func201,Tryz.ntmps201;go_wp2_with fail;go_ret;exact ⟨by rw[HR.out];rfl,rfl⟩
theorem z48 (c:Nat) (hc:c<256) (w:World):Calls Tryz.prog 174 #[.int .u8 (c:Int)] w fun e w'=>e=.returned (.bool (EW c))/\w=w':=by
 by_cases a:32<=c/\c<=126/\c≠34/\c≠92
 ·have HR:Hid (EW c=true):=ah (decide_eq_true a)
  have b1:(32:Int)<=(c:Int):=by omega
  have b2:(c:Int)<=126:=by omega
  have b3:((c:Int) !=34)=true:=by rw[bne_iff_ne];omega
  have b4:((c:Int) !=92)=true:=by rw[bne_iff_ne];omega
  clear a;go_enter Tryz.func174,Tryz.ntmps174;go_wp2_with fail;go_ret;exact ⟨by rw[HR.out];rfl,rfl⟩
 ·have HR:Hid (EW c=false):=ah (decide_eq_false a)
  by_cases b1:(32:Int)<=(c:Int)
  ·by_cases b2:(c:Int)<=126
   ·by_cases b3:(c:Int)=34
    ·have b3':((c:Int) !=34)=false:=by rw[b3];rfl
     clear a b3;go_enter Tryz.func174,Tryz.ntmps174;go_wp2_with fail;go_ret;exact ⟨by rw[HR.out];rfl,rfl⟩
    ·have b3':((c:Int) !=34)=true:=by rw[bne_iff_ne];exact b3
     have b4':((c:Int) !=92)=false:=by rw[bne_eq_false_iff_eq];omega
     clear a b3;go_enter Tryz.func174,Tryz.ntmps174;go_wp2_with fail;go_ret;exact ⟨by rw[HR.out];rfl,rfl⟩
   ·clear a
    go_enter Tryz.func174,Tryz.ntmps174;go_wp2_with fail;go_ret;exact ⟨by rw[HR.out];rfl,rfl⟩
  ·clear a
   go_enter Tryz.func174,Tryz.ntmps174;go_wp2_with fail;go_ret;exact ⟨by rw[HR.out];rfl,rfl⟩
def Vm (l:List UInt8):List Nat:=l.map UInt8.toNat
theorem BD (l:List UInt8):aX (Vm l)=jg l:=by
 unfold aX jg Vm;rw[List.map_map]
 have e:l.map (UInt8.ofNat ∘ UInt8.toNat)=l:=by
  conv=>rhs;rw[←List.map_id l]
  refine List.map_congr_left fun x _=>?_;simp
 rw[e]
theorem z3F {s:ByteArray} {a:Nat} (h:a<s.size):s.data.toList.drop a=s[a]::s.data.toList.drop (a+1):=by
 have hl:a<s.data.toList.length:=by simpa using h
 rw[List.drop_eq_getElem_cons hl];congr 1
theorem Aq (s:ByteArray):s.data.toList.length=s.size:=by simp
def lQ (s:ByteArray) (a0:Nat) (w:World) (e:Ending) (w':World):Prop:=∃(v:ByteArray) (n:Int) (b:Bool),e=.returned (.tuple #[.string v,.int .i64 n,.bool b])/\Nx w w'/\
 (∀v' r,fF (s.data.toList.drop a0)=some (v',r)->b=true/\v=jg v'/\n=((s.size-r.length:Nat):Int))/\(fF (s.data.toList.drop a0)=none->b=false)
theorem lQ.bad {s:ByteArray} {a0:Nat} {w w':World} (h:fF (s.data.toList.drop a0)=none) (hn:Nx w w') (v:ByteArray) (n:Int):lQ s a0 w (.returned (.tuple #[.string v,.int .i64 n,.bool false])) w':=
 ⟨v,n,false,rfl,hn,(fun v' r h2=>by rw[h]at h2;cases h2),fun _=>rfl⟩
section
variable {w : World}
theorem uP (s:ByteArray) (a0:Nat) (h0:a0<=s.size) (hs:s.size<=1000000000):
 Calls Tryz.prog 144 #[.string s,.int .i64 a0] w (lQ s a0 w):=by
 obtain ⟨i0,hi0,hz0,hz1,hz2⟩:=info_parts Tryz.info5;have hstr:=fun (D:Nat->Prop) (A:Option Addr) (n c:Nat) (t:List Nat) (w:World) (h:Rd w D 1 A n (bl t))=>rX (P:=Tryz.prog) w 26 9 5 Tryz.underlying26 Tryz.underlying5 Tryz.underlying9 D A n c t h;have Ye:=ah hstr;clear hstr;have H0:=ah (ay.nil w w 5 1 (Ch.refl _ _));go_enter Tryz.func144,Tryz.ntmps144;go_wp2_with fail;go_loopw [1,7] (fun s1 v wr=>∃(a:Nat) (vs:List UInt8),a<=s.size/\vs.length<=a/\s1=.int .i64 (a:Int)/\Hid (ay w wr 5 1 v vs.length (bl (Vm vs)))/\Hid (fF (s.data.toList.drop a0)=(fF (s.data.toList.drop a)).map fun p=>(vs++p.1,p.2))) (fun s1 _ _=>s.size-(intOf s1).toNat)
 case atStart=>exact ⟨a0,[],h0,Nat.zero_le _,rfl,H0,ah (by simp)⟩
 case round=>
  obtain ⟨w4,rfl⟩:∃w4:World,w4=wr:=⟨_,rfl⟩;obtain ⟨a,vs,ha,hva,rfl,Ho,Hv⟩:=hrel;obtain ⟨A7,c7,hu7,hc7,hm7⟩:=Ho.out.form;subst hu7;have UW:=ah (Ye.out _ A7 vs.length c7 (Vm vs) w4 (by have:=Ho.out.rd;exact this));by_cases hlt:a<s.size
  ·have HD:=ah (z3F hlt)
   have hcb:=UInt8.toNat_lt s[a];have HON:=ah (fun w' (c':Nx w4 w')=>Ho.out.tr c');by_cases h34:s[a].toNat=34
   ·have HR:=ah (show fF (s.data.toList.drop a0)=some (vs,s.data.toList.drop (a+1)) by rw[Hv.out,HD.out,Zu _ h34];simp)
    have hq:((s[a].toNat:Int) !=34)=false:=by rw[bne_eq_false_iff_eq];omega
    have SI:=UW.out;rw[BD]at SI;clear h34 hcb;go_wp2_with fail;refine bodyPost_ret (v:=.tuple #[.string (jg vs),.int .i64 ((a:Int)+1),.bool true]) (by simp[results,Tryz.results144,go_sem]) rfl ?_;refine ⟨_,_,_,rfl,Ho.out.nx,fun v' r h=>?_,fun h=>?_⟩
    ·rw[HR.out]at h
     injection h with h;injection h with h1 h2;subst h1;subst h2;refine ⟨rfl,rfl,?_⟩;rw[List.length_drop,Aq];omega
    ·rw[HR.out]at h;cases h
   ·have hq:((s[a].toNat:Int) !=34)=true:=by rw[bne_iff_ne];omega
    have hone:∀b n,iC (s.data.toList.drop a)=some (b,n)->fF (s.data.toList.drop a0)=(fF (s.data.toList.drop (a+n))).map fun p=>((vs++[b])++p.1,p.2):=fun b n h=>by
     rw[Hv.out];rw[HD.out]at h;have h2:=Zv h34 h;rw[←HD.out]at h2;rw[h2,List.drop_drop,Option.map_map];congr 1
     funext p
     simp
    have hbad:iC (s.data.toList.drop a)=none->fF (s.data.toList.drop a0)=none:=fun h=>by
     rw[HD.out]at h;rw[Hv.out,HD.out,z3l h34 h];rfl
    have afg:=ah hone;have HBAD:=ah hbad;clear hone hbad;by_cases h92:s[a].toNat=92
    ·have hq2:((s[a].toNat:Int)==92)=true:=by rw[beq_iff_eq];omega
     have HX1:=ah (fun (h:a+1<s.size)=>z3F h);have HX2:=ah (fun (h:a+2<s.size)=>z3F h)
     have HO2:Hid (iC (s.data.toList.drop a)=(match s.data.toList.drop (a+1) with
      |p::q::_=>match AB p.toNat,AB q.toNat with
       |some x,some y=>if EW (16 * x+y)=true then none else some (UInt8.ofNat (16 * x+y),3)
       |_,_=>none
      |_=>none)):=ah (by
      rw[HD.out];unfold iC;simp only;rw[if_pos h92];cases s.data.toList.drop (a+1) with
      |nil=>rfl
      |cons p r=>cases r with
       |nil=>rfl
       |cons q r=>rfl)
     clear h34 h92;by_cases hl2:a+2<s.size
     ·have hl1:a+1<s.size:=by omega
      have hb1:=UInt8.toNat_lt s[a+1];have hb2:=UInt8.toNat_lt s[a+2]
      have HO3:Hid (iC (s.data.toList.drop a)=(match AB s[a+1].toNat,AB s[a+2].toNat with
       |some x,some y=>if EW (16 * x+y)=true then none else some (UInt8.ofNat (16 * x+y),3)
       |_,_=>none)):=ah (by rw[HO2.out,HX1.out hl1,HX2.out hl2])
      have HG1:=ah (fun w=>wU s[a+1].toNat hb1 w);have HG2:=ah (fun w=>wU s[a+2].toNat hb2 w);unfold YR at HG1 HG2;clear HO2 HX1 HX2 hb1 hb2;cases hx:AB s[a+1].toNat with
      |none=>
       rw[hx]at HG1;have HR:=ah (HBAD.out (by rw[HO3.out,hx]));clear hx;go_wp2_with fail;refine (HG1.out _).mono ?_;rintro e w5 ⟨rfl,rfl⟩;go_wp2_with fail;refine bodyPost_ret (v:=.tuple #[.string ⟨#[]⟩,.int .i64 0,.bool false]) (by simp[results,Tryz.results144,go_sem]) rfl ?_;exact lQ.bad HR.out Ho.out.nx _ _
      |some x=>
       rw[hx]at HG1;cases hy:AB s[a+2].toNat with
       |none=>
        rw[hy]at HG2;have HR:=ah (HBAD.out (by rw[HO3.out,hx,hy]));clear hx hy;simp only at HG1;go_wp2_with fail;refine (HG1.out _).mono ?_;rintro e w5 ⟨rfl,rfl⟩;go_wp2_with fail;refine (HG2.out _).mono ?_;rintro e w5 ⟨rfl,rfl⟩;go_wp2_with fail;refine bodyPost_ret (v:=.tuple #[.string ⟨#[]⟩,.int .i64 0,.bool false]) (by simp[results,Tryz.results144,go_sem]) rfl ?_;exact lQ.bad HR.out Ho.out.nx _ _
       |some y=>
        rw[hy]at HG2;simp only at HG1 HG2;have hx15:x<=15:=by unfold AB at hx;split at hx<;>(first|(injection hx with hx;omega)|(split at hx<;>(first|(injection hx with hx;omega)|cases hx)))
        have hy15:y<=15:=by unfold AB at hy;split at hy<;>(first|(injection hy with hy;omega)|(split at hy<;>(first|(injection hy with hy;omega)|cases hy)))
        have HO4:Hid (iC (s.data.toList.drop a)=if EW (16 * x+y)=true then none else some (UInt8.ofNat (16 * x+y),3)):=ah (by rw[HO3.out,hx,hy]);have HP:=ah (fun w=>z48 (16 * x+y) (by omega) w);have kw1:IntKind.i64.wrap (16 * (x:Int))=16 * (x:Int):=IntWalk.i64_in _ (by omega);have kw2:IntKind.i64.wrap (16 * (x:Int)+(y:Int))=16 * (x:Int)+(y:Int):=IntWalk.i64_in _ (by omega);have kw3:IntKind.u8.wrap (16 * (x:Int)+(y:Int))=((16 * x+y:Nat):Int):=by rw[IntWalk.u8_in _ (by omega)];omega
        have kw4:IntKind.i64.wrap ((a:Int)+1+1)=(a:Int)+1+1:=IntWalk.i64_in _ (by omega);have kw5:((a:Int)+1+1).toNat=a+2:=(by omega);have kw6:((a:Int)+1).toNat=a+1:=(by omega);clear hx hy HO3;go_wp2_with fail;refine (HG1.out _).mono ?_;rintro e w5 ⟨rfl,rfl⟩;go_wp2_with fail;refine (HG2.out _).mono ?_;rintro e w5 ⟨rfl,rfl⟩;go_wp2_with fail;have kn1:(0:Int)<=(a:Int)+1:=(by omega);have kn2:(0:Int)<=(a:Int)+1+1:=(by omega);have kn3:(a:Int)+1<(s.size:Int):=(by omega);have kn4:(a:Int)+1+1<(s.size:Int):=(by omega);have kn5:a+1<s.size:=(by omega);have kn6:a+1+1<s.size:=(by omega);go_quiet ((first|(go_at_call 201;first|(with_reducible exact VG (HG1.out _))|(with_reducible exact VG (HG2.out _)))))
        cases hp:EW (16 * x+y)
        ·rw[hp]at HP
         have HR:=ah (afg.out (UInt8.ofNat (16 * x+y)) 3 (by rw[HO4.out,hp];rfl));have hb:(UInt8.ofNat (16 * x+y)).toNat=16 * x+y:=by simp;omega
         have HB:=ah hb;clear hp kw1 kw2 hb;go_wp2_with fail;refine (HP.out _).mono ?_;rintro e w5 ⟨rfl,rfl⟩;go_wp2_with (at_builtin;refine z08 rfl (.tmp 65) (.tmp 67) _ rfl 5 i0 _ 1 Tryz.underlying26 hi0 hz0 hz1 hz2 rfl (.int .u8 ((16 * x+y:Nat):Int)) rfl rfl (Ho.out.drewN _) rfl (by simp only[maxLen];omega) (by omega) ?_;intro v6 w6 o6 m6)
         have O6:=ah (show ay w w6 5 1 v6 (vs++[UInt8.ofNat (16 * x+y)]).length (bl (Vm (vs++[UInt8.ofNat (16 * x+y)]))) by
          rw[List.length_append,List.length_singleton]
          have e:bl (Vm (vs++[UInt8.ofNat (16 * x+y)]))=bl (Vm vs)++[.int .u8 ((16 * x+y:Nat):Int)]:=by
           unfold bl Vm;rw[List.map_append,List.map_append,List.map_singleton,List.map_singleton,HB.out]
          rw[e];exact o6)
         clear o6 m6;go_roundw
         case rel=>exact ⟨a+3,vs++[UInt8.ofNat (16 * x+y)],by omega,by simp;omega,by go_num,O6,HR⟩
         case measure=>simp[intOf];omega
        ·rw[hp]at HP
         have HR:=ah (HBAD.out (by rw[HO4.out,hp];rfl));clear hp kw1 kw2;go_wp2_with fail;refine (HP.out _).mono ?_;rintro e w5 ⟨rfl,rfl⟩;go_wp2_with fail;refine bodyPost_ret (v:=.tuple #[.string ⟨#[]⟩,.int .i64 0,.bool false]) (by simp[results,Tryz.results144,go_sem]) rfl ?_;exact lQ.bad HR.out (Ho.out.nx.drewN _) _ _
     ·have HR:=ah (HBAD.out (by
       rw[HO2.out];have hl:(s.data.toList.drop (a+1)).length<2:=by rw[List.length_drop,Aq];omega
       match s.data.toList.drop (a+1),hl with
       |[],_=>rfl
       |[_],_=>rfl))
      have hl3:¬a+1+1<s.size:=(by omega);go_wp2_with fail;refine bodyPost_ret (v:=.tuple #[.string ⟨#[]⟩,.int .i64 0,.bool false]) (by simp[results,Tryz.results144,go_sem]) rfl ?_;exact lQ.bad HR.out Ho.out.nx _ _
    ·have hq2:((s[a].toNat:Int)==92)=false:=by rw[beq_eq_false_iff_ne];omega
     have HO2:Hid (iC (s.data.toList.drop a)=if EW s[a].toNat=true then some (s[a],1) else none):=ah (by rw[HD.out];unfold iC;simp only;rw[if_neg h92]);have HP:=ah (fun w=>z48 s[a].toNat hcb w);clear h34 h92;cases hp:EW s[a].toNat
     ·rw[hp]at HP
      have HR:=ah (HBAD.out (by rw[HO2.out,hp];rfl));clear hp;go_wp2_with fail;refine (HP.out _).mono ?_;rintro e w5 ⟨rfl,rfl⟩;go_wp2_with fail;refine bodyPost_ret (v:=.tuple #[.string ⟨#[]⟩,.int .i64 0,.bool false]) (by simp[results,Tryz.results144,go_sem]) rfl ?_;exact lQ.bad HR.out Ho.out.nx _ _
     ·rw[hp]at HP
      have HR:=ah (afg.out s[a] 1 (by rw[HO2.out,hp];rfl));clear hp;go_wp2_with fail;refine (HP.out _).mono ?_;rintro e w5 ⟨rfl,rfl⟩;go_wp2_with (at_builtin;refine z08 rfl (.tmp 65) (.tmp 67) _ rfl 5 i0 _ 1 Tryz.underlying26 hi0 hz0 hz1 hz2 rfl (.int .u8 (s[a].toNat:Int)) rfl rfl Ho.out rfl (by simp only[maxLen];omega) (by omega) ?_;intro v6 w6 o6 m6)
      have O6:=ah (show ay w w6 5 1 v6 (vs++[s[a]]).length (bl (Vm (vs++[s[a]]))) by
       rw[List.length_append,List.length_singleton];simpa [bl,Vm]using o6)
      clear o6 m6;go_roundw
      case rel=>exact ⟨a+1,vs++[s[a]],by omega,by simp;omega,by go_num,O6,HR⟩
      case measure=>simp[intOf];omega
  ·have hae:a=s.size:=by omega
   have HR:=ah (show fF (s.data.toList.drop a0)=none by rw[Hv.out,List.drop_of_length_le (by rw[Aq];omega)];rfl);have SI:=UW.out;rw[BD]at SI;clear hae;go_wp2_with fail;refine bodyPost_ret (v:=.tuple #[.string (jg vs),.int .i64 ((a:Int)+1),.bool false]) (by simp[results,Tryz.results144,go_sem]) rfl ?_;exact lQ.bad HR.out Ho.out.nx _ _
end
end Go.Proofs.YtpakjclpjcngmaaGreat
namespace Go.Proofs.YtpakjclpjcngmaaGreat
open Go.RowKit
section
variable {w : World} {D : Nat → Prop} {A : Option Addr} {n c : Nat} {l : List dO}
end
section
variable {w : World} {D D2 : Nat → Prop} {A B : Option Addr} {n c m d : Nat} {l : List dO} {ms : List Mat}
end
section
variable {w : World} {D D2 : Nat → Prop} {A B : Option Addr} {n c m d : Nat} {l : List dO} {ms : List Mat}
end
theorem Xu {x y:au} (h:x.time<y.time):fQ x y= -1:=by simp[fQ,or4,h_];omega
theorem Xy {x y:au} (h:y.time<x.time):fQ x y=1:=by simp[fQ,or4,h_];omega
theorem Xt {x y:au} (h0:x.time=y.time) (h:x.maker<y.maker):fQ x y= -1:=by simp[fQ,or4,h_,h0];omega
theorem Xx {x y:au} (h0:x.time=y.time) (h:y.maker<x.maker):fQ x y=1:=by simp[fQ,or4,h_,h0];omega
theorem Xr {x y:au} (h0:x.time=y.time) (h1:x.maker=y.maker) (h:x.seq<y.seq):fQ x y= -1:=by simp[fQ,or4,h_,h0,h1];omega
theorem Xw {x y:au} (h0:x.time=y.time) (h1:x.maker=y.maker) (h:y.seq<x.seq):fQ x y=1:=by simp[fQ,or4,h_,h0,h1];omega
theorem Xq {x y:au} (h0:x.time=y.time) (h1:x.maker=y.maker) (h2:x.seq=y.seq) (h:x.place<y.place):fQ x y= -1:=by simp[fQ,or4,h_,h0,h1,h2];omega
theorem Xv {x y:au} (h0:x.time=y.time) (h1:x.maker=y.maker) (h2:x.seq=y.seq) (h:y.place<x.place):fQ x y=1:=by simp[fQ,or4,h_,h0,h1,h2];omega
theorem cmp_eq {x y:au} (h0:x.time=y.time) (h1:x.maker=y.maker) (h2:x.seq=y.seq) (h3:x.place=y.place):fQ x y=0:=by simp[fQ,or4,h_,h0,h1,h2,h3]
def EG (x y:au) (k:Nat):Prop:=(0<k->x.time=y.time)/\(1<k->x.maker=y.maker)/\(2<k->x.seq=y.seq)/\(3<k->x.place=y.place)
section
variable {w : World}
theorem zI (x y:RV) (w:World):Calls Tryz.prog 116 #[bV x,bV y] w fun e w'=>e=.returned (.int .i64 (fQ x.row y.row))/\Nx w w':=by
 obtain ⟨⟨kind,time,aB,text,value,null,maker,seq,place⟩,A1,c1⟩:=x;obtain ⟨⟨kind2,bJ,dH,dn,value2,dw,aZ,seq2,aY⟩,A2,c2⟩:=y;unfold bV;simp only;generalize hX:(⟨kind,time,aB,text,value,null,maker,seq,place⟩:au)=X;generalize hY:(⟨kind2,bJ,dH,dn,value2,dw,aZ,seq2,aY⟩:au)=Y;have E:Hid (X.time=time/\X.maker=maker/\X.seq=seq/\X.place=place/\Y.time=bJ/\Y.maker=aZ/\Y.seq=seq2/\Y.place=aY):=ah (by subst hX;subst hY;exact ⟨rfl,rfl,rfl,rfl,rfl,rfl,rfl,rfl⟩);clear hX hY;go_enter Tryz.func116,Tryz.ntmps116;go_wp2_with fail;go_loopw [28] (fun i wr=>∃k:Nat,k<=4/\i=.int .i64 (k:Int)/\Nx w wr/\Hid (aJ wr (w.heap.size+1+1) 238 #[.int .i64 time,.int .i64 maker,.int .i64 seq,.int .i64 place])/\Hid (aJ wr (w.heap.size+1+1+1) 238 #[.int .i64 bJ,.int .i64 aZ,.int .i64 seq2,.int .i64 aY])/\Hid (EG X Y k)) (fun i _=>4-(intOf i).toNat)
 case atStart=>
  refine ⟨0,by decide,rfl,((((Ch.refl _ w).alloc _).alloc _).alloc _).alloc _,ah ?_,ah ?_,ah ⟨fun h=>by omega,fun h=>by omega,fun h=>by omega,fun h=>by omega⟩⟩
  ·refine aJ.alloc ?_ _
   have:=aJ.new ((w.alloc (.cells #[.int .i64 kind,.int .i64 time,.slice A1 aB.length c1,.string text,.int .i64 value,.bool null,.int .i64 maker,.int .i64 seq,.int .i64 place] 58)).alloc (.cells #[.int .i64 kind2,.int .i64 bJ,.slice A2 dH.length c2,.string dn,.int .i64 value2,.bool dw,.int .i64 aZ,.int .i64 seq2,.int .i64 aY] 58)) 238 #[.int .i64 time,.int .i64 maker,.int .i64 seq,.int .i64 place];simpa using this
  ·have:=aJ.new (((w.alloc (.cells #[.int .i64 kind,.int .i64 time,.slice A1 aB.length c1,.string text,.int .i64 value,.bool null,.int .i64 maker,.int .i64 seq,.int .i64 place] 58)).alloc (.cells #[.int .i64 kind2,.int .i64 bJ,.slice A2 dH.length c2,.string dn,.int .i64 value2,.bool dw,.int .i64 aZ,.int .i64 seq2,.int .i64 aY] 58)).alloc (.cells #[.int .i64 time,.int .i64 maker,.int .i64 seq,.int .i64 place] 238)) 238 #[.int .i64 bJ,.int .i64 aZ,.int .i64 seq2,.int .i64 aY]
   simpa using this
 case round=>
  obtain ⟨w4,rfl⟩:∃w4:World,w4=wr:=⟨_,rfl⟩;obtain ⟨k,hk,rfl,hn4,H1,H2,Hs⟩:=hrel;have N4:=ah hn4;clear hn4;rcases k with _|_|_|_|k
  ·have p:=H1.out.cell 0
   have r:=H2.out.cell 0;simp only[List.getElem?_toArray,List.getElem?_cons_zero]at p r;have hx:X.time=time:=E.out.1;have hy:Y.time=bJ:=E.out.2.2.2.2.1;have HLT:=ah (fun (h:time<bJ)=>Xu (x:=X) (y:=Y) (by rw[hx,hy];exact h));have HGT:=ah (fun (h:bJ<time)=>Xy (x:=X) (y:=Y) (by rw[hx,hy];exact h));have LH:=ah (fun (h1:¬time<bJ) (h2:¬bJ<time)=>(⟨fun _=>by rw[hx,hy];omega,fun h=>by omega,fun h=>by omega,fun h=>by omega⟩:EG X Y 1));clear hx hy;by_cases h1:time<bJ
   ·have HR:=ah (HLT.out h1)
    go_wp2_with fail;go_quiet (fail)
    go_wp2_with fail;go_ret;exact ⟨by rw[HR.out];rfl,by first|exact N4.out.drewN _|exact (N4.out.drewN _).drewN _⟩
   ·by_cases h2:bJ<time
    ·have HR:=ah (HGT.out h2)
     go_wp2_with fail;go_quiet (fail)
     go_wp2_with fail;go_quiet (fail)
     go_wp2_with fail;go_ret;exact ⟨by rw[HR.out];rfl,by first|exact N4.out.drewN _|exact (N4.out.drewN _).drewN _⟩
    ·have HR:=ah (LH.out h1 h2)
     go_wp2_with fail;go_quiet (fail)
     go_wp2_with fail;go_quiet (fail)
     go_wp2_with fail;go_roundw
     case rel=>exact ⟨1,by decide,by go_num,N4.out.drewN _,ah (H1.out.drewN _),ah (H2.out.drewN _),HR⟩
     case measure=>simp[intOf]
  ·have p:=H1.out.cell 1
   have r:=H2.out.cell 1;simp only[List.getElem?_toArray,List.getElem?_cons_succ,List.getElem?_cons_zero]at p r;have hx:X.maker=maker:=E.out.2.1;have hy:Y.maker=aZ:=E.out.2.2.2.2.2.1;have g0:X.time=Y.time:=Hs.out.1 (by decide);have HLT:=ah (fun (h:maker<aZ)=>Xt (x:=X) (y:=Y) g0 (by rw[hx,hy];exact h));have HGT:=ah (fun (h:aZ<maker)=>Xx (x:=X) (y:=Y) g0 (by rw[hx,hy];exact h));have LH:=ah (fun (h1:¬maker<aZ) (h2:¬aZ<maker)=>(⟨fun _=>g0,fun _=>by rw[hx,hy];omega,fun h=>by omega,fun h=>by omega⟩:EG X Y 2));clear hx hy g0;by_cases h1:maker<aZ
   ·have HR:=ah (HLT.out h1)
    go_wp2_with fail;go_quiet (fail)
    go_wp2_with fail;go_ret;exact ⟨by rw[HR.out];rfl,by first|exact N4.out.drewN _|exact (N4.out.drewN _).drewN _⟩
   ·by_cases h2:aZ<maker
    ·have HR:=ah (HGT.out h2)
     go_wp2_with fail;go_quiet (fail)
     go_wp2_with fail;go_quiet (fail)
     go_wp2_with fail;go_ret;exact ⟨by rw[HR.out];rfl,by first|exact N4.out.drewN _|exact (N4.out.drewN _).drewN _⟩
    ·have HR:=ah (LH.out h1 h2)
     go_wp2_with fail;go_quiet (fail)
     go_wp2_with fail;go_quiet (fail)
     go_wp2_with fail;go_roundw
     case rel=>exact ⟨2,by decide,by go_num,N4.out.drewN _,ah (H1.out.drewN _),ah (H2.out.drewN _),HR⟩
     case measure=>simp[intOf]
  ·have p:=H1.out.cell 2
   have r:=H2.out.cell 2;simp only[List.getElem?_toArray,List.getElem?_cons_succ,List.getElem?_cons_zero]at p r;have hx:X.seq=seq:=E.out.2.2.1;have hy:Y.seq=seq2:=E.out.2.2.2.2.2.2.1;have g0:X.time=Y.time:=Hs.out.1 (by decide);have g1:X.maker=Y.maker:=Hs.out.2.1 (by decide);have HLT:=ah (fun (h:seq<seq2)=>Xr (x:=X) (y:=Y) g0 g1 (by rw[hx,hy];exact h));have HGT:=ah (fun (h:seq2<seq)=>Xw (x:=X) (y:=Y) g0 g1 (by rw[hx,hy];exact h));have LH:=ah (fun (h1:¬seq<seq2) (h2:¬seq2<seq)=>(⟨fun _=>g0,fun _=>g1,fun _=>by rw[hx,hy];omega,fun h=>by omega⟩:EG X Y 3));clear hx hy g0 g1;by_cases h1:seq<seq2
   ·have HR:=ah (HLT.out h1)
    go_wp2_with fail;go_quiet (fail)
    go_wp2_with fail;go_ret;exact ⟨by rw[HR.out];rfl,by first|exact N4.out.drewN _|exact (N4.out.drewN _).drewN _⟩
   ·by_cases h2:seq2<seq
    ·have HR:=ah (HGT.out h2)
     go_wp2_with fail;go_quiet (fail)
     go_wp2_with fail;go_quiet (fail)
     go_wp2_with fail;go_ret;exact ⟨by rw[HR.out];rfl,by first|exact N4.out.drewN _|exact (N4.out.drewN _).drewN _⟩
    ·have HR:=ah (LH.out h1 h2)
     go_wp2_with fail;go_quiet (fail)
     go_wp2_with fail;go_quiet (fail)
     go_wp2_with fail;go_roundw
     case rel=>exact ⟨3,by decide,by go_num,N4.out.drewN _,ah (H1.out.drewN _),ah (H2.out.drewN _),HR⟩
     case measure=>simp[intOf]
  ·have p:=H1.out.cell 3
   have r:=H2.out.cell 3;simp only[List.getElem?_toArray,List.getElem?_cons_succ,List.getElem?_cons_zero]at p r;have hx:X.place=place:=E.out.2.2.2.1;have hy:Y.place=aY:=E.out.2.2.2.2.2.2.2;have g0:X.time=Y.time:=Hs.out.1 (by decide);have g1:X.maker=Y.maker:=Hs.out.2.1 (by decide);have g2:X.seq=Y.seq:=Hs.out.2.2.1 (by decide);have HLT:=ah (fun (h:place<aY)=>Xq (x:=X) (y:=Y) g0 g1 g2 (by rw[hx,hy];exact h));have HGT:=ah (fun (h:aY<place)=>Xv (x:=X) (y:=Y) g0 g1 g2 (by rw[hx,hy];exact h));have LH:=ah (fun (h1:¬place<aY) (h2:¬aY<place)=>(⟨fun _=>g0,fun _=>g1,fun _=>g2,fun _=>by rw[hx,hy];omega⟩:EG X Y 4));clear hx hy g0 g1 g2;by_cases h1:place<aY
   ·have HR:=ah (HLT.out h1)
    go_wp2_with fail;go_quiet (fail)
    go_wp2_with fail;go_ret;exact ⟨by rw[HR.out];rfl,by first|exact N4.out.drewN _|exact (N4.out.drewN _).drewN _⟩
   ·by_cases h2:aY<place
    ·have HR:=ah (HGT.out h2)
     go_wp2_with fail;go_quiet (fail)
     go_wp2_with fail;go_quiet (fail)
     go_wp2_with fail;go_ret;exact ⟨by rw[HR.out];rfl,by first|exact N4.out.drewN _|exact (N4.out.drewN _).drewN _⟩
    ·have HR:=ah (LH.out h1 h2)
     go_wp2_with fail;go_quiet (fail)
     go_wp2_with fail;go_quiet (fail)
     go_wp2_with fail;go_roundw
     case rel=>exact ⟨4,by decide,by go_num,N4.out.drewN _,ah (H1.out.drewN _),ah (H2.out.drewN _),HR⟩
     case measure=>simp[intOf]
  ·have hk4:k=0:=by omega
   subst hk4;have HR:=ah (cmp_eq (x:=X) (y:=Y) (Hs.out.1 (by decide)) (Hs.out.2.1 (by decide)) (Hs.out.2.2.1 (by decide)) (Hs.out.2.2.2 (by decide)));go_wp2_with fail;go_ret;exact ⟨by rw[HR.out];rfl,N4.out⟩
end
def UM (p:Prop) (w:World) (e:Ending) (w':World):Prop:=∃b:Bool,e=.returned (.bool b)/\(b=true↔p)/\Nx w w'
theorem dO.neq (a b c d:ByteArray) (w:World):(Op.equalIn 10000 135 (.agg #[.string a,.string b]) (.agg #[.string c,.string d])).run Tryz.prog w=.ok (a.toList==c.toList&&b.toList==d.toList) w:=by
 have u3:=Tryz.underlying9;have a3:=Tryz.isAgg9;have z3:=Tryz.sizeOf9;have hS:Tryz.prog.underlying 135=some (.struct (Tryz.prog.fieldsOf 135)):=by kernel_rfl
 have hp:Tryz.prog.stoodInHeld 135=false:=by kernel_rfl
 rw[show (10000:Nat)=9999+1 from rfl,run_equalIn_agg w 9999 135 _ _ hS hp];simp only[Program.fieldsOf,Tryz.underlying135];go_simp;by_cases h1:a.toList=c.toList<;>by_cases h2:b.toList=d.toList<;>simp[h1,h2]
section
variable {w : World} {D D2 : Nat → Prop} {A B : Option Addr} {n c m d : Nat} {l ls : List dO}
theorem MO (hr:Rd w D 2 A n (lbl l)) (hl:l.length=n) (hn:n<=4398046511104) (hr2:Rd w D2 2 B m (lbl ls)) (hm:ls.length=m):
 Calls Tryz.prog 117 #[.slice A n c,.slice B m d] w (UM (l=ls) w):=by
 have Hl:=ah hl;have Hm:=ah hm;by_cases hnm:n=m
 ·subst hnm
  clear hl hm;go_enter Tryz.func117,Tryz.ntmps117;go_wp2_with fail;go_loopw [13] (fun i wr=>∃k:Nat,k<=n/\i=.int .i64 (k:Int)/\Nx w wr/\Hid (l.take k=ls.take k)) (fun i _=>n-(intOf i).toNat)
  case atStart=>exact ⟨0,Nat.zero_le _,rfl,Ch.refl _ _,ah rfl⟩
  case round=>
   obtain ⟨w4,rfl⟩:∃w4:World,w4=wr:=⟨_,rfl⟩;obtain ⟨k,hk,rfl,hn4,He⟩:=hrel;by_cases hlt:k<n
   ·have hkl:k<l.length:=by rw[Hl.out];exact hlt
    have hkm:k<ls.length:=by rw[Hm.out];exact hlt
    obtain ⟨ad,rfl, -,p0,p1⟩:=mg (hr.nx (by decide) hn4) hkl;obtain ⟨ad2,rfl, -,q0,q1⟩:=mg (hr2.nx (by decide) hn4) hkm;have HS:=ah (fun (h:l[k]=ls[k])=>show l.take (k+1)=ls.take (k+1) by rw[List.take_succ_eq_append_getElem hkl,List.take_succ_eq_append_getElem hkm,He.out,h])
    have HD:=ah (fun (h:l[k]≠ls[k])=>show ¬l=ls by
     intro e;refine h ?_;subst e;rfl)
    have N4:=ah hn4;clear hn4;generalize l[k]=x at *;generalize ls[k]=y at *;obtain ⟨xn,xv⟩:=x;obtain ⟨yn,yv⟩:=y;simp only at p0 p1 q0 q1;have e1:=str_eq xn yn;have e2:=str_eq xv yv;have hgd:∀(op:BinOp) (x y:Operand) (w:World),(eqGuard op 135 x y (.agg #[.string xn,.string xv]) (.agg #[.string yn,.string yv])).run Tryz.prog w=.ok () w:=fun op x y w=>run_eqGuard_agg w op _ x y _ _ (by kernel_rfl)
    have hne:∀w,(binOp .neq 135 (.agg #[.string xn,.string xv]) (.agg #[.string yn,.string yv])).run Tryz.prog w=.ok (.bool (!(xn.toList==yn.toList&&xv.toList==yv.toList))) w:=fun w=>by
     rw[run_neq_struct,dO.neq];rfl
    by_cases he:xn=yn/\xv=yv
    ·have HR:=ah (HS.out (by rw[he.1,he.2]))
     have hbb:(!(xn.toList==yn.toList&&xv.toList==yv.toList))=false:=by rw[e1,e2,decide_eq_true he.1,decide_eq_true he.2];rfl
     rw[hbb]at hne;clear e1 e2 hbb he;go_wp2_with fail;go_quiet (fail)
     go_wp2_with fail;go_roundw
     case rel=>exact ⟨k+1,by omega,by go_num,N4.out.drewN _,HR⟩
     case measure=>simp[intOf];omega
    ·have HR:=ah (HD.out (fun h=>he (by injection h with h1 h2;exact ⟨h1,h2⟩)))
     have hbb:(!(xn.toList==yn.toList&&xv.toList==yv.toList))=true:=by
      rw[e1,e2];by_cases h1:xn=yn
      ·rw[decide_eq_true h1,decide_eq_false (fun h2=>he ⟨h1,h2⟩)];rfl
      ·rw[decide_eq_false h1];rfl
     rw[hbb]at hne;clear e1 e2 hbb he;go_wp2_with fail;go_quiet (fail)
     go_wp2_with fail;go_ret;exact ⟨false,rfl,by simp[HR.out],N4.out.drewN _⟩
   ·have HR:Hid (l=ls):=ah (by
     have:=He.out;rw[List.take_of_length_le (by rw[Hl.out];omega),List.take_of_length_le (by rw[Hm.out];omega)]at this;exact this)
    have N4:=ah hn4;clear hn4;go_wp2_with fail;go_ret;exact ⟨true,rfl,by simp[HR.out],N4.out⟩
 ·have HR:Hid (¬l=ls):=ah (fun e=>hnm (by rw[←Hl.out,←Hm.out,e]))
  have hne:((n:Int) !=(m:Int))=true:=by rw[bne_iff_ne];omega
  clear hl hm hnm;go_enter Tryz.func117,Tryz.ntmps117;go_wp2_with fail;go_ret;exact ⟨false,rfl,by simp[HR.out],Ch.refl _ _⟩
end
end Go.Proofs.YtpakjclpjcngmaaGreat
