/- Contracts and plain laws that the last text rests on. Conditions: each theorem states its own. -/
import Derived.Test.YtpakjclpjcngmaaGreatKbQ7
import Derived.Test.YtpakjclpjcngmaaGreatKbQ4
import Derived.Test.YtpakjclpjcngmaaGreatKbQ8
import Derived.Test.YtpakjclpjcngmaaGreatKbQ3
import Derived.Test.YtpakjclpjcngmaaGreatKbPcShl
import Derived.Test.YtpakjclpjcngmaaGreatKbPcBldA
import Derived.Test.YtpakjclpjcngmaaGreatKbQ6
import Derived.Deep.RegionHeld3
import Derived.Test.YtpakjclpjcngmaaGreatKbQ9
import Derived.Test.YtpakjclpjcngmaaGreatKbQ11
set_option maxRecDepth 100000
set_option maxHeartbeats 16000000
set_option linter.unusedVariables false
namespace Go.Proofs.YtpakjclpjcngmaaGreat
open Go.RowKit Ps
section
variable {w : World} {D D2 : Nat → Prop} {A B : Option Addr} {c d : Nat} {l : List dL} {by_ : List ByteArray}
end
def vT (l:List dL):ByteArray:=if aZ l=true then dZ (textF l) else ⟨#[]⟩
theorem toL (s:ByteArray) (i:Nat) (h:i<s.size):s.data.toList[i]'(by rw[Array.length_toList];exact h)=s[i]:=by
 rw[Array.getElem_toList];rfl
theorem z4q {s:ByteArray} {i:Nat} (h:i<s.size):dP (s.data.toList.take (i+1))=dP (s.data.toList.take i)++lM s[i]:=by
 rw[List.take_succ_eq_append_getElem (by rw[Array.length_toList];exact h),IE,toL s i h]
theorem uX {l:List dL} {k:Nat} (h:k<l.length):bodyT (l.take (k+1))=bodyT (l.take k)++((if k=0 then [] else [44])++labT l[k]):=by
 rw[List.take_succ_eq_append_getElem h,KP]
 have e:(if l.take k=[] then ([]:List UInt8) else [44])=if k=0 then [] else [44]:=by
  cases k with
  |zero=>rfl
  |succ k=>
   rw[if_neg (Nat.succ_ne_zero k),if_neg];intro e;have:=congrArg List.length e;rw[List.length_take]at this;simp only[List.length_nil]at this;omega
 rw[e]
theorem ZI:∀{l:List dL},(∀x∈l,dw x.name=true/\x.value.size<=16)->(bodyT l).length<=60 * l.length
 |[],_=>Nat.le_refl _
 |x::r,h=>by
  have h1:=zK (h x List.mem_cons_self).1 (h x List.mem_cons_self).2;have h2:=sU (r:=r) (fun y hy=>h y (List.mem_cons_of_mem _ hy));unfold bodyT;simp only[List.length_cons,List.length_append];omega
theorem BI (a:ByteArray) (b:Array UInt8):(a++(⟨b⟩:ByteArray)).data.toList=a.data.toList++b.toList:=by
 rw[ByteArray.data_append,Array.toList_append]
section
variable {w : World} {D : Nat → Prop} {A : Option Addr} {c : Nat} {l : List dL}
theorem LP (h:Rd w D 2 A l.length (lbl l)) (hl:l.length<=1000000) (hsm:∀x∈l,x.small):
 Calls Tryz.prog 110 #[.slice A l.length c] w fun e w'=>e=.returned (.tuple #[.string (vT l),.int .i64 (if aZ l=true then 0 else 4)])/\Nx w w':=by
 have HRT:=ah (z4E (c:=c) h rfl (by omega) hsm);have HR:=ah h;clear h hsm;cases hr:aZ l
 ·rw[hr]at HRT
  have HX:Hid (vT l=⟨#[]⟩):=ah (by unfold vT;rw[hr];rfl);clear hr;go_enter Tryz.func110,Tryz.ntmps110;go_wp2_with fail;refine HRT.out.mono ?_;rintro e w1 ⟨rfl,n1⟩;have N1:=ah n1;clear n1;go_wp2_with fail;exact bodyPost_ret (v:=.tuple #[.string ⟨#[]⟩,.int .i64 4]) (by simp[results,Tryz.results110,go_sem]) rfl ⟨by rw[HX.out];first|done|rfl,N1.out⟩
 ·rw[hr]at HRT
  have HX:Hid (vT l=dZ (123::(bodyT l++[125]))):=ah (by unfold vT;rw[hr];rfl);have HIN:=ah (fun x (hx:x∈l)=>z1M hr hx)
  have h4:l.length<=4:=by
   unfold aZ at hr;rw[Bool.and_eq_true,decide_eq_true_eq]at hr;exact hr.1
  clear hr;go_enter Tryz.func110,Tryz.ntmps110;go_wp2_with fail;refine HRT.out.mono ?_;rintro e w1 ⟨rfl,n1⟩;have N1:=ah n1;have HB0:=ah (VT (lG.new w1) ⟨#[123]⟩ (by decide));clear n1 HRT;go_wp2_with fail;refine HB0.out.mono ?_;rintro e w2 ⟨rfl,hb2,hr2⟩;have HB2:=ah hb2;clear hb2 hr2 HB0;go_wp2_with fail;go_loopw [15] (fun s15 wr=>∃k:Nat,k<=l.length/\s15=.int .i64 (k:Int)/\Hid (lG w1 wr w1.heap.size (123::bodyT (l.take k)))) (fun s15 _=>l.length-(intOf s15).toNat)
  case atStart=>exact ⟨0,Nat.zero_le _,rfl,HB2⟩
  case round=>
   obtain ⟨w3,rfl⟩:∃w3:World,w3=wr:=⟨_,rfl⟩;obtain ⟨k,hk,rfl,HB⟩:=hrel;by_cases hlt:k<l.length
   ·obtain ⟨ad,rfl,hbk,p0,p1⟩:=QF (HR.out.nx (by decide) (N1.out.tr HB.out.nx)) hlt
    have HS:=ah (uX hlt);have hin:=HIN.out _ (List.getElem_mem hlt)
    have hbl:(bodyT (l.take k)).length<=60 * k:=by
     have:=ZI (l:=l.take k) (fun x hx=>HIN.out x (List.mem_of_mem_take hx));rw[List.length_take]at this;omega
    generalize bodyT (l.take k)=T at *;generalize l[k]=x at *;obtain ⟨nm,val⟩:=x;simp only at p0 p1 hin
    have hnl:nm.size<=8:=by
     have:=hin.1;unfold dw at this;rw[Bool.and_eq_true,decide_eq_true_eq]at this;exact this.1.2
    have hvl:=hin.2;clear hin hbk;have B4:=ah (HB.out.tr ((Ch.refl (fun _=>False) w3).alloc (.cells #[.string nm,.string val] 135)));have G4:=ah (aG.new w3 135 #[.string nm,.string val])
    have hgb:w1.heap.size<w3.heap.size:=by
     obtain ⟨_,_,_,hb,_⟩:=HB.out;exact hb.lt
    by_cases hk0:0<k
    ·have HS2:Hid (123::bodyT (l.take (k+1))=((123::T)++[44])++labT ⟨nm,val⟩):=ah (by rw[HS.out,if_neg (by omega)];simp)
     have HW1:=ah (VT B4.out ⟨#[44]⟩ (by show (123::T).length+1<=_;simp only[List.length_cons];omega));clear HS;go_wp2_with fail;refine HW1.out.mono ?_;rintro e w5 ⟨rfl,hb5,hr5⟩;have B5:Hid (lG w1 w5 w1.heap.size ((123::T)++[44])):=ah hb5;have G5:=ah (hr5.2 _ _ _ G4.out (by decide) (by omega));have c0:w5.cell? ⟨w3.heap.size,0,none⟩=some (.string nm):=G5.out.cell 0;have HW2:=ah (VT B5.out (nm++⟨#[61,34]⟩) (by rw[ByteArray.size_append];show ((123::T)++[44]).length+(nm.size+2)<=_;simp only[List.length_cons,List.length_append,List.length_nil];omega));clear hb5 hr5 HW1 G4 B4 HB p0 p1;go_wp2_with fail;refine HW2.out.mono ?_;rintro e w6 ⟨rfl,hb6,hr6⟩;obtain ⟨Q,hQ⟩:∃Q,Q=((123::T)++[44])++(nm.data.toList++[61,34]):=⟨_,rfl⟩;have B6:Hid (lG w1 w6 w1.heap.size Q):=ah (by rw[hQ];have h:=hb6;rw[BI]at h;exact h);have G6:=ah (hr6.2 _ _ _ G5.out (by decide) (by omega));clear hb6 hr6 HW2 c0;have HSQ:Hid (123::bodyT (l.take (k+1))=Q++(dP val.data.toList++[34])):=ah (by rw[HS2.out,hQ];simp[labT])
     have hql:Q.length<=400:=by
      rw[hQ];have e2:nm.data.toList.length=nm.size:=Array.length_toList ..;simp only[List.length_append,List.length_cons,List.length_nil];omega
     have c1:w6.cell? ⟨w3.heap.size,1,none⟩=some (.string val):=G6.out.cell 1;have hl6:=G6.out.lt;clear hQ HS2 hbl;go_wp2_with fail;clear c1;go_loopw [30] (fun s30 wr=>∃i:Nat,i<=val.size/\s30=.int .i64 (i:Int)/\Hid (lG w1 wr w1.heap.size (Q++dP (val.data.toList.take i)))/\Hid (aG wr w3.heap.size 135 #[.string nm,.string val])) (fun s30 _=>val.size-(intOf s30).toNat)
     case atStart=>exact ⟨0,Nat.zero_le _,rfl,ah (by have h:=B6.out;rw[List.take_zero,show dP []=[] from rfl,List.append_nil];exact h),G6⟩
     case round=>
      obtain ⟨w7,rfl⟩:∃w7:World,w7=wr:=⟨_,rfl⟩;obtain ⟨i,hi,rfl,B7,G7⟩:=hrel;have c1:w7.cell? ⟨w3.heap.size,1,none⟩=some (.string val):=G7.out.cell 1;have hl7:=G7.out.lt;by_cases hil:i<val.size
      ·have HV:=ah (z4q hil)
       have Xo:(dP (val.data.toList.take i)).length<=3 * i:=by
        have:=Rl (val.data.toList.take i);rw[List.length_take]at this;omega
       have hc256:=val[i].toNat_lt;have CJ:=ah (z3c val[i].toNat (by omega));generalize hvt:dP (val.data.toList.take i)=V at *;cases hp:mQ val[i].toNat
       ·rw[hp]at CJ
        have FM:Hid (lM val[i]=[92,jF (val[i].toNat / 16),jF (val[i].toNat % 16)]):=ah (by unfold lM;rw[hp];rfl);clear hp;go_wp2_with fail;refine (CJ.out _).mono ?_;rintro e w8 ⟨rfl,rfl⟩;go_wp2_with fail;obtain ⟨X,hX⟩:∃X,X=JR:=⟨_,rfl⟩;have XC:=hX;have HX:=ah hX.symm;unfold JR at HX;have hXs:X.size=16:=by rw[hX];rfl
        clear hX;obtain ⟨cc,hcc⟩:∃cc,cc=val[i].toNat:=⟨_,rfl⟩;rw[HX.out];obtain ⟨p,hp⟩:∃p,p=cc / 16:=⟨_,rfl⟩;obtain ⟨m,hm⟩:∃m,m=cc % 16:=⟨_,rfl⟩;have JV:cc<256:=by rw[hcc];omega
        rw[←hcc]at FM;rw[←hcc];have hn1:p<X.size:=(by omega);have hn2:m<X.size:=(by omega);have HEP:=ah (show X[p]=jF p by subst XC;exact GR (by omega));have HEM:=ah (show X[m]=jF m by subst XC;exact GR (by omega));rw[←hp,←hm]at FM;have k3:(cc:Int) / 16=(p:Int):=(by omega);have k4:=u8_and15 (x:=(cc:Int)) (by omega) (by omega);rw[show (cc:Int) % 16=(m:Int) by omega]at k4;have kn1:(p:Int)<(X.size:Int):=(by omega);have kn2:(m:Int)<(X.size:Int):=(by omega);have k7:cc % 16=m:=hm.symm;have k8:cc / 16=p:=hp.symm;clear hcc hp hm hXs XC;have N8:=ah (((Ch.refl (fun _=>False) w7).alloc (.cells #[.int .u8 92,.int .u8 (X[p].toNat:Int),.int .u8 (X[m].toNat:Int)] 5)).drew);have B8:=ah (B7.out.tr N8.out);have G8:=ah (G7.out.nx N8.out);have hg:aG (w7.alloc (.cells #[.int .u8 92,.int .u8 (X[p].toNat:Int),.int .u8 (X[m].toNat:Int)] 5)).drew w7.heap.size 5 (Lib.byteCells [92,X[p],X[m]]).toArray:=(aG.new w7 5 _).drew
        have hgo:∀v,(w7.alloc (.cells #[.int .u8 92,.int .u8 (X[p].toNat:Int),.int .u8 (X[m].toNat:Int)] 5)).drew.cell? ⟨w1.heap.size,1,none⟩=some v->v.ownBlock≠some w7.heap.size:=by
         obtain ⟨p0,v0,_,hb0,o0,_⟩:=B7.out;intro v hv e;have h1:=(hb0.nx N8.out).cell 1;rw[h1]at hv;injection hv with hv;subst hv;have:=(o0.lt _ e).2;omega
        have HWR:Hid (Calls Tryz.prog 176 #[.pointer (some ⟨w1.heap.size,0,none⟩),.slice (some ⟨w7.heap.size,0,none⟩) 3 3] (w7.alloc (.cells #[.int .u8 92,.int .u8 (X[p].toNat:Int),.int .u8 (X[m].toNat:Int)] 5)).drew fun e w'=>e=.returned (.tuple #[.int .i64 3,.nilIface])/\lG w1 w' w1.heap.size ((Q++V)++[92,X[p],X[m]])/\Rest w1.heap.size (w7.alloc (.cells #[.int .u8 92,.int .u8 (X[p].toNat:Int),.int .u8 (X[m].toNat:Int)] 5)).drew w'):=
         ah (uZ (m:=[92,X[p],X[m]]) (cap:=3) B8.out hg hgo (by rw[List.length_append];show _+3<=_;omega))
        clear hg hgo c1;go_region_held3 (fun _=>True) (exact trivial) ((go_at_call 176;refine HWR.out.mono ?_;rintro e w9 ⟨rfl,hb9,hr9⟩;have B9:=ah hb9;have G9:=ah (hr9.2 _ _ _ G8.out (by decide) (by omega));clear hb9 hr9))
        go_wp2_with fail
        all_goals
         refine ⟨⟨i+1,by omega,by go_num,ah (by rw[HV.out,FM.out,←HEP.out,←HEM.out,←List.append_assoc];exact B9.out),G9⟩,?_⟩;simp[intOf];omega
       ·rw[hp]at CJ
        have FM:Hid (lM val[i]=[val[i]]):=ah (by unfold lM;rw[hp];rfl);have HWB:=ah (BM B7.out val[i] (by rw[List.length_append];omega));clear hp;go_wp2_with fail;refine (CJ.out _).mono ?_;rintro e w8 ⟨rfl,rfl⟩;go_wp2_with fail;refine HWB.out.mono ?_;rintro e w9 ⟨rfl,hb9,hr9⟩;have B9:=ah hb9;have G9:=ah (hr9.2 _ _ _ G7.out (by decide) (by omega));clear hb9 hr9 c1;go_wp2_with fail;go_roundw
        case rel=>exact ⟨i+1,by omega,by go_num,ah (by rw[HV.out,FM.out,←List.append_assoc];exact B9.out),G9⟩
        case measure=>simp[intOf];omega
      ·have HQE:Hid (lG w1 w7 w1.heap.size (Q++dP val.data.toList)):=ah (by have h:=B7.out;rw[List.take_of_length_le (by rw[Array.length_toList];show val.size<=i;omega)]at h;exact h)
       have Xo:(dP val.data.toList).length<=48:=by
        have:=Rl val.data.toList;have e2:val.data.toList.length=val.size:=Array.length_toList ..;omega
       have HW3:=ah (VT HQE.out ⟨#[34]⟩ (by rw[List.length_append];show _+1<=_;omega));clear B7 c1;go_wp2_with fail;refine HW3.out.mono ?_;rintro e w8 ⟨rfl,hb8,hr8⟩;have B8:=ah hb8;clear hb8 hr8 HW3;go_wp2_with fail;go_roundw
       case rel=>exact ⟨k+1,by omega,by go_num,ah (by rw[HSQ.out,←List.append_assoc];exact B8.out)⟩
       case measure=>simp[intOf];omega
    ·have HS2:Hid (123::bodyT (l.take (k+1))=(123::T)++labT ⟨nm,val⟩):=ah (by rw[HS.out,if_pos (by omega)];simp)
     have HW2:=ah (VT B4.out (nm++⟨#[61,34]⟩) (by rw[ByteArray.size_append];show (123::T).length+(nm.size+2)<=_;simp only[List.length_cons];omega));clear HS HB;go_wp2_with fail;refine HW2.out.mono ?_;rintro e w6 ⟨rfl,hb6,hr6⟩;obtain ⟨Q,hQ⟩:∃Q,Q=(123::T)++(nm.data.toList++[61,34]):=⟨_,rfl⟩;have B6:Hid (lG w1 w6 w1.heap.size Q):=ah (by rw[hQ];have h:=hb6;rw[BI]at h;exact h);have G6:=ah (hr6.2 _ _ _ G4.out (by decide) (by omega));clear hb6 hr6 HW2 B4 G4 p0 p1;have HSQ:Hid (123::bodyT (l.take (k+1))=Q++(dP val.data.toList++[34])):=ah (by rw[HS2.out,hQ];simp[labT])
     have hql:Q.length<=400:=by
      rw[hQ];have e2:nm.data.toList.length=nm.size:=Array.length_toList ..;simp only[List.length_append,List.length_cons,List.length_nil];omega
     have c1:w6.cell? ⟨w3.heap.size,1,none⟩=some (.string val):=G6.out.cell 1;have hl6:=G6.out.lt;clear hQ HS2 hbl;go_wp2_with fail;clear c1;go_loopw [30] (fun s30 wr=>∃i:Nat,i<=val.size/\s30=.int .i64 (i:Int)/\Hid (lG w1 wr w1.heap.size (Q++dP (val.data.toList.take i)))/\Hid (aG wr w3.heap.size 135 #[.string nm,.string val])) (fun s30 _=>val.size-(intOf s30).toNat)
     case atStart=>exact ⟨0,Nat.zero_le _,rfl,ah (by have h:=B6.out;rw[List.take_zero,show dP []=[] from rfl,List.append_nil];exact h),G6⟩
     case round=>
      obtain ⟨w7,rfl⟩:∃w7:World,w7=wr:=⟨_,rfl⟩;obtain ⟨i,hi,rfl,B7,G7⟩:=hrel;have c1:w7.cell? ⟨w3.heap.size,1,none⟩=some (.string val):=G7.out.cell 1;have hl7:=G7.out.lt;by_cases hil:i<val.size
      ·have HV:=ah (z4q hil)
       have Xo:(dP (val.data.toList.take i)).length<=3 * i:=by
        have:=Rl (val.data.toList.take i);rw[List.length_take]at this;omega
       have hc256:=val[i].toNat_lt;have CJ:=ah (z3c val[i].toNat (by omega));generalize hvt:dP (val.data.toList.take i)=V at *;cases hp:mQ val[i].toNat
       ·rw[hp]at CJ
        have FM:Hid (lM val[i]=[92,jF (val[i].toNat / 16),jF (val[i].toNat % 16)]):=ah (by unfold lM;rw[hp];rfl);clear hp;go_wp2_with fail;refine (CJ.out _).mono ?_;rintro e w8 ⟨rfl,rfl⟩;go_wp2_with fail;obtain ⟨X,hX⟩:∃X,X=JR:=⟨_,rfl⟩;have XC:=hX;have HX:=ah hX.symm;unfold JR at HX;have hXs:X.size=16:=by rw[hX];rfl
        clear hX;obtain ⟨cc,hcc⟩:∃cc,cc=val[i].toNat:=⟨_,rfl⟩;rw[HX.out];obtain ⟨p,hp⟩:∃p,p=cc / 16:=⟨_,rfl⟩;obtain ⟨m,hm⟩:∃m,m=cc % 16:=⟨_,rfl⟩;have JV:cc<256:=by rw[hcc];omega
        rw[←hcc]at FM;rw[←hcc];have hn1:p<X.size:=(by omega);have hn2:m<X.size:=(by omega);have HEP:=ah (show X[p]=jF p by subst XC;exact GR (by omega));have HEM:=ah (show X[m]=jF m by subst XC;exact GR (by omega));rw[←hp,←hm]at FM;have k3:(cc:Int) / 16=(p:Int):=(by omega);have k4:=u8_and15 (x:=(cc:Int)) (by omega) (by omega);rw[show (cc:Int) % 16=(m:Int) by omega]at k4;have kn1:(p:Int)<(X.size:Int):=(by omega);have kn2:(m:Int)<(X.size:Int):=(by omega);have k7:cc % 16=m:=hm.symm;have k8:cc / 16=p:=hp.symm;clear hcc hp hm hXs XC;have N8:=ah (((Ch.refl (fun _=>False) w7).alloc (.cells #[.int .u8 92,.int .u8 (X[p].toNat:Int),.int .u8 (X[m].toNat:Int)] 5)).drew);have B8:=ah (B7.out.tr N8.out);have G8:=ah (G7.out.nx N8.out);have hg:aG (w7.alloc (.cells #[.int .u8 92,.int .u8 (X[p].toNat:Int),.int .u8 (X[m].toNat:Int)] 5)).drew w7.heap.size 5 (Lib.byteCells [92,X[p],X[m]]).toArray:=(aG.new w7 5 _).drew
        have hgo:∀v,(w7.alloc (.cells #[.int .u8 92,.int .u8 (X[p].toNat:Int),.int .u8 (X[m].toNat:Int)] 5)).drew.cell? ⟨w1.heap.size,1,none⟩=some v->v.ownBlock≠some w7.heap.size:=by
         obtain ⟨p0,v0,_,hb0,o0,_⟩:=B7.out;intro v hv e;have h1:=(hb0.nx N8.out).cell 1;rw[h1]at hv;injection hv with hv;subst hv;have:=(o0.lt _ e).2;omega
        have HWR:Hid (Calls Tryz.prog 176 #[.pointer (some ⟨w1.heap.size,0,none⟩),.slice (some ⟨w7.heap.size,0,none⟩) 3 3] (w7.alloc (.cells #[.int .u8 92,.int .u8 (X[p].toNat:Int),.int .u8 (X[m].toNat:Int)] 5)).drew fun e w'=>e=.returned (.tuple #[.int .i64 3,.nilIface])/\lG w1 w' w1.heap.size ((Q++V)++[92,X[p],X[m]])/\Rest w1.heap.size (w7.alloc (.cells #[.int .u8 92,.int .u8 (X[p].toNat:Int),.int .u8 (X[m].toNat:Int)] 5)).drew w'):=
         ah (uZ (m:=[92,X[p],X[m]]) (cap:=3) B8.out hg hgo (by rw[List.length_append];show _+3<=_;omega))
        clear hg hgo c1;go_region_held3 (fun _=>True) (exact trivial) ((go_at_call 176;refine HWR.out.mono ?_;rintro e w9 ⟨rfl,hb9,hr9⟩;have B9:=ah hb9;have G9:=ah (hr9.2 _ _ _ G8.out (by decide) (by omega));clear hb9 hr9))
        go_wp2_with fail
        all_goals
         refine ⟨⟨i+1,by omega,by go_num,ah (by rw[HV.out,FM.out,←HEP.out,←HEM.out,←List.append_assoc];exact B9.out),G9⟩,?_⟩;simp[intOf];omega
       ·rw[hp]at CJ
        have FM:Hid (lM val[i]=[val[i]]):=ah (by unfold lM;rw[hp];rfl);have HWB:=ah (BM B7.out val[i] (by rw[List.length_append];omega));clear hp;go_wp2_with fail;refine (CJ.out _).mono ?_;rintro e w8 ⟨rfl,rfl⟩;go_wp2_with fail;refine HWB.out.mono ?_;rintro e w9 ⟨rfl,hb9,hr9⟩;have B9:=ah hb9;have G9:=ah (hr9.2 _ _ _ G7.out (by decide) (by omega));clear hb9 hr9 c1;go_wp2_with fail;go_roundw
        case rel=>exact ⟨i+1,by omega,by go_num,ah (by rw[HV.out,FM.out,←List.append_assoc];exact B9.out),G9⟩
        case measure=>simp[intOf];omega
      ·have HQE:Hid (lG w1 w7 w1.heap.size (Q++dP val.data.toList)):=ah (by have h:=B7.out;rw[List.take_of_length_le (by rw[Array.length_toList];show val.size<=i;omega)]at h;exact h)
       have Xo:(dP val.data.toList).length<=48:=by
        have:=Rl val.data.toList;have e2:val.data.toList.length=val.size:=Array.length_toList ..;omega
       have HW3:=ah (VT HQE.out ⟨#[34]⟩ (by rw[List.length_append];show _+1<=_;omega));clear B7 c1;go_wp2_with fail;refine HW3.out.mono ?_;rintro e w8 ⟨rfl,hb8,hr8⟩;have B8:=ah hb8;clear hb8 hr8 HW3;go_wp2_with fail;go_roundw
       case rel=>exact ⟨k+1,by omega,by go_num,ah (by rw[HSQ.out,←List.append_assoc];exact B8.out)⟩
       case measure=>simp[intOf];omega
   ·have HT:Hid (bodyT (l.take k)=bodyT l):=ah (by rw[List.take_of_length_le (by omega)])
    rw[HT.out]at HB
    have hbl:(bodyT l).length<=300:=by
     have:=ZI (l:=l) HIN.out;omega
    have HB5:=ah (VT HB.out ⟨#[125]⟩ (by show (123::bodyT l).length+1<=_;simp only[List.length_cons];omega));go_wp2_with fail;refine HB5.out.mono ?_;rintro e w6 ⟨rfl,hb6,hr6⟩;have HB6:=ah hb6;have HO:=ah (Ui hb6 hb6.nx.size);clear hb6 hr6 HB5;go_wp2_with fail;refine HO.out.mono ?_;rintro e w7 ⟨rfl,hbw⟩;have HBW:=ah hbw;clear hbw HO;go_wp2_with fail;exact bodyPost_ret (v:=.tuple #[.string ⟨(123::bodyT l++[125]).toArray⟩,.int .i64 0]) (by simp[results,Tryz.results110,go_sem]) rfl ⟨by rw[HX.out];rfl,N1.out.tr (HB6.out.nx.trans (Ch.of_below HBW.out) (fun i hi hs=>by omega))⟩
end
theorem Gz (a b:List UInt8):dZ a++dZ b=dZ (a++b):=by
 apply ByteArray.ext
 rw[ByteArray.data_append];simp[dZ]
theorem XQ (c:UInt8):bf (KO c.toNat)=dZ (lM c):=by
 unfold bf KO lM dZ;have h:=c.toNat_lt;by_cases hp:mQ c.toNat=true
 ·rw[if_pos hp,if_pos hp]
  simp
 ·rw[if_neg hp,if_neg hp]
  have e:∀n,jF n=UInt8.ofNat (zX n):=fun n=>rfl;simp[e]
theorem j_ (s:ByteArray):dZ s.data.toList=s:=by
 unfold dZ;rw[Array.toArray_toList]
theorem RJ (T:List UInt8) (nm val:ByteArray):(((((dZ (123::T)++⟨#[44]⟩)++nm)++⟨#[61]⟩)++⟨#[34]⟩)++dZ (dP val.data.toList)++⟨#[34]⟩)=dZ (123::(T++([44]++labT ⟨nm,val⟩))):=by
 apply ByteArray.ext
 simp[dZ,labT,ByteArray.data_append]
theorem LU (T:List UInt8) (nm val:ByteArray):((((dZ (123::T)++nm)++⟨#[61]⟩)++⟨#[34]⟩)++dZ (dP val.data.toList)++⟨#[34]⟩)=dZ (123::(T++([]++labT ⟨nm,val⟩))):=by
 apply ByteArray.ext
 simp[dZ,labT,ByteArray.data_append]
section
variable {w : World}
theorem Di (v:ByteArray) (hv:v.size<=1000000):Calls Tryz.prog 78 #[.string v] w fun e w'=>e=.returned (.string (dZ (dP v.data.toList)))/\Nx w w':=by
 go_enter Tryz.func78,Tryz.ntmps78;go_wp2_with fail;go_loopw [3,4] (fun s3 s4 wr=>∃k:Nat,k<=v.size/\s4=.int .i64 (k:Int)/\s3=.string (dZ (dP (v.data.toList.take k)))/\Hid (Nx w wr)) (fun _ s4 _=>v.size-(intOf s4).toNat)
 case atStart=>exact ⟨0,Nat.zero_le _,rfl,rfl,ah (Ch.refl _ _)⟩
 case round=>
  obtain ⟨w3,rfl⟩:∃w3:World,w3=wr:=⟨_,rfl⟩;obtain ⟨k,hk,rfl,rfl,N3⟩:=hrel;by_cases hlt:k<v.size
  ·have HV:=ah (z4q hlt)
   have hc:=UInt8.toNat_lt v[k];have HB:=ah (PO (w:=w3) v[k].toNat hc);rw[XQ]at HB;have HL:=ah (Gz (dP (v.data.toList.take k)) (lM v[k]))
   have h1:(dZ (dP (v.data.toList.take k))).size<=3000000:=by
    have:=Rl (v.data.toList.take k);rw[List.length_take]at this;show (dP (v.data.toList.take k)).toArray.size<=_
    rw[List.size_toArray];omega
   have h2:(dZ (lM v[k])).size<=3:=by
    have:=Rl [v[k]];unfold dP at this;show (lM v[k]).toArray.size<=_
    rw[List.size_toArray];simpa using this
   rw[←HV.out]at HL;generalize dZ (dP (v.data.toList.take k))=V at *;generalize dZ (lM v[k])=B at *;clear hc HV;go_wp2_with fail;refine HB.out.mono ?_;rintro e w4 ⟨rfl,n4⟩;have N4:=ah (N3.out.tr n4);clear n4 HB;go_wp2_with fail;go_roundw
   case rel=>exact ⟨k+1,hlt,by go_num,by rw[HL.out],N4⟩
   case measure=>simp[intOf];omega
  ·have HK:Hid (v.data.toList.take k=v.data.toList):=ah (List.take_of_length_le (by rw[Array.length_toList];show v.size<=k;omega))
   go_wp2_with fail;go_ret;exact ⟨by simp only[Array.getD,HK.out];rfl,N3.out⟩
theorem z4s {D:Nat->Prop} {A:Option Addr} {n c:Nat} {l:List dL} (h:Rd w D 2 A n (lbl l)) (hn:l.length=n) (hl:n<=1000000) (hsm:∀x∈l,dw x.name=true/\x.value.size<=16):
 Calls Tryz.prog 29 #[.slice A n c] w fun e w'=>e=.returned (.string (dZ (textF l)))/\Nx w w':=by
 subst hn;have HR:=ah h;have xX:=ah hsm;clear h hsm;go_enter Tryz.func29,Tryz.ntmps29;go_wp2_with fail;go_loopw [3,8] (fun s3 s8 wr=>∃k:Nat,k<=l.length/\s8=.int .i64 (k:Int)/\s3=.string (dZ (123::bodyT (l.take k)))/\Hid (Nx w wr)) (fun _ s8 _=>l.length-(intOf s8).toNat)
 case atStart=>exact ⟨0,Nat.zero_le _,rfl,rfl,ah (Ch.refl _ _)⟩
 case round=>
  obtain ⟨w3,rfl⟩:∃w3:World,w3=wr:=⟨_,rfl⟩;obtain ⟨k,hk,rfl,rfl,N3⟩:=hrel;by_cases hlt:k<l.length
  ·obtain ⟨ad,rfl, -,p0,p1⟩:=QF (HR.out.nx (by decide) N3.out) hlt
   have HS:=ah (uX hlt);have hsz:=xX.out _ (List.getElem_mem hlt)
   have hT:(dZ (123::bodyT (l.take k))).size<=60000001:=by
    have:=ZI (l:=l.take k) (fun x hx=>xX.out x (List.mem_of_mem_take hx));rw[List.length_take]at this;show (123::bodyT (l.take k)).toArray.size<=_
    rw[List.size_toArray,List.length_cons];omega
   generalize bodyT (l.take k)=T at *;generalize l[k]=x at *;obtain ⟨nm,val⟩:=x;simp only at p0 p1 hsz;have HVL:=ah (fun (w':World)=>Di (w:=w') val (by omega))
   have hnm:nm.size<=8:=by
    have:=hsz.1;unfold dw at this;rw[Bool.and_eq_true,decide_eq_true_eq]at this;exact this.1.2
   have hvt:(dZ (dP val.data.toList)).size<=48:=by
    have:=Rl val.data.toList;have e2:val.data.toList.length=val.size:=Array.length_toList ..;show (dP val.data.toList).toArray.size<=_
    rw[List.size_toArray];omega
   have G4:=ah (aG.new w3 135 #[.string nm,.string val]);have N4:=ah (N3.out.tr ((Ch.refl (fun _=>False) w3).alloc (.cells #[.string nm,.string val] 135)));have KEEP:=ah (fun w' (c':Nx (w3.alloc (.cells #[.string nm,.string val] 135)) w')=>show w'.cell? ⟨w3.heap.size,0,none⟩=some (.string nm)/\w'.cell? ⟨w3.heap.size,1,none⟩=some (.string val) from ⟨(G4.out.nx c').cell 0,(G4.out.nx c').cell 1⟩);obtain ⟨c0,c1⟩:=KEEP.out _ (Ch.refl _ _);clear hsz G4;by_cases hk0:0<k
   ·have HE:Hid (Value.string (((((dZ (123::T)++⟨#[44]⟩)++nm)++⟨#[61]⟩)++⟨#[34]⟩)++dZ (dP val.data.toList)++⟨#[34]⟩)=.string (dZ (123::bodyT (l.take (k+1))))):=ah (by rw[HS.out,if_neg (by omega)];exact congrArg Value.string (RJ T nm val))
    clear HS;generalize dZ (123::T)=S at *;generalize dZ (dP val.data.toList)=U at *;have t1:¬9223372036854775807<S.size+1+nm.size:=(by omega);have t2:¬9223372036854775807<S.size+1+nm.size+1:=(by omega);have t3:¬9223372036854775807<S.size+1+nm.size+1+1:=(by omega);have t4:¬9223372036854775807<S.size+1+nm.size+1+1+U.size:=(by omega);have t5:¬9223372036854775807<S.size+1+nm.size+1+1+U.size+1:=(by omega);go_wp2_with fail;go_region_held3 (fun w'=>w'.cell? ⟨w3.heap.size,0,none⟩=some (.string nm)/\w'.cell? ⟨w3.heap.size,1,none⟩=some (.string val)) (first|(with_reducible exact ⟨c0,c1⟩)|go_keep) ((go_at_call 78;refine (HVL.out _).mono ?_;rintro e w5 ⟨rfl,n5⟩;have M5:=ah (((Ch.refl (fun _=>False) _).drew).tr n5);obtain ⟨c0,c1⟩:=KEEP.out w5 M5.out;clear n5))
    go_wp2_with fail;go_roundw
    case rel=>exact ⟨k+1,hlt,by go_num,HE.out,ah (N4.out.tr M5.out)⟩
    case measure=>simp[intOf];omega
   ·have HE:Hid (Value.string ((((dZ (123::T)++nm)++⟨#[61]⟩)++⟨#[34]⟩)++dZ (dP val.data.toList)++⟨#[34]⟩)=.string (dZ (123::bodyT (l.take (k+1))))):=ah (by rw[HS.out,if_pos (by omega)];exact congrArg Value.string (LU T nm val))
    clear HS;generalize dZ (123::T)=S at *;generalize dZ (dP val.data.toList)=U at *;have t1:¬9223372036854775807<S.size+nm.size:=(by omega);have t2:¬9223372036854775807<S.size+nm.size+1:=(by omega);have t3:¬9223372036854775807<S.size+nm.size+1+1:=(by omega);have t4:¬9223372036854775807<S.size+nm.size+1+1+U.size:=(by omega);have t5:¬9223372036854775807<S.size+nm.size+1+1+U.size+1:=(by omega);go_wp2_with fail;go_region_held3 (fun w'=>w'.cell? ⟨w3.heap.size,0,none⟩=some (.string nm)/\w'.cell? ⟨w3.heap.size,1,none⟩=some (.string val)) (first|(with_reducible exact ⟨c0,c1⟩)|go_keep) ((go_at_call 78;refine (HVL.out _).mono ?_;rintro e w5 ⟨rfl,n5⟩;have M5:=ah (((Ch.refl (fun _=>False) _).drew).tr n5);obtain ⟨c0,c1⟩:=KEEP.out w5 M5.out;clear n5))
    go_wp2_with fail;go_roundw
    case rel=>exact ⟨k+1,hlt,by go_num,HE.out,ah (N4.out.tr M5.out)⟩
    case measure=>simp[intOf];omega
  ·have HK:Hid (l.take k=l):=ah (List.take_of_length_le (by omega))
   have HM:Hid (dZ (123::bodyT l)++⟨#[125]⟩=dZ (textF l)):=ah (Gz (123::bodyT l) [125])
   have hT:(dZ (123::bodyT l)).size<=60000001:=by
    have:=ZI (l:=l) xX.out;show (123::bodyT l).toArray.size<=_
    rw[List.size_toArray,List.length_cons];omega
   rw[HK.out];generalize dZ (123::bodyT l)=S at *;go_wp2_with fail;go_ret;exact ⟨congrArg (fun t=>Ending.returned (.string t)) HM.out,N3.out⟩
end
theorem uf:∀{f:Nat} {x:List UInt8} {out l:List dL},iK f x out=some l->aZ l=true
 |0,_,_,_,h=>by cases h
 |f+1,x,out,l,h=>by
  unfold iK at h;split at h
  ·split at h
   ·next hh=>
    injection h with h;rw[←h];exact hh
   ·cases h
  ·split at h
   ·cases h
   ·split at h
    ·cases h
    ·split at h
     ·cases h
     ·split at h
      ·cases h
      ·exact uf h
theorem zo {x:List UInt8} {l:List dL} (h:jC x=some l):aZ l=true:=by
 unfold jC at h;split at h
 ·exact uf h
 ·cases h
theorem Jf {l:List dL} (h:aZ l=true):l.length<=4:=by
 unfold aZ at h;rw[Bool.and_eq_true,decide_eq_true_eq]at h;exact h.1
theorem g_.cases {s:ByteArray} {w w':World} {e:Ending} (h:g_ s w e w'):
 (∃l A c,jC s.data.toList=some l/\e=.returned (.tuple #[.slice A l.length c,.int .i64 0])/\ak w w' 135 2 (.slice A l.length c) l.length (lbl l)/\(∀x∈l,x.small)/\l.length<=4)∨
 (jC s.data.toList=none/\e=.returned (.tuple #[.slice none 0 0,.int .i64 4])/\Nx w w'):=by
 obtain ⟨v,k,rfl,h⟩:=h;cases hp:jC s.data.toList with
 |none=>
  rw[hp]at h;obtain ⟨rfl,rfl,hn⟩:=h;exact .inr ⟨rfl,rfl,hn⟩
 |some l=>
  rw[hp]at h;obtain ⟨rfl,ho,hs⟩:=h;obtain ⟨A,c,rfl,_,_⟩:=ho.form;exact .inl ⟨l,A,c,rfl,rfl,ho,hs,Jf (zo hp)⟩
end Go.Proofs.YtpakjclpjcngmaaGreat
