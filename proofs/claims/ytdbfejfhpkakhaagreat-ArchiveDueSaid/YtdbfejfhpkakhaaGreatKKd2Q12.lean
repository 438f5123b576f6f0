/- Contracts and plain laws that the last text rests on. Conditions: each theorem states its own. -/
import Derived.Test.YtdbfejfhpkakhaaGreatKKd2Q8
import Derived.Test.YtdbfejfhpkakhaaGreatKKd2PbBldA
import Derived.Test.YtdbfejfhpkakhaaGreatKKd2Q6
import Derived.Test.YtdbfejfhpkakhaaGreatKKd2Q2
import Derived.Deep.RegionHeld3
import Derived.Test.YtdbfejfhpkakhaaGreatKKd2Q4
import Derived.Shelf.Vars
import Derived.SliceStrings
set_option maxRecDepth 100000
set_option maxHeartbeats 16000000
set_option linter.unusedVariables false
set_option linter.unusedSimpArgs false
namespace Go.Proofs.YtdbfejfhpkakhaaGreat
open Go.RowKit Ps
def vS (l:List bT):ByteArray:=if gQ l=true then fF (textF l) else ⟨#[]⟩
theorem toL (s:ByteArray) (i:Nat) (h:i<s.size):s.data.toList[i]'(by rw[Array.length_toList];exact h)=s[i]:=by
 rw[Array.getElem_toList];rfl
theorem ZO {s:ByteArray} {i:Nat} (h:i<s.size):dh (s.data.toList.take (i+1))=dh (s.data.toList.take i)++rH s[i]:=by
 rw[List.take_succ_eq_append_getElem (by rw[Array.length_toList];exact h),EY,toL s i h]
theorem rQ {l:List bT} {k:Nat} (h:k<l.length):bodyT (l.take (k+1))=bodyT (l.take k)++((if k=0 then [] else [44])++labT l[k]):=by
 rw[List.take_succ_eq_append_getElem h,Il]
 have e:(if l.take k=[] then ([]:List UInt8) else [44])=if k=0 then [] else [44]:=by
  cases k with
  |zero=>rfl
  |succ k=>
   rw[if_neg (Nat.succ_ne_zero k),if_neg];intro e;have:=congrArg List.length e;rw[List.length_take]at this;simp only[List.length_nil]at this;omega
 rw[e]
theorem WT:∀{l:List bT},(∀x∈l,bK x.name=true/\x.value.size<=16)->(bodyT l).length<=60 * l.length
 |[],_=>Nat.le_refl _
 |x::r,h=>by
  have h1:=m_ (h x List.mem_cons_self).1 (h x List.mem_cons_self).2;have h2:=ZM (r:=r) (fun y hy=>h y (List.mem_cons_of_mem _ hy));unfold bodyT;simp only[List.length_cons,List.length_append];omega
theorem yE (a:ByteArray) (b:Array UInt8):(a++(⟨b⟩:ByteArray)).data.toList=a.data.toList++b.toList:=by
 rw[ByteArray.data_append,Array.toList_append]
section
variable {w : World} {D : Nat → Prop} {A : Option Addr} {c : Nat} {l : List bT}
theorem lC (h:Rd w D 2 A l.length (lbl l)) (hl:l.length<=1000000) (hsm:∀x∈l,x.small):
 Calls Tryz.prog 50 #[.slice A l.length c] w fun e w'=>e=.returned (.tuple #[.string (vS l),.int .i64 (if gQ l=true then 0 else 4)])/\Nx w w':=by
 have EI:=ah (ZH (c:=c) h rfl (by omega) hsm);have HR:=ah h;clear h hsm;cases hr:gQ l
 ·rw[hr]at EI
  have HX:Hid (vS l=⟨#[]⟩):=ah (by unfold vS;rw[hr];rfl);clear hr;go_enter Tryz.func50,Tryz.ntmps50;go_wp2_with fail;refine EI.out.mono ?_;rintro e w1 ⟨rfl,n1⟩;have N1:=ah n1;clear n1;go_wp2_with fail;exact bodyPost_ret (v:=.tuple #[.string ⟨#[]⟩,.int .i64 4]) (by simp[results,Tryz.results50,go_sem]) rfl ⟨by rw[HX.out];first|done|rfl,N1.out⟩
 ·rw[hr]at EI
  have HX:Hid (vS l=fF (123::(bodyT l++[125]))):=ah (by unfold vS;rw[hr];rfl);have SL:=ah (fun x (hx:x∈l)=>Zg hr hx)
  have h4:l.length<=4:=by
   unfold gQ at hr;rw[Bool.and_eq_true,decide_eq_true_eq]at hr;exact hr.1
  clear hr;go_enter Tryz.func50,Tryz.ntmps50;go_wp2_with fail;refine EI.out.mono ?_;rintro e w1 ⟨rfl,n1⟩;have N1:=ah n1;have HB0:=ah (z15 (jO.new w1) ⟨#[123]⟩ (by decide));clear n1 EI;go_wp2_with fail;refine HB0.out.mono ?_;rintro e w2 ⟨rfl,hb2,hr2⟩;have HB2:=ah hb2;clear hb2 hr2 HB0;go_wp2_with fail;go_loopw [15] (fun s15 wr=>∃k:Nat,k<=l.length/\s15=.int .i64 (k:Int)/\Hid (jO w1 wr w1.heap.size (123::bodyT (l.take k)))) (fun s15 _=>l.length-(intOf s15).toNat)
  case atStart=>exact ⟨0,Nat.zero_le _,rfl,HB2⟩
  case round=>
   obtain ⟨w3,rfl⟩:∃w3:World,w3=wr:=⟨_,rfl⟩;obtain ⟨k,hk,rfl,HB⟩:=hrel;by_cases hlt:k<l.length
   ·obtain ⟨ad,rfl,hbk,p0,p1⟩:=SY (HR.out.nx (by decide) (N1.out.tr HB.out.nx)) hlt
    have HS:=ah (rQ hlt);have hin:=SL.out _ (List.getElem_mem hlt)
    have hbl:(bodyT (l.take k)).length<=60 * k:=by
     have:=WT (l:=l.take k) (fun x hx=>SL.out x (List.mem_of_mem_take hx));rw[List.length_take]at this;omega
    generalize bodyT (l.take k)=T at *;generalize l[k]=x at *;obtain ⟨nm,val⟩:=x;simp only at p0 p1 hin
    have hnl:nm.size<=8:=by
     have:=hin.1;unfold bK at this;rw[Bool.and_eq_true,decide_eq_true_eq]at this;exact this.1.2
    have hvl:=hin.2;clear hin hbk;have B4:=ah (HB.out.tr ((Ch.refl (fun _=>False) w3).alloc (.cells #[.string nm,.string val] 71)));have G4:=ah (aG.new w3 71 #[.string nm,.string val])
    have hgb:w1.heap.size<w3.heap.size:=by
     obtain ⟨_,_,_,hb,_⟩:=HB.out;exact hb.lt
    by_cases hk0:0<k
    ·have HS2:Hid (123::bodyT (l.take (k+1))=((123::T)++[44])++labT ⟨nm,val⟩):=ah (by rw[HS.out,if_neg (by omega)];simp)
     have HW1:=ah (z15 B4.out ⟨#[44]⟩ (by show (123::T).length+1<=_;simp only[List.length_cons];omega));clear HS;go_wp2_with fail;refine HW1.out.mono ?_;rintro e w5 ⟨rfl,hb5,hr5⟩;have B5:Hid (jO w1 w5 w1.heap.size ((123::T)++[44])):=ah hb5;have G5:=ah (hr5.2 _ _ _ G4.out (by decide) (by omega));have c0:w5.cell? ⟨w3.heap.size,0,none⟩=some (.string nm):=G5.out.cell 0;have HW2:=ah (z15 B5.out (nm++⟨#[61,34]⟩) (by rw[ByteArray.size_append];show ((123::T)++[44]).length+(nm.size+2)<=_;simp only[List.length_cons,List.length_append,List.length_nil];omega));clear hb5 hr5 HW1 G4 B4 HB p0 p1;go_wp2_with fail;refine HW2.out.mono ?_;rintro e w6 ⟨rfl,hb6,hr6⟩;obtain ⟨Q,hQ⟩:∃Q,Q=((123::T)++[44])++(nm.data.toList++[61,34]):=⟨_,rfl⟩;have B6:Hid (jO w1 w6 w1.heap.size Q):=ah (by rw[hQ];have h:=hb6;rw[yE]at h;exact h);have G6:=ah (hr6.2 _ _ _ G5.out (by decide) (by omega));clear hb6 hr6 HW2 c0;have HSQ:Hid (123::bodyT (l.take (k+1))=Q++(dh val.data.toList++[34])):=ah (by rw[HS2.out,hQ];simp[labT])
     have hql:Q.length<=400:=by
      rw[hQ];have e2:nm.data.toList.length=nm.size:=Array.length_toList ..;simp only[List.length_append,List.length_cons,List.length_nil];omega
     have c1:w6.cell? ⟨w3.heap.size,1,none⟩=some (.string val):=G6.out.cell 1;have hl6:=G6.out.lt;clear hQ HS2 hbl;go_wp2_with fail;clear c1;go_loopw [30] (fun s30 wr=>∃i:Nat,i<=val.size/\s30=.int .i64 (i:Int)/\Hid (jO w1 wr w1.heap.size (Q++dh (val.data.toList.take i)))/\Hid (aG wr w3.heap.size 71 #[.string nm,.string val])) (fun s30 _=>val.size-(intOf s30).toNat)
     case atStart=>exact ⟨0,Nat.zero_le _,rfl,ah (by have h:=B6.out;rw[List.take_zero,show dh []=[] from rfl,List.append_nil];exact h),G6⟩
     case round=>
      obtain ⟨w7,rfl⟩:∃w7:World,w7=wr:=⟨_,rfl⟩;obtain ⟨i,hi,rfl,B7,G7⟩:=hrel;have c1:w7.cell? ⟨w3.heap.size,1,none⟩=some (.string val):=G7.out.cell 1;have hl7:=G7.out.lt;by_cases hil:i<val.size
      ·have HV:=ah (ZO hil)
       have Uk:(dh (val.data.toList.take i)).length<=3 * i:=by
        have:=NU (val.data.toList.take i);rw[List.length_take]at this;omega
       have hc256:=val[i].toNat_lt;have vF:=ah (qK val[i].toNat (by omega));generalize hvt:dh (val.data.toList.take i)=V at *;cases hp:zk val[i].toNat
       ·rw[hp]at vF
        have jM:Hid (rH val[i]=[92,jH (val[i].toNat / 16),jH (val[i].toNat % 16)]):=ah (by unfold rH;rw[hp];rfl);clear hp;go_wp2_with fail;refine (vF.out _).mono ?_;rintro e w8 ⟨rfl,rfl⟩;go_wp2_with fail;obtain ⟨X,hX⟩:∃X,X=GU:=⟨_,rfl⟩;have UE:=hX;have HX:=ah hX.symm;unfold GU at HX;have XV:X.size=16:=by rw[hX];rfl
        clear hX;obtain ⟨cc,hcc⟩:∃cc,cc=val[i].toNat:=⟨_,rfl⟩;rw[HX.out];obtain ⟨p,hp⟩:∃p,p=cc / 16:=⟨_,rfl⟩;obtain ⟨m,hm⟩:∃m,m=cc % 16:=⟨_,rfl⟩;have XT:cc<256:=by rw[hcc];omega
        rw[←hcc]at jM;rw[←hcc];have hn1:p<X.size:=(by omega);have hn2:m<X.size:=(by omega);have HEP:=ah (show X[p]=jH p by subst UE;exact DZ (by omega));have HEM:=ah (show X[m]=jH m by subst UE;exact DZ (by omega));rw[←hp,←hm]at jM;have k3:(cc:Int) / 16=(p:Int):=(by omega);have k4:=u8_and15 (x:=(cc:Int)) (by omega) (by omega);rw[show (cc:Int) % 16=(m:Int) by omega]at k4;have kn1:(p:Int)<(X.size:Int):=(by omega);have kn2:(m:Int)<(X.size:Int):=(by omega);have k7:cc % 16=m:=hm.symm;have k8:cc / 16=p:=hp.symm;clear hcc hp hm XV UE;have N8:=ah (((Ch.refl (fun _=>False) w7).alloc (.cells #[.int .u8 92,.int .u8 (X[p].toNat:Int),.int .u8 (X[m].toNat:Int)] 5)).drew);have B8:=ah (B7.out.tr N8.out);have G8:=ah (G7.out.nx N8.out);have hg:aG (w7.alloc (.cells #[.int .u8 92,.int .u8 (X[p].toNat:Int),.int .u8 (X[m].toNat:Int)] 5)).drew w7.heap.size 5 (Lib.byteCells [92,X[p],X[m]]).toArray:=(aG.new w7 5 _).drew
        have hgo:∀v,(w7.alloc (.cells #[.int .u8 92,.int .u8 (X[p].toNat:Int),.int .u8 (X[m].toNat:Int)] 5)).drew.cell? ⟨w1.heap.size,1,none⟩=some v->v.ownBlock≠some w7.heap.size:=by
         obtain ⟨p0,v0,_,hb0,o0,_⟩:=B7.out;intro v hv e;have h1:=(hb0.nx N8.out).cell 1;rw[h1]at hv;injection hv with hv;subst hv;have:=(o0.lt _ e).2;omega
        have HWR:Hid (Calls Tryz.prog 74 #[.pointer (some ⟨w1.heap.size,0,none⟩),.slice (some ⟨w7.heap.size,0,none⟩) 3 3] (w7.alloc (.cells #[.int .u8 92,.int .u8 (X[p].toNat:Int),.int .u8 (X[m].toNat:Int)] 5)).drew fun e w'=>e=.returned (.tuple #[.int .i64 3,.nilIface])/\jO w1 w' w1.heap.size ((Q++V)++[92,X[p],X[m]])/\Rest w1.heap.size (w7.alloc (.cells #[.int .u8 92,.int .u8 (X[p].toNat:Int),.int .u8 (X[m].toNat:Int)] 5)).drew w'):=
         ah (rW (m:=[92,X[p],X[m]]) (cap:=3) B8.out hg hgo (by rw[List.length_append];show _+3<=_;omega))
        clear hg hgo c1;go_region_held3 (fun _=>True) (exact trivial) ((go_at_call 74;refine HWR.out.mono ?_;rintro e w9 ⟨rfl,hb9,hr9⟩;have B9:=ah hb9;have G9:=ah (hr9.2 _ _ _ G8.out (by decide) (by omega));clear hb9 hr9))
        go_wp2_with fail
        all_goals
         refine ⟨⟨i+1,by omega,by go_num,ah (by rw[HV.out,jM.out,←HEP.out,←HEM.out,←List.append_assoc];exact B9.out),G9⟩,?_⟩;simp[intOf];omega
       ·rw[hp]at vF
        have jM:Hid (rH val[i]=[val[i]]):=ah (by unfold rH;rw[hp];rfl);have HWB:=ah (yJ B7.out val[i] (by rw[List.length_append];omega));clear hp;go_wp2_with fail;refine (vF.out _).mono ?_;rintro e w8 ⟨rfl,rfl⟩;go_wp2_with fail;refine HWB.out.mono ?_;rintro e w9 ⟨rfl,hb9,hr9⟩;have B9:=ah hb9;have G9:=ah (hr9.2 _ _ _ G7.out (by decide) (by omega));clear hb9 hr9 c1;go_wp2_with fail;go_roundw
        case rel=>exact ⟨i+1,by omega,by go_num,ah (by rw[HV.out,jM.out,←List.append_assoc];exact B9.out),G9⟩
        case measure=>simp[intOf];omega
      ·have HQE:Hid (jO w1 w7 w1.heap.size (Q++dh val.data.toList)):=ah (by have h:=B7.out;rw[List.take_of_length_le (by rw[Array.length_toList];show val.size<=i;omega)]at h;exact h)
       have Uk:(dh val.data.toList).length<=48:=by
        have:=NU val.data.toList;have e2:val.data.toList.length=val.size:=Array.length_toList ..;omega
       have HW3:=ah (z15 HQE.out ⟨#[34]⟩ (by rw[List.length_append];show _+1<=_;omega));clear B7 c1;go_wp2_with fail;refine HW3.out.mono ?_;rintro e w8 ⟨rfl,hb8,hr8⟩;have B8:=ah hb8;clear hb8 hr8 HW3;go_wp2_with fail;go_roundw
       case rel=>exact ⟨k+1,by omega,by go_num,ah (by rw[HSQ.out,←List.append_assoc];exact B8.out)⟩
       case measure=>simp[intOf];omega
    ·have HS2:Hid (123::bodyT (l.take (k+1))=(123::T)++labT ⟨nm,val⟩):=ah (by rw[HS.out,if_pos (by omega)];simp)
     have HW2:=ah (z15 B4.out (nm++⟨#[61,34]⟩) (by rw[ByteArray.size_append];show (123::T).length+(nm.size+2)<=_;simp only[List.length_cons];omega));clear HS HB;go_wp2_with fail;refine HW2.out.mono ?_;rintro e w6 ⟨rfl,hb6,hr6⟩;obtain ⟨Q,hQ⟩:∃Q,Q=(123::T)++(nm.data.toList++[61,34]):=⟨_,rfl⟩;have B6:Hid (jO w1 w6 w1.heap.size Q):=ah (by rw[hQ];have h:=hb6;rw[yE]at h;exact h);have G6:=ah (hr6.2 _ _ _ G4.out (by decide) (by omega));clear hb6 hr6 HW2 B4 G4 p0 p1;have HSQ:Hid (123::bodyT (l.take (k+1))=Q++(dh val.data.toList++[34])):=ah (by rw[HS2.out,hQ];simp[labT])
     have hql:Q.length<=400:=by
      rw[hQ];have e2:nm.data.toList.length=nm.size:=Array.length_toList ..;simp only[List.length_append,List.length_cons,List.length_nil];omega
     have c1:w6.cell? ⟨w3.heap.size,1,none⟩=some (.string val):=G6.out.cell 1;have hl6:=G6.out.lt;clear hQ HS2 hbl;go_wp2_with fail;clear c1;go_loopw [30] (fun s30 wr=>∃i:Nat,i<=val.size/\s30=.int .i64 (i:Int)/\Hid (jO w1 wr w1.heap.size (Q++dh (val.data.toList.take i)))/\Hid (aG wr w3.heap.size 71 #[.string nm,.string val])) (fun s30 _=>val.size-(intOf s30).toNat)
     case atStart=>exact ⟨0,Nat.zero_le _,rfl,ah (by have h:=B6.out;rw[List.take_zero,show dh []=[] from rfl,List.append_nil];exact h),G6⟩
     case round=>
      obtain ⟨w7,rfl⟩:∃w7:World,w7=wr:=⟨_,rfl⟩;obtain ⟨i,hi,rfl,B7,G7⟩:=hrel;have c1:w7.cell? ⟨w3.heap.size,1,none⟩=some (.string val):=G7.out.cell 1;have hl7:=G7.out.lt;by_cases hil:i<val.size
      ·have HV:=ah (ZO hil)
       have Uk:(dh (val.data.toList.take i)).length<=3 * i:=by
        have:=NU (val.data.toList.take i);rw[List.length_take]at this;omega
       have hc256:=val[i].toNat_lt;have vF:=ah (qK val[i].toNat (by omega));generalize hvt:dh (val.data.toList.take i)=V at *;cases hp:zk val[i].toNat
       ·rw[hp]at vF
        have jM:Hid (rH val[i]=[92,jH (val[i].toNat / 16),jH (val[i].toNat % 16)]):=ah (by unfold rH;rw[hp];rfl);clear hp;go_wp2_with fail;refine (vF.out _).mono ?_;rintro e w8 ⟨rfl,rfl⟩;go_wp2_with fail;obtain ⟨X,hX⟩:∃X,X=GU:=⟨_,rfl⟩;have UE:=hX;have HX:=ah hX.symm;unfold GU at HX;have XV:X.size=16:=by rw[hX];rfl
        clear hX;obtain ⟨cc,hcc⟩:∃cc,cc=val[i].toNat:=⟨_,rfl⟩;rw[HX.out];obtain ⟨p,hp⟩:∃p,p=cc / 16:=⟨_,rfl⟩;obtain ⟨m,hm⟩:∃m,m=cc % 16:=⟨_,rfl⟩;have XT:cc<256:=by rw[hcc];omega
        rw[←hcc]at jM;rw[←hcc];have hn1:p<X.size:=(by omega);have hn2:m<X.size:=(by omega);have HEP:=ah (show X[p]=jH p by subst UE;exact DZ (by omega));have HEM:=ah (show X[m]=jH m by subst UE;exact DZ (by omega));rw[←hp,←hm]at jM;have k3:(cc:Int) / 16=(p:Int):=(by omega);have k4:=u8_and15 (x:=(cc:Int)) (by omega) (by omega);rw[show (cc:Int) % 16=(m:Int) by omega]at k4;have kn1:(p:Int)<(X.size:Int):=(by omega);have kn2:(m:Int)<(X.size:Int):=(by omega);have k7:cc % 16=m:=hm.symm;have k8:cc / 16=p:=hp.symm;clear hcc hp hm XV UE;have N8:=ah (((Ch.refl (fun _=>False) w7).alloc (.cells #[.int .u8 92,.int .u8 (X[p].toNat:Int),.int .u8 (X[m].toNat:Int)] 5)).drew);have B8:=ah (B7.out.tr N8.out);have G8:=ah (G7.out.nx N8.out);have hg:aG (w7.alloc (.cells #[.int .u8 92,.int .u8 (X[p].toNat:Int),.int .u8 (X[m].toNat:Int)] 5)).drew w7.heap.size 5 (Lib.byteCells [92,X[p],X[m]]).toArray:=(aG.new w7 5 _).drew
        have hgo:∀v,(w7.alloc (.cells #[.int .u8 92,.int .u8 (X[p].toNat:Int),.int .u8 (X[m].toNat:Int)] 5)).drew.cell? ⟨w1.heap.size,1,none⟩=some v->v.ownBlock≠some w7.heap.size:=by
         obtain ⟨p0,v0,_,hb0,o0,_⟩:=B7.out;intro v hv e;have h1:=(hb0.nx N8.out).cell 1;rw[h1]at hv;injection hv with hv;subst hv;have:=(o0.lt _ e).2;omega
        have HWR:Hid (Calls Tryz.prog 74 #[.pointer (some ⟨w1.heap.size,0,none⟩),.slice (some ⟨w7.heap.size,0,none⟩) 3 3] (w7.alloc (.cells #[.int .u8 92,.int .u8 (X[p].toNat:Int),.int .u8 (X[m].toNat:Int)] 5)).drew fun e w'=>e=.returned (.tuple #[.int .i64 3,.nilIface])/\jO w1 w' w1.heap.size ((Q++V)++[92,X[p],X[m]])/\Rest w1.heap.size (w7.alloc (.cells #[.int .u8 92,.int .u8 (X[p].toNat:Int),.int .u8 (X[m].toNat:Int)] 5)).drew w'):=
         ah (rW (m:=[92,X[p],X[m]]) (cap:=3) B8.out hg hgo (by rw[List.length_append];show _+3<=_;omega))
        clear hg hgo c1;go_region_held3 (fun _=>True) (exact trivial) ((go_at_call 74;refine HWR.out.mono ?_;rintro e w9 ⟨rfl,hb9,hr9⟩;have B9:=ah hb9;have G9:=ah (hr9.2 _ _ _ G8.out (by decide) (by omega));clear hb9 hr9))
        go_wp2_with fail
        all_goals
         refine ⟨⟨i+1,by omega,by go_num,ah (by rw[HV.out,jM.out,←HEP.out,←HEM.out,←List.append_assoc];exact B9.out),G9⟩,?_⟩;simp[intOf];omega
       ·rw[hp]at vF
        have jM:Hid (rH val[i]=[val[i]]):=ah (by unfold rH;rw[hp];rfl);have HWB:=ah (yJ B7.out val[i] (by rw[List.length_append];omega));clear hp;go_wp2_with fail;refine (vF.out _).mono ?_;rintro e w8 ⟨rfl,rfl⟩;go_wp2_with fail;refine HWB.out.mono ?_;rintro e w9 ⟨rfl,hb9,hr9⟩;have B9:=ah hb9;have G9:=ah (hr9.2 _ _ _ G7.out (by decide) (by omega));clear hb9 hr9 c1;go_wp2_with fail;go_roundw
        case rel=>exact ⟨i+1,by omega,by go_num,ah (by rw[HV.out,jM.out,←List.append_assoc];exact B9.out),G9⟩
        case measure=>simp[intOf];omega
      ·have HQE:Hid (jO w1 w7 w1.heap.size (Q++dh val.data.toList)):=ah (by have h:=B7.out;rw[List.take_of_length_le (by rw[Array.length_toList];show val.size<=i;omega)]at h;exact h)
       have Uk:(dh val.data.toList).length<=48:=by
        have:=NU val.data.toList;have e2:val.data.toList.length=val.size:=Array.length_toList ..;omega
       have HW3:=ah (z15 HQE.out ⟨#[34]⟩ (by rw[List.length_append];show _+1<=_;omega));clear B7 c1;go_wp2_with fail;refine HW3.out.mono ?_;rintro e w8 ⟨rfl,hb8,hr8⟩;have B8:=ah hb8;clear hb8 hr8 HW3;go_wp2_with fail;go_roundw
       case rel=>exact ⟨k+1,by omega,by go_num,ah (by rw[HSQ.out,←List.append_assoc];exact B8.out)⟩
       case measure=>simp[intOf];omega
   ·have HT:Hid (bodyT (l.take k)=bodyT l):=ah (by rw[List.take_of_length_le (by omega)])
    rw[HT.out]at HB
    have hbl:(bodyT l).length<=300:=by
     have:=WT (l:=l) SL.out;omega
    have HB5:=ah (z15 HB.out ⟨#[125]⟩ (by show (123::bodyT l).length+1<=_;simp only[List.length_cons];omega));go_wp2_with fail;refine HB5.out.mono ?_;rintro e w6 ⟨rfl,hb6,hr6⟩;have HB6:=ah hb6;have HO:=ah (Qs hb6 hb6.nx.size);clear hb6 hr6 HB5;go_wp2_with fail;refine HO.out.mono ?_;rintro e w7 ⟨rfl,hbw⟩;have HBW:=ah hbw;clear hbw HO;go_wp2_with fail;exact bodyPost_ret (v:=.tuple #[.string ⟨(123::bodyT l++[125]).toArray⟩,.int .i64 0]) (by simp[results,Tryz.results50,go_sem]) rfl ⟨by rw[HX.out];rfl,N1.out.tr (HB6.out.nx.trans (Ch.of_below HBW.out) (fun i hi hs=>by omega))⟩
end
theorem DU (a b:List UInt8):fF a++fF b=fF (a++b):=by
 apply ByteArray.ext
 rw[ByteArray.data_append];simp[fF]
theorem UK (c:UInt8):iT (Ig c.toNat)=fF (rH c):=by
 unfold iT Ig rH fF;have h:=c.toNat_lt;by_cases hp:zk c.toNat=true
 ·rw[if_pos hp,if_pos hp]
  simp
 ·rw[if_neg hp,if_neg hp]
  have e:∀n,jH n=UInt8.ofNat (xG n):=fun n=>rfl;simp[e]
theorem Oj (T:List UInt8) (nm val:ByteArray):(((((fF (123::T)++⟨#[44]⟩)++nm)++⟨#[61]⟩)++⟨#[34]⟩)++fF (dh val.data.toList)++⟨#[34]⟩)=fF (123::(T++([44]++labT ⟨nm,val⟩))):=by
 apply ByteArray.ext
 simp[fF,labT,ByteArray.data_append]
theorem Jg (T:List UInt8) (nm val:ByteArray):((((fF (123::T)++nm)++⟨#[61]⟩)++⟨#[34]⟩)++fF (dh val.data.toList)++⟨#[34]⟩)=fF (123::(T++([]++labT ⟨nm,val⟩))):=by
 apply ByteArray.ext
 simp[fF,labT,ByteArray.data_append]
section
variable {w : World}
theorem zI (v:ByteArray) (hv:v.size<=1000000):Calls Tryz.prog 56 #[.string v] w fun e w'=>e=.returned (.string (fF (dh v.data.toList)))/\Nx w w':=by
 go_enter Tryz.func56,Tryz.ntmps56;go_wp2_with fail;go_loopw [3,4] (fun s3 s4 wr=>∃k:Nat,k<=v.size/\s4=.int .i64 (k:Int)/\s3=.string (fF (dh (v.data.toList.take k)))/\Hid (Nx w wr)) (fun _ s4 _=>v.size-(intOf s4).toNat)
 case atStart=>exact ⟨0,Nat.zero_le _,rfl,rfl,ah (Ch.refl _ _)⟩
 case round=>
  obtain ⟨w3,rfl⟩:∃w3:World,w3=wr:=⟨_,rfl⟩;obtain ⟨k,hk,rfl,rfl,N3⟩:=hrel;by_cases hlt:k<v.size
  ·have HV:=ah (ZO hlt)
   have hc:=UInt8.toNat_lt v[k];have HB:=ah (LX (w:=w3) v[k].toNat hc);rw[UK]at HB;have HL:=ah (DU (dh (v.data.toList.take k)) (rH v[k]))
   have h1:(fF (dh (v.data.toList.take k))).size<=3000000:=by
    have:=NU (v.data.toList.take k);rw[List.length_take]at this;show (dh (v.data.toList.take k)).toArray.size<=_
    rw[List.size_toArray];omega
   have h2:(fF (rH v[k])).size<=3:=by
    have:=NU [v[k]];unfold dh at this;show (rH v[k]).toArray.size<=_
    rw[List.size_toArray];simpa using this
   rw[←HV.out]at HL;generalize fF (dh (v.data.toList.take k))=V at *;generalize fF (rH v[k])=B at *;clear hc HV;go_wp2_with fail;refine HB.out.mono ?_;rintro e w4 ⟨rfl,n4⟩;have N4:=ah (N3.out.tr n4);clear n4 HB;go_wp2_with fail;go_roundw
   case rel=>exact ⟨k+1,hlt,by go_num,by rw[HL.out],N4⟩
   case measure=>simp[intOf];omega
  ·have HK:Hid (v.data.toList.take k=v.data.toList):=ah (List.take_of_length_le (by rw[Array.length_toList];show v.size<=k;omega))
   go_wp2_with fail;go_ret;exact ⟨by simp only[Array.getD,HK.out];rfl,N3.out⟩
theorem Fe {D:Nat->Prop} {A:Option Addr} {n c:Nat} {l:List bT} (h:Rd w D 2 A n (lbl l)) (hn:l.length=n) (hl:n<=1000000) (hsm:∀x∈l,bK x.name=true/\x.value.size<=16):
 Calls Tryz.prog 33 #[.slice A n c] w fun e w'=>e=.returned (.string (fF (textF l)))/\Nx w w':=by
 subst hn;have HR:=ah h;have Iw:=ah hsm;clear h hsm;go_enter Tryz.func33,Tryz.ntmps33;go_wp2_with fail;go_loopw [3,8] (fun s3 s8 wr=>∃k:Nat,k<=l.length/\s8=.int .i64 (k:Int)/\s3=.string (fF (123::bodyT (l.take k)))/\Hid (Nx w wr)) (fun _ s8 _=>l.length-(intOf s8).toNat)
 case atStart=>exact ⟨0,Nat.zero_le _,rfl,rfl,ah (Ch.refl _ _)⟩
 case round=>
  obtain ⟨w3,rfl⟩:∃w3:World,w3=wr:=⟨_,rfl⟩;obtain ⟨k,hk,rfl,rfl,N3⟩:=hrel;by_cases hlt:k<l.length
  ·obtain ⟨ad,rfl, -,p0,p1⟩:=SY (HR.out.nx (by decide) N3.out) hlt
   have HS:=ah (rQ hlt);have hsz:=Iw.out _ (List.getElem_mem hlt)
   have hT:(fF (123::bodyT (l.take k))).size<=60000001:=by
    have:=WT (l:=l.take k) (fun x hx=>Iw.out x (List.mem_of_mem_take hx));rw[List.length_take]at this;show (123::bodyT (l.take k)).toArray.size<=_
    rw[List.size_toArray,List.length_cons];omega
   generalize bodyT (l.take k)=T at *;generalize l[k]=x at *;obtain ⟨nm,val⟩:=x;simp only at p0 p1 hsz;have HVL:=ah (fun (w':World)=>zI (w:=w') val (by omega))
   have hnm:nm.size<=8:=by
    have:=hsz.1;unfold bK at this;rw[Bool.and_eq_true,decide_eq_true_eq]at this;exact this.1.2
   have hvt:(fF (dh val.data.toList)).size<=48:=by
    have:=NU val.data.toList;have e2:val.data.toList.length=val.size:=Array.length_toList ..;show (dh val.data.toList).toArray.size<=_
    rw[List.size_toArray];omega
   have G4:=ah (aG.new w3 71 #[.string nm,.string val]);have N4:=ah (N3.out.tr ((Ch.refl (fun _=>False) w3).alloc (.cells #[.string nm,.string val] 71)));have KEEP:=ah (fun w' (c':Nx (w3.alloc (.cells #[.string nm,.string val] 71)) w')=>show w'.cell? ⟨w3.heap.size,0,none⟩=some (.string nm)/\w'.cell? ⟨w3.heap.size,1,none⟩=some (.string val) from ⟨(G4.out.nx c').cell 0,(G4.out.nx c').cell 1⟩);obtain ⟨c0,c1⟩:=KEEP.out _ (Ch.refl _ _);clear hsz G4;by_cases hk0:0<k
   ·have HE:Hid (Value.string (((((fF (123::T)++⟨#[44]⟩)++nm)++⟨#[61]⟩)++⟨#[34]⟩)++fF (dh val.data.toList)++⟨#[34]⟩)=.string (fF (123::bodyT (l.take (k+1))))):=ah (by rw[HS.out,if_neg (by omega)];exact congrArg Value.string (Oj T nm val))
    clear HS;generalize fF (123::T)=S at *;generalize fF (dh val.data.toList)=U at *;have t1:¬9223372036854775807<S.size+1+nm.size:=(by omega);have t2:¬9223372036854775807<S.size+1+nm.size+1:=(by omega);have t3:¬9223372036854775807<S.size+1+nm.size+1+1:=(by omega);have t4:¬9223372036854775807<S.size+1+nm.size+1+1+U.size:=(by omega);have t5:¬9223372036854775807<S.size+1+nm.size+1+1+U.size+1:=(by omega);go_wp2_with fail;go_region_held3 (fun w'=>w'.cell? ⟨w3.heap.size,0,none⟩=some (.string nm)/\w'.cell? ⟨w3.heap.size,1,none⟩=some (.string val)) (first|(with_reducible exact ⟨c0,c1⟩)|go_keep) ((go_at_call 56;refine (HVL.out _).mono ?_;rintro e w5 ⟨rfl,n5⟩;have M5:=ah (((Ch.refl (fun _=>False) _).drew).tr n5);obtain ⟨c0,c1⟩:=KEEP.out w5 M5.out;clear n5))
    go_wp2_with fail;go_roundw
    case rel=>exact ⟨k+1,hlt,by go_num,HE.out,ah (N4.out.tr M5.out)⟩
    case measure=>simp[intOf];omega
   ·have HE:Hid (Value.string ((((fF (123::T)++nm)++⟨#[61]⟩)++⟨#[34]⟩)++fF (dh val.data.toList)++⟨#[34]⟩)=.string (fF (123::bodyT (l.take (k+1))))):=ah (by rw[HS.out,if_pos (by omega)];exact congrArg Value.string (Jg T nm val))
    clear HS;generalize fF (123::T)=S at *;generalize fF (dh val.data.toList)=U at *;have t1:¬9223372036854775807<S.size+nm.size:=(by omega);have t2:¬9223372036854775807<S.size+nm.size+1:=(by omega);have t3:¬9223372036854775807<S.size+nm.size+1+1:=(by omega);have t4:¬9223372036854775807<S.size+nm.size+1+1+U.size:=(by omega);have t5:¬9223372036854775807<S.size+nm.size+1+1+U.size+1:=(by omega);go_wp2_with fail;go_region_held3 (fun w'=>w'.cell? ⟨w3.heap.size,0,none⟩=some (.string nm)/\w'.cell? ⟨w3.heap.size,1,none⟩=some (.string val)) (first|(with_reducible exact ⟨c0,c1⟩)|go_keep) ((go_at_call 56;refine (HVL.out _).mono ?_;rintro e w5 ⟨rfl,n5⟩;have M5:=ah (((Ch.refl (fun _=>False) _).drew).tr n5);obtain ⟨c0,c1⟩:=KEEP.out w5 M5.out;clear n5))
    go_wp2_with fail;go_roundw
    case rel=>exact ⟨k+1,hlt,by go_num,HE.out,ah (N4.out.tr M5.out)⟩
    case measure=>simp[intOf];omega
  ·have HK:Hid (l.take k=l):=ah (List.take_of_length_le (by omega))
   have HM:Hid (fF (123::bodyT l)++⟨#[125]⟩=fF (textF l)):=ah (DU (123::bodyT l) [125])
   have hT:(fF (123::bodyT l)).size<=60000001:=by
    have:=WT (l:=l) Iw.out;show (123::bodyT l).toArray.size<=_
    rw[List.size_toArray,List.length_cons];omega
   rw[HK.out];generalize fF (123::bodyT l)=S at *;go_wp2_with fail;go_ret;exact ⟨congrArg (fun t=>Ending.returned (.string t)) HM.out,N3.out⟩
end
theorem Dq (a b:ByteArray):(a.toList==b.toList)=decide (a=b):=by
 rw[Bool.eq_iff_iff,beq_iff_eq,decide_eq_true_iff];constructor
 ·intro h
  rw[ByteArray.toList_eq,ByteArray.toList_eq]at h;cases a;cases b
  simpa [Array.ext_iff]using congrArg List.toArray h
 ·rintro rfl;rfl
section
variable {w : World} {D D2 : Nat → Prop} {A B : Option Addr} {l : List bT} {aH : List ByteArray} {c d : Nat}
theorem FX (h:Rd w D 2 A l.length (lbl l)) (hl:l.length<=1000000) (h2:Rd w D2 1 B aH.length (dK aH)) (hb:aH.length<=9223372036854775806):
 Calls Tryz.prog 34 #[.slice A l.length c,.slice B aH.length d] w fun e w'=>∃v,e=.returned v/\aF w w' 71 2 v (aX l aH).length (lbl (aX l aH)):=by
 obtain ⟨i0,hi0,hz0,hz1,hz2⟩:=info_parts Tryz.kM;have HR:=ah h;have HC:=ah (fun w' (c':Nx w w')=>h2.nx (by decide) c');have H0:=ah (aF.lit w w 71 (Ch.refl _ _) 2);clear h h2;go_enter Tryz.func34,Tryz.ntmps34;go_wp2_with fail;go_loopw [5,13] (fun s5 s13 wr=>∃k:Nat,k<=l.length/\s13=.int .i64 (k:Int)/\Hid (aF w wr 71 2 s5 (aX (l.take k) aH).length (lbl (aX (l.take k) aH)))) (fun _ s13 _=>l.length-(intOf s13).toNat)
 case atStart=>exact ⟨0,Nat.zero_le _,rfl,H0⟩
 case round=>
  obtain ⟨w4,rfl⟩:∃w4:World,w4=wr:=⟨_,rfl⟩;obtain ⟨k,hk,rfl,Ho⟩:=hrel;by_cases hlt:k<l.length
  ·obtain ⟨ad,rfl,hbk,p0,p1⟩:=SY (HR.out.nx (by decide) Ho.out.nx) hlt
   have HT:=ah (qL (aH:=aH) hlt);have hpl:=wO (l:=l) (aH:=aH) k;generalize aX (l.take k) aH=P at *;generalize l[k]=x at *;obtain ⟨nm,val⟩:=x;simp only at p0 p1 HT;obtain ⟨A7,c7,hu7,hc7,hm7⟩:=Ho.out.form;subst hu7;have H5:=ah (Ho.out.alloc (.cells #[.string nm,.string val] 71));have HL:=ah (aG.new w4 71 #[.string nm,.string val]);have IU:=ah Ho.out.nx.size;clear hbk;go_wp2_with fail;obtain ⟨w5,hW⟩:∃w5,w4.alloc (.cells #[.string nm,.string val] 71)=w5:=⟨_,rfl⟩;obtain ⟨g,hg⟩:∃g,w4.heap.size=g:=⟨_,rfl⟩;rw[hW]at H5 HL;rw[hg]at HL IU;simp only[hW,hg];clear hW hg p0 p1;go_loopw [5,19] (fun s5 s19 wr=>∃j:Nat,j<=aH.length/\s5=.slice A7 P.length c7/\s19=.int .i64 (j:Int)/\Hid (w5=wr)/\Hid (∀i (h:i<aH.length),i<j->aH[i]≠nm)) (fun _ s19 _=>aH.length-(intOf s19).toNat)
   case atStart=>exact ⟨0,Nat.zero_le _,rfl,rfl,ah rfl,ah (fun i h h0=>by omega)⟩
   case round=>
    obtain ⟨j,hj,rfl,rfl,hw5,HN⟩:=hrel;have hw:=hw5.out;subst hw;by_cases hjl:j<aH.length
    ·obtain ⟨bd,rfl, -,b0⟩:=Jo (HC.out _ H5.out.nx) rfl hjl
     have q0:w5.cell? ⟨g,0,none⟩=some (.string nm):=HL.out.cell 0;have q1:w5.cell? ⟨g,1,none⟩=some (.string val):=HL.out.cell 1;rw[nN hjl]at b0;by_cases e:aH[j]=nm
     ·have HE:Hid (aX (l.take (k+1)) aH=P++[⟨nm,val⟩]):=ah (by rw[HT.out,if_pos (by unfold inB;rw[←e];simp)])
      rw[e]at b0;have HL2:=ah (Rd.Kw w5 ⟨nm,val⟩);clear e;go_wp2_with (at_builtin;refine z04 _ rfl (.tmp 27) (.tmp 29) _ rfl w.heap.size 71 i0 _ 2 32 Tryz.underlying55 hi0 hz0 hz1 hz2 rfl (by omega) (.slice A7 P.length c7) P.length (lbl P) rfl (H5.out.alloc _).own _ (some ⟨w5.heap.size,0,none⟩) 1 1 _ rfl HL2.out (kJ _) (by simp only[maxLen];omega) (by omega) (by have:=H5.out.nx.size;simp;omega) ?_;intro v7 w7 dn gr7 at7;obtain ⟨o7,m7⟩:=Di H5.out ((Ch.refl _ _).alloc _) dn gr7 at7;have O7:=ah o7;clear dn gr7 at7 o7 m7)
      go_roundw
      case rel=>exact ⟨k+1,by omega,by go_num,by rw[HE.out,List.length_append,show lbl (P++[⟨nm,val⟩])=lbl P++lbl [⟨nm,val⟩] by simp[lbl]];exact O7⟩
      case measure=>simp[intOf];omega
     ·have HN2:=ah (fun i (h:i<aH.length) (h0:i<j+1)=>show aH[i]≠nm from by
       by_cases e2:i=j
       ·subst e2;exact e
       ·exact HN.out i h (by omega))
      generalize aH[j]=nj at *;have hb0:(nj.toList==nm.toList)=false:=by rw[Dq];simpa using e
      go_wp2_with fail;go_roundw
      case rel=>exact ⟨j+1,by omega,rfl,by go_num,ah trivial,HN2⟩
      case measure=>simp[intOf];omega
    ·have HE:Hid (aX (l.take (k+1)) aH=P):=ah (by
      rw[HT.out,if_neg (fun h=>by
       unfold inB at h;obtain ⟨x,hx,hxe⟩:=List.any_eq_true.1 h;obtain ⟨i,hi,rfl⟩:=List.getElem_of_mem hx;exact HN.out i hi (by omega) (by simpa using hxe))]
      simp)
     go_wp2_with fail;go_roundw
     case rel=>exact ⟨k+1,by omega,by go_num,by rw[HE.out];exact H5⟩
     case measure=>simp[intOf];omega
  ·have HE:Hid (aX (l.take k) aH=aX l aH):=ah (by rw[List.take_of_length_le (by omega)])
   go_wp2_with fail;go_ret;exact ⟨_,rfl,by rw[←HE.out];exact Ho.out⟩
end
end Go.Proofs.YtdbfejfhpkakhaaGreat
namespace Go.Proofs.YtdbfejfhpkakhaaGreat
open Go.RowKit
section
open Go.ChangeShapes Go.WideShapes Go.ChangeAt Go.Deep
variable {H : Type} {enc : TypeId × Value → H}
theorem qN {P:Program} {w:World} {base:Nat} {spare:Nat->Bool} {held:Bool} {r:Reach} {b0:Nat} {t:TypeId} {fs:Array Field} {v:Value} {d:DataW H} {p:List MemPlace} (hs:P.underlying t=some (.struct fs)) (hone:oneCellFields P fs=true) (hC:P.cellsOf t=fs.size)
 (hv:Value.okWide P w r b0 t v) (h:DataW.Trod enc P w base spare held t v d p):
 ∃(cs:List Value) (ys:List (DataW H×List MemPlace)) (n:Nat),v=.agg cs.toArray/\cs.length=fs.size/\ys.length=fs.size/\
  ∀(j:Nat) (f:Field) (c:Value),fs[j]?=some f->cs[j]?=some c->∃y,ys[j]?=some y/\DataW.trod enc P w base spare held n f.type [c]=some y:=by
 obtain ⟨cs,rfl,hsz⟩:=okWide_struct hs hv;obtain ⟨l⟩:=cs;obtain ⟨fuel,hf⟩:=h;obtain ⟨xs,n,_,hx,hlen,hyl,hg⟩:=DataW.trod_struct hs hf;have hl:l.length=fs.size:=hsz.trans hC;refine ⟨l,xs,n,rfl,hl,hyl,fun j f c hj hc=>?_⟩;obtain ⟨ho,hk⟩:=hone_of hone j f hj;have hjl:j<fs.size:=(Array.getElem?_eq_some_iff.1 hj).1;have hys:xs[j]?=some (xs[j]'(by omega)):=List.getElem?_eq_getElem (by omega);have h1:=hg j f hj
 have hcj:l[j]'(by omega)=c:=by
  rw[List.getElem?_eq_getElem (by omega)]at hc;injection hc
 have hone':(l.drop j).take 1=[c]:=by
  rw[List.drop_eq_getElem_cons (by omega),hcj];rfl
 rw[ho,hk]at h1;refine ⟨_,hys,?_⟩;rw[←hys,←h1,←hone'];simp[Value.cells]
variable {W : World} {args : Array Value} {ds : List (DataW H)} {ps : List MemPlace}
theorem sS {n:Nat} {v:Value} {y:DataW H×List MemPlace} (h:DataW.trod enc Tryz.prog W 0 (fun _=>true) true n 22 [v]=some y):
 ∃(A:Option Addr) (c:Nat) (l:List ByteArray),v=.slice A l.length c/\Rd W (· <W.heap.size) 1 A l.length (dK l)/\(∀s∈l,s.size<=maxLen)/\l.length<=c/\c<=maxLen:=by
 rcases open_strings Tryz.underlying22 Tryz.underlying9 (by kernel_rfl) h with ⟨hcs,hx⟩|⟨a,len,cap,ss,hcs,_,hl,hm,hz,hx,hcell,hsz⟩
 ·simp at hcs
  subst hcs;exact ⟨none,0,[],rfl,Rd.none_ _ _ _ _,(fun s hs=>by cases hs),Nat.le_refl _,by simp[maxLen]⟩
 ·simp at hcs
  subst hcs;simp only[if_true]at hz;have hlen:(ss.take len).length=len:=by rw[List.length_take];omega
  refine ⟨some a,cap,ss.take len,by rw[hlen],⟨by simp[dK],fun hn=>⟨a,rfl,?_,fun j u hu=>?_⟩⟩,fun s hs=>hsz s (List.mem_of_mem_take hs),by omega,hm⟩
  ·have:=World.block_lt_of_cell? W _ (hcell 0 (by omega))
   rwa [vw]at this
  ·have hj:j<len:=by
    rcases Nat.lt_or_ge j len with hj|hj
    ·exact hj
    ·rw[List.getElem?_eq_none (by simp[dK];omega)]at hu;cases hu
   rw[hcell j (by omega),←hu];unfold dK;rw[List.getElem?_map,List.getElem?_take,if_pos hj,List.getElem?_eq_getElem (by omega)];simp[List.getD,List.getElem?_eq_getElem (show j<ss.length by omega)]
theorem Told.conf {ts:List TypeId} (h:Told enc (24::ts) W args ds ps):∃(C:aV) (A:Option Addr) (c:Nat) (vs:List Value) (ds':List (DataW H)) (q:List MemPlace),args=(iY C A c::vs).toArray/\
 Rd W (· <W.heap.size) 1 A C.aH.length (dK C.aH)/\(∀s∈C.aH,s.size<=maxLen)/\C.aH.length<=c/\c<=maxLen/\Told enc ts W vs.toArray ds' q:=by
 obtain ⟨v,vs,d,ds',p,q,rfl,rfl,h0,⟨b,ho⟩,hlt,hw,h'⟩:=h.cons;obtain ⟨cs,ys,n,rfl,hcl,hyl,hg⟩:=qN Tryz.underlying24 (by kernel_rfl) (by kernel_rfl) ho h0;match cs,hcl with
 |[c0,c1,c2,c3,c4,c5,c6,c7,c8,c9,c10,c11],_=>
  obtain ⟨_,_,t0⟩:=hg 0 _ c0 rfl rfl;obtain ⟨_,_,t1⟩:=hg 1 _ c1 rfl rfl;obtain ⟨_,_,t2⟩:=hg 2 _ c2 rfl rfl;obtain ⟨_,_,t3⟩:=hg 3 _ c3 rfl rfl;obtain ⟨_,_,t4⟩:=hg 4 _ c4 rfl rfl;obtain ⟨_,_,t5⟩:=hg 5 _ c5 rfl rfl;obtain ⟨_,_,t6⟩:=hg 6 _ c6 rfl rfl;obtain ⟨_,_,t7⟩:=hg 7 _ c7 rfl rfl;obtain ⟨_,_,t8⟩:=hg 8 _ c8 rfl rfl;obtain ⟨_,_,t9⟩:=hg 9 _ c9 rfl rfl;obtain ⟨_,_,t10⟩:=hg 10 _ c10 rfl rfl;obtain ⟨_,_,t11⟩:=hg 11 _ c11 rfl rfl;obtain ⟨A,c,l,rfl,h1,h2,h3,h4⟩:=sS t1;obtain ⟨a0,rfl,_⟩:=zf Tryz.underlying3 t0;obtain ⟨a2,rfl,_⟩:=zf Tryz.underlying3 t2;obtain ⟨a3,rfl,_⟩:=zf Tryz.underlying3 t3;obtain ⟨a4,rfl,_⟩:=zf Tryz.underlying3 t4;obtain ⟨a5,rfl,_⟩:=zf Tryz.underlying3 t5;obtain ⟨a6,rfl,_⟩:=zf Tryz.underlying3 t6;obtain ⟨a7,rfl,_⟩:=zf Tryz.underlying3 t7;obtain ⟨a8,rfl,_⟩:=zf Tryz.underlying3 t8;obtain ⟨a9,rfl,_⟩:=zf Tryz.underlying3 t9;obtain ⟨a10,rfl,_⟩:=zf Tryz.underlying3 t10;obtain ⟨a11,rfl,_⟩:=zf Tryz.underlying3 t11;exact ⟨⟨a0,l,a2,a3,a4,a5,a6,a7,a8,a9,a10,a11⟩,A,c,vs,ds',q,rfl,h1,h2,h3,h4,h'⟩
end
end Go.Proofs.YtdbfejfhpkakhaaGreat
