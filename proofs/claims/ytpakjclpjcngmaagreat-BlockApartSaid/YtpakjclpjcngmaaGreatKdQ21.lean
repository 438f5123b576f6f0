/- Contracts and plain laws that the last text rests on. Conditions: each theorem states its own. -/
import Derived.Test.YtpakjclpjcngmaaGreatKdQ18
import Derived.Test.YtpakjclpjcngmaaGreatKdQ16
import Derived.Test.YtpakjclpjcngmaaGreatKdQ8
import Derived.Test.YtpakjclpjcngmaaGreatKdQ5
import Derived.Test.YtpakjclpjcngmaaGreatKdPdShl
import Derived.Test.YtpakjclpjcngmaaGreatKdPdBldA
import Derived.Test.YtpakjclpjcngmaaGreatKdQ10
import Derived.Deep.RegionHeld3
import Derived.Test.YtpakjclpjcngmaaGreatKdQ20
set_option maxRecDepth 100000
set_option maxHeartbeats 16000000
set_option linter.unusedVariables false
namespace Go.Proofs.YtpakjclpjcngmaaGreat
open Go.RowKit Ps
section
variable {w : World} {D D2 : Nat → Prop} {A B : Option Addr} {c d : Nat} {l : List dO} {Jv : List ByteArray}
end
def xW (l:List dO):ByteArray:=if jU l=true then jg (textF l) else ⟨#[]⟩
theorem toL (s:ByteArray) (i:Nat) (h:i<s.size):s.data.toList[i]'(by rw[Array.length_toList];exact h)=s[i]:=by
 rw[Array.getElem_toList];rfl
theorem uQ {s:ByteArray} {i:Nat} (h:i<s.size):f_ (s.data.toList.take (i+1))=f_ (s.data.toList.take i)++xg s[i]:=by
 rw[List.take_succ_eq_append_getElem (by rw[Array.length_toList];exact h),LW,toL s i h]
theorem OT {l:List dO} {k:Nat} (h:k<l.length):bodyT (l.take (k+1))=bodyT (l.take k)++((if k=0 then [] else [44])++labT l[k]):=by
 rw[List.take_succ_eq_append_getElem h,OU]
 have e:(if l.take k=[] then ([]:List UInt8) else [44])=if k=0 then [] else [44]:=by
  cases k with
  |zero=>rfl
  |succ k=>
   rw[if_neg (Nat.succ_ne_zero k),if_neg];intro e;have:=congrArg List.length e;rw[List.length_take]at this;simp only[List.length_nil]at this;omega
 rw[e]
theorem z6s:∀{l:List dO},(∀x∈l,fM x.name=true/\x.value.size<=16)->(bodyT l).length<=60 * l.length
 |[],_=>Nat.le_refl _
 |x::r,h=>by
  have h1:=Dc (h x List.mem_cons_self).1 (h x List.mem_cons_self).2;have h2:=uY (r:=r) (fun y hy=>h y (List.mem_cons_of_mem _ hy));unfold bodyT;simp only[List.length_cons,List.length_append];omega
theorem Ew (a:ByteArray) (b:Array UInt8):(a++(⟨b⟩:ByteArray)).data.toList=a.data.toList++b.toList:=by
 rw[ByteArray.data_append,Array.toList_append]
section
variable {w : World} {D : Nat → Prop} {A : Option Addr} {c : Nat} {l : List dO}
theorem Qp (h:Rd w D 2 A l.length (lbl l)) (hl:l.length<=1000000) (hsm:∀x∈l,x.small):
 Calls Tryz.prog 110 #[.slice A l.length c] w fun e w'=>e=.returned (.tuple #[.string (xW l),.int .i64 (if jU l=true then 0 else 4)])/\Nx w w':=by
 have HRT:=ah (z5O (c:=c) h rfl (by omega) hsm);have HR:=ah h;clear h hsm;cases hr:jU l
 ·rw[hr]at HRT
  have HX:Hid (xW l=⟨#[]⟩):=ah (by unfold xW;rw[hr];rfl);clear hr;go_enter Tryz.func110,Tryz.ntmps110;go_wp2_with fail;refine HRT.out.mono ?_;rintro e w1 ⟨rfl,n1⟩;have N1:=ah n1;clear n1;go_wp2_with fail;exact bodyPost_ret (v:=.tuple #[.string ⟨#[]⟩,.int .i64 4]) (by simp[results,Tryz.results110,go_sem]) rfl ⟨by rw[HX.out];first|done|rfl,N1.out⟩
 ·rw[hr]at HRT
  have HX:Hid (xW l=jg (123::(bodyT l++[125]))):=ah (by unfold xW;rw[hr];rfl);have HIN:=ah (fun x (hx:x∈l)=>z3d hr hx)
  have h4:l.length<=4:=by
   unfold jU at hr;rw[Bool.and_eq_true,decide_eq_true_eq]at hr;exact hr.1
  clear hr;go_enter Tryz.func110,Tryz.ntmps110;go_wp2_with fail;refine HRT.out.mono ?_;rintro e w1 ⟨rfl,n1⟩;have N1:=ah n1;have HB0:=ah (Zx (mP.new w1) ⟨#[123]⟩ (by decide));clear n1 HRT;go_wp2_with fail;refine HB0.out.mono ?_;rintro e w2 ⟨rfl,hb2,hr2⟩;have HB2:=ah hb2;clear hb2 hr2 HB0;go_wp2_with fail;go_loopw [15] (fun s15 wr=>∃k:Nat,k<=l.length/\s15=.int .i64 (k:Int)/\Hid (mP w1 wr w1.heap.size (123::bodyT (l.take k)))) (fun s15 _=>l.length-(intOf s15).toNat)
  case atStart=>exact ⟨0,Nat.zero_le _,rfl,HB2⟩
  case round=>
   obtain ⟨w3,rfl⟩:∃w3:World,w3=wr:=⟨_,rfl⟩;obtain ⟨k,hk,rfl,HB⟩:=hrel;by_cases hlt:k<l.length
   ·obtain ⟨ad,rfl,hbk,p0,p1⟩:=mg (HR.out.nx (by decide) (N1.out.tr HB.out.nx)) hlt
    have HS:=ah (OT hlt);have hin:=HIN.out _ (List.getElem_mem hlt)
    have hbl:(bodyT (l.take k)).length<=60 * k:=by
     have:=z6s (l:=l.take k) (fun x hx=>HIN.out x (List.mem_of_mem_take hx));rw[List.length_take]at this;omega
    generalize bodyT (l.take k)=T at *;generalize l[k]=x at *;obtain ⟨nm,val⟩:=x;simp only at p0 p1 hin
    have hnl:nm.size<=8:=by
     have:=hin.1;unfold fM at this;rw[Bool.and_eq_true,decide_eq_true_eq]at this;exact this.1.2
    have hvl:=hin.2;clear hin hbk;have B4:=ah (HB.out.tr ((Ch.refl (fun _=>False) w3).alloc (.cells #[.string nm,.string val] 135)));have G4:=ah (aJ.new w3 135 #[.string nm,.string val])
    have hgb:w1.heap.size<w3.heap.size:=by
     obtain ⟨_,_,_,hb,_⟩:=HB.out;exact hb.lt
    by_cases hk0:0<k
    ·have HS2:Hid (123::bodyT (l.take (k+1))=((123::T)++[44])++labT ⟨nm,val⟩):=ah (by rw[HS.out,if_neg (by omega)];simp)
     have HW1:=ah (Zx B4.out ⟨#[44]⟩ (by show (123::T).length+1<=_;simp only[List.length_cons];omega));clear HS;go_wp2_with fail;refine HW1.out.mono ?_;rintro e w5 ⟨rfl,hb5,hr5⟩;have B5:Hid (mP w1 w5 w1.heap.size ((123::T)++[44])):=ah hb5;have G5:=ah (hr5.2 _ _ _ G4.out (by decide) (by omega));have c0:w5.cell? ⟨w3.heap.size,0,none⟩=some (.string nm):=G5.out.cell 0;have HW2:=ah (Zx B5.out (nm++⟨#[61,34]⟩) (by rw[ByteArray.size_append];show ((123::T)++[44]).length+(nm.size+2)<=_;simp only[List.length_cons,List.length_append,List.length_nil];omega));clear hb5 hr5 HW1 G4 B4 HB p0 p1;go_wp2_with fail;refine HW2.out.mono ?_;rintro e w6 ⟨rfl,hb6,hr6⟩;obtain ⟨Q,hQ⟩:∃Q,Q=((123::T)++[44])++(nm.data.toList++[61,34]):=⟨_,rfl⟩;have B6:Hid (mP w1 w6 w1.heap.size Q):=ah (by rw[hQ];have h:=hb6;rw[Ew]at h;exact h);have G6:=ah (hr6.2 _ _ _ G5.out (by decide) (by omega));clear hb6 hr6 HW2 c0;have HSQ:Hid (123::bodyT (l.take (k+1))=Q++(f_ val.data.toList++[34])):=ah (by rw[HS2.out,hQ];simp[labT])
     have hql:Q.length<=400:=by
      rw[hQ];have e2:nm.data.toList.length=nm.size:=Array.length_toList ..;simp only[List.length_append,List.length_cons,List.length_nil];omega
     have c1:w6.cell? ⟨w3.heap.size,1,none⟩=some (.string val):=G6.out.cell 1;have hl6:=G6.out.lt;clear hQ HS2 hbl;go_wp2_with fail;clear c1;go_loopw [30] (fun s30 wr=>∃i:Nat,i<=val.size/\s30=.int .i64 (i:Int)/\Hid (mP w1 wr w1.heap.size (Q++f_ (val.data.toList.take i)))/\Hid (aJ wr w3.heap.size 135 #[.string nm,.string val])) (fun s30 _=>val.size-(intOf s30).toNat)
     case atStart=>exact ⟨0,Nat.zero_le _,rfl,ah (by have h:=B6.out;rw[List.take_zero,show f_ []=[] from rfl,List.append_nil];exact h),G6⟩
     case round=>
      obtain ⟨w7,rfl⟩:∃w7:World,w7=wr:=⟨_,rfl⟩;obtain ⟨i,hi,rfl,B7,G7⟩:=hrel;have c1:w7.cell? ⟨w3.heap.size,1,none⟩=some (.string val):=G7.out.cell 1;have hl7:=G7.out.lt;by_cases hil:i<val.size
      ·have HV:=ah (uQ hil)
       have aav:(f_ (val.data.toList.take i)).length<=3 * i:=by
        have:=z3k (val.data.toList.take i);rw[List.length_take]at this;omega
       have hc256:=val[i].toNat_lt;have JI:=ah (z48 val[i].toNat (by omega));generalize hvt:f_ (val.data.toList.take i)=V at *;cases hp:EW val[i].toNat
       ·rw[hp]at JI
        have JK:Hid (xg val[i]=[92,kP (val[i].toNat / 16),kP (val[i].toNat % 16)]):=ah (by unfold xg;rw[hp];rfl);clear hp;go_wp2_with fail;refine (JI.out _).mono ?_;rintro e w8 ⟨rfl,rfl⟩;go_wp2_with fail;obtain ⟨X,hX⟩:∃X,X=N_:=⟨_,rfl⟩;have hXX:=hX;have HX:=ah hX.symm;unfold N_ at HX;have hXs:X.size=16:=by rw[hX];rfl
        clear hX;obtain ⟨cc,hcc⟩:∃cc,cc=val[i].toNat:=⟨_,rfl⟩;rw[HX.out];obtain ⟨p,hp⟩:∃p,p=cc / 16:=⟨_,rfl⟩;obtain ⟨m,hm⟩:∃m,m=cc % 16:=⟨_,rfl⟩;have Ob:cc<256:=by rw[hcc];omega
        rw[←hcc]at JK;rw[←hcc];have hn1:p<X.size:=(by omega);have hn2:m<X.size:=(by omega);have HEP:=ah (show X[p]=kP p by subst hXX;exact KU (by omega));have HEM:=ah (show X[m]=kP m by subst hXX;exact KU (by omega));rw[←hp,←hm]at JK;have k3:(cc:Int) / 16=(p:Int):=(by omega);have k4:=u8_and15 (x:=(cc:Int)) (by omega) (by omega);rw[show (cc:Int) % 16=(m:Int) by omega]at k4;have kn1:(p:Int)<(X.size:Int):=(by omega);have kn2:(m:Int)<(X.size:Int):=(by omega);have k7:cc % 16=m:=hm.symm;have k8:cc / 16=p:=hp.symm;clear hcc hp hm hXs hXX;have N8:=ah (((Ch.refl (fun _=>False) w7).alloc (.cells #[.int .u8 92,.int .u8 (X[p].toNat:Int),.int .u8 (X[m].toNat:Int)] 5)).drew);have B8:=ah (B7.out.tr N8.out);have G8:=ah (G7.out.nx N8.out);have hg:aJ (w7.alloc (.cells #[.int .u8 92,.int .u8 (X[p].toNat:Int),.int .u8 (X[m].toNat:Int)] 5)).drew w7.heap.size 5 (Lib.byteCells [92,X[p],X[m]]).toArray:=(aJ.new w7 5 _).drew
        have hgo:∀v,(w7.alloc (.cells #[.int .u8 92,.int .u8 (X[p].toNat:Int),.int .u8 (X[m].toNat:Int)] 5)).drew.cell? ⟨w1.heap.size,1,none⟩=some v->v.ownBlock≠some w7.heap.size:=by
         obtain ⟨p0,v0,_,hb0,o0,_⟩:=B7.out;intro v hv e;have h1:=(hb0.nx N8.out).cell 1;rw[h1]at hv;injection hv with hv;subst hv;have:=(o0.lt _ e).2;omega
        have HWR:Hid (Calls Tryz.prog 176 #[.pointer (some ⟨w1.heap.size,0,none⟩),.slice (some ⟨w7.heap.size,0,none⟩) 3 3] (w7.alloc (.cells #[.int .u8 92,.int .u8 (X[p].toNat:Int),.int .u8 (X[m].toNat:Int)] 5)).drew fun e w'=>e=.returned (.tuple #[.int .i64 3,.nilIface])/\mP w1 w' w1.heap.size ((Q++V)++[92,X[p],X[m]])/\Rest w1.heap.size (w7.alloc (.cells #[.int .u8 92,.int .u8 (X[p].toNat:Int),.int .u8 (X[m].toNat:Int)] 5)).drew w'):=
         ah (xA (m:=[92,X[p],X[m]]) (cap:=3) B8.out hg hgo (by rw[List.length_append];show _+3<=_;omega))
        clear hg hgo c1;go_region_held3 (fun _=>True) (exact trivial) ((go_at_call 176;refine HWR.out.mono ?_;rintro e w9 ⟨rfl,hb9,hr9⟩;have B9:=ah hb9;have G9:=ah (hr9.2 _ _ _ G8.out (by decide) (by omega));clear hb9 hr9))
        go_wp2_with fail
        all_goals
         refine ⟨⟨i+1,by omega,by go_num,ah (by rw[HV.out,JK.out,←HEP.out,←HEM.out,←List.append_assoc];exact B9.out),G9⟩,?_⟩;simp[intOf];omega
       ·rw[hp]at JI
        have JK:Hid (xg val[i]=[val[i]]):=ah (by unfold xg;rw[hp];rfl);have HWB:=ah (ED B7.out val[i] (by rw[List.length_append];omega));clear hp;go_wp2_with fail;refine (JI.out _).mono ?_;rintro e w8 ⟨rfl,rfl⟩;go_wp2_with fail;refine HWB.out.mono ?_;rintro e w9 ⟨rfl,hb9,hr9⟩;have B9:=ah hb9;have G9:=ah (hr9.2 _ _ _ G7.out (by decide) (by omega));clear hb9 hr9 c1;go_wp2_with fail;go_roundw
        case rel=>exact ⟨i+1,by omega,by go_num,ah (by rw[HV.out,JK.out,←List.append_assoc];exact B9.out),G9⟩
        case measure=>simp[intOf];omega
      ·have HQE:Hid (mP w1 w7 w1.heap.size (Q++f_ val.data.toList)):=ah (by have h:=B7.out;rw[List.take_of_length_le (by rw[Array.length_toList];show val.size<=i;omega)]at h;exact h)
       have aav:(f_ val.data.toList).length<=48:=by
        have:=z3k val.data.toList;have e2:val.data.toList.length=val.size:=Array.length_toList ..;omega
       have HW3:=ah (Zx HQE.out ⟨#[34]⟩ (by rw[List.length_append];show _+1<=_;omega));clear B7 c1;go_wp2_with fail;refine HW3.out.mono ?_;rintro e w8 ⟨rfl,hb8,hr8⟩;have B8:=ah hb8;clear hb8 hr8 HW3;go_wp2_with fail;go_roundw
       case rel=>exact ⟨k+1,by omega,by go_num,ah (by rw[HSQ.out,←List.append_assoc];exact B8.out)⟩
       case measure=>simp[intOf];omega
    ·have HS2:Hid (123::bodyT (l.take (k+1))=(123::T)++labT ⟨nm,val⟩):=ah (by rw[HS.out,if_pos (by omega)];simp)
     have HW2:=ah (Zx B4.out (nm++⟨#[61,34]⟩) (by rw[ByteArray.size_append];show (123::T).length+(nm.size+2)<=_;simp only[List.length_cons];omega));clear HS HB;go_wp2_with fail;refine HW2.out.mono ?_;rintro e w6 ⟨rfl,hb6,hr6⟩;obtain ⟨Q,hQ⟩:∃Q,Q=(123::T)++(nm.data.toList++[61,34]):=⟨_,rfl⟩;have B6:Hid (mP w1 w6 w1.heap.size Q):=ah (by rw[hQ];have h:=hb6;rw[Ew]at h;exact h);have G6:=ah (hr6.2 _ _ _ G4.out (by decide) (by omega));clear hb6 hr6 HW2 B4 G4 p0 p1;have HSQ:Hid (123::bodyT (l.take (k+1))=Q++(f_ val.data.toList++[34])):=ah (by rw[HS2.out,hQ];simp[labT])
     have hql:Q.length<=400:=by
      rw[hQ];have e2:nm.data.toList.length=nm.size:=Array.length_toList ..;simp only[List.length_append,List.length_cons,List.length_nil];omega
     have c1:w6.cell? ⟨w3.heap.size,1,none⟩=some (.string val):=G6.out.cell 1;have hl6:=G6.out.lt;clear hQ HS2 hbl;go_wp2_with fail;clear c1;go_loopw [30] (fun s30 wr=>∃i:Nat,i<=val.size/\s30=.int .i64 (i:Int)/\Hid (mP w1 wr w1.heap.size (Q++f_ (val.data.toList.take i)))/\Hid (aJ wr w3.heap.size 135 #[.string nm,.string val])) (fun s30 _=>val.size-(intOf s30).toNat)
     case atStart=>exact ⟨0,Nat.zero_le _,rfl,ah (by have h:=B6.out;rw[List.take_zero,show f_ []=[] from rfl,List.append_nil];exact h),G6⟩
     case round=>
      obtain ⟨w7,rfl⟩:∃w7:World,w7=wr:=⟨_,rfl⟩;obtain ⟨i,hi,rfl,B7,G7⟩:=hrel;have c1:w7.cell? ⟨w3.heap.size,1,none⟩=some (.string val):=G7.out.cell 1;have hl7:=G7.out.lt;by_cases hil:i<val.size
      ·have HV:=ah (uQ hil)
       have aav:(f_ (val.data.toList.take i)).length<=3 * i:=by
        have:=z3k (val.data.toList.take i);rw[List.length_take]at this;omega
       have hc256:=val[i].toNat_lt;have JI:=ah (z48 val[i].toNat (by omega));generalize hvt:f_ (val.data.toList.take i)=V at *;cases hp:EW val[i].toNat
       ·rw[hp]at JI
        have JK:Hid (xg val[i]=[92,kP (val[i].toNat / 16),kP (val[i].toNat % 16)]):=ah (by unfold xg;rw[hp];rfl);clear hp;go_wp2_with fail;refine (JI.out _).mono ?_;rintro e w8 ⟨rfl,rfl⟩;go_wp2_with fail;obtain ⟨X,hX⟩:∃X,X=N_:=⟨_,rfl⟩;have hXX:=hX;have HX:=ah hX.symm;unfold N_ at HX;have hXs:X.size=16:=by rw[hX];rfl
        clear hX;obtain ⟨cc,hcc⟩:∃cc,cc=val[i].toNat:=⟨_,rfl⟩;rw[HX.out];obtain ⟨p,hp⟩:∃p,p=cc / 16:=⟨_,rfl⟩;obtain ⟨m,hm⟩:∃m,m=cc % 16:=⟨_,rfl⟩;have Ob:cc<256:=by rw[hcc];omega
        rw[←hcc]at JK;rw[←hcc];have hn1:p<X.size:=(by omega);have hn2:m<X.size:=(by omega);have HEP:=ah (show X[p]=kP p by subst hXX;exact KU (by omega));have HEM:=ah (show X[m]=kP m by subst hXX;exact KU (by omega));rw[←hp,←hm]at JK;have k3:(cc:Int) / 16=(p:Int):=(by omega);have k4:=u8_and15 (x:=(cc:Int)) (by omega) (by omega);rw[show (cc:Int) % 16=(m:Int) by omega]at k4;have kn1:(p:Int)<(X.size:Int):=(by omega);have kn2:(m:Int)<(X.size:Int):=(by omega);have k7:cc % 16=m:=hm.symm;have k8:cc / 16=p:=hp.symm;clear hcc hp hm hXs hXX;have N8:=ah (((Ch.refl (fun _=>False) w7).alloc (.cells #[.int .u8 92,.int .u8 (X[p].toNat:Int),.int .u8 (X[m].toNat:Int)] 5)).drew);have B8:=ah (B7.out.tr N8.out);have G8:=ah (G7.out.nx N8.out);have hg:aJ (w7.alloc (.cells #[.int .u8 92,.int .u8 (X[p].toNat:Int),.int .u8 (X[m].toNat:Int)] 5)).drew w7.heap.size 5 (Lib.byteCells [92,X[p],X[m]]).toArray:=(aJ.new w7 5 _).drew
        have hgo:∀v,(w7.alloc (.cells #[.int .u8 92,.int .u8 (X[p].toNat:Int),.int .u8 (X[m].toNat:Int)] 5)).drew.cell? ⟨w1.heap.size,1,none⟩=some v->v.ownBlock≠some w7.heap.size:=by
         obtain ⟨p0,v0,_,hb0,o0,_⟩:=B7.out;intro v hv e;have h1:=(hb0.nx N8.out).cell 1;rw[h1]at hv;injection hv with hv;subst hv;have:=(o0.lt _ e).2;omega
        have HWR:Hid (Calls Tryz.prog 176 #[.pointer (some ⟨w1.heap.size,0,none⟩),.slice (some ⟨w7.heap.size,0,none⟩) 3 3] (w7.alloc (.cells #[.int .u8 92,.int .u8 (X[p].toNat:Int),.int .u8 (X[m].toNat:Int)] 5)).drew fun e w'=>e=.returned (.tuple #[.int .i64 3,.nilIface])/\mP w1 w' w1.heap.size ((Q++V)++[92,X[p],X[m]])/\Rest w1.heap.size (w7.alloc (.cells #[.int .u8 92,.int .u8 (X[p].toNat:Int),.int .u8 (X[m].toNat:Int)] 5)).drew w'):=
         ah (xA (m:=[92,X[p],X[m]]) (cap:=3) B8.out hg hgo (by rw[List.length_append];show _+3<=_;omega))
        clear hg hgo c1;go_region_held3 (fun _=>True) (exact trivial) ((go_at_call 176;refine HWR.out.mono ?_;rintro e w9 ⟨rfl,hb9,hr9⟩;have B9:=ah hb9;have G9:=ah (hr9.2 _ _ _ G8.out (by decide) (by omega));clear hb9 hr9))
        go_wp2_with fail
        all_goals
         refine ⟨⟨i+1,by omega,by go_num,ah (by rw[HV.out,JK.out,←HEP.out,←HEM.out,←List.append_assoc];exact B9.out),G9⟩,?_⟩;simp[intOf];omega
       ·rw[hp]at JI
        have JK:Hid (xg val[i]=[val[i]]):=ah (by unfold xg;rw[hp];rfl);have HWB:=ah (ED B7.out val[i] (by rw[List.length_append];omega));clear hp;go_wp2_with fail;refine (JI.out _).mono ?_;rintro e w8 ⟨rfl,rfl⟩;go_wp2_with fail;refine HWB.out.mono ?_;rintro e w9 ⟨rfl,hb9,hr9⟩;have B9:=ah hb9;have G9:=ah (hr9.2 _ _ _ G7.out (by decide) (by omega));clear hb9 hr9 c1;go_wp2_with fail;go_roundw
        case rel=>exact ⟨i+1,by omega,by go_num,ah (by rw[HV.out,JK.out,←List.append_assoc];exact B9.out),G9⟩
        case measure=>simp[intOf];omega
      ·have HQE:Hid (mP w1 w7 w1.heap.size (Q++f_ val.data.toList)):=ah (by have h:=B7.out;rw[List.take_of_length_le (by rw[Array.length_toList];show val.size<=i;omega)]at h;exact h)
       have aav:(f_ val.data.toList).length<=48:=by
        have:=z3k val.data.toList;have e2:val.data.toList.length=val.size:=Array.length_toList ..;omega
       have HW3:=ah (Zx HQE.out ⟨#[34]⟩ (by rw[List.length_append];show _+1<=_;omega));clear B7 c1;go_wp2_with fail;refine HW3.out.mono ?_;rintro e w8 ⟨rfl,hb8,hr8⟩;have B8:=ah hb8;clear hb8 hr8 HW3;go_wp2_with fail;go_roundw
       case rel=>exact ⟨k+1,by omega,by go_num,ah (by rw[HSQ.out,←List.append_assoc];exact B8.out)⟩
       case measure=>simp[intOf];omega
   ·have HT:Hid (bodyT (l.take k)=bodyT l):=ah (by rw[List.take_of_length_le (by omega)])
    rw[HT.out]at HB
    have hbl:(bodyT l).length<=300:=by
     have:=z6s (l:=l) HIN.out;omega
    have HB5:=ah (Zx HB.out ⟨#[125]⟩ (by show (123::bodyT l).length+1<=_;simp only[List.length_cons];omega));go_wp2_with fail;refine HB5.out.mono ?_;rintro e w6 ⟨rfl,hb6,hr6⟩;have HB6:=ah hb6;have HO:=ah (XG hb6 hb6.nx.size);clear hb6 hr6 HB5;go_wp2_with fail;refine HO.out.mono ?_;rintro e w7 ⟨rfl,hbw⟩;have HBW:=ah hbw;clear hbw HO;go_wp2_with fail;exact bodyPost_ret (v:=.tuple #[.string ⟨(123::bodyT l++[125]).toArray⟩,.int .i64 0]) (by simp[results,Tryz.results110,go_sem]) rfl ⟨by rw[HX.out];rfl,N1.out.tr (HB6.out.nx.trans (Ch.of_below HBW.out) (fun i hi hs=>by omega))⟩
end
def nC (x:List UInt8):Int:=match jB x with|some n=>(n:Int)|none=> -1
theorem z63:∀x:List UInt8,Lib.index x [61,34]=nC x
 |[]=>rfl
 |a::r=>by
  have e:([61,34]:List UInt8).isPrefixOf (a::r)=(jC (a::r)).isSome:=by
   cases r with
   |nil=>simp[List.isPrefixOf,jC]
   |cons b y=>
    rw[z2A]
    have h1:(61==a)=decide (a.toNat=61):=by
     rw[Bool.eq_iff_iff,beq_iff_eq,decide_eq_true_eq];exact ⟨fun h=>by rw[←h];rfl,fun h=>UInt8.toNat_inj.1 (by rw[h];rfl)⟩
    have h2:(34==b)=decide (b.toNat=34):=by
     rw[Bool.eq_iff_iff,beq_iff_eq,decide_eq_true_eq];exact ⟨fun h=>by rw[←h];rfl,fun h=>UInt8.toNat_inj.1 (by rw[h];rfl)⟩
    simp only[List.isPrefixOf,h1,h2];by_cases c1:a.toNat=61<;>by_cases c2:b.toNat=34<;>simp[c1,c2]
  unfold Lib.index;rw[e,z63 r];unfold nC;conv=>rhs;unfold jB
  cases hs:(jC (a::r)).isSome
  ·simp only[Bool.false_eq_true,if_false]
   cases hi:jB r with
   |none=>rfl
   |some n=>
    simp only[Option.map_some];rw[if_neg (by rw[beq_iff_eq];omega)];omega
  ·rfl
theorem z4s:∀(k:Nat) (x v r:List UInt8),x.length<=k->fF x=some (v,r)->r=x.drop (x.length-r.length)
 |k,[],v,r,_,h=>by rw[oM]at h;cases h
 |0,c::y,v,r,h,_=>by simp at h
 |k+1,c::y,v,r,hk,h=>by
  by_cases hc:c.toNat=34
  ·rw[Zu _ hc]at h
   injection h with h;injection h with _ h;subst h;rw[List.length_cons,show y.length+1-y.length=1 by omega];rfl
  ·cases ho:iC (c::y) with
   |none=>rw[z3l hc ho]at h;cases h
   |some p=>
    obtain ⟨b,n⟩:=p;obtain ⟨l1,l2⟩:=z3v ho;rw[Zv hc ho]at h;cases hv:fF ((c::y).drop n) with
    |none=>rw[hv]at h;cases h
    |some q=>
     rw[hv]at h;obtain ⟨v',r'⟩:=q;injection h with h;injection h with _ h;simp only at h;subst h;have h1:=z4s k _ _ _ (by rw[List.length_drop];simp only[List.length_cons]at *;omega) hv;have h2:=z5u _ _ _ _ (Nat.le_refl _) hv;rw[List.length_drop]at h1 h2;rw[List.drop_drop,show n+((c::y).length-n-r'.length)=(c::y).length-r'.length by omega]at h1;exact h1
theorem oL:∀(k:Nat) (x v r:List UInt8),x.length<=k->fF x=some (v,r)->v.length<x.length
 |k,[],v,r,_,h=>by rw[oM]at h;cases h
 |0,c::y,v,r,h,_=>by simp at h
 |k+1,c::y,v,r,hk,h=>by
  by_cases hc:c.toNat=34
  ·rw[Zu _ hc]at h
   injection h with h;injection h with h _;subst h;simp
  ·cases ho:iC (c::y) with
   |none=>rw[z3l hc ho]at h;cases h
   |some p=>
    obtain ⟨b,n⟩:=p;obtain ⟨l1,l2⟩:=z3v ho;rw[Zv hc ho]at h;cases hv:fF ((c::y).drop n) with
    |none=>rw[hv]at h;cases h
    |some q=>
     rw[hv]at h;obtain ⟨v',r'⟩:=q;injection h with h;injection h with h _;simp only at h;subst h;have h1:=oL k _ _ _ (by rw[List.length_drop];simp only[List.length_cons]at *;omega) hv;rw[List.length_drop]at h1;simp only[List.length_cons]at *;omega
theorem z5n (s:ByteArray) (i j:Nat):(s.extract i j).data.toList=(s.data.toList.drop i).take (j-i):=by
 simp[ByteArray.data_extract,List.extract]
theorem TP (s:ByteArray) (i n:Nat):s.extract i (i+n)=jg ((s.data.toList.drop i).take n):=by
 apply ByteArray.ext
 apply Array.ext'
 rw[z5n];unfold jg;simp
theorem YS {s:ByteArray} {i:Nat} (h:i<s.size):s.data.toList[i]?=some s[i]:=by
 rw[List.getElem?_eq_getElem (by rw[Aq];exact h)];rfl
def iM (s:ByteArray) (w:World) (e:Ending) (w':World):Prop:=∃v k,e=.returned (.tuple #[v,.int .i64 k])/\
 match jX s.data.toList with
 |some l=>k=0/\ay w w' 135 2 v l.length (lbl l)/\∀x∈l,x.small
 |none=>k=4/\v=.slice none 0 0/\Nx w w'
theorem iM.bad {s:ByteArray} {w w':World} (h:jX s.data.toList=none) (hn:Nx w w'):iM s w (.returned (.tuple #[.slice none 0 0,.int .i64 4])) w':=
 ⟨_,_,rfl,by rw[h];exact ⟨rfl,rfl,hn⟩⟩
theorem Tryz.SC:(Tryz.prog.info? 135).map (fun i=>(i.zero,i.size,i.bytes))=some (some (.agg #[.string ⟨#[]⟩,.string ⟨#[]⟩]),2,32):=by kernel_rfl
theorem Rd.jy {w:World} (x:dO):Rd (w.alloc (.cells #[.string x.name,.string x.value] 135)) (· =w.heap.size) 2 (some ⟨w.heap.size,0,none⟩) 1 [.string x.name,.string x.value]:=by
 refine ⟨rfl,fun _=>⟨_,rfl,rfl,fun i u hu=>?_⟩⟩
 have hi:i<2:=by
  rcases Nat.lt_or_ge i 2 with h|h
  ·exact h
  ·rw[List.getElem?_eq_none h]at hu;cases hu
 have:=(aJ.new w 135 #[.string x.name,.string x.value]).cell i;have e:(⟨w.heap.size,0,none⟩:Addr).add i=⟨w.heap.size,i,none⟩:=by unfold Addr.add;split<;>simp_all
 rw[e,this,←hu];simp
section
variable {w : World}
theorem parse_any (s:ByteArray) (hs:s.size<=1000000000) (m:Int) (hm:w.cell? ⟨0,0,none⟩=some (.int .i64 m)):
 Calls Tryz.prog 66 #[.string s] w (iM s w):=by
 obtain ⟨i0,hi0,hz0,hz1,hz2⟩:=info_parts Tryz.SC;have Hb:=ah (show 0<w.heap.size from by have:=World.block_lt_of_cell? w _ hm;exact this);have HM:=ah (fun (w':World) (c:Nx w w')=>(c.cell (p:=⟨0,0,none⟩) Hb.out).trans hm);have H0:=ah (ay.nil w w 135 2 (Ch.refl _ _));have Hn0:Hid (Nx w w):=ah (Ch.refl _ w);clear hm;by_cases h2:s.size<2
 ·have HR:=ah (show jX s.data.toList=none by unfold jX;rw[if_neg];rintro ⟨h,_⟩;rw[Aq]at h;omega)
  go_enter Tryz.func66,Tryz.ntmps66;go_wp2_with fail;exact bodyPost_ret (v:=.tuple #[.slice none 0 0,.int .i64 4]) (by simp[results,Tryz.results66,go_sem]) rfl (iM.bad HR.out Hn0.out)
 ·have hp0:0<s.size:=by omega
  have hzl:s.size-1<s.size:=by omega
  have B0:=ah (YS hp0);have Bl:=ah (YS hzl);have hc0:=UInt8.toNat_lt s[0];have hcl:=UInt8.toNat_lt s[s.size-1];have kk1:IntKind.i64.wrap ((s.size:Int)-1)=((s.size-1:Nat):Int):=by rw[IntWalk.i64_in _ (by omega)];omega
  by_cases ha:s[0].toNat=123
  ·by_cases hb:s[s.size-1].toNat=125
   ·obtain ⟨T,hT⟩:∃T,T=s.extract 1 (s.size-1):=⟨_,rfl⟩
    have hTe:T.data.toList=(s.data.toList.drop 1).take (s.data.toList.length-2):=(by rw[hT,z5n,Aq,show s.size-1-1=s.size-2 by omega]);have hTs:T.size<=s.size:=by rw[hT,ByteArray.size_extract];omega
    have HP:=ah (show jX s.data.toList=je (s.size+1) (T.data.toList.drop 0) [] by
     unfold jX;rw[if_pos ⟨by rw[Aq];omega,by rw[B0.out,←UInt8.toNat_inj.1 (show s[0].toNat=(123:UInt8).toNat from ha)],by rw[Aq,Bl.out,←UInt8.toNat_inj.1 (show s[s.size-1].toNat=(125:UInt8).toNat from hb)]⟩,List.drop_zero,hTe,Aq])
    have q1:((s[0].toNat:Int) !=123)=false:=by rw[bne_eq_false_iff_eq];omega
    have q2:((s[s.size-1].toNat:Int) !=125)=false:=by rw[bne_eq_false_iff_eq];omega
    clear ha hb hTe B0 Bl;go_enter Tryz.func66,Tryz.ntmps66;go_wp2_with fail;rw[←hT];have HT:=ah hT;clear hT;go_loopw [4,5] (fun s4 s5 wr=>∃(a f:Nat) (out:List dO),a<=T.size/\out.length<=5/\s5=.int .i64 (a:Int)/\T.size-a<f/\Hid (∀x∈out,x.small)/\Hid (ay w wr 135 2 s4 out.length (lbl out))/\Hid (jX s.data.toList=je f (T.data.toList.drop a) out)) (fun s4 s5 _=>T.size-(intOf s5).toNat)
    case atStart=>exact ⟨0,s.size+1,[],Nat.zero_le _,by decide,rfl,by omega,ah (by intro x hx;cases hx),H0,HP⟩
    case round=>
     obtain ⟨w4,rfl⟩:∃w4:World,w4=wr:=⟨_,rfl⟩;obtain ⟨a,f,out,ha,ho,rfl,hf,Hs,Ho,Hp⟩:=hrel;obtain ⟨f,rfl⟩:∃f',f=f'+1:=⟨f-1,by omega⟩;obtain ⟨A7,c7,hu7,hc7,hm7⟩:=Ho.out.form;subst hu7;by_cases hlt:a<T.size
     ·have hln:∀(y:List UInt8),y=T.data.toList.drop a->y≠[]:=fun y hy he=>by
       have:=congrArg List.length (hy.symm.trans he);rw[List.length_drop,Aq]at this;simp at this;omega
      by_cases ho0:0<out.length
      ·have HD:=ah (z3F hlt)
       have hcb:=UInt8.toNat_lt T[a];by_cases h44:T[a].toNat=44
       ·have q5:((T[a].toNat:Int) !=44)=false:=by rw[bne_eq_false_iff_eq];omega
        have HX:=ah (show jX s.data.toList=jA f (T.data.toList.drop (a+1)) out by
         rw[Hp.out,z3u f out (hln _ rfl),if_neg (by intro he;rw[he]at ho0;simp at ho0),HD.out];show (match (if T[a].toNat=44 then some (T.data.toList.drop (a+1)) else none) with|none=>none|some y=>jA f y out)=_
         rw[if_pos h44])
        clear h44 HD Hp hln;have Xg:(T.data.toList.drop (a+1)).length=T.size-(a+1):=(by rw[List.length_drop,Aq]);have HI:=ah (fun (w':World) (c:Nx w w')=>Tryz.strings_Index (T.extract (a+1) T.size) ⟨#[61,34]⟩ m w' (by rw[ByteArray.size_extract];omega) (HM.out w' c))
        have hie:Lib.index (T.extract (a+1) T.size).data.toList [61,34]=nC (T.data.toList.drop (a+1)):=by
         rw[z63,z5n,List.take_of_length_le (by rw[Xg];exact Nat.le_refl _)]
        have HIE:=ah hie;clear hie;cases hi:jB (T.data.toList.drop (a+1)) with
        |none=>
         have hid:nC (T.data.toList.drop (a+1))= -1:=by unfold nC;rw[hi]
         have HR:=ah (show jX s.data.toList=none by rw[HX.out];unfold jA;rw[hi])
         have HJ:=ah (fun (w':World) (c:Nx w w')=>(show Calls Tryz.prog 143 #[.string (T.extract (a+1) T.size),.string ⟨#[61,34]⟩] w' (fun e w''=>e=.returned (.int .i64 (-1))/\w''=w') by
          have:=HI.out w' c;rw[HIE.out,hid]at this;exact this))
         clear hi hid Xg;go_wp2_with fail;with_reducible refine (HJ.out _ Ho.out.nx).mono ?_
         rintro e w5 ⟨rfl,rfl⟩;go_wp2_with fail;exact bodyPost_ret (v:=.tuple #[.slice none 0 0,.int .i64 4]) (by simp[results,Tryz.results66,go_sem]) rfl (iM.bad HR.out Ho.out.nx)
        |some n=>
         obtain ⟨z,e1,e2,e3⟩:=zq hi;have hid:nC (T.data.toList.drop (a+1))=(n:Int):=by unfold nC;rw[hi]
         have hpn:a+1+n+2<=T.size:=by rw[Xg]at e3;omega
         have HJ:=ah (fun (w':World) (c:Nx w w')=>(show Calls Tryz.prog 143 #[.string (T.extract (a+1) T.size),.string ⟨#[61,34]⟩] w' (fun e w''=>e=.returned (.int .i64 (n:Int))/\w''=w') by
          have:=HI.out w' c;rw[HIE.out,hid]at this;exact this))
         have HK:=ah (show jX s.data.toList=if 4<out.length then none else match fF (T.data.toList.drop (a+1+n+2)) with
          |none=>none
          |some (v,r)=>je f r (out++[⟨jg ((T.data.toList.drop (a+1)).take n),jg v⟩]) by
          rw[HX.out];unfold jA;rw[hi];simp only[List.drop_drop]
          all_goals (rw[show a+1+(n+2)=a+1+n+2 by omega]<;>rfl))
         clear hi hid Xg e1 e2 e3;by_cases h5:4<out.length
         ·have HR:=ah (show jX s.data.toList=none by rw[HK.out,if_pos h5])
          go_wp2_with fail;with_reducible refine (HJ.out _ Ho.out.nx).mono ?_
          rintro e w5 ⟨rfl,rfl⟩;go_wp2_with fail;exact bodyPost_ret (v:=.tuple #[.slice none 0 0,.int .i64 4]) (by simp[results,Tryz.results66,go_sem]) rfl (iM.bad HR.out Ho.out.nx)
         ·have HKK:=ah (HK.out.trans (if_neg h5))
          have HV:=ah (fun w'=>uP (w:=w') T (a+1+n+2) hpn (by omega));have kv:(((a+1+n+2:Nat)):Int)=((a:Int)+1)+(n:Int)+2:=(by omega);rw[kv]at HV;have HNM:=ah (TP T (a+1) n);have kx:(((a:Int)+1)+(n:Int)).toNat=a+1+n:=(by omega);have kz1:(0:Int)<=((a:Int)+1)+(n:Int):=(by omega);have kz2:((a:Int)+1)+(n:Int)<=(T.size:Int):=(by omega);have kz3:((a:Int)+1)<=((a:Int)+1)+(n:Int):=(by omega);clear kv HI HIE HK HX;go_wp2_with fail;with_reducible refine (HJ.out _ Ho.out.nx).mono ?_
          rintro e w5 ⟨rfl,rfl⟩;go_wp2_with fail;with_reducible refine (HV.out _).mono ?_
          rintro e w6 ⟨v,n6,b6,rfl,hn6,hgood,hbad⟩;have HO6:=ah (Ho.out.tr hn6);cases hv:fF (T.data.toList.drop (a+1+n+2)) with
          |none=>
           obtain rfl:=hbad hv;have HR:=ah (show jX s.data.toList=none by rw[HKK.out,hv]);clear hgood hbad hv;go_wp2_with fail;exact bodyPost_ret (v:=.tuple #[.slice none 0 0,.int .i64 4]) (by simp[results,Tryz.results66,go_sem]) rfl (iM.bad HR.out HO6.out.nx)
          |some q=>
           obtain ⟨v',r⟩:=q;obtain ⟨rfl,rfl,rfl⟩:=hgood v' r hv;have hlr:=z5u _ _ _ _ (Nat.le_refl _) hv;have hsu:=z4s _ _ _ _ (Nat.le_refl _) hv;rw[List.length_drop,Aq]at hlr hsu;rw[List.drop_drop,show a+1+n+2+(T.size-(a+1+n+2)-r.length)=T.size-r.length by omega]at hsu
           have HR:=ah (show jX s.data.toList=je f (T.data.toList.drop (T.size-r.length)) (out++[⟨jg ((T.data.toList.drop (a+1)).take n),jg v'⟩]) by
            rw[HKK.out,hv,←hsu])
           rw[←HNM.out]at HR;have hvl:=oL _ _ _ _ (Nat.le_refl _) hv;rw[List.length_drop,Aq]at hvl
           have LH:=ah (show ∀x∈out++[(⟨T.extract (a+1) (a+1+n),jg v'⟩:dO)],x.small by
            intro x hx;rcases List.mem_append.1 hx with hx|hx
            ·exact Hs.out x hx
            ·rw[List.mem_singleton]at hx
             subst hx;refine ⟨?_,?_⟩
             ·show (T.extract (a+1) (a+1+n)).size<=_
              rw[ByteArray.size_extract];omega
             ·show v'.toArray.size<=_
              rw[List.size_toArray];omega)
           have hle:((T.size-r.length:Nat):Int)<=(T.size:Int):=(by omega);clear hgood hbad hv hsu hvl HKK HNM;go_wp2_with (at_builtin;refine z07 rfl (.tmp 67) (.tmp 76) _ rfl 135 i0 _ 2 32 Tryz.underlying54 hi0 hz0 hz1 hz2 rfl (by omega) rfl (HO6.out.alloc _) _ (some ⟨w6.heap.size,0,none⟩) 1 1 _ rfl (Rd.jy (⟨T.extract (a+1) (a+1+n),jg v'⟩:dO)) (by intro u hu;simp at hu;rcases hu with rfl|rfl<;>rfl) (by simp only[maxLen];omega) (by omega) ?_;intro v7 w7 o7 m7)
           have O7:=ah (show ay w w7 135 2 v7 (out++[(⟨T.extract (a+1) (a+1+n),jg v'⟩:dO)]).length (lbl (out++[(⟨T.extract (a+1) (a+1+n),jg v'⟩:dO)])) by
            rw[List.length_append,List.length_singleton];unfold lbl;rw[List.flatMap_append];exact o7)
           clear o7 m7;go_roundw
           case rel=>exact ⟨T.size-r.length,f,out++[(⟨T.extract (a+1) (a+1+n),jg v'⟩:dO)],by omega,by simp;omega,by go_num,by omega,LH,O7,HR⟩
           case measure=>simp[intOf];omega
       ·have q5:((T[a].toNat:Int) !=44)=true:=by rw[bne_iff_ne];omega
        have HR:=ah (show jX s.data.toList=none by
         rw[Hp.out,z3u f out (hln _ rfl),if_neg (by intro he;rw[he]at ho0;simp at ho0),HD.out];show (match (if T[a].toNat=44 then some (T.data.toList.drop (a+1)) else none) with|none=>none|some y=>jA f y out)=_
         rw[if_neg h44])
        clear h44 HD Hp hln;go_wp2_with fail;exact bodyPost_ret (v:=.tuple #[.slice none 0 0,.int .i64 4]) (by simp[results,Tryz.results66,go_sem]) rfl (iM.bad HR.out Ho.out.nx)
      ·have HX:=ah (show jX s.data.toList=jA f (T.data.toList.drop a) out by
        rw[Hp.out,z3u f out (hln _ rfl),if_pos (List.eq_nil_of_length_eq_zero (by omega))])
       clear Hp hln;have Xg:(T.data.toList.drop (a)).length=T.size-(a):=(by rw[List.length_drop,Aq]);have HI:=ah (fun (w':World) (c:Nx w w')=>Tryz.strings_Index (T.extract (a) T.size) ⟨#[61,34]⟩ m w' (by rw[ByteArray.size_extract];omega) (HM.out w' c))
       have hie:Lib.index (T.extract (a) T.size).data.toList [61,34]=nC (T.data.toList.drop (a)):=by
        rw[z63,z5n,List.take_of_length_le (by rw[Xg];exact Nat.le_refl _)]
       have HIE:=ah hie;clear hie;cases hi:jB (T.data.toList.drop (a)) with
       |none=>
        have hid:nC (T.data.toList.drop (a))= -1:=by unfold nC;rw[hi]
        have HR:=ah (show jX s.data.toList=none by rw[HX.out];unfold jA;rw[hi])
        have HJ:=ah (fun (w':World) (c:Nx w w')=>(show Calls Tryz.prog 143 #[.string (T.extract (a) T.size),.string ⟨#[61,34]⟩] w' (fun e w''=>e=.returned (.int .i64 (-1))/\w''=w') by
         have:=HI.out w' c;rw[HIE.out,hid]at this;exact this))
        clear hi hid Xg;go_wp2_with fail;with_reducible refine (HJ.out _ Ho.out.nx).mono ?_
        rintro e w5 ⟨rfl,rfl⟩;go_wp2_with fail;exact bodyPost_ret (v:=.tuple #[.slice none 0 0,.int .i64 4]) (by simp[results,Tryz.results66,go_sem]) rfl (iM.bad HR.out Ho.out.nx)
       |some n=>
        obtain ⟨z,e1,e2,e3⟩:=zq hi;have hid:nC (T.data.toList.drop (a))=(n:Int):=by unfold nC;rw[hi]
        have hpn:a+n+2<=T.size:=by rw[Xg]at e3;omega
        have HJ:=ah (fun (w':World) (c:Nx w w')=>(show Calls Tryz.prog 143 #[.string (T.extract (a) T.size),.string ⟨#[61,34]⟩] w' (fun e w''=>e=.returned (.int .i64 (n:Int))/\w''=w') by
         have:=HI.out w' c;rw[HIE.out,hid]at this;exact this))
        have HK:=ah (show jX s.data.toList=if 4<out.length then none else match fF (T.data.toList.drop (a+n+2)) with
         |none=>none
         |some (v,r)=>je f r (out++[⟨jg ((T.data.toList.drop (a)).take n),jg v⟩]) by
         rw[HX.out];unfold jA;rw[hi];simp only[List.drop_drop]
         all_goals (rw[show a+(n+2)=a+n+2 by omega]<;>rfl))
        clear hi hid Xg e1 e2 e3;by_cases h5:4<out.length
        ·exfalso;omega
        ·have HKK:=ah (HK.out.trans (if_neg h5))
         have HV:=ah (fun w'=>uP (w:=w') T (a+n+2) hpn (by omega));have kv:(((a+n+2:Nat)):Int)=(a:Int)+(n:Int)+2:=(by omega);rw[kv]at HV;have HNM:=ah (TP T (a) n);have kx:((a:Int)+(n:Int)).toNat=a+n:=(by omega);have kz1:(0:Int)<=(a:Int)+(n:Int):=(by omega);have kz2:(a:Int)+(n:Int)<=(T.size:Int):=(by omega);have kz3:(a:Int)<=(a:Int)+(n:Int):=(by omega);clear kv HI HIE HK HX;go_wp2_with fail;with_reducible refine (HJ.out _ Ho.out.nx).mono ?_
         rintro e w5 ⟨rfl,rfl⟩;go_wp2_with fail;with_reducible refine (HV.out _).mono ?_
         rintro e w6 ⟨v,n6,b6,rfl,hn6,hgood,hbad⟩;have HO6:=ah (Ho.out.tr hn6);cases hv:fF (T.data.toList.drop (a+n+2)) with
         |none=>
          obtain rfl:=hbad hv;have HR:=ah (show jX s.data.toList=none by rw[HKK.out,hv]);clear hgood hbad hv;go_wp2_with fail;exact bodyPost_ret (v:=.tuple #[.slice none 0 0,.int .i64 4]) (by simp[results,Tryz.results66,go_sem]) rfl (iM.bad HR.out HO6.out.nx)
         |some q=>
          obtain ⟨v',r⟩:=q;obtain ⟨rfl,rfl,rfl⟩:=hgood v' r hv;have hlr:=z5u _ _ _ _ (Nat.le_refl _) hv;have hsu:=z4s _ _ _ _ (Nat.le_refl _) hv;rw[List.length_drop,Aq]at hlr hsu;rw[List.drop_drop,show a+n+2+(T.size-(a+n+2)-r.length)=T.size-r.length by omega]at hsu
          have HR:=ah (show jX s.data.toList=je f (T.data.toList.drop (T.size-r.length)) (out++[⟨jg ((T.data.toList.drop (a)).take n),jg v'⟩]) by
           rw[HKK.out,hv,←hsu])
          rw[←HNM.out]at HR;have hvl:=oL _ _ _ _ (Nat.le_refl _) hv;rw[List.length_drop,Aq]at hvl
          have LH:=ah (show ∀x∈out++[(⟨T.extract (a) (a+n),jg v'⟩:dO)],x.small by
           intro x hx;rcases List.mem_append.1 hx with hx|hx
           ·exact Hs.out x hx
           ·rw[List.mem_singleton]at hx
            subst hx;refine ⟨?_,?_⟩
            ·show (T.extract (a) (a+n)).size<=_
             rw[ByteArray.size_extract];omega
            ·show v'.toArray.size<=_
             rw[List.size_toArray];omega)
          have hle:((T.size-r.length:Nat):Int)<=(T.size:Int):=(by omega);clear hgood hbad hv hsu hvl HKK HNM;go_wp2_with (at_builtin;refine z07 rfl (.tmp 67) (.tmp 76) _ rfl 135 i0 _ 2 32 Tryz.underlying54 hi0 hz0 hz1 hz2 rfl (by omega) rfl (HO6.out.alloc _) _ (some ⟨w6.heap.size,0,none⟩) 1 1 _ rfl (Rd.jy (⟨T.extract (a) (a+n),jg v'⟩:dO)) (by intro u hu;simp at hu;rcases hu with rfl|rfl<;>rfl) (by simp only[maxLen];omega) (by omega) ?_;intro v7 w7 o7 m7)
          have O7:=ah (show ay w w7 135 2 v7 (out++[(⟨T.extract (a) (a+n),jg v'⟩:dO)]).length (lbl (out++[(⟨T.extract (a) (a+n),jg v'⟩:dO)])) by
           rw[List.length_append,List.length_singleton];unfold lbl;rw[List.flatMap_append];exact o7)
          clear o7 m7;go_roundw
          case rel=>exact ⟨T.size-r.length,f,out++[(⟨T.extract (a) (a+n),jg v'⟩:dO)],by omega,by simp;omega,by go_num,by omega,LH,O7,HR⟩
          case measure=>simp[intOf];omega
     ·have hae:a=T.size:=by omega
      have HX:=ah (show jX s.data.toList=if jU out=true then some out else none by
       rw[Hp.out];unfold je;rw[if_pos (List.drop_of_length_le (by rw[Aq];omega))])
      have HC:=ah (z5O (w:=w4) (c:=c7) Ho.out.rd rfl (by omega) Hs.out);clear hae;go_wp2_with fail;refine HC.out.mono ?_;rintro e w5 ⟨rfl,hn5⟩;have H5:=ah (Ho.out.tr hn5);clear hn5;cases hr:jU out
      ·rw[hr]at HX
       go_wp2_with fail;exact bodyPost_ret (v:=.tuple #[.slice none 0 0,.int .i64 4]) (by simp[results,Tryz.results66,go_sem]) rfl (iM.bad HX.out H5.out.nx)
      ·rw[hr]at HX
       go_wp2_with fail;refine bodyPost_ret (v:=.tuple #[.slice A7 out.length c7,.int .i64 0]) (by simp[results,Tryz.results66,go_sem]) rfl ⟨_,_,rfl,?_⟩;rw[HX.out];exact ⟨rfl,H5.out,Hs.out⟩
   ·have HR:=ah (show jX s.data.toList=none by
     unfold jX;rw[if_neg];rintro ⟨_,_,h⟩;rw[Aq,Bl.out]at h;injection h with h;rw[h]at hb;exact hb rfl)
    have q1:((s[0].toNat:Int) !=123)=false:=by rw[bne_eq_false_iff_eq];omega
    have q2:((s[s.size-1].toNat:Int) !=125)=true:=by rw[bne_iff_ne];omega
    clear ha hb;go_enter Tryz.func66,Tryz.ntmps66;go_wp2_with fail;exact bodyPost_ret (v:=.tuple #[.slice none 0 0,.int .i64 4]) (by simp[results,Tryz.results66,go_sem]) rfl (iM.bad HR.out Hn0.out)
  ·have HR:=ah (show jX s.data.toList=none by
    unfold jX;rw[if_neg];rintro ⟨_,h,_⟩;rw[B0.out]at h;injection h with h;rw[h]at ha;exact ha rfl)
   have q1:((s[0].toNat:Int) !=123)=true:=by rw[bne_iff_ne];omega
   clear ha;go_enter Tryz.func66,Tryz.ntmps66;go_wp2_with fail;exact bodyPost_ret (v:=.tuple #[.slice none 0 0,.int .i64 4]) (by simp[results,Tryz.results66,go_sem]) rfl (iM.bad HR.out Hn0.out)
end
theorem vX:∀{f:Nat} {x:List UInt8} {out l:List dO},je f x out=some l->jU l=true
 |0,_,_,_,h=>by cases h
 |f+1,x,out,l,h=>by
  unfold je at h;split at h
  ·split at h
   ·next hh=>
    injection h with h;rw[←h];exact hh
   ·cases h
  ·split at h
   ·cases h
   ·split at h
    ·cases h
    ·split at h
     ·cases h
     ·split at h
      ·cases h
      ·exact vX h
theorem Ce {x:List UInt8} {l:List dO} (h:jX x=some l):jU l=true:=by
 unfold jX at h;split at h
 ·exact vX h
 ·cases h
theorem MZ {l:List dO} (h:jU l=true):l.length<=4:=by
 unfold jU at h;rw[Bool.and_eq_true,decide_eq_true_eq]at h;exact h.1
theorem iM.cases {s:ByteArray} {w w':World} {e:Ending} (h:iM s w e w'):
 (∃l A c,jX s.data.toList=some l/\e=.returned (.tuple #[.slice A l.length c,.int .i64 0])/\ay w w' 135 2 (.slice A l.length c) l.length (lbl l)/\(∀x∈l,x.small)/\l.length<=4)∨
 (jX s.data.toList=none/\e=.returned (.tuple #[.slice none 0 0,.int .i64 4])/\Nx w w'):=by
 obtain ⟨v,k,rfl,h⟩:=h;cases hp:jX s.data.toList with
 |none=>
  rw[hp]at h;obtain ⟨rfl,rfl,hn⟩:=h;exact .inr ⟨rfl,rfl,hn⟩
 |some l=>
  rw[hp]at h;obtain ⟨rfl,ho,hs⟩:=h;obtain ⟨A,c,rfl,_,_⟩:=ho.form;exact .inl ⟨l,A,c,rfl,rfl,ho,hs,MZ (Ce hp)⟩
end Go.Proofs.YtpakjclpjcngmaaGreat
