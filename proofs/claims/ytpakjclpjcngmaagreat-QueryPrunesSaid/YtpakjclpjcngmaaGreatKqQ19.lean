/- Contracts and plain laws that the last text rests on. Conditions: each theorem states its own. -/
import Derived.Test.YtpakjclpjcngmaaGreatKqQ18
import Derived.Test.YtpakjclpjcngmaaGreatKqQ16
import Derived.Test.YtpakjclpjcngmaaGreatKqQ8
import Derived.Test.YtpakjclpjcngmaaGreatKqQ3
import Derived.Test.YtpakjclpjcngmaaGreatKqPbShl
import Derived.Test.YtpakjclpjcngmaaGreatKqPbBldA
import Derived.Test.YtpakjclpjcngmaaGreatKqQ10
import Derived.Deep.RegionHeld3
set_option maxRecDepth 100000
set_option maxHeartbeats 16000000
set_option linter.unusedVariables false
namespace Go.Proofs.YtpakjclpjcngmaaGreat
open Go.RowKit Ps
section
variable {w : World} {D D2 : Nat → Prop} {A B : Option Addr} {c d : Nat} {l : List dP} {by_ : List ByteArray}
end
def xR (l:List dP):ByteArray:=if jH l=true then iW (textF l) else ⟨#[]⟩
theorem toL (s:ByteArray) (i:Nat) (h:i<s.size):s.data.toList[i]'(by rw[Array.length_toList];exact h)=s[i]:=by
 rw[Array.getElem_toList];rfl
theorem uO {s:ByteArray} {i:Nat} (h:i<s.size):gu (s.data.toList.take (i+1))=gu (s.data.toList.take i)++wZ s[i]:=by
 rw[List.take_succ_eq_append_getElem (by rw[Array.length_toList];exact h),LJ,toL s i h]
theorem OI {l:List dP} {k:Nat} (h:k<l.length):bodyT (l.take (k+1))=bodyT (l.take k)++((if k=0 then [] else [44])++labT l[k]):=by
 rw[List.take_succ_eq_append_getElem h,OJ]
 have e:(if l.take k=[] then ([]:List UInt8) else [44])=if k=0 then [] else [44]:=by
  cases k with
  |zero=>rfl
  |succ k=>
   rw[if_neg (Nat.succ_ne_zero k),if_neg];intro e;have:=congrArg List.length e;rw[List.length_take]at this;simp only[List.length_nil]at this;omega
 rw[e]
theorem z5S:∀{l:List dP},(∀x∈l,fE x.name=true/\x.value.size<=16)->(bodyT l).length<=60 * l.length
 |[],_=>Nat.le_refl _
 |x::r,h=>by
  have h1:=CV (h x List.mem_cons_self).1 (h x List.mem_cons_self).2;have h2:=uV (r:=r) (fun y hy=>h y (List.mem_cons_of_mem _ hy));unfold bodyT;simp only[List.length_cons,List.length_append];omega
theorem Em (a:ByteArray) (b:Array UInt8):(a++(⟨b⟩:ByteArray)).data.toList=a.data.toList++b.toList:=by
 rw[ByteArray.data_append,Array.toList_append]
section
variable {w : World} {D : Nat → Prop} {A : Option Addr} {c : Nat} {l : List dP}
theorem Qh (h:Rd w D 2 A l.length (lbl l)) (hl:l.length<=1000000) (hsm:∀x∈l,x.small):
 Calls Tryz.prog 110 #[.slice A l.length c] w fun e w'=>e=.returned (.tuple #[.string (xR l),.int .i64 (if jH l=true then 0 else 4)])/\Nx w w':=by
 have HRT:=ah (z3B (c:=c) h rfl (by omega) hsm);have HR:=ah h;clear h hsm;cases hr:jH l
 ·rw[hr]at HRT
  have HX:Hid (xR l=⟨#[]⟩):=ah (by unfold xR;rw[hr];rfl);clear hr;go_enter Tryz.func110,Tryz.ntmps110;go_wp2_with fail;refine HRT.out.mono ?_;rintro e w1 ⟨rfl,n1⟩;have N1:=ah n1;clear n1;go_wp2_with fail;exact bodyPost_ret (v:=.tuple #[.string ⟨#[]⟩,.int .i64 4]) (by simp[results,Tryz.results110,go_sem]) rfl ⟨by rw[HX.out];first|done|rfl,N1.out⟩
 ·rw[hr]at HRT
  have HX:Hid (xR l=iW (123::(bodyT l++[125]))):=ah (by unfold xR;rw[hr];rfl);have Yr:=ah (fun x (hx:x∈l)=>z2Q hr hx)
  have h4:l.length<=4:=by
   unfold jH at hr;rw[Bool.and_eq_true,decide_eq_true_eq]at hr;exact hr.1
  clear hr;go_enter Tryz.func110,Tryz.ntmps110;go_wp2_with fail;refine HRT.out.mono ?_;rintro e w1 ⟨rfl,n1⟩;have N1:=ah n1;have HB0:=ah (Zx (mP.new w1) ⟨#[123]⟩ (by decide));clear n1 HRT;go_wp2_with fail;refine HB0.out.mono ?_;rintro e w2 ⟨rfl,hb2,hr2⟩;have HB2:=ah hb2;clear hb2 hr2 HB0;go_wp2_with fail;go_loopw [15] (fun s15 wr=>∃k:Nat,k<=l.length/\s15=.int .i64 (k:Int)/\Hid (mP w1 wr w1.heap.size (123::bodyT (l.take k)))) (fun s15 _=>l.length-(intOf s15).toNat)
  case atStart=>exact ⟨0,Nat.zero_le _,rfl,HB2⟩
  case round=>
   obtain ⟨w3,rfl⟩:∃w3:World,w3=wr:=⟨_,rfl⟩;obtain ⟨k,hk,rfl,HB⟩:=hrel;by_cases hlt:k<l.length
   ·obtain ⟨ad,rfl,hbk,p0,p1⟩:=mD (HR.out.nx (by decide) (N1.out.tr HB.out.nx)) hlt
    have HS:=ah (OI hlt);have hin:=Yr.out _ (List.getElem_mem hlt)
    have hbl:(bodyT (l.take k)).length<=60 * k:=by
     have:=z5S (l:=l.take k) (fun x hx=>Yr.out x (List.mem_of_mem_take hx));rw[List.length_take]at this;omega
    generalize bodyT (l.take k)=T at *;generalize l[k]=x at *;obtain ⟨nm,val⟩:=x;simp only at p0 p1 hin
    have hnl:nm.size<=8:=by
     have:=hin.1;unfold fE at this;rw[Bool.and_eq_true,decide_eq_true_eq]at this;exact this.1.2
    have hvl:=hin.2;clear hin hbk;have B4:=ah (HB.out.tr ((Ch.refl (fun _=>False) w3).alloc (.cells #[.string nm,.string val] 135)));have G4:=ah (aG.new w3 135 #[.string nm,.string val])
    have hgb:w1.heap.size<w3.heap.size:=by
     obtain ⟨_,_,_,hb,_⟩:=HB.out;exact hb.lt
    by_cases hk0:0<k
    ·have HS2:Hid (123::bodyT (l.take (k+1))=((123::T)++[44])++labT ⟨nm,val⟩):=ah (by rw[HS.out,if_neg (by omega)];simp)
     have HW1:=ah (Zx B4.out ⟨#[44]⟩ (by show (123::T).length+1<=_;simp only[List.length_cons];omega));clear HS;go_wp2_with fail;refine HW1.out.mono ?_;rintro e w5 ⟨rfl,hb5,hr5⟩;have B5:Hid (mP w1 w5 w1.heap.size ((123::T)++[44])):=ah hb5;have G5:=ah (hr5.2 _ _ _ G4.out (by decide) (by omega));have c0:w5.cell? ⟨w3.heap.size,0,none⟩=some (.string nm):=G5.out.cell 0;have HW2:=ah (Zx B5.out (nm++⟨#[61,34]⟩) (by rw[ByteArray.size_append];show ((123::T)++[44]).length+(nm.size+2)<=_;simp only[List.length_cons,List.length_append,List.length_nil];omega));clear hb5 hr5 HW1 G4 B4 HB p0 p1;go_wp2_with fail;refine HW2.out.mono ?_;rintro e w6 ⟨rfl,hb6,hr6⟩;obtain ⟨Q,hQ⟩:∃Q,Q=((123::T)++[44])++(nm.data.toList++[61,34]):=⟨_,rfl⟩;have B6:Hid (mP w1 w6 w1.heap.size Q):=ah (by rw[hQ];have h:=hb6;rw[Em]at h;exact h);have G6:=ah (hr6.2 _ _ _ G5.out (by decide) (by omega));clear hb6 hr6 HW2 c0;have HSQ:Hid (123::bodyT (l.take (k+1))=Q++(gu val.data.toList++[34])):=ah (by rw[HS2.out,hQ];simp[labT])
     have hql:Q.length<=400:=by
      rw[hQ];have e2:nm.data.toList.length=nm.size:=Array.length_toList ..;simp only[List.length_append,List.length_cons,List.length_nil];omega
     have c1:w6.cell? ⟨w3.heap.size,1,none⟩=some (.string val):=G6.out.cell 1;have hl6:=G6.out.lt;clear hQ HS2 hbl;go_wp2_with fail;clear c1;go_loopw [30] (fun s30 wr=>∃i:Nat,i<=val.size/\s30=.int .i64 (i:Int)/\Hid (mP w1 wr w1.heap.size (Q++gu (val.data.toList.take i)))/\Hid (aG wr w3.heap.size 135 #[.string nm,.string val])) (fun s30 _=>val.size-(intOf s30).toNat)
     case atStart=>exact ⟨0,Nat.zero_le _,rfl,ah (by have h:=B6.out;rw[List.take_zero,show gu []=[] from rfl,List.append_nil];exact h),G6⟩
     case round=>
      obtain ⟨w7,rfl⟩:∃w7:World,w7=wr:=⟨_,rfl⟩;obtain ⟨i,hi,rfl,B7,G7⟩:=hrel;have c1:w7.cell? ⟨w3.heap.size,1,none⟩=some (.string val):=G7.out.cell 1;have hl7:=G7.out.lt;by_cases hil:i<val.size
      ·have HV:=ah (uO hil)
       have aav:(gu (val.data.toList.take i)).length<=3 * i:=by
        have:=z2V (val.data.toList.take i);rw[List.length_take]at this;omega
       have hc256:=val[i].toNat_lt;have Jw:=ah (z3F val[i].toNat (by omega));generalize hvt:gu (val.data.toList.take i)=V at *;cases hp:EU val[i].toNat
       ·rw[hp]at Jw
        have Jy:Hid (wZ val[i]=[92,kK (val[i].toNat / 16),kK (val[i].toNat % 16)]):=ah (by unfold wZ;rw[hp];rfl);clear hp;go_wp2_with fail;refine (Jw.out _).mono ?_;rintro e w8 ⟨rfl,rfl⟩;go_wp2_with fail;obtain ⟨X,hX⟩:∃X,X=NM:=⟨_,rfl⟩;have hXX:=hX;have HX:=ah hX.symm;unfold NM at HX;have hXs:X.size=16:=by rw[hX];rfl
        clear hX;obtain ⟨cc,hcc⟩:∃cc,cc=val[i].toNat:=⟨_,rfl⟩;rw[HX.out];obtain ⟨p,hp⟩:∃p,p=cc / 16:=⟨_,rfl⟩;obtain ⟨m,hm⟩:∃m,m=cc % 16:=⟨_,rfl⟩;have NP:cc<256:=by rw[hcc];omega
        rw[←hcc]at Jy;rw[←hcc];have hn1:p<X.size:=(by omega);have hn2:m<X.size:=(by omega);have HEP:=ah (show X[p]=kK p by subst hXX;exact KE (by omega));have HEM:=ah (show X[m]=kK m by subst hXX;exact KE (by omega));rw[←hp,←hm]at Jy;have k3:(cc:Int) / 16=(p:Int):=(by omega);have k4:=u8_and15 (x:=(cc:Int)) (by omega) (by omega);rw[show (cc:Int) % 16=(m:Int) by omega]at k4;have kn1:(p:Int)<(X.size:Int):=(by omega);have kn2:(m:Int)<(X.size:Int):=(by omega);have k7:cc % 16=m:=hm.symm;have k8:cc / 16=p:=hp.symm;clear hcc hp hm hXs hXX;have N8:=ah (((Ch.refl (fun _=>False) w7).alloc (.cells #[.int .u8 92,.int .u8 (X[p].toNat:Int),.int .u8 (X[m].toNat:Int)] 5)).drew);have B8:=ah (B7.out.tr N8.out);have G8:=ah (G7.out.nx N8.out);have hg:aG (w7.alloc (.cells #[.int .u8 92,.int .u8 (X[p].toNat:Int),.int .u8 (X[m].toNat:Int)] 5)).drew w7.heap.size 5 (Lib.byteCells [92,X[p],X[m]]).toArray:=(aG.new w7 5 _).drew
        have hgo:∀v,(w7.alloc (.cells #[.int .u8 92,.int .u8 (X[p].toNat:Int),.int .u8 (X[m].toNat:Int)] 5)).drew.cell? ⟨w1.heap.size,1,none⟩=some v->v.ownBlock≠some w7.heap.size:=by
         obtain ⟨p0,v0,_,hb0,o0,_⟩:=B7.out;intro v hv e;have h1:=(hb0.nx N8.out).cell 1;rw[h1]at hv;injection hv with hv;subst hv;have:=(o0.lt _ e).2;omega
        have HWR:Hid (Calls Tryz.prog 176 #[.pointer (some ⟨w1.heap.size,0,none⟩),.slice (some ⟨w7.heap.size,0,none⟩) 3 3] (w7.alloc (.cells #[.int .u8 92,.int .u8 (X[p].toNat:Int),.int .u8 (X[m].toNat:Int)] 5)).drew fun e w'=>e=.returned (.tuple #[.int .i64 3,.nilIface])/\mP w1 w' w1.heap.size ((Q++V)++[92,X[p],X[m]])/\Rest w1.heap.size (w7.alloc (.cells #[.int .u8 92,.int .u8 (X[p].toNat:Int),.int .u8 (X[m].toNat:Int)] 5)).drew w'):=
         ah (xk (m:=[92,X[p],X[m]]) (cap:=3) B8.out hg hgo (by rw[List.length_append];show _+3<=_;omega))
        clear hg hgo c1;go_region_held3 (fun _=>True) (exact trivial) ((go_at_call 176;refine HWR.out.mono ?_;rintro e w9 ⟨rfl,hb9,hr9⟩;have B9:=ah hb9;have G9:=ah (hr9.2 _ _ _ G8.out (by decide) (by omega));clear hb9 hr9))
        go_wp2_with fail
        all_goals
         refine ⟨⟨i+1,by omega,by go_num,ah (by rw[HV.out,Jy.out,←HEP.out,←HEM.out,←List.append_assoc];exact B9.out),G9⟩,?_⟩;simp[intOf];omega
       ·rw[hp]at Jw
        have Jy:Hid (wZ val[i]=[val[i]]):=ah (by unfold wZ;rw[hp];rfl);have HWB:=ah (Ep B7.out val[i] (by rw[List.length_append];omega));clear hp;go_wp2_with fail;refine (Jw.out _).mono ?_;rintro e w8 ⟨rfl,rfl⟩;go_wp2_with fail;refine HWB.out.mono ?_;rintro e w9 ⟨rfl,hb9,hr9⟩;have B9:=ah hb9;have G9:=ah (hr9.2 _ _ _ G7.out (by decide) (by omega));clear hb9 hr9 c1;go_wp2_with fail;go_roundw
        case rel=>exact ⟨i+1,by omega,by go_num,ah (by rw[HV.out,Jy.out,←List.append_assoc];exact B9.out),G9⟩
        case measure=>simp[intOf];omega
      ·have HQE:Hid (mP w1 w7 w1.heap.size (Q++gu val.data.toList)):=ah (by have h:=B7.out;rw[List.take_of_length_le (by rw[Array.length_toList];show val.size<=i;omega)]at h;exact h)
       have aav:(gu val.data.toList).length<=48:=by
        have:=z2V val.data.toList;have e2:val.data.toList.length=val.size:=Array.length_toList ..;omega
       have HW3:=ah (Zx HQE.out ⟨#[34]⟩ (by rw[List.length_append];show _+1<=_;omega));clear B7 c1;go_wp2_with fail;refine HW3.out.mono ?_;rintro e w8 ⟨rfl,hb8,hr8⟩;have B8:=ah hb8;clear hb8 hr8 HW3;go_wp2_with fail;go_roundw
       case rel=>exact ⟨k+1,by omega,by go_num,ah (by rw[HSQ.out,←List.append_assoc];exact B8.out)⟩
       case measure=>simp[intOf];omega
    ·have HS2:Hid (123::bodyT (l.take (k+1))=(123::T)++labT ⟨nm,val⟩):=ah (by rw[HS.out,if_pos (by omega)];simp)
     have HW2:=ah (Zx B4.out (nm++⟨#[61,34]⟩) (by rw[ByteArray.size_append];show (123::T).length+(nm.size+2)<=_;simp only[List.length_cons];omega));clear HS HB;go_wp2_with fail;refine HW2.out.mono ?_;rintro e w6 ⟨rfl,hb6,hr6⟩;obtain ⟨Q,hQ⟩:∃Q,Q=(123::T)++(nm.data.toList++[61,34]):=⟨_,rfl⟩;have B6:Hid (mP w1 w6 w1.heap.size Q):=ah (by rw[hQ];have h:=hb6;rw[Em]at h;exact h);have G6:=ah (hr6.2 _ _ _ G4.out (by decide) (by omega));clear hb6 hr6 HW2 B4 G4 p0 p1;have HSQ:Hid (123::bodyT (l.take (k+1))=Q++(gu val.data.toList++[34])):=ah (by rw[HS2.out,hQ];simp[labT])
     have hql:Q.length<=400:=by
      rw[hQ];have e2:nm.data.toList.length=nm.size:=Array.length_toList ..;simp only[List.length_append,List.length_cons,List.length_nil];omega
     have c1:w6.cell? ⟨w3.heap.size,1,none⟩=some (.string val):=G6.out.cell 1;have hl6:=G6.out.lt;clear hQ HS2 hbl;go_wp2_with fail;clear c1;go_loopw [30] (fun s30 wr=>∃i:Nat,i<=val.size/\s30=.int .i64 (i:Int)/\Hid (mP w1 wr w1.heap.size (Q++gu (val.data.toList.take i)))/\Hid (aG wr w3.heap.size 135 #[.string nm,.string val])) (fun s30 _=>val.size-(intOf s30).toNat)
     case atStart=>exact ⟨0,Nat.zero_le _,rfl,ah (by have h:=B6.out;rw[List.take_zero,show gu []=[] from rfl,List.append_nil];exact h),G6⟩
     case round=>
      obtain ⟨w7,rfl⟩:∃w7:World,w7=wr:=⟨_,rfl⟩;obtain ⟨i,hi,rfl,B7,G7⟩:=hrel;have c1:w7.cell? ⟨w3.heap.size,1,none⟩=some (.string val):=G7.out.cell 1;have hl7:=G7.out.lt;by_cases hil:i<val.size
      ·have HV:=ah (uO hil)
       have aav:(gu (val.data.toList.take i)).length<=3 * i:=by
        have:=z2V (val.data.toList.take i);rw[List.length_take]at this;omega
       have hc256:=val[i].toNat_lt;have Jw:=ah (z3F val[i].toNat (by omega));generalize hvt:gu (val.data.toList.take i)=V at *;cases hp:EU val[i].toNat
       ·rw[hp]at Jw
        have Jy:Hid (wZ val[i]=[92,kK (val[i].toNat / 16),kK (val[i].toNat % 16)]):=ah (by unfold wZ;rw[hp];rfl);clear hp;go_wp2_with fail;refine (Jw.out _).mono ?_;rintro e w8 ⟨rfl,rfl⟩;go_wp2_with fail;obtain ⟨X,hX⟩:∃X,X=NM:=⟨_,rfl⟩;have hXX:=hX;have HX:=ah hX.symm;unfold NM at HX;have hXs:X.size=16:=by rw[hX];rfl
        clear hX;obtain ⟨cc,hcc⟩:∃cc,cc=val[i].toNat:=⟨_,rfl⟩;rw[HX.out];obtain ⟨p,hp⟩:∃p,p=cc / 16:=⟨_,rfl⟩;obtain ⟨m,hm⟩:∃m,m=cc % 16:=⟨_,rfl⟩;have NP:cc<256:=by rw[hcc];omega
        rw[←hcc]at Jy;rw[←hcc];have hn1:p<X.size:=(by omega);have hn2:m<X.size:=(by omega);have HEP:=ah (show X[p]=kK p by subst hXX;exact KE (by omega));have HEM:=ah (show X[m]=kK m by subst hXX;exact KE (by omega));rw[←hp,←hm]at Jy;have k3:(cc:Int) / 16=(p:Int):=(by omega);have k4:=u8_and15 (x:=(cc:Int)) (by omega) (by omega);rw[show (cc:Int) % 16=(m:Int) by omega]at k4;have kn1:(p:Int)<(X.size:Int):=(by omega);have kn2:(m:Int)<(X.size:Int):=(by omega);have k7:cc % 16=m:=hm.symm;have k8:cc / 16=p:=hp.symm;clear hcc hp hm hXs hXX;have N8:=ah (((Ch.refl (fun _=>False) w7).alloc (.cells #[.int .u8 92,.int .u8 (X[p].toNat:Int),.int .u8 (X[m].toNat:Int)] 5)).drew);have B8:=ah (B7.out.tr N8.out);have G8:=ah (G7.out.nx N8.out);have hg:aG (w7.alloc (.cells #[.int .u8 92,.int .u8 (X[p].toNat:Int),.int .u8 (X[m].toNat:Int)] 5)).drew w7.heap.size 5 (Lib.byteCells [92,X[p],X[m]]).toArray:=(aG.new w7 5 _).drew
        have hgo:∀v,(w7.alloc (.cells #[.int .u8 92,.int .u8 (X[p].toNat:Int),.int .u8 (X[m].toNat:Int)] 5)).drew.cell? ⟨w1.heap.size,1,none⟩=some v->v.ownBlock≠some w7.heap.size:=by
         obtain ⟨p0,v0,_,hb0,o0,_⟩:=B7.out;intro v hv e;have h1:=(hb0.nx N8.out).cell 1;rw[h1]at hv;injection hv with hv;subst hv;have:=(o0.lt _ e).2;omega
        have HWR:Hid (Calls Tryz.prog 176 #[.pointer (some ⟨w1.heap.size,0,none⟩),.slice (some ⟨w7.heap.size,0,none⟩) 3 3] (w7.alloc (.cells #[.int .u8 92,.int .u8 (X[p].toNat:Int),.int .u8 (X[m].toNat:Int)] 5)).drew fun e w'=>e=.returned (.tuple #[.int .i64 3,.nilIface])/\mP w1 w' w1.heap.size ((Q++V)++[92,X[p],X[m]])/\Rest w1.heap.size (w7.alloc (.cells #[.int .u8 92,.int .u8 (X[p].toNat:Int),.int .u8 (X[m].toNat:Int)] 5)).drew w'):=
         ah (xk (m:=[92,X[p],X[m]]) (cap:=3) B8.out hg hgo (by rw[List.length_append];show _+3<=_;omega))
        clear hg hgo c1;go_region_held3 (fun _=>True) (exact trivial) ((go_at_call 176;refine HWR.out.mono ?_;rintro e w9 ⟨rfl,hb9,hr9⟩;have B9:=ah hb9;have G9:=ah (hr9.2 _ _ _ G8.out (by decide) (by omega));clear hb9 hr9))
        go_wp2_with fail
        all_goals
         refine ⟨⟨i+1,by omega,by go_num,ah (by rw[HV.out,Jy.out,←HEP.out,←HEM.out,←List.append_assoc];exact B9.out),G9⟩,?_⟩;simp[intOf];omega
       ·rw[hp]at Jw
        have Jy:Hid (wZ val[i]=[val[i]]):=ah (by unfold wZ;rw[hp];rfl);have HWB:=ah (Ep B7.out val[i] (by rw[List.length_append];omega));clear hp;go_wp2_with fail;refine (Jw.out _).mono ?_;rintro e w8 ⟨rfl,rfl⟩;go_wp2_with fail;refine HWB.out.mono ?_;rintro e w9 ⟨rfl,hb9,hr9⟩;have B9:=ah hb9;have G9:=ah (hr9.2 _ _ _ G7.out (by decide) (by omega));clear hb9 hr9 c1;go_wp2_with fail;go_roundw
        case rel=>exact ⟨i+1,by omega,by go_num,ah (by rw[HV.out,Jy.out,←List.append_assoc];exact B9.out),G9⟩
        case measure=>simp[intOf];omega
      ·have HQE:Hid (mP w1 w7 w1.heap.size (Q++gu val.data.toList)):=ah (by have h:=B7.out;rw[List.take_of_length_le (by rw[Array.length_toList];show val.size<=i;omega)]at h;exact h)
       have aav:(gu val.data.toList).length<=48:=by
        have:=z2V val.data.toList;have e2:val.data.toList.length=val.size:=Array.length_toList ..;omega
       have HW3:=ah (Zx HQE.out ⟨#[34]⟩ (by rw[List.length_append];show _+1<=_;omega));clear B7 c1;go_wp2_with fail;refine HW3.out.mono ?_;rintro e w8 ⟨rfl,hb8,hr8⟩;have B8:=ah hb8;clear hb8 hr8 HW3;go_wp2_with fail;go_roundw
       case rel=>exact ⟨k+1,by omega,by go_num,ah (by rw[HSQ.out,←List.append_assoc];exact B8.out)⟩
       case measure=>simp[intOf];omega
   ·have HT:Hid (bodyT (l.take k)=bodyT l):=ah (by rw[List.take_of_length_le (by omega)])
    rw[HT.out]at HB
    have hbl:(bodyT l).length<=300:=by
     have:=z5S (l:=l) Yr.out;omega
    have HB5:=ah (Zx HB.out ⟨#[125]⟩ (by show (123::bodyT l).length+1<=_;simp only[List.length_cons];omega));go_wp2_with fail;refine HB5.out.mono ?_;rintro e w6 ⟨rfl,hb6,hr6⟩;have HB6:=ah hb6;have HO:=ah (XV hb6 hb6.nx.size);clear hb6 hr6 HB5;go_wp2_with fail;refine HO.out.mono ?_;rintro e w7 ⟨rfl,hbw⟩;have HBW:=ah hbw;clear hbw HO;go_wp2_with fail;exact bodyPost_ret (v:=.tuple #[.string ⟨(123::bodyT l++[125]).toArray⟩,.int .i64 0]) (by simp[results,Tryz.results110,go_sem]) rfl ⟨by rw[HX.out];rfl,N1.out.tr (HB6.out.nx.trans (Ch.of_below HBW.out) (fun i hi hs=>by omega))⟩
end
end Go.Proofs.YtpakjclpjcngmaaGreat
