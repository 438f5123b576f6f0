/- Contracts and plain laws that the last text rests on. Conditions: each theorem states its own. -/
import Derived.Test.YtpakjclpjcngmaaGreatKbQ7
import Derived.Test.YtpakjclpjcngmaaGreatKbPcShl
import Derived.Test.YtpakjclpjcngmaaGreatKbQ6
set_option maxRecDepth 100000
set_option maxHeartbeats 8000000
set_option linter.unusedVariables false
namespace Go.Proofs.YtpakjclpjcngmaaGreat
open Go.RowKit Ps
def lW (x:List UInt8):Int:=match iY x with|some n=>(n:Int)|none=> -1
theorem z4T:∀x:List UInt8,Lib.index x [61,34]=lW x
 |[]=>rfl
 |a::r=>by
  have e:([61,34]:List UInt8).isPrefixOf (a::r)=(jc (a::r)).isSome:=by
   cases r with
   |nil=>simp[List.isPrefixOf,jc]
   |cons b y=>
    rw[z21]
    have h1:(61==a)=decide (a.toNat=61):=by
     rw[Bool.eq_iff_iff,beq_iff_eq,decide_eq_true_eq];exact ⟨fun h=>by rw[←h];rfl,fun h=>UInt8.toNat_inj.1 (by rw[h];rfl)⟩
    have h2:(34==b)=decide (b.toNat=34):=by
     rw[Bool.eq_iff_iff,beq_iff_eq,decide_eq_true_eq];exact ⟨fun h=>by rw[←h];rfl,fun h=>UInt8.toNat_inj.1 (by rw[h];rfl)⟩
    simp only[List.isPrefixOf,h1,h2];by_cases c1:a.toNat=61<;>by_cases c2:b.toNat=34<;>simp[c1,c2]
  unfold Lib.index;rw[e,z4T r];unfold lW;conv=>rhs;unfold iY
  cases hs:(jc (a::r)).isSome
  ·simp only[Bool.false_eq_true,if_false]
   cases hi:iY r with
   |none=>rfl
   |some n=>
    simp only[Option.map_some];rw[if_neg (by rw[beq_iff_eq];omega)];omega
  ·rfl
theorem z3v:∀(k:Nat) (x v r:List UInt8),x.length<=k->fG x=some (v,r)->r=x.drop (x.length-r.length)
 |k,[],v,r,_,h=>by rw[nK]at h;cases h
 |0,c::y,v,r,h,_=>by simp at h
 |k+1,c::y,v,r,hk,h=>by
  by_cases hc:c.toNat=34
  ·rw[z28 _ hc]at h
   injection h with h;injection h with _ h;subst h;rw[List.length_cons,show y.length+1-y.length=1 by omega];rfl
  ·cases ho:gG (c::y) with
   |none=>rw[YE hc ho]at h;cases h
   |some p=>
    obtain ⟨b,n⟩:=p;obtain ⟨l1,l2⟩:=YJ ho;rw[z27 hc ho]at h;cases hv:fG ((c::y).drop n) with
    |none=>rw[hv]at h;cases h
    |some q=>
     rw[hv]at h;obtain ⟨v',r'⟩:=q;injection h with h;injection h with _ h;simp only at h;subst h;have h1:=z3v k _ _ _ (by rw[List.length_drop];simp only[List.length_cons]at *;omega) hv;have h2:=Zw _ _ _ _ (Nat.le_refl _) hv;rw[List.length_drop]at h1 h2;rw[List.drop_drop,show n+((c::y).length-n-r'.length)=(c::y).length-r'.length by omega]at h1;exact h1
theorem nJ:∀(k:Nat) (x v r:List UInt8),x.length<=k->fG x=some (v,r)->v.length<x.length
 |k,[],v,r,_,h=>by rw[nK]at h;cases h
 |0,c::y,v,r,h,_=>by simp at h
 |k+1,c::y,v,r,hk,h=>by
  by_cases hc:c.toNat=34
  ·rw[z28 _ hc]at h
   injection h with h;injection h with h _;subst h;simp
  ·cases ho:gG (c::y) with
   |none=>rw[YE hc ho]at h;cases h
   |some p=>
    obtain ⟨b,n⟩:=p;obtain ⟨l1,l2⟩:=YJ ho;rw[z27 hc ho]at h;cases hv:fG ((c::y).drop n) with
    |none=>rw[hv]at h;cases h
    |some q=>
     rw[hv]at h;obtain ⟨v',r'⟩:=q;injection h with h;injection h with h _;simp only at h;subst h;have h1:=nJ k _ _ _ (by rw[List.length_drop];simp only[List.length_cons]at *;omega) hv;rw[List.length_drop]at h1;simp only[List.length_cons]at *;omega
theorem z4f (s:ByteArray) (i j:Nat):(s.extract i j).data.toList=(s.data.toList.drop i).take (j-i):=by
 simp[ByteArray.data_extract,List.extract]
theorem OL (s:ByteArray) (i n:Nat):s.extract i (i+n)=dZ ((s.data.toList.drop i).take n):=by
 apply ByteArray.ext
 apply Array.ext'
 rw[z4f];unfold dZ;simp
theorem Vx {s:ByteArray} {i:Nat} (h:i<s.size):s.data.toList[i]?=some s[i]:=by
 rw[List.getElem?_eq_getElem (by rw[xP];exact h)];rfl
def g_ (s:ByteArray) (w:World) (e:Ending) (w':World):Prop:=∃v k,e=.returned (.tuple #[v,.int .i64 k])/\
 match jC s.data.toList with
 |some l=>k=0/\ak w w' 135 2 v l.length (lbl l)/\∀x∈l,x.small
 |none=>k=4/\v=.slice none 0 0/\Nx w w'
theorem g_.bad {s:ByteArray} {w w':World} (h:jC s.data.toList=none) (hn:Nx w w'):g_ s w (.returned (.tuple #[.slice none 0 0,.int .i64 4])) w':=
 ⟨_,_,rfl,by rw[h];exact ⟨rfl,rfl,hn⟩⟩
theorem Tryz.Oc:(Tryz.prog.info? 135).map (fun i=>(i.zero,i.size,i.bytes))=some (some (.agg #[.string ⟨#[]⟩,.string ⟨#[]⟩]),2,32):=by kernel_rfl
theorem Rd.eF {w:World} (x:dL):Rd (w.alloc (.cells #[.string x.name,.string x.value] 135)) (· =w.heap.size) 2 (some ⟨w.heap.size,0,none⟩) 1 [.string x.name,.string x.value]:=by
 refine ⟨rfl,fun _=>⟨_,rfl,rfl,fun i u hu=>?_⟩⟩
 have hi:i<2:=by
  rcases Nat.lt_or_ge i 2 with h|h
  ·exact h
  ·rw[List.getElem?_eq_none h]at hu;cases hu
 have:=(aG.new w 135 #[.string x.name,.string x.value]).cell i;have e:(⟨w.heap.size,0,none⟩:Addr).add i=⟨w.heap.size,i,none⟩:=by unfold Addr.add;split<;>simp_all
 rw[e,this,←hu];simp
section
variable {w : World}
theorem parse_any (s:ByteArray) (hs:s.size<=1000000000) (m:Int) (hm:w.cell? ⟨0,0,none⟩=some (.int .i64 m)):
 Calls Tryz.prog 66 #[.string s] w (g_ s w):=by
 obtain ⟨i0,hi0,hz0,hz1,hz2⟩:=info_parts Tryz.Oc;have Hb:=ah (show 0<w.heap.size from by have:=World.block_lt_of_cell? w _ hm;exact this);have HM:=ah (fun (w':World) (c:Nx w w')=>(c.cell (p:=⟨0,0,none⟩) Hb.out).trans hm);have H0:=ah (ak.nil w w 135 2 (Ch.refl _ _));have Hn0:Hid (Nx w w):=ah (Ch.refl _ w);clear hm;by_cases h2:s.size<2
 ·have HR:=ah (show jC s.data.toList=none by unfold jC;rw[if_neg];rintro ⟨h,_⟩;rw[xP]at h;omega)
  go_enter Tryz.func66,Tryz.ntmps66;go_wp2_with fail;exact bodyPost_ret (v:=.tuple #[.slice none 0 0,.int .i64 4]) (by simp[results,Tryz.results66,go_sem]) rfl (g_.bad HR.out Hn0.out)
 ·have hp0:0<s.size:=by omega
  have hzl:s.size-1<s.size:=by omega
  have B0:=ah (Vx hp0);have Bl:=ah (Vx hzl);have hc0:=UInt8.toNat_lt s[0];have hcl:=UInt8.toNat_lt s[s.size-1];have kk1:IntKind.i64.wrap ((s.size:Int)-1)=((s.size-1:Nat):Int):=by rw[IntWalk.i64_in _ (by omega)];omega
  by_cases ha:s[0].toNat=123
  ·by_cases hb:s[s.size-1].toNat=125
   ·obtain ⟨T,hT⟩:∃T,T=s.extract 1 (s.size-1):=⟨_,rfl⟩
    have hTe:T.data.toList=(s.data.toList.drop 1).take (s.data.toList.length-2):=(by rw[hT,z4f,xP,show s.size-1-1=s.size-2 by omega]);have hTs:T.size<=s.size:=by rw[hT,ByteArray.size_extract];omega
    have HP:=ah (show jC s.data.toList=iK (s.size+1) (T.data.toList.drop 0) [] by
     unfold jC;rw[if_pos ⟨by rw[xP];omega,by rw[B0.out,←UInt8.toNat_inj.1 (show s[0].toNat=(123:UInt8).toNat from ha)],by rw[xP,Bl.out,←UInt8.toNat_inj.1 (show s[s.size-1].toNat=(125:UInt8).toNat from hb)]⟩,List.drop_zero,hTe,xP])
    have q1:((s[0].toNat:Int) !=123)=false:=by rw[bne_eq_false_iff_eq];omega
    have q2:((s[s.size-1].toNat:Int) !=125)=false:=by rw[bne_eq_false_iff_eq];omega
    clear ha hb hTe B0 Bl;go_enter Tryz.func66,Tryz.ntmps66;go_wp2_with fail;rw[←hT];have HT:=ah hT;clear hT;go_loopw [4,5] (fun s4 s5 wr=>∃(a f:Nat) (out:List dL),a<=T.size/\out.length<=5/\s5=.int .i64 (a:Int)/\T.size-a<f/\Hid (∀x∈out,x.small)/\Hid (ak w wr 135 2 s4 out.length (lbl out))/\Hid (jC s.data.toList=iK f (T.data.toList.drop a) out)) (fun s4 s5 _=>T.size-(intOf s5).toNat)
    case atStart=>exact ⟨0,s.size+1,[],Nat.zero_le _,by decide,rfl,by omega,ah (by intro x hx;cases hx),H0,HP⟩
    case round=>
     obtain ⟨w4,rfl⟩:∃w4:World,w4=wr:=⟨_,rfl⟩;obtain ⟨a,f,out,ha,ho,rfl,hf,Hs,Ho,Hp⟩:=hrel;obtain ⟨f,rfl⟩:∃f',f=f'+1:=⟨f-1,by omega⟩;obtain ⟨A7,c7,hu7,hc7,hm7⟩:=Ho.out.form;subst hu7;by_cases hlt:a<T.size
     ·have hln:∀(y:List UInt8),y=T.data.toList.drop a->y≠[]:=fun y hy he=>by
       have:=congrArg List.length (hy.symm.trans he);rw[List.length_drop,xP]at this;simp at this;omega
      by_cases ho0:0<out.length
      ·have HD:=ah (z2I hlt)
       have hcb:=UInt8.toNat_lt T[a];by_cases h44:T[a].toNat=44
       ·have q5:((T[a].toNat:Int) !=44)=false:=by rw[bne_eq_false_iff_eq];omega
        have HX:=ah (show jC s.data.toList=iW f (T.data.toList.drop (a+1)) out by
         rw[Hp.out,YK f out (hln _ rfl),if_neg (by intro he;rw[he]at ho0;simp at ho0),HD.out];show (match (if T[a].toNat=44 then some (T.data.toList.drop (a+1)) else none) with|none=>none|some y=>iW f y out)=_
         rw[if_pos h44])
        clear h44 HD Hp hln;have Tt:(T.data.toList.drop (a+1)).length=T.size-(a+1):=(by rw[List.length_drop,xP]);have HI:=ah (fun (w':World) (c:Nx w w')=>Tryz.strings_Index (T.extract (a+1) T.size) ⟨#[61,34]⟩ m w' (by rw[ByteArray.size_extract];omega) (HM.out w' c))
        have hie:Lib.index (T.extract (a+1) T.size).data.toList [61,34]=lW (T.data.toList.drop (a+1)):=by
         rw[z4T,z4f,List.take_of_length_le (by rw[Tt];exact Nat.le_refl _)]
        have Yr:=ah hie;clear hie;cases hi:iY (T.data.toList.drop (a+1)) with
        |none=>
         have hid:lW (T.data.toList.drop (a+1))= -1:=by unfold lW;rw[hi]
         have HR:=ah (show jC s.data.toList=none by rw[HX.out];unfold iW;rw[hi])
         have HJ:=ah (fun (w':World) (c:Nx w w')=>(show Calls Tryz.prog 143 #[.string (T.extract (a+1) T.size),.string ⟨#[61,34]⟩] w' (fun e w''=>e=.returned (.int .i64 (-1))/\w''=w') by
          have:=HI.out w' c;rw[Yr.out,hid]at this;exact this))
         clear hi hid Tt;go_wp2_with fail;with_reducible refine (HJ.out _ Ho.out.nx).mono ?_
         rintro e w5 ⟨rfl,rfl⟩;go_wp2_with fail;exact bodyPost_ret (v:=.tuple #[.slice none 0 0,.int .i64 4]) (by simp[results,Tryz.results66,go_sem]) rfl (g_.bad HR.out Ho.out.nx)
        |some n=>
         obtain ⟨z,e1,e2,e3⟩:=wZ hi;have hid:lW (T.data.toList.drop (a+1))=(n:Int):=by unfold lW;rw[hi]
         have hpn:a+1+n+2<=T.size:=by rw[Tt]at e3;omega
         have HJ:=ah (fun (w':World) (c:Nx w w')=>(show Calls Tryz.prog 143 #[.string (T.extract (a+1) T.size),.string ⟨#[61,34]⟩] w' (fun e w''=>e=.returned (.int .i64 (n:Int))/\w''=w') by
          have:=HI.out w' c;rw[Yr.out,hid]at this;exact this))
         have HK:=ah (show jC s.data.toList=if 4<out.length then none else match fG (T.data.toList.drop (a+1+n+2)) with
          |none=>none
          |some (v,r)=>iK f r (out++[⟨dZ ((T.data.toList.drop (a+1)).take n),dZ v⟩]) by
          rw[HX.out];unfold iW;rw[hi];simp only[List.drop_drop]
          all_goals (rw[show a+1+(n+2)=a+1+n+2 by omega]<;>rfl))
         clear hi hid Tt e1 e2 e3;by_cases h5:4<out.length
         ·have HR:=ah (show jC s.data.toList=none by rw[HK.out,if_pos h5])
          go_wp2_with fail;with_reducible refine (HJ.out _ Ho.out.nx).mono ?_
          rintro e w5 ⟨rfl,rfl⟩;go_wp2_with fail;exact bodyPost_ret (v:=.tuple #[.slice none 0 0,.int .i64 4]) (by simp[results,Tryz.results66,go_sem]) rfl (g_.bad HR.out Ho.out.nx)
         ·have HKK:=ah (HK.out.trans (if_neg h5))
          have HV:=ah (fun w'=>sJ (w:=w') T (a+1+n+2) hpn (by omega));have kv:(((a+1+n+2:Nat)):Int)=((a:Int)+1)+(n:Int)+2:=(by omega);rw[kv]at HV;have HNM:=ah (OL T (a+1) n);have kx:(((a:Int)+1)+(n:Int)).toNat=a+1+n:=(by omega);have kz1:(0:Int)<=((a:Int)+1)+(n:Int):=(by omega);have kz2:((a:Int)+1)+(n:Int)<=(T.size:Int):=(by omega);have kz3:((a:Int)+1)<=((a:Int)+1)+(n:Int):=(by omega);clear kv HI Yr HK HX;go_wp2_with fail;with_reducible refine (HJ.out _ Ho.out.nx).mono ?_
          rintro e w5 ⟨rfl,rfl⟩;go_wp2_with fail;with_reducible refine (HV.out _).mono ?_
          rintro e w6 ⟨v,n6,b6,rfl,hn6,hgood,hbad⟩;have HO6:=ah (Ho.out.tr hn6);cases hv:fG (T.data.toList.drop (a+1+n+2)) with
          |none=>
           obtain rfl:=hbad hv;have HR:=ah (show jC s.data.toList=none by rw[HKK.out,hv]);clear hgood hbad hv;go_wp2_with fail;exact bodyPost_ret (v:=.tuple #[.slice none 0 0,.int .i64 4]) (by simp[results,Tryz.results66,go_sem]) rfl (g_.bad HR.out HO6.out.nx)
          |some q=>
           obtain ⟨v',r⟩:=q;obtain ⟨rfl,rfl,rfl⟩:=hgood v' r hv;have hlr:=Zw _ _ _ _ (Nat.le_refl _) hv;have hsu:=z3v _ _ _ _ (Nat.le_refl _) hv;rw[List.length_drop,xP]at hlr hsu;rw[List.drop_drop,show a+1+n+2+(T.size-(a+1+n+2)-r.length)=T.size-r.length by omega]at hsu
           have HR:=ah (show jC s.data.toList=iK f (T.data.toList.drop (T.size-r.length)) (out++[⟨dZ ((T.data.toList.drop (a+1)).take n),dZ v'⟩]) by
            rw[HKK.out,hv,←hsu])
           rw[←HNM.out]at HR;have hvl:=nJ _ _ _ _ (Nat.le_refl _) hv;rw[List.length_drop,xP]at hvl
           have xX:=ah (show ∀x∈out++[(⟨T.extract (a+1) (a+1+n),dZ v'⟩:dL)],x.small by
            intro x hx;rcases List.mem_append.1 hx with hx|hx
            ·exact Hs.out x hx
            ·rw[List.mem_singleton]at hx
             subst hx;refine ⟨?_,?_⟩
             ·show (T.extract (a+1) (a+1+n)).size<=_
              rw[ByteArray.size_extract];omega
             ·show v'.toArray.size<=_
              rw[List.size_toArray];omega)
           have hle:((T.size-r.length:Nat):Int)<=(T.size:Int):=(by omega);clear hgood hbad hv hsu hvl HKK HNM;go_wp2_with (at_builtin;refine z05 rfl (.tmp 67) (.tmp 76) _ rfl 135 i0 _ 2 32 Tryz.underlying54 hi0 hz0 hz1 hz2 rfl (by omega) rfl (HO6.out.alloc _) _ (some ⟨w6.heap.size,0,none⟩) 1 1 _ rfl (Rd.eF (⟨T.extract (a+1) (a+1+n),dZ v'⟩:dL)) (by intro u hu;simp at hu;rcases hu with rfl|rfl<;>rfl) (by simp only[maxLen];omega) (by omega) ?_;intro v7 w7 o7 m7)
           have O7:=ah (show ak w w7 135 2 v7 (out++[(⟨T.extract (a+1) (a+1+n),dZ v'⟩:dL)]).length (lbl (out++[(⟨T.extract (a+1) (a+1+n),dZ v'⟩:dL)])) by
            rw[List.length_append,List.length_singleton];unfold lbl;rw[List.flatMap_append];exact o7)
           clear o7 m7;go_roundw
           case rel=>exact ⟨T.size-r.length,f,out++[(⟨T.extract (a+1) (a+1+n),dZ v'⟩:dL)],by omega,by simp;omega,by go_num,by omega,xX,O7,HR⟩
           case measure=>simp[intOf];omega
       ·have q5:((T[a].toNat:Int) !=44)=true:=by rw[bne_iff_ne];omega
        have HR:=ah (show jC s.data.toList=none by
         rw[Hp.out,YK f out (hln _ rfl),if_neg (by intro he;rw[he]at ho0;simp at ho0),HD.out];show (match (if T[a].toNat=44 then some (T.data.toList.drop (a+1)) else none) with|none=>none|some y=>iW f y out)=_
         rw[if_neg h44])
        clear h44 HD Hp hln;go_wp2_with fail;exact bodyPost_ret (v:=.tuple #[.slice none 0 0,.int .i64 4]) (by simp[results,Tryz.results66,go_sem]) rfl (g_.bad HR.out Ho.out.nx)
      ·have HX:=ah (show jC s.data.toList=iW f (T.data.toList.drop a) out by
        rw[Hp.out,YK f out (hln _ rfl),if_pos (List.eq_nil_of_length_eq_zero (by omega))])
       clear Hp hln;have Tt:(T.data.toList.drop (a)).length=T.size-(a):=(by rw[List.length_drop,xP]);have HI:=ah (fun (w':World) (c:Nx w w')=>Tryz.strings_Index (T.extract (a) T.size) ⟨#[61,34]⟩ m w' (by rw[ByteArray.size_extract];omega) (HM.out w' c))
       have hie:Lib.index (T.extract (a) T.size).data.toList [61,34]=lW (T.data.toList.drop (a)):=by
        rw[z4T,z4f,List.take_of_length_le (by rw[Tt];exact Nat.le_refl _)]
       have Yr:=ah hie;clear hie;cases hi:iY (T.data.toList.drop (a)) with
       |none=>
        have hid:lW (T.data.toList.drop (a))= -1:=by unfold lW;rw[hi]
        have HR:=ah (show jC s.data.toList=none by rw[HX.out];unfold iW;rw[hi])
        have HJ:=ah (fun (w':World) (c:Nx w w')=>(show Calls Tryz.prog 143 #[.string (T.extract (a) T.size),.string ⟨#[61,34]⟩] w' (fun e w''=>e=.returned (.int .i64 (-1))/\w''=w') by
         have:=HI.out w' c;rw[Yr.out,hid]at this;exact this))
        clear hi hid Tt;go_wp2_with fail;with_reducible refine (HJ.out _ Ho.out.nx).mono ?_
        rintro e w5 ⟨rfl,rfl⟩;go_wp2_with fail;exact bodyPost_ret (v:=.tuple #[.slice none 0 0,.int .i64 4]) (by simp[results,Tryz.results66,go_sem]) rfl (g_.bad HR.out Ho.out.nx)
       |some n=>
        obtain ⟨z,e1,e2,e3⟩:=wZ hi;have hid:lW (T.data.toList.drop (a))=(n:Int):=by unfold lW;rw[hi]
        have hpn:a+n+2<=T.size:=by rw[Tt]at e3;omega
        have HJ:=ah (fun (w':World) (c:Nx w w')=>(show Calls Tryz.prog 143 #[.string (T.extract (a) T.size),.string ⟨#[61,34]⟩] w' (fun e w''=>e=.returned (.int .i64 (n:Int))/\w''=w') by
         have:=HI.out w' c;rw[Yr.out,hid]at this;exact this))
        have HK:=ah (show jC s.data.toList=if 4<out.length then none else match fG (T.data.toList.drop (a+n+2)) with
         |none=>none
         |some (v,r)=>iK f r (out++[⟨dZ ((T.data.toList.drop (a)).take n),dZ v⟩]) by
         rw[HX.out];unfold iW;rw[hi];simp only[List.drop_drop]
         all_goals (rw[show a+(n+2)=a+n+2 by omega]<;>rfl))
        clear hi hid Tt e1 e2 e3;by_cases h5:4<out.length
        ·exfalso;omega
        ·have HKK:=ah (HK.out.trans (if_neg h5))
         have HV:=ah (fun w'=>sJ (w:=w') T (a+n+2) hpn (by omega));have kv:(((a+n+2:Nat)):Int)=(a:Int)+(n:Int)+2:=(by omega);rw[kv]at HV;have HNM:=ah (OL T (a) n);have kx:((a:Int)+(n:Int)).toNat=a+n:=(by omega);have kz1:(0:Int)<=(a:Int)+(n:Int):=(by omega);have kz2:(a:Int)+(n:Int)<=(T.size:Int):=(by omega);have kz3:(a:Int)<=(a:Int)+(n:Int):=(by omega);clear kv HI Yr HK HX;go_wp2_with fail;with_reducible refine (HJ.out _ Ho.out.nx).mono ?_
         rintro e w5 ⟨rfl,rfl⟩;go_wp2_with fail;with_reducible refine (HV.out _).mono ?_
         rintro e w6 ⟨v,n6,b6,rfl,hn6,hgood,hbad⟩;have HO6:=ah (Ho.out.tr hn6);cases hv:fG (T.data.toList.drop (a+n+2)) with
         |none=>
          obtain rfl:=hbad hv;have HR:=ah (show jC s.data.toList=none by rw[HKK.out,hv]);clear hgood hbad hv;go_wp2_with fail;exact bodyPost_ret (v:=.tuple #[.slice none 0 0,.int .i64 4]) (by simp[results,Tryz.results66,go_sem]) rfl (g_.bad HR.out HO6.out.nx)
         |some q=>
          obtain ⟨v',r⟩:=q;obtain ⟨rfl,rfl,rfl⟩:=hgood v' r hv;have hlr:=Zw _ _ _ _ (Nat.le_refl _) hv;have hsu:=z3v _ _ _ _ (Nat.le_refl _) hv;rw[List.length_drop,xP]at hlr hsu;rw[List.drop_drop,show a+n+2+(T.size-(a+n+2)-r.length)=T.size-r.length by omega]at hsu
          have HR:=ah (show jC s.data.toList=iK f (T.data.toList.drop (T.size-r.length)) (out++[⟨dZ ((T.data.toList.drop (a)).take n),dZ v'⟩]) by
           rw[HKK.out,hv,←hsu])
          rw[←HNM.out]at HR;have hvl:=nJ _ _ _ _ (Nat.le_refl _) hv;rw[List.length_drop,xP]at hvl
          have xX:=ah (show ∀x∈out++[(⟨T.extract (a) (a+n),dZ v'⟩:dL)],x.small by
           intro x hx;rcases List.mem_append.1 hx with hx|hx
           ·exact Hs.out x hx
           ·rw[List.mem_singleton]at hx
            subst hx;refine ⟨?_,?_⟩
            ·show (T.extract (a) (a+n)).size<=_
             rw[ByteArray.size_extract];omega
            ·show v'.toArray.size<=_
             rw[List.size_toArray];omega)
          have hle:((T.size-r.length:Nat):Int)<=(T.size:Int):=(by omega);clear hgood hbad hv hsu hvl HKK HNM;go_wp2_with (at_builtin;refine z05 rfl (.tmp 67) (.tmp 76) _ rfl 135 i0 _ 2 32 Tryz.underlying54 hi0 hz0 hz1 hz2 rfl (by omega) rfl (HO6.out.alloc _) _ (some ⟨w6.heap.size,0,none⟩) 1 1 _ rfl (Rd.eF (⟨T.extract (a) (a+n),dZ v'⟩:dL)) (by intro u hu;simp at hu;rcases hu with rfl|rfl<;>rfl) (by simp only[maxLen];omega) (by omega) ?_;intro v7 w7 o7 m7)
          have O7:=ah (show ak w w7 135 2 v7 (out++[(⟨T.extract (a) (a+n),dZ v'⟩:dL)]).length (lbl (out++[(⟨T.extract (a) (a+n),dZ v'⟩:dL)])) by
           rw[List.length_append,List.length_singleton];unfold lbl;rw[List.flatMap_append];exact o7)
          clear o7 m7;go_roundw
          case rel=>exact ⟨T.size-r.length,f,out++[(⟨T.extract (a) (a+n),dZ v'⟩:dL)],by omega,by simp;omega,by go_num,by omega,xX,O7,HR⟩
          case measure=>simp[intOf];omega
     ·have hae:a=T.size:=by omega
      have HX:=ah (show jC s.data.toList=if aZ out=true then some out else none by
       rw[Hp.out];unfold iK;rw[if_pos (List.drop_of_length_le (by rw[xP];omega))])
      have HC:=ah (z4E (w:=w4) (c:=c7) Ho.out.rd rfl (by omega) Hs.out);clear hae;go_wp2_with fail;refine HC.out.mono ?_;rintro e w5 ⟨rfl,hn5⟩;have H5:=ah (Ho.out.tr hn5);clear hn5;cases hr:aZ out
      ·rw[hr]at HX
       go_wp2_with fail;exact bodyPost_ret (v:=.tuple #[.slice none 0 0,.int .i64 4]) (by simp[results,Tryz.results66,go_sem]) rfl (g_.bad HX.out H5.out.nx)
      ·rw[hr]at HX
       go_wp2_with fail;refine bodyPost_ret (v:=.tuple #[.slice A7 out.length c7,.int .i64 0]) (by simp[results,Tryz.results66,go_sem]) rfl ⟨_,_,rfl,?_⟩;rw[HX.out];exact ⟨rfl,H5.out,Hs.out⟩
   ·have HR:=ah (show jC s.data.toList=none by
     unfold jC;rw[if_neg];rintro ⟨_,_,h⟩;rw[xP,Bl.out]at h;injection h with h;rw[h]at hb;exact hb rfl)
    have q1:((s[0].toNat:Int) !=123)=false:=by rw[bne_eq_false_iff_eq];omega
    have q2:((s[s.size-1].toNat:Int) !=125)=true:=by rw[bne_iff_ne];omega
    clear ha hb;go_enter Tryz.func66,Tryz.ntmps66;go_wp2_with fail;exact bodyPost_ret (v:=.tuple #[.slice none 0 0,.int .i64 4]) (by simp[results,Tryz.results66,go_sem]) rfl (g_.bad HR.out Hn0.out)
  ·have HR:=ah (show jC s.data.toList=none by
    unfold jC;rw[if_neg];rintro ⟨_,h,_⟩;rw[B0.out]at h;injection h with h;rw[h]at ha;exact ha rfl)
   have q1:((s[0].toNat:Int) !=123)=true:=by rw[bne_iff_ne];omega
   clear ha;go_enter Tryz.func66,Tryz.ntmps66;go_wp2_with fail;exact bodyPost_ret (v:=.tuple #[.slice none 0 0,.int .i64 4]) (by simp[results,Tryz.results66,go_sem]) rfl (g_.bad HR.out Hn0.out)
end
def zX (n:Nat):Nat:=if n<10 then 48+n else 87+n
def KO (c:Nat):List Nat:=if mQ c=true then [c] else [92,zX (c / 16),zX (c % 16)]
def GU:ByteArray:=⟨#[48,49,50,51,52,53,54,55,56,57,97,98,99,100,101,102]⟩
theorem Oq:∀(n:Nat) (h:n<GU.size),GU[n].toNat=zX n:=by
 intro n h;have h2:n<16:=h;have h3:n=0∨n=1∨n=2∨n=3∨n=4∨n=5∨n=6∨n=7∨n=8∨n=9∨n=10∨n=11∨n=12∨n=13∨n=14∨n=15:=by omega
 rcases h3 with rfl|rfl|rfl|rfl|rfl|rfl|rfl|rfl|rfl|rfl|rfl|rfl|rfl|rfl|rfl|rfl<;>rfl
theorem Rd.aal (w:World) (cs:Array Value) (t:TypeId):Rd (w.alloc (.cells cs t)) (fun k=>k=w.heap.size) 1 (some ⟨w.heap.size,0,none⟩) cs.size cs.toList:=by
 refine ⟨by simp,fun _=>⟨_,rfl,rfl,fun j u hu=>?_⟩⟩
 have ea:(Addr.mk w.heap.size 0 none).add j=⟨w.heap.size,j,none⟩:=by
  unfold Addr.add;split
  ·next e=>rw[e]
  ·simp
 rw[ea,cell_of_row _ w.heap.size j cs t (0,0) (heap_alloc_new w _)];simpa using hu
theorem Np (c:Nat):(mQ c=true/\(32:Int)<=c/\(c:Int)<=126/\((c:Int) !=34)=true/\((c:Int) !=92)=true)∨(mQ c=false/\¬(32:Int)<=c)∨(mQ c=false/\(32:Int)<=c/\¬(c:Int)<=126)∨
 (mQ c=false/\(32:Int)<=c/\(c:Int)<=126/\((c:Int) !=34)=false)∨(mQ c=false/\(32:Int)<=c/\(c:Int)<=126/\((c:Int) !=34)=true/\((c:Int) !=92)=false):=by
 by_cases a:32<=c/\c<=126/\c≠34/\c≠92
 ·exact .inl ⟨decide_eq_true a,by omega,by omega,by rw[bne_iff_ne];omega,by rw[bne_iff_ne];omega⟩
 ·have hf:mQ c=false:=decide_eq_false a
  by_cases b1:32<=c
  ·by_cases b2:c<=126
   ·by_cases b3:c=34
    ·exact .inr (.inr (.inr (.inl ⟨hf,by omega,by omega,by rw[bne_eq_false_iff_eq];omega⟩)))
    ·exact .inr (.inr (.inr (.inr ⟨hf,by omega,by omega,by rw[bne_iff_ne];omega,by rw[bne_eq_false_iff_eq];omega⟩)))
   ·exact .inr (.inr (.inl ⟨hf,by omega,by omega⟩))
  ·exact .inr (.inl ⟨hf,by omega⟩)
section
variable {w : World}
theorem PO (c:Nat) (hc:c<256):Calls Tryz.prog 155 #[.int .u8 (c:Int)] w fun e w'=>e=.returned (.string (bf (KO c)))/\Nx w w':=by
 have hstr:=fun (D:Nat->Prop) (A:Option Addr) (n c:Nat) (t:List Nat) (w:World) (h:Rd w D 1 A n (bl t))=>vI (P:=Tryz.prog) w 26 9 5 Tryz.underlying26 Tryz.underlying5 Tryz.underlying9 D A n c t h;have FI:=ah hstr;clear hstr;rcases Np c with ⟨hp,q⟩|⟨hp,q⟩|⟨hp,q⟩|⟨hp,q⟩|⟨hp,q⟩
 ·obtain ⟨q1,q2,q3,q4⟩:=q
  have hr:Hid (KO c=[c]):=ah (if_pos hp);have hs:=FI.out _ (some ⟨w.heap.size,0,none⟩) 1 1 [c] _ (Rd.aal w #[.int .u8 (c:Int)] 5);clear hp;go_enter Tryz.func155,Tryz.ntmps155;go_wp2_with fail;go_ret;exact ⟨by rw[hr.out];rfl,(Ch.refl _ w).alloc _⟩
 all_goals
  have hr:Hid (KO c=[92,zX (c / 16),zX (c % 16)]):=ah (by unfold KO;rw[hp];rfl);clear hp;obtain ⟨X,hX⟩:∃X,X=GU:=⟨_,rfl⟩;have hXs:X.size=16:=by rw[hX];rfl
  obtain ⟨p,hp⟩:∃p,p=c / 16:=⟨_,rfl⟩;obtain ⟨m,hm⟩:∃m,m=c % 16:=⟨_,rfl⟩;rw[←hp,←hm]at hr;have hn1:p<X.size:=by omega
  have hn2:m<X.size:=by omega
  have e1:X[p].toNat=zX p:=by subst hX;exact Oq _ hn1
  have e2:X[m].toNat=zX m:=by subst hX;exact Oq _ hn2
  have HE:=ah (And.intro e1 e2);have HX:=ah hX.symm;unfold GU at HX;clear hX e1 e2;have k3:(c:Int) / 16=(p:Int):=by omega
  have k4:(c:Int) % 16=(m:Int):=by omega
  have k1:IntKind.u8.wrap (p:Int)=(p:Int):=by rw[IntWalk.u8_in _ (by omega)]
  have k2:IntKind.u8.wrap (m:Int)=(m:Int):=by rw[IntWalk.u8_in _ (by omega)]
  have k5:IntKind.u8.wrap ((c:Int).tdiv 16)=(p:Int):=by rw[IntWalk.u8_quo _ _ (by omega)];omega
  have k6:(c:Int).tmod 16=(m:Int):=by rw[Int.tmod_eq_emod_of_nonneg (by omega),k4]
  have kn1:(p:Int)<(X.size:Int):=by omega
  have kn2:(m:Int)<(X.size:Int):=by omega
  have hs:=FI.out _ (some ⟨w.heap.size,0,none⟩) 3 3 [92,X[p].toNat,X[m].toNat] (w.alloc (.cells #[.int .u8 92,.int .u8 (X[p].toNat:Int),.int .u8 (X[m].toNat:Int)] 5)).drew ((Rd.aal w #[.int .u8 92,.int .u8 (X[p].toNat:Int),.int .u8 (X[m].toNat:Int)] 5).ch (by decide) ((Ch.refl (fun _=>False) _).drew) (fun _ _ _ hf=>hf));have k7:c % 16=m:=hm.symm;have k8:c / 16=p:=hp.symm;clear hp hm;clear hXs
  try obtain ⟨q1,q2⟩:=q
  try obtain ⟨q2,q3⟩:=q2
  try obtain ⟨q3,q4⟩:=q3
  go_enter Tryz.func155,Tryz.ntmps155;go_wp2_with fail;rw[HX.out];refine Lh (fun _=>True) (fun _=>false) rfl trivial (fun hS0=>?_);refine z00 (i:=0) (oi:=_) (v:=?_) rfl (fun _ _ _ h=>h) (Or.inl ⟨by rfl,?_⟩) ?_;rotate_left
  ·(intro w hSw;(try dsimp only at hSw);go_split_ands;go_simp;try with_reducible rfl)
  try simp only[Act.put,List.setIfInBounds_toArray]
  refine z00 (i:=1) (oi:=_) (v:=?_) rfl (fun _ _ _ h=>h) (Or.inl ⟨by rfl,?_⟩) ?_;rotate_left
  ·(intro w hSw;(try dsimp only at hSw);go_split_ands;go_simp;try with_reducible rfl)
  try simp only[Act.put]
  refine z00 (i:=2) (oi:=_) (v:=?_) rfl (fun _ _ _ h=>h) (Or.inl ⟨by rfl,?_⟩) ?_;rotate_left
  ·(intro w hSw;(try dsimp only at hSw);go_split_ands;go_simp;try with_reducible rfl)
  try simp only[Act.put]
  refine z00 (i:=3) (oi:=_) (v:=?_) rfl (fun _ _ _ h=>h) (Or.inl ⟨by rfl,?_⟩) ?_;rotate_left
  ·(intro w hSw;(try dsimp only at hSw);go_split_ands;go_simp;try with_reducible rfl)
  try simp only[Act.put]
  refine z00 (i:=4) (oi:=_) (v:=?_) rfl (fun _ _ _ h=>h) (Or.inl ⟨by rfl,?_⟩) ?_;rotate_left
  ·(intro w hSw;(try dsimp only at hSw);go_split_ands;go_simp;try with_reducible rfl)
  try simp only[Act.put]
  refine z00 (i:=5) (oi:=_) (v:=?_) rfl (fun _ _ _ h=>h) (Or.inl ⟨by rfl,?_⟩) ?_;rotate_left
  ·(intro w hSw;(try dsimp only at hSw);go_split_ands;go_simp;try with_reducible rfl)
  try simp only[Act.put]
  refine z00 (i:=6) (oi:=_) (v:=?_) rfl (fun _ _ _ h=>h) (Or.inl ⟨by rfl,?_⟩) ?_;rotate_left
  ·(intro w hSw;(try dsimp only at hSw);go_split_ands;go_simp;try with_reducible rfl)
  try simp only[Act.put]
  refine z00 (i:=7) (oi:=_) (v:=?_) rfl (fun _ _ _ h=>h) (Or.inl ⟨by rfl,?_⟩) ?_;rotate_left
  ·(intro w hSw;(try dsimp only at hSw);go_split_ands;go_simp;try with_reducible rfl)
  try simp only[Act.put]
  refine z02 (rs:=[8]) (by kernel_rfl) (by simp) (z01.cons (o:=_) rfl (fun K hK=>?_) z01.nil);go_simp;go_wp2_with fail;refine hK.out _ _ (fun _=>trivial) (fun au=>?_);have hHeld:=au (by decide);clear hK K au
  try simp only[Act.put]
  refine z02 (rs:=[9]) (by kernel_rfl) (by simp) (z01.cons (o:=_) rfl (fun K hK=>?_) z01.nil);go_simp;go_wp2_with fail;refine hK.out _ _ (fun _=>trivial) (fun au=>?_);have hHeld:=au (by decide);clear hK K au
  try simp only[Act.put]
  refine z02 (rs:=[10]) (by kernel_rfl) (by simp) (z01.cons (o:=_) rfl (fun K hK=>?_) z01.nil);go_simp;refine hK.out _ _ (fun _=>trivial) (fun au=>?_);clear hK K au
  try simp only[Act.put]
  refine CX (by kernel_rfl) ?_ _;go_wp2_with fail;go_ret;exact ⟨by rw[hr.out,←HE.out.1,←HE.out.2];rfl,((Ch.refl _ w).drew).alloc _⟩
end
end Go.Proofs.YtpakjclpjcngmaaGreat
