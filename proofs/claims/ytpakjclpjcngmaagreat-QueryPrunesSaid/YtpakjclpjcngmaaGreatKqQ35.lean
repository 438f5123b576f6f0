/- Contracts and plain laws that the last text rests on. Conditions: each theorem states its own. -/
import Derived.Test.YtpakjclpjcngmaaGreatKqQ33
import Derived.Test.YtpakjclpjcngmaaGreatKqQ18
import Derived.Test.YtpakjclpjcngmaaGreatKqPbShl
import Derived.Test.YtpakjclpjcngmaaGreatKqQ34
set_option maxRecDepth 100000
set_option maxHeartbeats 16000000
set_option linter.unusedVariables false
namespace Go.Proofs.YtpakjclpjcngmaaGreat
open Go.RowKit Ps
def nG (x:List UInt8):Int:=match jA x with|some n=>(n:Int)|none=> -1
theorem z5v:∀x:List UInt8,Lib.index x [61,34]=nG x
 |[]=>rfl
 |a::r=>by
  have e:([61,34]:List UInt8).isPrefixOf (a::r)=(jC (a::r)).isSome:=by
   cases r with
   |nil=>simp[List.isPrefixOf,jC]
   |cons b y=>
    rw[z2p]
    have h1:(61==a)=decide (a.toNat=61):=by
     rw[Bool.eq_iff_iff,beq_iff_eq,decide_eq_true_eq];exact ⟨fun h=>by rw[←h];rfl,fun h=>UInt8.toNat_inj.1 (by rw[h];rfl)⟩
    have h2:(34==b)=decide (b.toNat=34):=by
     rw[Bool.eq_iff_iff,beq_iff_eq,decide_eq_true_eq];exact ⟨fun h=>by rw[←h];rfl,fun h=>UInt8.toNat_inj.1 (by rw[h];rfl)⟩
    simp only[List.isPrefixOf,h1,h2];by_cases c1:a.toNat=61<;>by_cases c2:b.toNat=34<;>simp[c1,c2]
  unfold Lib.index;rw[e,z5v r];unfold nG;conv=>rhs;unfold jA
  cases hs:(jC (a::r)).isSome
  ·simp only[Bool.false_eq_true,if_false]
   cases hi:jA r with
   |none=>rfl
   |some n=>
    simp only[Option.map_some];rw[if_neg (by rw[beq_iff_eq];omega)];omega
  ·rfl
theorem z3U:∀(k:Nat) (x v r:List UInt8),x.length<=k->fH x=some (v,r)->r=x.drop (x.length-r.length)
 |k,[],v,r,_,h=>by rw[oU]at h;cases h
 |0,c::y,v,r,h,_=>by simp at h
 |k+1,c::y,v,r,hk,h=>by
  by_cases hc:c.toNat=34
  ·rw[Zr _ hc]at h
   injection h with h;injection h with _ h;subst h;rw[List.length_cons,show y.length+1-y.length=1 by omega];rfl
  ·cases ho:iy (c::y) with
   |none=>rw[z2W hc ho]at h;cases h
   |some p=>
    obtain ⟨b,n⟩:=p;obtain ⟨l1,l2⟩:=z33 ho;rw[Zt hc ho]at h;cases hv:fH ((c::y).drop n) with
    |none=>rw[hv]at h;cases h
    |some q=>
     rw[hv]at h;obtain ⟨v',r'⟩:=q;injection h with h;injection h with _ h;simp only at h;subst h;have h1:=z3U k _ _ _ (by rw[List.length_drop];simp only[List.length_cons]at *;omega) hv;have h2:=z4U _ _ _ _ (Nat.le_refl _) hv;rw[List.length_drop]at h1 h2;rw[List.drop_drop,show n+((c::y).length-n-r'.length)=(c::y).length-r'.length by omega]at h1;exact h1
theorem oQ:∀(k:Nat) (x v r:List UInt8),x.length<=k->fH x=some (v,r)->v.length<x.length
 |k,[],v,r,_,h=>by rw[oU]at h;cases h
 |0,c::y,v,r,h,_=>by simp at h
 |k+1,c::y,v,r,hk,h=>by
  by_cases hc:c.toNat=34
  ·rw[Zr _ hc]at h
   injection h with h;injection h with h _;subst h;simp
  ·cases ho:iy (c::y) with
   |none=>rw[z2W hc ho]at h;cases h
   |some p=>
    obtain ⟨b,n⟩:=p;obtain ⟨l1,l2⟩:=z33 ho;rw[Zt hc ho]at h;cases hv:fH ((c::y).drop n) with
    |none=>rw[hv]at h;cases h
    |some q=>
     rw[hv]at h;obtain ⟨v',r'⟩:=q;injection h with h;injection h with h _;simp only at h;subst h;have h1:=oQ k _ _ _ (by rw[List.length_drop];simp only[List.length_cons]at *;omega) hv;rw[List.length_drop]at h1;simp only[List.length_cons]at *;omega
theorem z4L (s:ByteArray) (i j:Nat):(s.extract i j).data.toList=(s.data.toList.drop i).take (j-i):=by
 simp[ByteArray.data_extract,List.extract]
theorem TD (s:ByteArray) (i n:Nat):s.extract i (i+n)=iW ((s.data.toList.drop i).take n):=by
 apply ByteArray.ext
 apply Array.ext'
 rw[z4L];unfold iW;simp
theorem YU {s:ByteArray} {i:Nat} (h:i<s.size):s.data.toList[i]?=some s[i]:=by
 rw[List.getElem?_eq_getElem (by rw[zZ];exact h)];rfl
def iI (s:ByteArray) (w:World) (e:Ending) (w':World):Prop:=∃v k,e=.returned (.tuple #[v,.int .i64 k])/\
 match jT s.data.toList with
 |some l=>k=0/\aA w w' 135 2 v l.length (lbl l)/\∀x∈l,x.small
 |none=>k=4/\v=.slice none 0 0/\Nx w w'
theorem iI.bad {s:ByteArray} {w w':World} (h:jT s.data.toList=none) (hn:Nx w w'):iI s w (.returned (.tuple #[.slice none 0 0,.int .i64 4])) w':=
 ⟨_,_,rfl,by rw[h];exact ⟨rfl,rfl,hn⟩⟩
theorem Tryz.Sl:(Tryz.prog.info? 135).map (fun i=>(i.zero,i.size,i.bytes))=some (some (.agg #[.string ⟨#[]⟩,.string ⟨#[]⟩]),2,32):=by kernel_rfl
theorem Rd.jw {w:World} (x:dP):Rd (w.alloc (.cells #[.string x.name,.string x.value] 135)) (· =w.heap.size) 2 (some ⟨w.heap.size,0,none⟩) 1 [.string x.name,.string x.value]:=by
 refine ⟨rfl,fun _=>⟨_,rfl,rfl,fun i u hu=>?_⟩⟩
 have hi:i<2:=by
  rcases Nat.lt_or_ge i 2 with h|h
  ·exact h
  ·rw[List.getElem?_eq_none h]at hu;cases hu
 have:=(aG.new w 135 #[.string x.name,.string x.value]).cell i;have e:(⟨w.heap.size,0,none⟩:Addr).add i=⟨w.heap.size,i,none⟩:=by unfold Addr.add;split<;>simp_all
 rw[e,this,←hu];simp
section
variable {w : World}
theorem parse_any (s:ByteArray) (hs:s.size<=1000000000) (m:Int) (hm:w.cell? ⟨0,0,none⟩=some (.int .i64 m)):
 Calls Tryz.prog 66 #[.string s] w (iI s w):=by
 obtain ⟨i0,hi0,hz0,hz1,hz2⟩:=info_parts Tryz.Sl;have Hb:=ah (show 0<w.heap.size from by have:=World.block_lt_of_cell? w _ hm;exact this);have HM:=ah (fun (w':World) (c:Nx w w')=>(c.cell (p:=⟨0,0,none⟩) Hb.out).trans hm);have H0:=ah (aA.nil w w 135 2 (Ch.refl _ _));have Hn0:Hid (Nx w w):=ah (Ch.refl _ w);clear hm;by_cases h2:s.size<2
 ·have HR:=ah (show jT s.data.toList=none by unfold jT;rw[if_neg];rintro ⟨h,_⟩;rw[zZ]at h;omega)
  go_enter Tryz.func66,Tryz.ntmps66;go_wp2_with fail;exact bodyPost_ret (v:=.tuple #[.slice none 0 0,.int .i64 4]) (by simp[results,Tryz.results66,go_sem]) rfl (iI.bad HR.out Hn0.out)
 ·have hp0:0<s.size:=by omega
  have hzl:s.size-1<s.size:=by omega
  have B0:=ah (YU hp0);have Bl:=ah (YU hzl);have hc0:=UInt8.toNat_lt s[0];have hcl:=UInt8.toNat_lt s[s.size-1];have kk1:IntKind.i64.wrap ((s.size:Int)-1)=((s.size-1:Nat):Int):=by rw[IntWalk.i64_in _ (by omega)];omega
  by_cases ha:s[0].toNat=123
  ·by_cases hb:s[s.size-1].toNat=125
   ·obtain ⟨T,hT⟩:∃T,T=s.extract 1 (s.size-1):=⟨_,rfl⟩
    have hTe:T.data.toList=(s.data.toList.drop 1).take (s.data.toList.length-2):=(by rw[hT,z4L,zZ,show s.size-1-1=s.size-2 by omega]);have hTs:T.size<=s.size:=by rw[hT,ByteArray.size_extract];omega
    have HP:=ah (show jT s.data.toList=iV (s.size+1) (T.data.toList.drop 0) [] by
     unfold jT;rw[if_pos ⟨by rw[zZ];omega,by rw[B0.out,←UInt8.toNat_inj.1 (show s[0].toNat=(123:UInt8).toNat from ha)],by rw[zZ,Bl.out,←UInt8.toNat_inj.1 (show s[s.size-1].toNat=(125:UInt8).toNat from hb)]⟩,List.drop_zero,hTe,zZ])
    have q1:((s[0].toNat:Int) !=123)=false:=by rw[bne_eq_false_iff_eq];omega
    have q2:((s[s.size-1].toNat:Int) !=125)=false:=by rw[bne_eq_false_iff_eq];omega
    clear ha hb hTe B0 Bl;go_enter Tryz.func66,Tryz.ntmps66;go_wp2_with fail;rw[←hT];have HT:=ah hT;clear hT;go_loopw [4,5] (fun s4 s5 wr=>∃(a f:Nat) (out:List dP),a<=T.size/\out.length<=5/\s5=.int .i64 (a:Int)/\T.size-a<f/\Hid (∀x∈out,x.small)/\Hid (aA w wr 135 2 s4 out.length (lbl out))/\Hid (jT s.data.toList=iV f (T.data.toList.drop a) out)) (fun s4 s5 _=>T.size-(intOf s5).toNat)
    case atStart=>exact ⟨0,s.size+1,[],Nat.zero_le _,by decide,rfl,by omega,ah (by intro x hx;cases hx),H0,HP⟩
    case round=>
     obtain ⟨w4,rfl⟩:∃w4:World,w4=wr:=⟨_,rfl⟩;obtain ⟨a,f,out,ha,ho,rfl,hf,Hs,Ho,Hp⟩:=hrel;obtain ⟨f,rfl⟩:∃f',f=f'+1:=⟨f-1,by omega⟩;obtain ⟨A7,c7,hu7,hc7,hm7⟩:=Ho.out.form;subst hu7;by_cases hlt:a<T.size
     ·have hln:∀(y:List UInt8),y=T.data.toList.drop a->y≠[]:=fun y hy he=>by
       have:=congrArg List.length (hy.symm.trans he);rw[List.length_drop,zZ]at this;simp at this;omega
      by_cases ho0:0<out.length
      ·have HD:=ah (z3e hlt)
       have hcb:=UInt8.toNat_lt T[a];by_cases h44:T[a].toNat=44
       ·have q5:((T[a].toNat:Int) !=44)=false:=by rw[bne_eq_false_iff_eq];omega
        have HX:=ah (show jT s.data.toList=jy f (T.data.toList.drop (a+1)) out by
         rw[Hp.out,z32 f out (hln _ rfl),if_neg (by intro he;rw[he]at ho0;simp at ho0),HD.out];show (match (if T[a].toNat=44 then some (T.data.toList.drop (a+1)) else none) with|none=>none|some y=>jy f y out)=_
         rw[if_pos h44])
        clear h44 HD Hp hln;have Xr:(T.data.toList.drop (a+1)).length=T.size-(a+1):=(by rw[List.length_drop,zZ]);have HI:=ah (fun (w':World) (c:Nx w w')=>Tryz.strings_Index (T.extract (a+1) T.size) ⟨#[61,34]⟩ m w' (by rw[ByteArray.size_extract];omega) (HM.out w' c))
        have hie:Lib.index (T.extract (a+1) T.size).data.toList [61,34]=nG (T.data.toList.drop (a+1)):=by
         rw[z5v,z4L,List.take_of_length_le (by rw[Xr];exact Nat.le_refl _)]
        have HIE:=ah hie;clear hie;cases hi:jA (T.data.toList.drop (a+1)) with
        |none=>
         have hid:nG (T.data.toList.drop (a+1))= -1:=by unfold nG;rw[hi]
         have HR:=ah (show jT s.data.toList=none by rw[HX.out];unfold jy;rw[hi])
         have HJ:=ah (fun (w':World) (c:Nx w w')=>(show Calls Tryz.prog 143 #[.string (T.extract (a+1) T.size),.string ⟨#[61,34]⟩] w' (fun e w''=>e=.returned (.int .i64 (-1))/\w''=w') by
          have:=HI.out w' c;rw[HIE.out,hid]at this;exact this))
         clear hi hid Xr;go_wp2_with fail;with_reducible refine (HJ.out _ Ho.out.nx).mono ?_
         rintro e w5 ⟨rfl,rfl⟩;go_wp2_with fail;exact bodyPost_ret (v:=.tuple #[.slice none 0 0,.int .i64 4]) (by simp[results,Tryz.results66,go_sem]) rfl (iI.bad HR.out Ho.out.nx)
        |some n=>
         obtain ⟨z,e1,e2,e3⟩:=zf hi;have hid:nG (T.data.toList.drop (a+1))=(n:Int):=by unfold nG;rw[hi]
         have hpn:a+1+n+2<=T.size:=by rw[Xr]at e3;omega
         have HJ:=ah (fun (w':World) (c:Nx w w')=>(show Calls Tryz.prog 143 #[.string (T.extract (a+1) T.size),.string ⟨#[61,34]⟩] w' (fun e w''=>e=.returned (.int .i64 (n:Int))/\w''=w') by
          have:=HI.out w' c;rw[HIE.out,hid]at this;exact this))
         have HK:=ah (show jT s.data.toList=if 4<out.length then none else match fH (T.data.toList.drop (a+1+n+2)) with
          |none=>none
          |some (v,r)=>iV f r (out++[⟨iW ((T.data.toList.drop (a+1)).take n),iW v⟩]) by
          rw[HX.out];unfold jy;rw[hi];simp only[List.drop_drop]
          all_goals (rw[show a+1+(n+2)=a+1+n+2 by omega]<;>rfl))
         clear hi hid Xr e1 e2 e3;by_cases h5:4<out.length
         ·have HR:=ah (show jT s.data.toList=none by rw[HK.out,if_pos h5])
          go_wp2_with fail;with_reducible refine (HJ.out _ Ho.out.nx).mono ?_
          rintro e w5 ⟨rfl,rfl⟩;go_wp2_with fail;exact bodyPost_ret (v:=.tuple #[.slice none 0 0,.int .i64 4]) (by simp[results,Tryz.results66,go_sem]) rfl (iI.bad HR.out Ho.out.nx)
         ·have HKK:=ah (HK.out.trans (if_neg h5))
          have HV:=ah (fun w'=>uN (w:=w') T (a+1+n+2) hpn (by omega));have kv:(((a+1+n+2:Nat)):Int)=((a:Int)+1)+(n:Int)+2:=(by omega);rw[kv]at HV;have HNM:=ah (TD T (a+1) n);have kx:(((a:Int)+1)+(n:Int)).toNat=a+1+n:=(by omega);have kz1:(0:Int)<=((a:Int)+1)+(n:Int):=(by omega);have kz2:((a:Int)+1)+(n:Int)<=(T.size:Int):=(by omega);have kz3:((a:Int)+1)<=((a:Int)+1)+(n:Int):=(by omega);clear kv HI HIE HK HX;go_wp2_with fail;with_reducible refine (HJ.out _ Ho.out.nx).mono ?_
          rintro e w5 ⟨rfl,rfl⟩;go_wp2_with fail;with_reducible refine (HV.out _).mono ?_
          rintro e w6 ⟨v,n6,b6,rfl,hn6,hgood,hbad⟩;have HO6:=ah (Ho.out.tr hn6);cases hv:fH (T.data.toList.drop (a+1+n+2)) with
          |none=>
           obtain rfl:=hbad hv;have HR:=ah (show jT s.data.toList=none by rw[HKK.out,hv]);clear hgood hbad hv;go_wp2_with fail;exact bodyPost_ret (v:=.tuple #[.slice none 0 0,.int .i64 4]) (by simp[results,Tryz.results66,go_sem]) rfl (iI.bad HR.out HO6.out.nx)
          |some q=>
           obtain ⟨v',r⟩:=q;obtain ⟨rfl,rfl,rfl⟩:=hgood v' r hv;have hlr:=z4U _ _ _ _ (Nat.le_refl _) hv;have hsu:=z3U _ _ _ _ (Nat.le_refl _) hv;rw[List.length_drop,zZ]at hlr hsu;rw[List.drop_drop,show a+1+n+2+(T.size-(a+1+n+2)-r.length)=T.size-r.length by omega]at hsu
           have HR:=ah (show jT s.data.toList=iV f (T.data.toList.drop (T.size-r.length)) (out++[⟨iW ((T.data.toList.drop (a+1)).take n),iW v'⟩]) by
            rw[HKK.out,hv,←hsu])
           rw[←HNM.out]at HR;have hvl:=oQ _ _ _ _ (Nat.le_refl _) hv;rw[List.length_drop,zZ]at hvl
           have UO:=ah (show ∀x∈out++[(⟨T.extract (a+1) (a+1+n),iW v'⟩:dP)],x.small by
            intro x hx;rcases List.mem_append.1 hx with hx|hx
            ·exact Hs.out x hx
            ·rw[List.mem_singleton]at hx
             subst hx;refine ⟨?_,?_⟩
             ·show (T.extract (a+1) (a+1+n)).size<=_
              rw[ByteArray.size_extract];omega
             ·show v'.toArray.size<=_
              rw[List.size_toArray];omega)
           have hle:((T.size-r.length:Nat):Int)<=(T.size:Int):=(by omega);clear hgood hbad hv hsu hvl HKK HNM;go_wp2_with (at_builtin;refine z05 rfl (.tmp 67) (.tmp 76) _ rfl 135 i0 _ 2 32 Tryz.underlying54 hi0 hz0 hz1 hz2 rfl (by omega) rfl (HO6.out.alloc _) _ (some ⟨w6.heap.size,0,none⟩) 1 1 _ rfl (Rd.jw (⟨T.extract (a+1) (a+1+n),iW v'⟩:dP)) (by intro u hu;simp at hu;rcases hu with rfl|rfl<;>rfl) (by simp only[maxLen];omega) (by omega) ?_;intro v7 w7 o7 m7)
           have O7:=ah (show aA w w7 135 2 v7 (out++[(⟨T.extract (a+1) (a+1+n),iW v'⟩:dP)]).length (lbl (out++[(⟨T.extract (a+1) (a+1+n),iW v'⟩:dP)])) by
            rw[List.length_append,List.length_singleton];unfold lbl;rw[List.flatMap_append];exact o7)
           clear o7 m7;go_roundw
           case rel=>exact ⟨T.size-r.length,f,out++[(⟨T.extract (a+1) (a+1+n),iW v'⟩:dP)],by omega,by simp;omega,by go_num,by omega,UO,O7,HR⟩
           case measure=>simp[intOf];omega
       ·have q5:((T[a].toNat:Int) !=44)=true:=by rw[bne_iff_ne];omega
        have HR:=ah (show jT s.data.toList=none by
         rw[Hp.out,z32 f out (hln _ rfl),if_neg (by intro he;rw[he]at ho0;simp at ho0),HD.out];show (match (if T[a].toNat=44 then some (T.data.toList.drop (a+1)) else none) with|none=>none|some y=>jy f y out)=_
         rw[if_neg h44])
        clear h44 HD Hp hln;go_wp2_with fail;exact bodyPost_ret (v:=.tuple #[.slice none 0 0,.int .i64 4]) (by simp[results,Tryz.results66,go_sem]) rfl (iI.bad HR.out Ho.out.nx)
      ·have HX:=ah (show jT s.data.toList=jy f (T.data.toList.drop a) out by
        rw[Hp.out,z32 f out (hln _ rfl),if_pos (List.eq_nil_of_length_eq_zero (by omega))])
       clear Hp hln;have Xr:(T.data.toList.drop (a)).length=T.size-(a):=(by rw[List.length_drop,zZ]);have HI:=ah (fun (w':World) (c:Nx w w')=>Tryz.strings_Index (T.extract (a) T.size) ⟨#[61,34]⟩ m w' (by rw[ByteArray.size_extract];omega) (HM.out w' c))
       have hie:Lib.index (T.extract (a) T.size).data.toList [61,34]=nG (T.data.toList.drop (a)):=by
        rw[z5v,z4L,List.take_of_length_le (by rw[Xr];exact Nat.le_refl _)]
       have HIE:=ah hie;clear hie;cases hi:jA (T.data.toList.drop (a)) with
       |none=>
        have hid:nG (T.data.toList.drop (a))= -1:=by unfold nG;rw[hi]
        have HR:=ah (show jT s.data.toList=none by rw[HX.out];unfold jy;rw[hi])
        have HJ:=ah (fun (w':World) (c:Nx w w')=>(show Calls Tryz.prog 143 #[.string (T.extract (a) T.size),.string ⟨#[61,34]⟩] w' (fun e w''=>e=.returned (.int .i64 (-1))/\w''=w') by
         have:=HI.out w' c;rw[HIE.out,hid]at this;exact this))
        clear hi hid Xr;go_wp2_with fail;with_reducible refine (HJ.out _ Ho.out.nx).mono ?_
        rintro e w5 ⟨rfl,rfl⟩;go_wp2_with fail;exact bodyPost_ret (v:=.tuple #[.slice none 0 0,.int .i64 4]) (by simp[results,Tryz.results66,go_sem]) rfl (iI.bad HR.out Ho.out.nx)
       |some n=>
        obtain ⟨z,e1,e2,e3⟩:=zf hi;have hid:nG (T.data.toList.drop (a))=(n:Int):=by unfold nG;rw[hi]
        have hpn:a+n+2<=T.size:=by rw[Xr]at e3;omega
        have HJ:=ah (fun (w':World) (c:Nx w w')=>(show Calls Tryz.prog 143 #[.string (T.extract (a) T.size),.string ⟨#[61,34]⟩] w' (fun e w''=>e=.returned (.int .i64 (n:Int))/\w''=w') by
         have:=HI.out w' c;rw[HIE.out,hid]at this;exact this))
        have HK:=ah (show jT s.data.toList=if 4<out.length then none else match fH (T.data.toList.drop (a+n+2)) with
         |none=>none
         |some (v,r)=>iV f r (out++[⟨iW ((T.data.toList.drop (a)).take n),iW v⟩]) by
         rw[HX.out];unfold jy;rw[hi];simp only[List.drop_drop]
         all_goals (rw[show a+(n+2)=a+n+2 by omega]<;>rfl))
        clear hi hid Xr e1 e2 e3;by_cases h5:4<out.length
        ·exfalso;omega
        ·have HKK:=ah (HK.out.trans (if_neg h5))
         have HV:=ah (fun w'=>uN (w:=w') T (a+n+2) hpn (by omega));have kv:(((a+n+2:Nat)):Int)=(a:Int)+(n:Int)+2:=(by omega);rw[kv]at HV;have HNM:=ah (TD T (a) n);have kx:((a:Int)+(n:Int)).toNat=a+n:=(by omega);have kz1:(0:Int)<=(a:Int)+(n:Int):=(by omega);have kz2:(a:Int)+(n:Int)<=(T.size:Int):=(by omega);have kz3:(a:Int)<=(a:Int)+(n:Int):=(by omega);clear kv HI HIE HK HX;go_wp2_with fail;with_reducible refine (HJ.out _ Ho.out.nx).mono ?_
         rintro e w5 ⟨rfl,rfl⟩;go_wp2_with fail;with_reducible refine (HV.out _).mono ?_
         rintro e w6 ⟨v,n6,b6,rfl,hn6,hgood,hbad⟩;have HO6:=ah (Ho.out.tr hn6);cases hv:fH (T.data.toList.drop (a+n+2)) with
         |none=>
          obtain rfl:=hbad hv;have HR:=ah (show jT s.data.toList=none by rw[HKK.out,hv]);clear hgood hbad hv;go_wp2_with fail;exact bodyPost_ret (v:=.tuple #[.slice none 0 0,.int .i64 4]) (by simp[results,Tryz.results66,go_sem]) rfl (iI.bad HR.out HO6.out.nx)
         |some q=>
          obtain ⟨v',r⟩:=q;obtain ⟨rfl,rfl,rfl⟩:=hgood v' r hv;have hlr:=z4U _ _ _ _ (Nat.le_refl _) hv;have hsu:=z3U _ _ _ _ (Nat.le_refl _) hv;rw[List.length_drop,zZ]at hlr hsu;rw[List.drop_drop,show a+n+2+(T.size-(a+n+2)-r.length)=T.size-r.length by omega]at hsu
          have HR:=ah (show jT s.data.toList=iV f (T.data.toList.drop (T.size-r.length)) (out++[⟨iW ((T.data.toList.drop (a)).take n),iW v'⟩]) by
           rw[HKK.out,hv,←hsu])
          rw[←HNM.out]at HR;have hvl:=oQ _ _ _ _ (Nat.le_refl _) hv;rw[List.length_drop,zZ]at hvl
          have UO:=ah (show ∀x∈out++[(⟨T.extract (a) (a+n),iW v'⟩:dP)],x.small by
           intro x hx;rcases List.mem_append.1 hx with hx|hx
           ·exact Hs.out x hx
           ·rw[List.mem_singleton]at hx
            subst hx;refine ⟨?_,?_⟩
            ·show (T.extract (a) (a+n)).size<=_
             rw[ByteArray.size_extract];omega
            ·show v'.toArray.size<=_
             rw[List.size_toArray];omega)
          have hle:((T.size-r.length:Nat):Int)<=(T.size:Int):=(by omega);clear hgood hbad hv hsu hvl HKK HNM;go_wp2_with (at_builtin;refine z05 rfl (.tmp 67) (.tmp 76) _ rfl 135 i0 _ 2 32 Tryz.underlying54 hi0 hz0 hz1 hz2 rfl (by omega) rfl (HO6.out.alloc _) _ (some ⟨w6.heap.size,0,none⟩) 1 1 _ rfl (Rd.jw (⟨T.extract (a) (a+n),iW v'⟩:dP)) (by intro u hu;simp at hu;rcases hu with rfl|rfl<;>rfl) (by simp only[maxLen];omega) (by omega) ?_;intro v7 w7 o7 m7)
          have O7:=ah (show aA w w7 135 2 v7 (out++[(⟨T.extract (a) (a+n),iW v'⟩:dP)]).length (lbl (out++[(⟨T.extract (a) (a+n),iW v'⟩:dP)])) by
           rw[List.length_append,List.length_singleton];unfold lbl;rw[List.flatMap_append];exact o7)
          clear o7 m7;go_roundw
          case rel=>exact ⟨T.size-r.length,f,out++[(⟨T.extract (a) (a+n),iW v'⟩:dP)],by omega,by simp;omega,by go_num,by omega,UO,O7,HR⟩
          case measure=>simp[intOf];omega
     ·have hae:a=T.size:=by omega
      have HX:=ah (show jT s.data.toList=if jH out=true then some out else none by
       rw[Hp.out];unfold iV;rw[if_pos (List.drop_of_length_le (by rw[zZ];omega))])
      have HC:=ah (z3B (w:=w4) (c:=c7) Ho.out.rd rfl (by omega) Hs.out);clear hae;go_wp2_with fail;refine HC.out.mono ?_;rintro e w5 ⟨rfl,hn5⟩;have H5:=ah (Ho.out.tr hn5);clear hn5;cases hr:jH out
      ·rw[hr]at HX
       go_wp2_with fail;exact bodyPost_ret (v:=.tuple #[.slice none 0 0,.int .i64 4]) (by simp[results,Tryz.results66,go_sem]) rfl (iI.bad HX.out H5.out.nx)
      ·rw[hr]at HX
       go_wp2_with fail;refine bodyPost_ret (v:=.tuple #[.slice A7 out.length c7,.int .i64 0]) (by simp[results,Tryz.results66,go_sem]) rfl ⟨_,_,rfl,?_⟩;rw[HX.out];exact ⟨rfl,H5.out,Hs.out⟩
   ·have HR:=ah (show jT s.data.toList=none by
     unfold jT;rw[if_neg];rintro ⟨_,_,h⟩;rw[zZ,Bl.out]at h;injection h with h;rw[h]at hb;exact hb rfl)
    have q1:((s[0].toNat:Int) !=123)=false:=by rw[bne_eq_false_iff_eq];omega
    have q2:((s[s.size-1].toNat:Int) !=125)=true:=by rw[bne_iff_ne];omega
    clear ha hb;go_enter Tryz.func66,Tryz.ntmps66;go_wp2_with fail;exact bodyPost_ret (v:=.tuple #[.slice none 0 0,.int .i64 4]) (by simp[results,Tryz.results66,go_sem]) rfl (iI.bad HR.out Hn0.out)
  ·have HR:=ah (show jT s.data.toList=none by
    unfold jT;rw[if_neg];rintro ⟨_,h,_⟩;rw[B0.out]at h;injection h with h;rw[h]at ha;exact ha rfl)
   have q1:((s[0].toNat:Int) !=123)=true:=by rw[bne_iff_ne];omega
   clear ha;go_enter Tryz.func66,Tryz.ntmps66;go_wp2_with fail;exact bodyPost_ret (v:=.tuple #[.slice none 0 0,.int .i64 4]) (by simp[results,Tryz.results66,go_sem]) rfl (iI.bad HR.out Hn0.out)
end
theorem vS:∀{f:Nat} {x:List UInt8} {out l:List dP},iV f x out=some l->jH l=true
 |0,_,_,_,h=>by cases h
 |f+1,x,out,l,h=>by
  unfold iV at h;split at h
  ·split at h
   ·next hh=>
    injection h with h;rw[←h];exact hh
   ·cases h
  ·split at h
   ·cases h
   ·split at h
    ·cases h
    ·split at h
     ·cases h
     ·split at h
      ·cases h
      ·exact vS h
theorem BO {x:List UInt8} {l:List dP} (h:jT x=some l):jH l=true:=by
 unfold jT at h;split at h
 ·exact vS h
 ·cases h
theorem MO {l:List dP} (h:jH l=true):l.length<=4:=by
 unfold jH at h;rw[Bool.and_eq_true,decide_eq_true_eq]at h;exact h.1
theorem iI.cases {s:ByteArray} {w w':World} {e:Ending} (h:iI s w e w'):
 (∃l A c,jT s.data.toList=some l/\e=.returned (.tuple #[.slice A l.length c,.int .i64 0])/\aA w w' 135 2 (.slice A l.length c) l.length (lbl l)/\(∀x∈l,x.small)/\l.length<=4)∨
 (jT s.data.toList=none/\e=.returned (.tuple #[.slice none 0 0,.int .i64 4])/\Nx w w'):=by
 obtain ⟨v,k,rfl,h⟩:=h;cases hp:jT s.data.toList with
 |none=>
  rw[hp]at h;obtain ⟨rfl,rfl,hn⟩:=h;exact .inr ⟨rfl,rfl,hn⟩
 |some l=>
  rw[hp]at h;obtain ⟨rfl,ho,hs⟩:=h;obtain ⟨A,c,rfl,_,_⟩:=ho.form;exact .inl ⟨l,A,c,rfl,rfl,ho,hs,MO (BO hp)⟩
end Go.Proofs.YtpakjclpjcngmaaGreat
namespace Go.Proofs.YtpakjclpjcngmaaGreat
open Go.RowKit Go.Maps Ps
theorem Tryz.Sm:(Tryz.prog.info? 3).map (fun i=>(i.zero,i.size,i.bytes))=some (some (.int .i64 0),1,8):=by kernel_rfl
theorem z4z {ops:Array Oper} {rest:List Oper} {o:Oper} {a:Act} {Q:Exit->Act->World->Prop} {w:World} {b n:Nat} {l:List Int} {i:Int}
 (hg:o.guard=none) (m x v:Operand) (hop:o.op=Op.mapUpdate 206 m x v) (hm:a.eval m=.map (some b)) (hx:a.eval x=.int .i64 i) (hv:a.eval v=.bool true)
 (h:Named w b n l) (hn:n<maxLen) (hi:i64 i) (hK:∀w',Named w' b (n+1) (l++[i])->Ch (· =b) w w'->wpList Tryz.prog ops Q rest (a.put o.dst undef) w'):
 wpList Tryz.prog ops Q (o::rest) a w:=by
 refine wpList_plain hg fun K' hK'=>?_;obtain ⟨w',hrun,r1,r2⟩:=h.put hn hi;unfold Oper.wp;simp[execOp,hop,hm,hx,hv,hrun,Result.andThen];exact hK' _ _ (hK w' r1 r2)
def Zj (l:List Int) (w:World) (e:Ending) (w':World):Prop:=∃v,e=.returned v/\aA w w' 3 1 v l.length (ints l)
section
variable {w : World} {D : Nat → Prop} {As Ap B : Option Addr} {cs cp d : Nat} {ss : List aN} {ps : List PV} {q : dN}
theorem BJ (hq:Py w q B d) (hs:Rd w D 5 As ss.length (spl ss)) (hp:Rd w D 2 Ap ps.length (kQ ps)) (hk:∀x∈ps,x.ok w D) (hsn:ss.length<=2048) (hpn:ps.length<=2048)
 (m:Int) (hm:w.cell? ⟨0,0,none⟩=some (.int .i64 m)):
 Calls Tryz.prog 85 #[iU q B d,.agg #[.slice As ss.length cs,.slice Ap ps.length cp]] w (Zj (gZ q ss ps) w):=by
 obtain ⟨i0,hi0,hz0,hz1,hz2⟩:=info_parts Tryz.Sm;have hmm:= @run_makeMap Tryz.prog;have HQ:=ah (fun w' (c':Nx w w')=>z3E (hq.nx c'));have HM:=ah (fun (w':World) (c':Nx w w')=>show w'.cell? ⟨0,0,none⟩=some (.int .i64 m) from (c'.cell (p:=⟨0,0,none⟩) (World.block_lt_of_cell? w ⟨0,0,none⟩ hm)).trans hm);have HS:=ah hs;have HP:=ah hp;have HK:=ah hk;have HQI:=ah hq;have hfin:gZ q ss ps=if kW q then kM q (cO q.ms ps) ss ss.length else []:=rfl
 have mO:=ah hfin;have HSP:=ah (fun (s:aN)=>(rfl:pO q s=decide (s.lo<q.hi/\q.lo<=s.hi)))
 have aaB:kW q=true->q.ms.length<=8:=fun h=>by
  unfold kW at h;simp only[Bool.and_eq_true,decide_eq_true_eq]at h;exact h.1.2.2.2.1
 obtain ⟨lo,hi,ms,limit,texts⟩:=q;clear hs hp hk hq hm hfin;have HB:=ah (aG.new w 66 #[.int .i64 lo,.int .i64 hi,.slice B ms.length d,.int .i64 limit,.bool texts]);have HN:=ah (((Ch.refl (fun _=>False) w).alloc (.cells #[.int .i64 lo,.int .i64 hi,.slice B ms.length d,.int .i64 limit,.bool texts] 66)).alloc (.cells #[.slice As ss.length cs,.slice Ap ps.length cp] 49));unfold iU at *;simp only at *;cases hqr:kW ⟨lo,hi,ms,limit,texts⟩
 ·rw[hqr]at HQ mO
  clear hqr aaB;go_enter Tryz.func85,Tryz.ntmps85;go_wp2_with fail;refine (HQ.out _ HN.out).mono ?_;rintro e w3 ⟨rfl,n3⟩;have N3:=ah (HN.out.tr n3);clear n3;go_wp2_with fail;go_ret;refine ⟨_,rfl,?_⟩;rw[mO.out];exact aA.nil w w3 _ 1 N3.out
 ·have hms:=aaB hqr
  rw[hqr]at HQ mO;clear hqr aaB;have HSP:Hid (∀(s:aN),pO ⟨lo,hi,ms,limit,texts⟩ s=decide (s.lo<hi/\lo<=s.hi)):=ah (fun s=>rfl);have HI:=ah (aG.new (w.alloc (.cells #[.int .i64 lo,.int .i64 hi,.slice B ms.length d,.int .i64 limit,.bool texts] 66)) 49 #[.slice As ss.length cs,.slice Ap ps.length cp]);have HB2:=ah (HB.out.alloc (.cells #[.slice As ss.length cs,.slice Ap ps.length cp] 49));simp only[World.size_alloc]at HI;go_enter Tryz.func85,Tryz.ntmps85;go_wp2_with fail;refine (HQ.out _ HN.out).mono ?_;rintro e w3 ⟨rfl,n3⟩;have N3:=ah (HN.out.tr n3);have B3:=ah (HB2.out.nx n3);have I3:=ah (HI.out.nx n3);have i1:w3.cell? ⟨w.heap.size+1,1,none⟩=some (.slice Ap ps.length cp):=I3.out.cell 1;have hlt3:=I3.out.lt;have HNM:=ah (Named.made w3);have HM3:=ah ((Ch.refl (fun _=>False) w3).alloc (.map #[] 0));clear n3 HN HB HB2 HI HQ;go_wp2_with fail;go_loopw [22] (fun s22 wr=>∃(k n:Nat),k<=ps.length/\n<=k * 2048/\s22=.int .i64 (k:Int)/\Hid (Nx w3 wr)/\Hid (Named wr w3.heap.size n (cO ms (ps.take k)))) (fun s22 _=>ps.length-(intOf s22).toNat)
  case atStart=>exact ⟨0,0,Nat.zero_le _,Nat.zero_le _,rfl,HM3,HNM⟩
  case round=>
   obtain ⟨w4,rfl⟩:∃w4:World,w4=wr:=⟨_,rfl⟩;obtain ⟨k,n,hkn,hn,rfl,H4,HD4⟩:=hrel;by_cases hlt:k<ps.length
   ·obtain ⟨ad,rfl,hb,p0,p1⟩:=post_at (HP.out.nx (by decide) (N3.out.tr H4.out)) hlt
    have HX:=ah (HK.out _ (List.getElem_mem hlt));have HT:=ah (show cO ms (ps.take (k+1))=cO ms (ps.take k)++(if zn ms ps[k] then ps[k].gs else []) by rw[List.take_succ_eq_append_getElem hlt,GL]);generalize ps[k]=x at *;obtain ⟨text,gs,A1,c1⟩:=x;simp only at p0 p1 HT;have HG:=ah (HX.out.rd);have htx:=HX.out.tx;have hgn:=HX.out.gn;have HGI:=ah HX.out.gi;simp only at htx hgn HG HGI;have H5:=ah (H4.out.alloc (.cells #[.string text,.slice A1 gs.length c1] 90));have BX:=ah (aG.new w4 90 #[.string text,.slice A1 gs.length c1]);have HPA:=ah (parse_any (w:=w4.alloc (.cells #[.string text,.slice A1 gs.length c1] 90)) text (by omega) m (HM.out _ (N3.out.tr H5.out)));clear hb HX;go_wp2_with fail;clear p0 p1;refine HPA.out.mono ?_;rintro e w6 he;rcases he.cases with ⟨l,A6,c6,hpf,rfl,o6,hs6,hl6⟩|⟨hpf,rfl,n6⟩
    ·have O6:=ah o6
     have H6:=ah (H5.out.tr o6.nx);have HD6:=ah ((HD4.out.nx ((Ch.refl (fun _=>False) w4).alloc _)).nx o6.nx);have b6:=B3.out.nx H6.out;have q2:w6.cell? ⟨w.heap.size,2,none⟩=some (.slice B ms.length d):=b6.cell 2;have bx6:=BX.out.nx o6.nx;have x1:w6.cell? ⟨w4.heap.size,1,none⟩=some (.slice A1 gs.length c1):=bx6.cell 1;have HME:=ah (wB (c:=c6) (d:=d) (w:=w6) O6.out.rd rfl (by omega) hs6 ((HQI.out.nx (N3.out.tr H6.out)).rd) rfl (by show ms.length<=_;omega) (HQI.out.nx (N3.out.tr H6.out)).sm);have Pg:=ah (show zn ms ⟨text,gs,A1,c1⟩=Ve l ms by unfold zn;simp only;rw[hpf]);have BX6:=ah bx6;clear he hpf o6 hs6 b6 bx6;simp only at HME;cases hme:Ve l ms
     ·rw[hme]at HME Pg
      have HT2:=ah (show cO ms (ps.take (k+1))=cO ms (ps.take k) by rw[HT.out,Pg.out];simp);clear hme Pg HT;go_wp2_with fail;with_reducible refine HME.out.mono ?_
      rintro e w7 ⟨rfl,n7⟩;have H7:=ah (H6.out.tr n7);have HD7:=ah (HD6.out.nx n7);clear n7;go_wp2_with fail;go_roundw
      case rel=>exact ⟨k+1,n,by omega,by omega,by go_num,H7,by rw[HT2.out];exact HD7⟩
      case measure=>simp[intOf];omega
     ·rw[hme]at HME Pg
      have HT2:=ah (show cO ms (ps.take (k+1))=cO ms (ps.take k)++gs by rw[HT.out,Pg.out];simp);clear hme Pg HT;go_wp2_with fail;with_reducible refine HME.out.mono ?_
      rintro e w7 ⟨rfl,n7⟩;have H7:=ah (H6.out.tr n7);have HD7:=ah (HD6.out.nx n7);have x7:w7.cell? ⟨w4.heap.size,1,none⟩=some (.slice A1 gs.length c1):=(BX6.out.nx n7).cell 1;clear n7 q2 x1;go_wp2_with fail;go_loopw [43] (fun s43 wr=>∃(j:Nat),j<=gs.length/\s43=.int .i64 (j:Int)/\Hid (Nx w3 wr)/\Hid (Named wr w3.heap.size (n+j) (cO ms (ps.take k)++gs.take j))) (fun s43 _=>gs.length-(intOf s43).toNat)
      case atStart=>exact ⟨0,Nat.zero_le _,rfl,H7,ah (by rw[List.take_zero,List.append_nil];exact HD7.out)⟩
      case round=>
       obtain ⟨w8,rfl⟩:∃w8:World,w8=wr:=⟨_,rfl⟩;obtain ⟨j,hj,rfl,H8,HD8⟩:=hrel;by_cases hjl:j<gs.length
       ·obtain ⟨ag,rfl,hbg,g0⟩:=KO (HG.out.nx (by decide) (N3.out.tr H8.out)) hjl
        have UM:=ah (List.take_succ_eq_append_getElem hjl);have hi64:=HGI.out _ (List.getElem_mem hjl);generalize gs[j]=g at *;have Hi64:=ah hi64;clear hbg hi64;go_wp2_with (at_mapUpdate;refine z4z rfl _ _ _ rfl rfl rfl rfl HD8.out (by unfold maxLen;omega) Hi64.out ?_;intro w9 hd9 hc9)
        have H9:=ah (H8.out.trans hc9 (fun i hi hs=>by have h':i=w3.heap.size:=hs;omega));have HD9:=ah hd9;clear hd9 hc9;go_roundw
        case rel=>exact ⟨j+1,by omega,by go_num,H9,by rw[UM.out,←List.append_assoc];exact HD9⟩
        case measure=>simp[intOf];omega
       ·have UM:=ah (show gs.take j=gs from List.take_of_length_le (by omega))
        go_wp2_with fail;go_roundw
        case rel=>exact ⟨k+1,n+j,by omega,by omega,by go_num,H8,by rw[HT2.out];rw[UM.out]at HD8;exact HD8⟩
        case measure=>simp[intOf];omega
    ·have HT2:=ah (show cO ms (ps.take (k+1))=cO ms (ps.take k) by
      rw[HT.out,show zn ms ⟨text,gs,A1,c1⟩=false from by unfold zn;simp only;rw[hpf]];simp)
     have H6:=ah (H5.out.tr n6);have HD6:=ah ((HD4.out.nx ((Ch.refl (fun _=>False) w4).alloc _)).nx n6);clear he hpf n6 HT;go_wp2_with fail;go_roundw
     case rel=>exact ⟨k+1,n,by omega,by omega,by go_num,H6,by rw[HT2.out];exact HD6⟩
     case measure=>simp[intOf];omega
   ·have Vx:=ah (show ps.take k=ps from List.take_of_length_le (by omega))
    have HN4:Hid (Named w4 w3.heap.size n (cO ms ps)):=ah (by have h:=HD4.out;rw[Vx.out]at h;exact h);have HFN:=ah (show gZ ⟨lo,hi,ms,limit,texts⟩ ss ps=kM ⟨lo,hi,ms,limit,texts⟩ (cO ms ps) ss ss.length by rw[mO.out];rfl);have HW4:=ah (N3.out.tr H4.out);have B4:=ah (B3.out.nx H4.out);have i0':w4.cell? ⟨w.heap.size+1,0,none⟩=some (.slice As ss.length cs):=(I3.out.nx H4.out).cell 0;have Yr:=ah (fun (j:Nat) (hj:j<ss.length) h1 h2=>Tq (q:=⟨lo,hi,ms,limit,texts⟩) (N:=cO ms ps) (ss:=ss) hj h1 h2);have HOUT:=ah (fun (j:Nat) (hj:j<ss.length) h=>KL (q:=⟨lo,hi,ms,limit,texts⟩) (N:=cO ms ps) (ss:=ss) hj h);have HGL:=ah (fun j=>KN ⟨lo,hi,ms,limit,texts⟩ (cO ms ps) ss j);have HG0:=ah (Ti ⟨lo,hi,ms,limit,texts⟩ (cO ms ps) ss);clear mO Vx HD4;generalize cO ms ps=N at *;generalize hgf:kM ⟨lo,hi,ms,limit,texts⟩ N ss=G at *;clear hgf;go_wp2_with fail;go_loopw [12,54] (fun s12 s54 wr=>∃j:Nat,j<=ss.length/\s54=.int .i64 (j:Int)/\Hid (aA w4 wr 3 1 s12 (G j).length (ints (G j)))) (fun _ s54 _=>ss.length-(intOf s54).toNat)
    case atStart=>exact ⟨0,Nat.zero_le _,rfl,ah (by rw[HG0.out];exact aA.nil w4 w4 _ 1 (Ch.refl _ _))⟩
    case round=>
     obtain ⟨w5,rfl⟩:∃w5:World,w5=wr:=⟨_,rfl⟩;obtain ⟨j,hj,rfl,Ho⟩:=hrel;obtain ⟨A7,c7,hu7,hc7,hm7⟩:=Ho.out.form;subst hu7;have hgl:=HGL.out j;by_cases hjl:j<ss.length
     ·obtain ⟨ad,rfl,hbd,p0,p1,p2,p3,p4⟩:=yh (HS.out.nx (by decide) (HW4.out.tr Ho.out.nx)) hjl
      have hsp:=HSP.out ss[j];have HI1:=ah (Yr.out j hjl);have HO1:=ah (HOUT.out j hjl);have b5:=B4.out.nx Ho.out.nx;have q0:w5.cell? ⟨w.heap.size,0,none⟩=some (.int .i64 lo):=b5.cell 0;have q1:w5.cell? ⟨w.heap.size,1,none⟩=some (.int .i64 hi):=b5.cell 1;have hbl:=b5.lt;generalize ss[j]=s at *;obtain ⟨place,size,rows,lo',hi'⟩:=s;simp only at p0 p1 p2 p3 p4 hsp;have hrun:=((HN4.out.nx Ho.out.nx).nx ((Ch.refl (fun _=>False) w5).alloc (.cells #[.int .i64 place,.int .i64 size,.int .i64 rows,.int .i64 lo',.int .i64 hi'] 53))).look (i:=(j:Int)) ⟨by omega,by omega⟩;have HA:=ah (Ho.out.alloc (.cells #[.int .i64 place,.int .i64 size,.int .i64 rows,.int .i64 lo',.int .i64 hi'] 53));clear b5 hbd;cases hc:N.contains (j:Int)
      ·rw[hc]at hrun
       have HE:=ah (HO1.out (.inl hc));clear hc hsp;go_wp2_with fail;go_roundw
       case rel=>exact ⟨j+1,by omega,by go_num,by rw[HE.out];exact HA⟩
       case measure=>simp[intOf];omega
      ·rw[hc]at hrun
       have HC:=ah hc;clear hc;by_cases g1:lo'<hi
       ·by_cases g2:lo<=hi'
        ·have HE:=ah (HI1.out HC.out (by rw[hsp];exact decide_eq_true ⟨g1,g2⟩))
         clear hsp;go_wp2_with (at_builtin;refine z09 rfl (.tmp 76) (.tmp 78) _ rfl 3 i0 _ 8 Tryz.underlying88 hi0 hz0 hz1 hz2 rfl (.int .i64 (j:Int)) rfl rfl HA.out (congrArg (fun k=>Value.slice (some ⟨k,0,none⟩) 1 1) (World.size_alloc _ _).symm) (by simp only[maxLen];omega) (by omega) ?_;intro v9 w9 o9 m9)
         have O9:=ah (show aA w4 w9 3 1 v9 (G j++[(j:Int)]).length (ints (G j++[(j:Int)])) by
          rw[List.length_append,List.length_singleton];unfold ints;rw[List.map_append];exact o9)
         clear o9 m9;go_roundw
         case rel=>exact ⟨j+1,by omega,by go_num,by rw[HE.out];exact O9⟩
         case measure=>simp[intOf];omega
        ·have HE:=ah (HO1.out (.inr (by rw[hsp];exact decide_eq_false (fun h=>g2 h.2))))
         clear hsp;go_wp2_with fail;go_roundw
         case rel=>exact ⟨j+1,by omega,by go_num,by rw[HE.out];exact HA⟩
         case measure=>simp[intOf];omega
       ·have HE:=ah (HO1.out (.inr (by rw[hsp];exact decide_eq_false (fun h=>g1 h.1))))
        clear hsp;go_wp2_with fail;go_roundw
        case rel=>exact ⟨j+1,by omega,by go_num,by rw[HE.out];exact HA⟩
        case measure=>simp[intOf];omega
     ·have hjj:j=ss.length:=by omega
      have HJJ:=ah hjj;clear hjj;go_wp2_with fail;go_ret;refine ⟨_,rfl,?_⟩;rw[HFN.out,←HJJ.out];exact Ho.out.weak HW4.out
end
end Go.Proofs.YtpakjclpjcngmaaGreat
