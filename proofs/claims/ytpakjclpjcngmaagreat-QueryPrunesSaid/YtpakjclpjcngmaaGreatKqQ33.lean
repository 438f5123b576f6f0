/- Contracts and plain laws that the last text rests on. Conditions: each theorem states its own. -/
import Derived.Test.YtpakjclpjcngmaaGreatKqQ18
import Derived.Deep.QuietTactic
import Derived.BigQuiet
set_option maxRecDepth 100000
set_option maxHeartbeats 8000000
set_option linter.unusedVariables false
namespace Go.Proofs.YtpakjclpjcngmaaGreat
open Go.RowKit Ps
def Vo (l:List UInt8):List Nat:=l.map UInt8.toNat
theorem Bf (l:List UInt8):bF (Vo l)=iW l:=by
 unfold bF iW Vo;rw[List.map_map]
 have e:l.map (UInt8.ofNat ∘ UInt8.toNat)=l:=by
  conv=>rhs;rw[←List.map_id l]
  refine List.map_congr_left fun x _=>?_;simp
 rw[e]
theorem z3e {s:ByteArray} {a:Nat} (h:a<s.size):s.data.toList.drop a=s[a]::s.data.toList.drop (a+1):=by
 have hl:a<s.data.toList.length:=by simpa using h
 rw[List.drop_eq_getElem_cons hl];congr 1
theorem zZ (s:ByteArray):s.data.toList.length=s.size:=by simp
def lM (s:ByteArray) (a0:Nat) (w:World) (e:Ending) (w':World):Prop:=∃(v:ByteArray) (n:Int) (b:Bool),e=.returned (.tuple #[.string v,.int .i64 n,.bool b])/\Nx w w'/\
 (∀v' r,fH (s.data.toList.drop a0)=some (v',r)->b=true/\v=iW v'/\n=((s.size-r.length:Nat):Int))/\(fH (s.data.toList.drop a0)=none->b=false)
theorem lM.bad {s:ByteArray} {a0:Nat} {w w':World} (h:fH (s.data.toList.drop a0)=none) (hn:Nx w w') (v:ByteArray) (n:Int):lM s a0 w (.returned (.tuple #[.string v,.int .i64 n,.bool false])) w':=
 ⟨v,n,false,rfl,hn,(fun v' r h2=>by rw[h]at h2;cases h2),fun _=>rfl⟩
section
variable {w : World}
theorem uN (s:ByteArray) (a0:Nat) (h0:a0<=s.size) (hs:s.size<=1000000000):
 Calls Tryz.prog 144 #[.string s,.int .i64 a0] w (lM s a0 w):=by
 obtain ⟨i0,hi0,hz0,hz1,hz2⟩:=info_parts Tryz.info5;have hstr:=fun (D:Nat->Prop) (A:Option Addr) (n c:Nat) (t:List Nat) (w:World) (h:Rd w D 1 A n (bl t))=>LD (P:=Tryz.prog) w 26 9 5 Tryz.underlying26 Tryz.underlying5 Tryz.underlying9 D A n c t h;have Yp:=ah hstr;clear hstr;have H0:=ah (aA.nil w w 5 1 (Ch.refl _ _));go_enter Tryz.func144,Tryz.ntmps144;go_wp2_with fail;go_loopw [1,7] (fun s1 v wr=>∃(a:Nat) (vs:List UInt8),a<=s.size/\vs.length<=a/\s1=.int .i64 (a:Int)/\Hid (aA w wr 5 1 v vs.length (bl (Vo vs)))/\Hid (fH (s.data.toList.drop a0)=(fH (s.data.toList.drop a)).map fun p=>(vs++p.1,p.2))) (fun s1 _ _=>s.size-(intOf s1).toNat)
 case atStart=>exact ⟨a0,[],h0,Nat.zero_le _,rfl,H0,ah (by simp)⟩
 case round=>
  obtain ⟨w4,rfl⟩:∃w4:World,w4=wr:=⟨_,rfl⟩;obtain ⟨a,vs,ha,hva,rfl,Ho,Hv⟩:=hrel;obtain ⟨A7,c7,hu7,hc7,hm7⟩:=Ho.out.form;subst hu7;have mO:=ah (Yp.out _ A7 vs.length c7 (Vo vs) w4 (by have:=Ho.out.rd;exact this));by_cases hlt:a<s.size
  ·have HD:=ah (z3e hlt)
   have hcb:=UInt8.toNat_lt s[a];have HON:=ah (fun w' (c':Nx w4 w')=>Ho.out.tr c');by_cases h34:s[a].toNat=34
   ·have HR:=ah (show fH (s.data.toList.drop a0)=some (vs,s.data.toList.drop (a+1)) by rw[Hv.out,HD.out,Zr _ h34];simp)
    have hq:((s[a].toNat:Int) !=34)=false:=by rw[bne_eq_false_iff_eq];omega
    have SE:=mO.out;rw[Bf]at SE;clear h34 hcb;go_wp2_with fail;refine bodyPost_ret (v:=.tuple #[.string (iW vs),.int .i64 ((a:Int)+1),.bool true]) (by simp[results,Tryz.results144,go_sem]) rfl ?_;refine ⟨_,_,_,rfl,Ho.out.nx,fun v' r h=>?_,fun h=>?_⟩
    ·rw[HR.out]at h
     injection h with h;injection h with h1 h2;subst h1;subst h2;refine ⟨rfl,rfl,?_⟩;rw[List.length_drop,zZ];omega
    ·rw[HR.out]at h;cases h
   ·have hq:((s[a].toNat:Int) !=34)=true:=by rw[bne_iff_ne];omega
    have hone:∀b n,iy (s.data.toList.drop a)=some (b,n)->fH (s.data.toList.drop a0)=(fH (s.data.toList.drop (a+n))).map fun p=>((vs++[b])++p.1,p.2):=fun b n h=>by
     rw[Hv.out];rw[HD.out]at h;have h2:=Zt h34 h;rw[←HD.out]at h2;rw[h2,List.drop_drop,Option.map_map];congr 1
     funext p
     simp
    have hbad:iy (s.data.toList.drop a)=none->fH (s.data.toList.drop a0)=none:=fun h=>by
     rw[HD.out]at h;rw[Hv.out,HD.out,z2W h34 h];rfl
    have afc:=ah hone;have HBAD:=ah hbad;clear hone hbad;by_cases h92:s[a].toNat=92
    ·have hq2:((s[a].toNat:Int)==92)=true:=by rw[beq_iff_eq];omega
     have HX1:=ah (fun (h:a+1<s.size)=>z3e h);have HX2:=ah (fun (h:a+2<s.size)=>z3e h)
     have HO2:Hid (iy (s.data.toList.drop a)=(match s.data.toList.drop (a+1) with
      |p::q::_=>match Ak p.toNat,Ak q.toNat with
       |some x,some y=>if EU (16 * x+y)=true then none else some (UInt8.ofNat (16 * x+y),3)
       |_,_=>none
      |_=>none)):=ah (by
      rw[HD.out];unfold iy;simp only;rw[if_pos h92];cases s.data.toList.drop (a+1) with
      |nil=>rfl
      |cons p r=>cases r with
       |nil=>rfl
       |cons q r=>rfl)
     clear h34 h92;by_cases hl2:a+2<s.size
     ·have hl1:a+1<s.size:=by omega
      have hb1:=UInt8.toNat_lt s[a+1];have hb2:=UInt8.toNat_lt s[a+2]
      have HO3:Hid (iy (s.data.toList.drop a)=(match Ak s[a+1].toNat,Ak s[a+2].toNat with
       |some x,some y=>if EU (16 * x+y)=true then none else some (UInt8.ofNat (16 * x+y),3)
       |_,_=>none)):=ah (by rw[HO2.out,HX1.out hl1,HX2.out hl2])
      have HG1:=ah (fun w=>wR s[a+1].toNat hb1 w);have HG2:=ah (fun w=>wR s[a+2].toNat hb2 w);unfold YT at HG1 HG2;clear HO2 HX1 HX2 hb1 hb2;cases hx:Ak s[a+1].toNat with
      |none=>
       rw[hx]at HG1;have HR:=ah (HBAD.out (by rw[HO3.out,hx]));clear hx;go_wp2_with fail;refine (HG1.out _).mono ?_;rintro e w5 ⟨rfl,rfl⟩;go_wp2_with fail;refine bodyPost_ret (v:=.tuple #[.string ⟨#[]⟩,.int .i64 0,.bool false]) (by simp[results,Tryz.results144,go_sem]) rfl ?_;exact lM.bad HR.out Ho.out.nx _ _
      |some x=>
       rw[hx]at HG1;cases hy:Ak s[a+2].toNat with
       |none=>
        rw[hy]at HG2;have HR:=ah (HBAD.out (by rw[HO3.out,hx,hy]));clear hx hy;simp only at HG1;go_wp2_with fail;refine (HG1.out _).mono ?_;rintro e w5 ⟨rfl,rfl⟩;go_wp2_with fail;refine (HG2.out _).mono ?_;rintro e w5 ⟨rfl,rfl⟩;go_wp2_with fail;refine bodyPost_ret (v:=.tuple #[.string ⟨#[]⟩,.int .i64 0,.bool false]) (by simp[results,Tryz.results144,go_sem]) rfl ?_;exact lM.bad HR.out Ho.out.nx _ _
       |some y=>
        rw[hy]at HG2;simp only at HG1 HG2;have hx15:x<=15:=by unfold Ak at hx;split at hx<;>(first|(injection hx with hx;omega)|(split at hx<;>(first|(injection hx with hx;omega)|cases hx)))
        have hy15:y<=15:=by unfold Ak at hy;split at hy<;>(first|(injection hy with hy;omega)|(split at hy<;>(first|(injection hy with hy;omega)|cases hy)))
        have HO4:Hid (iy (s.data.toList.drop a)=if EU (16 * x+y)=true then none else some (UInt8.ofNat (16 * x+y),3)):=ah (by rw[HO3.out,hx,hy]);have HP:=ah (fun w=>z3F (16 * x+y) (by omega) w);have kw1:IntKind.i64.wrap (16 * (x:Int))=16 * (x:Int):=IntWalk.i64_in _ (by omega);have kw2:IntKind.i64.wrap (16 * (x:Int)+(y:Int))=16 * (x:Int)+(y:Int):=IntWalk.i64_in _ (by omega);have kw3:IntKind.u8.wrap (16 * (x:Int)+(y:Int))=((16 * x+y:Nat):Int):=by rw[IntWalk.u8_in _ (by omega)];omega
        have kw4:IntKind.i64.wrap ((a:Int)+1+1)=(a:Int)+1+1:=IntWalk.i64_in _ (by omega);have kw5:((a:Int)+1+1).toNat=a+2:=(by omega);have kw6:((a:Int)+1).toNat=a+1:=(by omega);clear hx hy HO3;go_wp2_with fail;refine (HG1.out _).mono ?_;rintro e w5 ⟨rfl,rfl⟩;go_wp2_with fail;refine (HG2.out _).mono ?_;rintro e w5 ⟨rfl,rfl⟩;go_wp2_with fail;have kn1:(0:Int)<=(a:Int)+1:=(by omega);have kn2:(0:Int)<=(a:Int)+1+1:=(by omega);have kn3:(a:Int)+1<(s.size:Int):=(by omega);have kn4:(a:Int)+1+1<(s.size:Int):=(by omega);have kn5:a+1<s.size:=(by omega);have kn6:a+1+1<s.size:=(by omega);go_quiet ((first|(go_at_call 201;first|(with_reducible exact VJ (HG1.out _))|(with_reducible exact VJ (HG2.out _)))))
        cases hp:EU (16 * x+y)
        ·rw[hp]at HP
         have HR:=ah (afc.out (UInt8.ofNat (16 * x+y)) 3 (by rw[HO4.out,hp];rfl));have hb:(UInt8.ofNat (16 * x+y)).toNat=16 * x+y:=by simp;omega
         have HB:=ah hb;clear hp kw1 kw2 hb;go_wp2_with fail;refine (HP.out _).mono ?_;rintro e w5 ⟨rfl,rfl⟩;go_wp2_with (at_builtin;refine z09 rfl (.tmp 65) (.tmp 67) _ rfl 5 i0 _ 1 Tryz.underlying26 hi0 hz0 hz1 hz2 rfl (.int .u8 ((16 * x+y:Nat):Int)) rfl rfl (Ho.out.drewN _) rfl (by simp only[maxLen];omega) (by omega) ?_;intro v6 w6 o6 m6)
         have O6:=ah (show aA w w6 5 1 v6 (vs++[UInt8.ofNat (16 * x+y)]).length (bl (Vo (vs++[UInt8.ofNat (16 * x+y)]))) by
          rw[List.length_append,List.length_singleton]
          have e:bl (Vo (vs++[UInt8.ofNat (16 * x+y)]))=bl (Vo vs)++[.int .u8 ((16 * x+y:Nat):Int)]:=by
           unfold bl Vo;rw[List.map_append,List.map_append,List.map_singleton,List.map_singleton,HB.out]
          rw[e];exact o6)
         clear o6 m6;go_roundw
         case rel=>exact ⟨a+3,vs++[UInt8.ofNat (16 * x+y)],by omega,by simp;omega,by go_num,O6,HR⟩
         case measure=>simp[intOf];omega
        ·rw[hp]at HP
         have HR:=ah (HBAD.out (by rw[HO4.out,hp];rfl));clear hp kw1 kw2;go_wp2_with fail;refine (HP.out _).mono ?_;rintro e w5 ⟨rfl,rfl⟩;go_wp2_with fail;refine bodyPost_ret (v:=.tuple #[.string ⟨#[]⟩,.int .i64 0,.bool false]) (by simp[results,Tryz.results144,go_sem]) rfl ?_;exact lM.bad HR.out (Ho.out.nx.drewN _) _ _
     ·have HR:=ah (HBAD.out (by
       rw[HO2.out];have hl:(s.data.toList.drop (a+1)).length<2:=by rw[List.length_drop,zZ];omega
       match s.data.toList.drop (a+1),hl with
       |[],_=>rfl
       |[_],_=>rfl))
      have hl3:¬a+1+1<s.size:=(by omega);go_wp2_with fail;refine bodyPost_ret (v:=.tuple #[.string ⟨#[]⟩,.int .i64 0,.bool false]) (by simp[results,Tryz.results144,go_sem]) rfl ?_;exact lM.bad HR.out Ho.out.nx _ _
    ·have hq2:((s[a].toNat:Int)==92)=false:=by rw[beq_eq_false_iff_ne];omega
     have HO2:Hid (iy (s.data.toList.drop a)=if EU s[a].toNat=true then some (s[a],1) else none):=ah (by rw[HD.out];unfold iy;simp only;rw[if_neg h92]);have HP:=ah (fun w=>z3F s[a].toNat hcb w);clear h34 h92;cases hp:EU s[a].toNat
     ·rw[hp]at HP
      have HR:=ah (HBAD.out (by rw[HO2.out,hp];rfl));clear hp;go_wp2_with fail;refine (HP.out _).mono ?_;rintro e w5 ⟨rfl,rfl⟩;go_wp2_with fail;refine bodyPost_ret (v:=.tuple #[.string ⟨#[]⟩,.int .i64 0,.bool false]) (by simp[results,Tryz.results144,go_sem]) rfl ?_;exact lM.bad HR.out Ho.out.nx _ _
     ·rw[hp]at HP
      have HR:=ah (afc.out s[a] 1 (by rw[HO2.out,hp];rfl));clear hp;go_wp2_with fail;refine (HP.out _).mono ?_;rintro e w5 ⟨rfl,rfl⟩;go_wp2_with (at_builtin;refine z09 rfl (.tmp 65) (.tmp 67) _ rfl 5 i0 _ 1 Tryz.underlying26 hi0 hz0 hz1 hz2 rfl (.int .u8 (s[a].toNat:Int)) rfl rfl Ho.out rfl (by simp only[maxLen];omega) (by omega) ?_;intro v6 w6 o6 m6)
      have O6:=ah (show aA w w6 5 1 v6 (vs++[s[a]]).length (bl (Vo (vs++[s[a]]))) by
       rw[List.length_append,List.length_singleton];simpa [bl,Vo]using o6)
      clear o6 m6;go_roundw
      case rel=>exact ⟨a+1,vs++[s[a]],by omega,by simp;omega,by go_num,O6,HR⟩
      case measure=>simp[intOf];omega
  ·have hae:a=s.size:=by omega
   have HR:=ah (show fH (s.data.toList.drop a0)=none by rw[Hv.out,List.drop_of_length_le (by rw[zZ];omega)];rfl);have SE:=mO.out;rw[Bf]at SE;clear hae;go_wp2_with fail;refine bodyPost_ret (v:=.tuple #[.string (iW vs),.int .i64 ((a:Int)+1),.bool false]) (by simp[results,Tryz.results144,go_sem]) rfl ?_;exact lM.bad HR.out Ho.out.nx _ _
end
end Go.Proofs.YtpakjclpjcngmaaGreat
namespace Go.Proofs.YtpakjclpjcngmaaGreat
open Go.RowKit
section
variable {w : World} {D D2 : Nat → Prop} {A B : Option Addr} {n c m d : Nat} {l : List dP} {ms : List kT}
theorem Wy (x:kT) (hx:x.small) (w:World):Calls Tryz.prog 83 #[.agg #[.string x.name,.int .i64 x.way,.string x.value]] w fun e w'=>e=.returned (.bool (!dF x))/\Nx w w':=by
 have Hak:=ah (fun w=>Et x hx w);obtain ⟨nm,way,val⟩:=x;have zO:=ah (fun o=>(Ch.refl (fun _=>False) w).alloc o);simp only at Hak ⊢;go_enter Tryz.func83,Tryz.ntmps83;go_wp2_with fail;refine (Hak.out _).mono ?_;rintro e w1 ⟨rfl,n1⟩;go_wp2_with fail;go_ret;exact ⟨rfl,(zO.out _).tr n1⟩
def m_ (ms:List kT):Int:=match ms.findIdx? (fun x=> !dF x) with
 |some i=>(i:Int)
 |none=> -1
theorem rO {ms:List kT} (h:∀i (hi:i<ms.length),dF ms[i]=true):m_ ms= -1:=by
 unfold m_
 have:ms.findIdx? (fun x=> !dF x)=none:=by
  rw[List.findIdx?_eq_none_iff];intro x hx;obtain ⟨i,hi,rfl⟩:=List.mem_iff_getElem.1 hx;rw[h i hi];rfl
 rw[this]
theorem Jf {ms:List kT} {k:Nat} (hk:k<ms.length) (h:∀i (hi:i<ms.length),i<k->dF ms[i]=true) (hb:dF ms[k]=false):m_ ms=(k:Int):=by
 unfold m_
 have:ms.findIdx? (fun x=> !dF x)=some k:=by
  rw[List.findIdx?_eq_some_iff_getElem];exact ⟨hk,by rw[hb];rfl,fun j hj=>by rw[h j (by omega) hj];decide⟩
 rw[this]
theorem OU (ms:List kT):decide (0<=m_ ms)= !(ms.all dF):=by
 by_cases h:ms.all dF=true
 ·rw[h,rO (fun i hi=>by rw[List.all_eq_true]at h;exact h _ (List.getElem_mem hi))]
  rfl
 ·have h':ms.all dF=false:=by simpa using h
  rw[h'];unfold m_;cases hf:ms.findIdx? (fun x=> !dF x) with
  |some i=>simp
  |none=>
   exfalso
   rw[List.findIdx?_eq_none_iff]at hf;apply h
   rw[List.all_eq_true];intro x hx;have:=hf x hx;simpa using this
theorem Xj (hr2:Rd w D2 3 B m (Ry ms)) (hm:ms.length=m) (hmn:m<=1000000) (jB:∀x∈ms,x.small):
 Calls Tryz.prog 160 #[.slice B m d,.func (.func 83) #[] #[]] w fun e w'=>e=.returned (.int .i64 (m_ ms))/\Nx w w':=by
 have Hm:=ah hm;have abf:=ah jB;clear hm jB;go_enter Tryz.func160,Tryz.ntmps160;go_wp2_with fail;go_loopw [8] (fun i wr=>∃k:Nat,k<=m/\i=.int .i64 (k:Int)/\Nx w wr/\Hid (∀i (hi:i<ms.length),i<k->dF ms[i]=true)) (fun i _=>m-(intOf i).toNat)
 case atStart=>exact ⟨0,Nat.zero_le _,rfl,Ch.refl _ _,ah fun i hi h=>by omega⟩
 case round=>
  obtain ⟨w4,rfl⟩:∃w4:World,w4=wr:=⟨_,rfl⟩;obtain ⟨k,hk,rfl,hn4,He⟩:=hrel;by_cases hlt:k<m
  ·have hkl:k<ms.length:=by rw[Hm.out];exact hlt
   obtain ⟨ad,rfl,hb,p0,p1,p2⟩:=RH (hr2.nx (by decide) hn4) hkl;have Hfn:=ah (fun w=>Wy ms[k] (abf.out _ (List.getElem_mem hkl)) w);have HX:=ah (fun (h:dF ms[k]=false)=>Jf hkl He.out h)
   have HY:Hid (dF ms[k]=true->∀i (hi:i<ms.length),i<k+1->dF ms[i]=true):=ah (fun h i hi hik=>by
    by_cases e:i=k
    ·subst e;exact h
    ·exact He.out i hi (by omega))
   have Hn4:=ah hn4;clear hn4;generalize ms[k]=x at *;obtain ⟨nm,way,val⟩:=x;simp only at p0 p1 p2 Hfn HX HY;cases hav:dF ⟨nm,way,val⟩
   ·have HR:=ah (HX.out hav)
    rw[hav]at Hfn;clear hav;go_wp2_with fail;refine (Hfn.out _).mono ?_;rintro e w5 ⟨rfl,n5⟩;go_wp2_with fail;go_ret;exact ⟨by rw[HR.out];rfl,Hn4.out.tr n5⟩
   ·have HR:=ah (HY.out hav)
    rw[hav]at Hfn;clear hav;go_wp2_with fail;refine (Hfn.out _).mono ?_;rintro e w5 ⟨rfl,n5⟩;go_wp2_with fail;go_roundw
    case rel=>exact ⟨k+1,by omega,by go_num,Hn4.out.tr n5,HR⟩
    case measure=>simp[intOf];omega
  ·have HR:=ah (rO fun i hi=>He.out i hi (by have:=Hm.out;omega))
   have Hn4:=ah hn4;clear hn4 hr2;obtain rfl:k=m:=(by omega);go_wp2_with fail;go_ret;exact ⟨by rw[HR.out];rfl,Hn4.out⟩
theorem Xp (hr2:Rd w D2 3 B m (Ry ms)) (hm:ms.length=m) (hmn:m<=1000000) (jB:∀x∈ms,x.small):
 Calls Tryz.prog 82 #[.slice B m d,.func (.func 83) #[] #[]] w fun e w'=>e=.returned (.bool (!(ms.all dF)))/\Nx w w':=by
 have Hi:=ah (Xj (d:=d) hr2 hm hmn jB);have HB:=ah (OU ms);clear hr2 hm hmn jB;go_enter Tryz.func82,Tryz.ntmps82;go_wp2_with fail;refine Hi.out.mono ?_;rintro e w1 ⟨rfl,n1⟩;generalize m_ ms=bi at *;go_wp2_with fail;go_ret;exact ⟨by rw[←HB.out];rfl,n1⟩
theorem qj (q:dN) (hr2:Rd w D2 3 B q.ms.length (Ry q.ms)) (hlt:∀k,D2 k->k<w.heap.size) (jB:∀x∈q.ms,x.small) (i0:i64 q.lo) (i1:i64 q.hi) (i2:i64 q.limit) (hd:q.ms.length<=d) (hd2:d<=maxLen):
 Calls Tryz.prog 33 #[iU q B d] w fun e w'=>e=.returned (.bool (kW q))/\Nx w w':=by
 obtain ⟨lo,hi,ms,limit,texts⟩:=q;simp only at hr2 jB i0 i1 i2 hd;have Hx:=ah (fun (hh:ms.length<=8) w' (hn':Nx w w')=>Xp (d:=d) (hr2.nx (by decide) hn') rfl (by omega) jB);have HB:=ah (aG.new w 66 #[.int .i64 lo,.int .i64 hi,.slice B ms.length d,.int .i64 limit,.bool texts]);have Hn:=ah (fun o=>(Ch.refl (fun _=>False) w).alloc o);have HF:Hid (∀b,(decide (0<=lo/\lo<=hi/\hi<=1099511627776/\ms.length<=8/\0<=limit/\limit<=2048)&&ms.all dF)=b->kW ⟨lo,hi,ms,limit,texts⟩=b):=ah (fun b h=>h);clear hr2 hlt jB;unfold iU;simp only;go_enter Tryz.func33,Tryz.ntmps33;go_wp2_with fail
 all_goals first
  |(go_ret
    exact ⟨by rw[HF.out false (by rw[decide_eq_false (by omega)];rfl)];rfl,Hn.out _⟩)
  |skip
 refine (Hx.out (by omega) _ (Hn.out _)).mono ?_;rintro e w5 ⟨rfl,n5⟩;go_wp2_with fail;go_ret;exact ⟨by rw[HF.out _ (by rw[decide_eq_true (by omega),Bool.true_and])];simp,(Hn.out _).tr n5⟩
theorem z5j (q:dN) (x:RV) (hx:x.ok w D) (hxs:x.row.small) (hr2:Rd w D2 3 B q.ms.length (Ry q.ms)) (jB:∀x∈q.ms,x.small) (i0:i64 q.lo) (i1:i64 q.hi) (i2:i64 q.limit) (hd:q.ms.length<=d) (hd2:d<=maxLen) (hl:x.row.ay.length<=1000000) (hm:q.ms.length<=1000000):
 Calls Tryz.prog 86 #[iU q B d,bG x] w fun e w'=>e=.returned (.bool (jo q x.row))/\Nx w w':=by
 obtain ⟨lo,hi,ms,limit,texts⟩:=q;obtain ⟨⟨kind,time,ay,text,value,null,maker,seq,place⟩,A,c⟩:=x;obtain ⟨hr,hc,hc2⟩:=hx;obtain ⟨hs1,hs2,j0,j1,j2,j3,j4,j5⟩:=hxs;simp only at hr hc hs1 hs2 hr2 jB i0 i1 i2 hd hl hm j0 j1 j2 j3 j4 j5;have Hx:=ah (fun w' (hn':Nx w w')=>wB (c:=c) (d:=d) (hr.nx (by decide) hn') rfl hl hs1 (hr2.nx (by decide) hn') rfl hm jB);have Hn:=ah (fun o o2=>((Ch.refl (fun _=>False) w).alloc o).alloc o2);have HF:Hid (∀b,(decide (lo<=time/\time<hi)&&Ve ay ms)=b->jo ⟨lo,hi,ms,limit,texts⟩ ⟨kind,time,ay,text,value,null,maker,seq,place⟩=b):=ah (fun b h=>h);clear hr2 hr hs1 jB;unfold iU bG;simp only;go_enter Tryz.func86,Tryz.ntmps86;go_wp2_with fail
 all_goals first
  |(go_ret
    exact ⟨by rw[HF.out false (by rw[decide_eq_false (by omega)];rfl)];rfl,Hn.out _ _⟩)
  |skip
 refine (Hx.out _ (Hn.out _ _)).mono ?_;rintro e w5 ⟨rfl,n5⟩;go_wp2_with fail;go_ret;exact ⟨by rw[HF.out _ (by rw[decide_eq_true (by omega),Bool.true_and])];rfl,(Hn.out _ _).tr n5⟩
theorem Nr (q:dN) (x:RV) (hx:x.ok w D) (hxs:x.row.small) (hr2:Rd w D2 3 B q.ms.length (Ry q.ms)) (hlt:∀k,D2 k->k<w.heap.size) (jB:∀x∈q.ms,x.small) (i0:i64 q.lo) (i1:i64 q.hi) (i2:i64 q.limit) (hd:q.ms.length<=d) (hd2:d<=maxLen) (hl:x.row.ay.length<=1000000):
 Calls Tryz.prog 35 #[iU q B d,bG x] w fun e w'=>e=.returned (.bool (Vd q x.row))/\Nx w w':=by
 have Hq:=ah (fun w' (hn':Nx w w')=>qj (d:=d) q (hr2.nx (by decide) hn') (fun k hk=>Nat.lt_of_lt_of_le (hlt k hk) hn'.size) jB i0 i1 i2 hd hd2);have Hx:=ah (fun (h8:q.ms.length<=8) w' (hn':Nx w w')=>z5j (w:=w') (D:=D) q x (hx.ch hn' (fun _ _ _ h=>h) (fun _ h=>h)) hxs (hr2.nx (by decide) hn') jB i0 i1 i2 hd hd2 hl (by omega))
 have H8:Hid (kW q=true->q.ms.length<=8):=ah (fun h=>by
  unfold kW at h;rw[Bool.and_eq_true,decide_eq_true_eq]at h;exact h.1.2.2.2.1)
 have HF:Hid (Vd q x.row=(kW q&&jo q x.row)):=ah rfl;obtain ⟨lo,hi,ms,limit,texts⟩:=q;obtain ⟨⟨kind,time,ay,text,value,null,maker,seq,place⟩,A,c⟩:=x;have HB:=ah (fun v o=>(aG.new w 66 v).alloc o);have HC:=ah (fun o v=>aG.new (w.alloc o) 58 v);have Hn:=ah (fun o o2=>((Ch.refl (fun _=>False) w).alloc o).alloc o2);clear hr2 hx hxs jB hlt;unfold iU bG at *;simp only at *;cases hq:kW ⟨lo,hi,ms,limit,texts⟩
 all_goals
  rw[hq]at Hq HF
 ·clear hq
  go_enter Tryz.func35,Tryz.ntmps35;go_wp2_with fail;refine (Hq.out _ (Hn.out _ _)).mono ?_;rintro e w5 ⟨rfl,n5⟩;go_wp2_with fail;go_ret;exact ⟨by rw[HF.out];rfl,(Hn.out _ _).tr n5⟩
 ·have h8:=H8.out hq
  clear hq;go_enter Tryz.func35,Tryz.ntmps35;go_wp2_with fail;refine (Hq.out _ (Hn.out _ _)).mono ?_;rintro e w5 ⟨rfl,n5⟩;have b5:=(HB.out #[.int .i64 lo,.int .i64 hi,.slice B ms.length d,.int .i64 limit,.bool texts] (.cells #[.int .i64 kind,.int .i64 time,.slice A ay.length c,.string text,.int .i64 value,.bool null,.int .i64 maker,.int .i64 seq,.int .i64 place] 58)).nx n5;have c5:=(HC.out (.cells #[.int .i64 lo,.int .i64 hi,.slice B ms.length d,.int .i64 limit,.bool texts] 66) #[.int .i64 kind,.int .i64 time,.slice A ay.length c,.string text,.int .i64 value,.bool null,.int .i64 maker,.int .i64 seq,.int .i64 place]).nx n5;rw[World.size_alloc]at c5;have q0:w5.cell? ⟨w.heap.size,0,none⟩=some (.int .i64 lo):=b5.cell 0;have q1:w5.cell? ⟨w.heap.size,1,none⟩=some (.int .i64 hi):=b5.cell 1;have q2:w5.cell? ⟨w.heap.size,2,none⟩=some (.slice B ms.length d):=b5.cell 2;have q3:w5.cell? ⟨w.heap.size,3,none⟩=some (.int .i64 limit):=b5.cell 3;have q4:w5.cell? ⟨w.heap.size,4,none⟩=some (.bool texts):=b5.cell 4;have r0:w5.cell? ⟨w.heap.size+1,0,none⟩=some (.int .i64 kind):=c5.cell 0;have r1:w5.cell? ⟨w.heap.size+1,1,none⟩=some (.int .i64 time):=c5.cell 1;have r2:w5.cell? ⟨w.heap.size+1,2,none⟩=some (.slice A ay.length c):=c5.cell 2;have r3:w5.cell? ⟨w.heap.size+1,3,none⟩=some (.string text):=c5.cell 3;have r4:w5.cell? ⟨w.heap.size+1,4,none⟩=some (.int .i64 value):=c5.cell 4;have r5:w5.cell? ⟨w.heap.size+1,5,none⟩=some (.bool null):=c5.cell 5;have r6:w5.cell? ⟨w.heap.size+1,6,none⟩=some (.int .i64 maker):=c5.cell 6;have r7:w5.cell? ⟨w.heap.size+1,7,none⟩=some (.int .i64 seq):=c5.cell 7;have r8:w5.cell? ⟨w.heap.size+1,8,none⟩=some (.int .i64 place):=c5.cell 8;have N5:=ah ((Hn.out _ _).tr n5);clear n5 b5 c5 Hn HB HC;go_wp2_with fail;refine (Hx.out h8 _ N5.out).mono ?_;rintro e w6 ⟨rfl,n6⟩;go_wp2_with fail;go_ret;exact ⟨by rw[HF.out,Bool.true_and];rfl,N5.out.tr n6⟩
end
end Go.Proofs.YtpakjclpjcngmaaGreat
