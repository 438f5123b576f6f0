/- Contracts and plain laws that the last text rests on. Conditions: each theorem states its own. -/
import Derived.Test.YtdbfejfhpkakhaaGreatKeQ8
import Derived.Test.YtdbfejfhpkakhaaGreatKeQ5
import Derived.Test.YtdbfejfhpkakhaaGreatKePbStl
import Derived.Test.YtdbfejfhpkakhaaGreatKeQ3
import Derived.Test.YtdbfejfhpkakhaaGreatKePbShl
import Derived.Test.YtdbfejfhpkakhaaGreatKePbBldA
import Derived.Test.YtdbfejfhpkakhaaGreatKeQ7
import Derived.Deep.RegionHeld3
set_option maxRecDepth 100000
set_option maxHeartbeats 16000000
set_option linter.unusedVariables false
namespace Go.Proofs.YtdbfejfhpkakhaaGreat
open Go.RowKit Ps
theorem Rd.Pq (w:World) (x:bZ):Rd (w.alloc (.cells #[.string x.name,.string x.value] 71)) (fun k=>k=w.heap.size) 2 (some ⟨w.heap.size,0,none⟩) 1 (lbl [x]):=
 ⟨rfl,fun _=>⟨_,rfl,rfl,fun j u hu=>World.news_of_block (aG.new w 71 #[.string x.name,.string x.value]) j u (by simpa [lbl,bZ.cs]using hu)⟩⟩
theorem tV {w:World} {D:Nat->Prop} {B:Option Addr} {d:Nat} {aK:List ByteArray} (h:Rd w D 1 B aK.length (dB aK)) (hn:aK.length<=9223372036854775807) (x:ByteArray):
 Calls Tryz.prog 76 #[.slice B aK.length d,.string x] w fun e w'=>e=.returned (.bool (inB aK x))/\w'=w:=by
 rcases Nat.eq_zero_or_pos aK.length with h0|h0
 ·have:aK=[]:=List.eq_nil_of_length_eq_zero h0
  subst this;exact (Tryz.slices_Contains_string_empty B d x w).mono fun e w' ⟨he,hw⟩=>⟨he,hw⟩
 ·obtain ⟨ad,rfl, -,hc⟩:=h.2 h0
  obtain ⟨b,o,q⟩:=ad;have h1:=hc 0 _ (Hg h0)
  have hq:q=none:=by
   cases q with
   |none=>rfl
   |some s=>
    exfalso
    have e:(⟨b,o,some s⟩:Addr).add 0=⟨b,o,some s⟩:=rfl;rw[e]at h1;unfold World.cell? at h1;split at h1
    ·simp at h1
    ·cases h1
  subst hq;refine (Tryz.slices_Contains_string b o aK.length d aK x w (Nat.le_refl _) hn (fun j hj=>?_)).mono ?_
  ·have h2:=hc j _ (Hg hj)
   have e:(⟨b,o,none⟩:Addr).add j=⟨b,o+j,none⟩:=by unfold Addr.add;split<;>simp_all
   rw[e]at h2;exact h2
  ·rintro e w' ⟨rfl,rfl⟩
   refine ⟨?_,rfl⟩;rw[List.take_length]
   have hb:Lib.containsS aK x=inB aK x:=by
    rw[Bool.eq_iff_iff,Lib.containsS_iff,Nb]
   rw[hb]
section
variable {w : World} {D D2 : Nat → Prop} {A B : Option Addr} {c d : Nat} {l : List bZ} {aK : List ByteArray}
theorem Et {k:Nat} (hk:k<l.length):bJ (l.take (k+1)) aK=bJ (l.take k) aK++(if inB aK l[k].name=true then [l[k]] else []):=by
 unfold bJ;rw[List.take_succ_eq_append_getElem hk,List.filter_append,List.filter_cons];split<;>rfl
theorem Iw (k:Nat):(bJ (l.take k) aK).length<=k:=by
 unfold bJ;have:=List.length_filter_le (fun x:bZ=>inB aK x.name) (l.take k);rw[List.length_take]at this;omega
theorem vT (h:Rd w D 2 A l.length (lbl l)) (hl:l.length<=1000000) (h2:Rd w D2 1 B aK.length (dB aK)) (hb:aK.length<=9223372036854775807):
 Calls Tryz.prog 51 #[.slice A l.length c,.slice B aK.length d] w fun e w'=>∃v,e=.returned v/\aF w w' 71 2 v (bJ l aK).length (lbl (bJ l aK)):=by
 obtain ⟨i0,hi0,hz0,hz1,hz2⟩:=info_parts Tryz.CQ;have HR:=ah h;have HC:=ah (fun w' (c':Nx w w') x=>tV (d:=d) (h2.nx (by decide) c') hb x);clear h h2;go_enter Tryz.func51,Tryz.ntmps51;go_wp2_with fail;go_loopw [5,10] (fun s5 s10 wr=>∃k:Nat,k<=l.length/\s10=.int .i64 (k:Int)/\Hid (aF w wr 71 2 s5 (bJ (l.take k) aK).length (lbl (bJ (l.take k) aK)))) (fun _ s10 _=>l.length-(intOf s10).toNat)
 case atStart=>exact ⟨0,Nat.zero_le _,rfl,ah (aF.nil w w _ 2 (Ch.refl _ _))⟩
 case round=>
  obtain ⟨w4,rfl⟩:∃w4:World,w4=wr:=⟨_,rfl⟩;obtain ⟨k,hk,rfl,Ho⟩:=hrel;by_cases hlt:k<l.length
  ·obtain ⟨ad,rfl,hbk,p0,p1⟩:=mM (HR.out.nx (by decide) Ho.out.nx) hlt
   have HT:=ah (Et (aK:=aK) hlt);have hpl:=Iw (l:=l) (aK:=aK) k;generalize bJ (l.take k) aK=P at *;generalize l[k]=x at *;obtain ⟨nm,val⟩:=x;simp only at p0 p1 HT;obtain ⟨A7,c7,hu7,hc7,hm7⟩:=Ho.out.form;subst hu7;have H5:=ah (Ho.out.alloc (.cells #[.string nm,.string val] 71));have XK:=ah (HC.out _ H5.out.nx nm);have HL:=ah (Rd.Pq (w4.alloc (.cells #[.string nm,.string val] 71)) ⟨nm,val⟩);have HSZ:=ah Ho.out.nx.size;simp only[World.size_alloc]at HL;clear hbk;cases hc:inB aK nm
   ·rw[hc]at XK HT
    have HE:Hid (bJ (l.take (k+1)) aK=P):=ah (by rw[HT.out];simp);clear HT hc;go_wp2_with fail;with_reducible refine XK.out.mono ?_
    rintro e w6 ⟨rfl,rfl⟩;go_wp2_with fail;go_roundw
    case rel=>exact ⟨k+1,by omega,by go_num,by rw[HE.out];exact H5⟩
    case measure=>simp[intOf];omega
   ·rw[hc]at XK HT
    have HE:Hid (bJ (l.take (k+1)) aK=P++[⟨nm,val⟩]):=ah (by rw[HT.out];simp);clear HT hc;go_wp2_with fail;with_reducible refine XK.out.mono ?_
    rintro e w6 ⟨rfl,rfl⟩;go_wp2_with (at_builtin;refine z04 _ rfl (.tmp 18) (.tmp 20) _ rfl w.heap.size 71 i0 _ 2 32 Tryz.underlying55 hi0 hz0 hz1 hz2 rfl (by omega) (.slice A7 P.length c7) P.length (lbl P) rfl (H5.out.alloc _).own _ (some ⟨w4.heap.size+1,0,none⟩) 1 1 _ rfl HL.out (CB _) (by simp only[maxLen];omega) (by omega) (by have:=HSZ.out;simp;omega) ?_;intro v7 w7 eH gr7 at7;obtain ⟨o7,m7⟩:=z12 H5.out ((Ch.refl _ _).alloc _) eH gr7 at7;have O7:=ah o7;clear eH gr7 at7 o7 m7)
    go_roundw
    case rel=>exact ⟨k+1,by omega,by go_num,by rw[HE.out,List.length_append,show lbl (P++[⟨nm,val⟩])=lbl P++lbl [⟨nm,val⟩] by simp[lbl]];exact O7⟩
    case measure=>simp[intOf];omega
  ·have HE:Hid (bJ (l.take k) aK=bJ l aK):=ah (by rw[List.take_of_length_le (by omega)])
   go_wp2_with fail;go_ret;refine ⟨_,rfl,?_⟩;rw[←HE.out];exact Ho.out
end
end Go.Proofs.YtdbfejfhpkakhaaGreat
namespace Go.Proofs.YtdbfejfhpkakhaaGreat
open Go.RowKit
structure aW where
 window:Int
 aK:List ByteArray
 group:Int
 buffer:Int
 flush:Int
 age:Int
 piece:Int
 tries:Int
 wait:Int
 small:Int
 most:Int
 fZ:Int
def bY (n a b:Int):Bool:=decide (a<=n)&&decide (n<=b)
def f_ (c:aW) (A:Option Addr) (k:Nat):Value:=.agg #[.int .i64 c.window,.slice A c.aK.length k,.int .i64 c.group,.int .i64 c.buffer,.int .i64 c.flush,.int .i64 c.age,.int .i64 c.piece,.int .i64 c.tries,.int .i64 c.wait,.int .i64 c.small,.int .i64 c.most,.int .i64 c.fZ]
def dR (l:List ByteArray) (i:Nat):ByteArray:=l.getD i ⟨#[]⟩
def AQ (l:List ByteArray) (i:Nat):Bool:=aT (dR l i)&&(decide (i=0)||bC (dR l (i-1)) (dR l i))
def JX (l:List ByteArray):Bool:=(List.range l.length).all fun i=>AQ l i
def gQ (c:aW):Bool:=JX c.aK&&(bY c.window 1 1099511627775&&decide (c.aK.length<=4)&&bY c.group 1 256&&bY c.buffer 1 256&&bY c.most 1 256&&bY c.flush 1 256&&bY c.piece 1 262144&&bY c.tries 1 8&&bY c.small 0 2048&&bY c.age 0 1048576&&bY c.wait 0 1048576&&bY c.fZ 0 1048576)
theorem nG {l:List ByteArray} {i:Nat} (h:i<l.length):dR l i=l[i]:=by unfold dR;rw[List.getD_eq_getElem?_getD,List.getElem?_eq_getElem h];rfl
theorem zB (s:ByteArray):gK [⟨s,⟨#[]⟩⟩]=aT s:=by
 have e:iC [⟨s,⟨#[]⟩⟩] 0=(aT s&&decide ((⟨#[]⟩:ByteArray).size<=16)&&(decide ((0:Nat)=0)||bC (dL [⟨s,⟨#[]⟩⟩] (0-1)).name (dL [⟨s,⟨#[]⟩⟩] 0).name)):=rfl;unfold gK;rw[show List.range [(⟨s,⟨#[]⟩⟩:bZ)].length=[0] from rfl,List.all_cons,List.all_nil,e,decide_eq_true (show (⟨#[]⟩:ByteArray).size<=16 by decide),decide_eq_true (show (0:Nat)=0 from rfl)];simp
theorem DK (n a b:Int) (w:World):Calls Tryz.prog 20 #[.int .i64 n,.int .i64 a,.int .i64 b] w fun e w'=>e=.returned (.bool (bY n a b))/\w=w':=by
 unfold bY;by_cases h:a<=n
 ·have h':¬n<a:=by omega
  go_enter Tryz.func20,Tryz.ntmps20;go_wp2_with fail;go_ret;exact ⟨by simp[],rfl⟩
 ·have h':n<a:=by omega
  go_enter Tryz.func20,Tryz.ntmps20;go_wp2_with fail;go_ret;exact ⟨by rw[show decide (a<=n)=false from decide_eq_false (by omega)];rfl,rfl⟩
theorem Nz (a b c d e f g h i j k:Bool):a=false∨(a=true/\b=false)∨(a=true/\b=true/\c=false)∨(a=true/\b=true/\c=true/\d=false)∨(a=true/\b=true/\c=true/\d=true/\e=false)∨
 (a=true/\b=true/\c=true/\d=true/\e=true/\f=false)∨(a=true/\b=true/\c=true/\d=true/\e=true/\f=true/\g=false)∨(a=true/\b=true/\c=true/\d=true/\e=true/\f=true/\g=true/\h=false)∨
 (a=true/\b=true/\c=true/\d=true/\e=true/\f=true/\g=true/\h=true/\i=false)∨(a=true/\b=true/\c=true/\d=true/\e=true/\f=true/\g=true/\h=true/\i=true/\j=false)∨
 (a=true/\b=true/\c=true/\d=true/\e=true/\f=true/\g=true/\h=true/\i=true/\j=true/\k=false)∨(a=true/\b=true/\c=true/\d=true/\e=true/\f=true/\g=true/\h=true/\i=true/\j=true/\k=true):=by
 cases a<;>cases b<;>cases c<;>cases d<;>cases e<;>cases f<;>cases g<;>cases h<;>cases i<;>cases j<;>cases k<;>simp
theorem Dj {l:List ByteArray} {k:Nat} (h:k<l.length) (hf:AQ l k=false):JX l=false:=by
 unfold JX;rw[List.all_eq_false];exact ⟨k,List.mem_range.2 h,by rw[hf];simp⟩
theorem xU {l:List ByteArray} (h:∀i,i<l.length->AQ l i=true):JX l=true:=yH.2 h
theorem Hf {w:World} {D:Nat->Prop} {A:Option Addr} {n k:Nat} {l:List ByteArray} (h:Rd w D 1 A n (dB l)) (hl:l.length=n) (hk:k<n):∃ad,A=some ad/\D ad.block/\w.cell? (ad.add k)=some (.string (dR l k)):=by
 obtain ⟨ad,u,rfl,hD,hu,hc⟩:=h.at_ hk;refine ⟨ad,rfl,hD,?_⟩;rw[nG (by omega)];have:(dB l)[k]?=some (.string (l[k]'(by omega))):=by unfold dB;rw[List.getElem?_map,List.getElem?_eq_getElem (by omega)];rfl
 rw[this]at hu;injection hu with hu;rw[hu];exact hc
theorem fits_any (C:aW) (A:Option Addr) (q:Nat) (w:World) {D:Nat->Prop} (hr:Rd w D 1 A C.aK.length (dB C.aK)) (hn:C.aK.length<=9223372036854775807) (hs:∀s∈C.aK,s.size<=9223372036854775807):
 Calls Tryz.prog 8 #[f_ C A q] w fun e w'=>e=.returned (.bool (gQ C))/\Nx w w':=by
 obtain ⟨win,fD,gr,bu,fl,ag,pc,tr,wa,sm,mo,gc⟩:=C;simp only at hr hn hs;unfold f_ gQ;simp only;have nV:=ah (fun k (h:k<fD.length) (hf:AQ fD k=false)=>Dj h hf);have jr:=ah (fun (h:∀i,i<fD.length->AQ fD i=true)=>xU h);have HS:=ah (fun k (h:k<fD.length)=>(by rw[nG h];exact hs _ (List.getElem_mem h):(dR fD k).size<=9223372036854775807));have HT:=ah (fun k (h:k<fD.length) w' (c:Nx w w')=>Hf (hr.nx (by decide) c) rfl h);have W1:=ah (fun w=>DK win 1 1099511627775 w);have W2:=ah (fun w=>DK gr 1 256 w);have W3:=ah (fun w=>DK bu 1 256 w);have W4:=ah (fun w=>DK mo 1 256 w);have W5:=ah (fun w=>DK fl 1 256 w);have W6:=ah (fun w=>DK pc 1 262144 w);have W7:=ah (fun w=>DK tr 1 8 w);have W8:=ah (fun w=>DK sm 0 2048 w);have W9:=ah (fun w=>DK ag 0 1048576 w);have Wa:=ah (fun w=>DK wa 0 1048576 w);have Wb:=ah (fun w=>DK gc 0 1048576 w);clear hr hs;generalize bY win 1 1099511627775=q1 at *;generalize bY gr 1 256=q2 at *;generalize bY bu 1 256=q3 at *;generalize bY mo 1 256=q4 at *;generalize bY fl 1 256=q5 at *;generalize bY pc 1 262144=q6 at *;generalize bY tr 1 8=q7 at *;generalize bY sm 0 2048=q8 at *;generalize bY ag 0 1048576=q9 at *;generalize bY wa 0 1048576=qa at *;generalize bY gc 0 1048576=qb at *;obtain ⟨n,hl⟩:∃n,fD.length=n:=⟨_,rfl⟩;rw[hl]at nV jr HS HT hn ⊢;have HB:=ah (aG.new w 24 #[.int .i64 win,.slice A n q,.int .i64 gr,.int .i64 bu,.int .i64 fl,.int .i64 ag,.int .i64 pc,.int .i64 tr,.int .i64 wa,.int .i64 sm,.int .i64 mo,.int .i64 gc]);have HN:=ah ((Ch.refl (fun _=>False) w).alloc (.cells #[.int .i64 win,.slice A n q,.int .i64 gr,.int .i64 bu,.int .i64 fl,.int .i64 ag,.int .i64 pc,.int .i64 tr,.int .i64 wa,.int .i64 sm,.int .i64 mo,.int .i64 gc] 24));clear hl;go_enter Tryz.func8,Tryz.ntmps8;go_wp2_with fail;have je:=ah (fun w' (c:Nx (w.alloc (.cells #[.int .i64 win,.slice A n q,.int .i64 gr,.int .i64 bu,.int .i64 fl,.int .i64 ag,.int .i64 pc,.int .i64 tr,.int .i64 wa,.int .i64 sm,.int .i64 mo,.int .i64 gc] 24)) w')=>HB.out.nx c);obtain ⟨W,hW⟩:∃W,w.alloc (.cells #[.int .i64 win,.slice A n q,.int .i64 gr,.int .i64 bu,.int .i64 fl,.int .i64 ag,.int .i64 pc,.int .i64 tr,.int .i64 wa,.int .i64 sm,.int .i64 mo,.int .i64 gc] 24)=W:=⟨_,rfl⟩;rw[hW]at HN je;simp only[hW];have Hl0:Hid (Nx W W):=ah (Ch.refl _ W);clear hW HB;go_loopw [8] (fun i wr=>∃k:Nat,k<=n/\i=.int .i64 (k:Int)/\Nx W wr/\Hid (∀i,i<k->AQ fD i=true)) (fun i _=>n-(intOf i).toNat)
 case atStart=>exact ⟨0,Nat.zero_le _,rfl,Hl0.out,ah fun i hi=>by omega⟩
 case round=>
  obtain ⟨w4,rfl⟩:∃w4:World,w4=wr:=⟨_,rfl⟩;obtain ⟨k,hk,rfl,hn4,He⟩:=hrel;have b4:=je.out _ hn4;have N4:=ah hn4;clear hn4;by_cases hlt:k<n
  ·obtain ⟨ad,rfl,hb,p0⟩:=HT.out k hlt _ (HN.out.tr N4.out)
   have hrg:=Yb (c:=1) (Rd.Pq w4 ⟨dR fD k,⟨#[]⟩⟩) rfl (by decide) (fun x hx=>by rw[List.mem_singleton]at hx;subst hx;exact ⟨HS.out k hlt,Nat.zero_le _⟩);rw[zB]at hrg;have HR:=ah hrg;have HF:Hid (AQ fD k=(aT (dR fD k)&&(decide (k=0)||bC (dR fD (k-1)) (dR fD k)))):=ah rfl
   have HG:Hid (AQ fD k=true->∀i,i<k+1->AQ fD i=true):=ah (fun h i hi=>by
    by_cases e:i=k
    ·subst e;exact h
    ·exact He.out i (by omega))
   have Oz:=ah (fun h=>nV.out k hlt h);obtain ⟨j,hj⟩:∃j,k-1=j:=⟨_,rfl⟩;rw[hj]at HF;clear hrg;generalize dR fD k=s at *;cases iE:aT s
   ·rw[iE]at HR
    have Hk:=ah (Oz.out (by rw[HF.out,iE];rfl));clear iE hj;go_wp2_with fail;refine HR.out.mono ?_;rintro e w5 ⟨rfl,n5⟩;have N5:=ah ((N4.out.alloc _).tr n5);clear n5;go_wp2_with fail;go_ret;exact ⟨by rw[Hk.out];rfl,HN.out.tr N5.out⟩
   ·rw[iE]at HR
    by_cases h0:0<k
    ·have h0':(0:Int)<(k:Int):=by omega
     have kj:(k:Int)-1=(j:Int):=(by omega);have kw:IntKind.i64.wrap (j:Int)=(j:Int):=IntWalk.i64_in _ (by omega);have kb:(j:Int)<(n:Int):=(by omega);have kb2:j<n:=(by omega);generalize hpv:dR fD j=pv at *;cases hbl:bC pv s
     ·have Hk:=ah (Oz.out (by rw[HF.out,iE,hbl,decide_eq_false (show ¬k=0 by omega)];rfl))
      have hq:Op.bytesLess pv.toList s.toList=false:=by rw[KT];exact hbl
      clear iE hbl hj;go_wp2_with fail;refine HR.out.mono ?_;rintro e w5 ⟨rfl,n5⟩;have N5:=ah ((N4.out.alloc _).tr n5);clear n5 b4 p0;have d5:w5.cell? ⟨w.heap.size,1,none⟩=some (.slice (some ad) n q):=(je.out _ N5.out).cell 1;obtain ⟨ad2,e2,_,q0⟩:=HT.out j kb2 _ (HN.out.tr N5.out);injection e2 with e2;subst e2;rw[hpv]at q0;go_wp2_with fail;go_ret;exact ⟨by rw[Hk.out];rfl,HN.out.tr N5.out⟩
     ·have Hk:=ah (HG.out (by rw[HF.out,iE,hbl];simp))
      have hq:Op.bytesLess pv.toList s.toList=true:=by rw[KT];exact hbl
      clear iE hbl hj;go_wp2_with fail;refine HR.out.mono ?_;rintro e w5 ⟨rfl,n5⟩;have N5:=ah ((N4.out.alloc _).tr n5);clear n5 b4 p0;have d5:w5.cell? ⟨w.heap.size,1,none⟩=some (.slice (some ad) n q):=(je.out _ N5.out).cell 1;obtain ⟨ad2,e2,_,q0⟩:=HT.out j kb2 _ (HN.out.tr N5.out);injection e2 with e2;subst e2;rw[hpv]at q0;go_wp2_with fail;go_roundw
      case rel=>exact ⟨k+1,by omega,by go_num,N5.out,ah Hk.out⟩
      case measure=>simp[intOf];omega
    ·have h0':¬(0:Int)<(k:Int):=by omega
     have Hk:=ah (HG.out (by rw[HF.out,iE,decide_eq_true (show k=0 by omega)];rfl));clear iE hj;go_wp2_with fail;refine HR.out.mono ?_;rintro e w5 ⟨rfl,n5⟩;have N5:=ah ((N4.out.alloc _).tr n5);clear n5;go_wp2_with fail;go_roundw
     case rel=>exact ⟨k+1,by omega,by go_num,N5.out,ah Hk.out⟩
     case measure=>simp[intOf];omega
  ·have Hk:=ah (jr.out fun i hi=>He.out i (by omega))
   have d0:w4.cell? ⟨w.heap.size,0,none⟩=some (.int .i64 win):=b4.cell 0;have d2:w4.cell? ⟨w.heap.size,2,none⟩=some (.int .i64 gr):=b4.cell 2;have d3:w4.cell? ⟨w.heap.size,3,none⟩=some (.int .i64 bu):=b4.cell 3;have d10:w4.cell? ⟨w.heap.size,10,none⟩=some (.int .i64 mo):=b4.cell 10;have d4:w4.cell? ⟨w.heap.size,4,none⟩=some (.int .i64 fl):=b4.cell 4;have d6:w4.cell? ⟨w.heap.size,6,none⟩=some (.int .i64 pc):=b4.cell 6;have d7:w4.cell? ⟨w.heap.size,7,none⟩=some (.int .i64 tr):=b4.cell 7;have d9:w4.cell? ⟨w.heap.size,9,none⟩=some (.int .i64 sm):=b4.cell 9;have d5:w4.cell? ⟨w.heap.size,5,none⟩=some (.int .i64 ag):=b4.cell 5;have d8:w4.cell? ⟨w.heap.size,8,none⟩=some (.int .i64 wa):=b4.cell 8;have d11:w4.cell? ⟨w.heap.size,11,none⟩=some (.int .i64 gc):=b4.cell 11;have d1:w4.cell? ⟨w.heap.size,1,none⟩=some (.slice A n q):=b4.cell 1;have HF:=ah (HN.out.tr N4.out);clear b4 HT je He jr nV HS N4 HN;by_cases h4:n<=4
   ·have h4i:(n:Int)<=4:=by omega
    rcases Nz q1 q2 q3 q4 q5 q6 q7 q8 q9 qa qb with rfl|⟨rfl,rfl⟩|⟨rfl,rfl,rfl⟩|⟨rfl,rfl,rfl,rfl⟩|⟨rfl,rfl,rfl,rfl,rfl⟩|⟨rfl,rfl,rfl,rfl,rfl,rfl⟩|⟨rfl,rfl,rfl,rfl,rfl,rfl,rfl⟩|⟨rfl,rfl,rfl,rfl,rfl,rfl,rfl,rfl⟩|⟨rfl,rfl,rfl,rfl,rfl,rfl,rfl,rfl,rfl⟩|⟨rfl,rfl,rfl,rfl,rfl,rfl,rfl,rfl,rfl,rfl⟩|⟨rfl,rfl,rfl,rfl,rfl,rfl,rfl,rfl,rfl,rfl,rfl⟩|⟨rfl,rfl,rfl,rfl,rfl,rfl,rfl,rfl,rfl,rfl,rfl⟩
    ·go_wp2_with fail
     refine (W1.out _).mono ?_;rintro e w5 ⟨rfl,rfl⟩;go_wp2_with fail;go_ret;exact ⟨by rw[Hk.out];simp[h4],HF.out⟩
    ·go_wp2_with fail
     refine (W1.out _).mono ?_;rintro e w5 ⟨rfl,rfl⟩;go_wp2_with fail;refine (W2.out _).mono ?_;rintro e w5 ⟨rfl,rfl⟩;go_wp2_with fail;go_ret;exact ⟨by rw[Hk.out];simp[h4],HF.out⟩
    ·go_wp2_with fail
     refine (W1.out _).mono ?_;rintro e w5 ⟨rfl,rfl⟩;go_wp2_with fail;refine (W2.out _).mono ?_;rintro e w5 ⟨rfl,rfl⟩;go_wp2_with fail;refine (W3.out _).mono ?_;rintro e w5 ⟨rfl,rfl⟩;go_wp2_with fail;go_ret;exact ⟨by rw[Hk.out];simp[h4],HF.out⟩
    ·go_wp2_with fail
     refine (W1.out _).mono ?_;rintro e w5 ⟨rfl,rfl⟩;go_wp2_with fail;refine (W2.out _).mono ?_;rintro e w5 ⟨rfl,rfl⟩;go_wp2_with fail;refine (W3.out _).mono ?_;rintro e w5 ⟨rfl,rfl⟩;go_wp2_with fail;refine (W4.out _).mono ?_;rintro e w5 ⟨rfl,rfl⟩;go_wp2_with fail;go_ret;exact ⟨by rw[Hk.out];simp[h4],HF.out⟩
    ·go_wp2_with fail
     refine (W1.out _).mono ?_;rintro e w5 ⟨rfl,rfl⟩;go_wp2_with fail;refine (W2.out _).mono ?_;rintro e w5 ⟨rfl,rfl⟩;go_wp2_with fail;refine (W3.out _).mono ?_;rintro e w5 ⟨rfl,rfl⟩;go_wp2_with fail;refine (W4.out _).mono ?_;rintro e w5 ⟨rfl,rfl⟩;go_wp2_with fail;refine (W5.out _).mono ?_;rintro e w5 ⟨rfl,rfl⟩;go_wp2_with fail;go_ret;exact ⟨by rw[Hk.out];simp[h4],HF.out⟩
    ·go_wp2_with fail
     refine (W1.out _).mono ?_;rintro e w5 ⟨rfl,rfl⟩;go_wp2_with fail;refine (W2.out _).mono ?_;rintro e w5 ⟨rfl,rfl⟩;go_wp2_with fail;refine (W3.out _).mono ?_;rintro e w5 ⟨rfl,rfl⟩;go_wp2_with fail;refine (W4.out _).mono ?_;rintro e w5 ⟨rfl,rfl⟩;go_wp2_with fail;refine (W5.out _).mono ?_;rintro e w5 ⟨rfl,rfl⟩;go_wp2_with fail;refine (W6.out _).mono ?_;rintro e w5 ⟨rfl,rfl⟩;go_wp2_with fail;go_ret;exact ⟨by rw[Hk.out];simp[h4],HF.out⟩
    ·go_wp2_with fail
     refine (W1.out _).mono ?_;rintro e w5 ⟨rfl,rfl⟩;go_wp2_with fail;refine (W2.out _).mono ?_;rintro e w5 ⟨rfl,rfl⟩;go_wp2_with fail;refine (W3.out _).mono ?_;rintro e w5 ⟨rfl,rfl⟩;go_wp2_with fail;refine (W4.out _).mono ?_;rintro e w5 ⟨rfl,rfl⟩;go_wp2_with fail;refine (W5.out _).mono ?_;rintro e w5 ⟨rfl,rfl⟩;go_wp2_with fail;refine (W6.out _).mono ?_;rintro e w5 ⟨rfl,rfl⟩;go_wp2_with fail;refine (W7.out _).mono ?_;rintro e w5 ⟨rfl,rfl⟩;go_wp2_with fail;go_ret;exact ⟨by rw[Hk.out];simp[h4],HF.out⟩
    ·go_wp2_with fail
     refine (W1.out _).mono ?_;rintro e w5 ⟨rfl,rfl⟩;go_wp2_with fail;refine (W2.out _).mono ?_;rintro e w5 ⟨rfl,rfl⟩;go_wp2_with fail;refine (W3.out _).mono ?_;rintro e w5 ⟨rfl,rfl⟩;go_wp2_with fail;refine (W4.out _).mono ?_;rintro e w5 ⟨rfl,rfl⟩;go_wp2_with fail;refine (W5.out _).mono ?_;rintro e w5 ⟨rfl,rfl⟩;go_wp2_with fail;refine (W6.out _).mono ?_;rintro e w5 ⟨rfl,rfl⟩;go_wp2_with fail;refine (W7.out _).mono ?_;rintro e w5 ⟨rfl,rfl⟩;go_wp2_with fail;refine (W8.out _).mono ?_;rintro e w5 ⟨rfl,rfl⟩;go_wp2_with fail;go_ret;exact ⟨by rw[Hk.out];simp[h4],HF.out⟩
    ·go_wp2_with fail
     refine (W1.out _).mono ?_;rintro e w5 ⟨rfl,rfl⟩;go_wp2_with fail;refine (W2.out _).mono ?_;rintro e w5 ⟨rfl,rfl⟩;go_wp2_with fail;refine (W3.out _).mono ?_;rintro e w5 ⟨rfl,rfl⟩;go_wp2_with fail;refine (W4.out _).mono ?_;rintro e w5 ⟨rfl,rfl⟩;go_wp2_with fail;refine (W5.out _).mono ?_;rintro e w5 ⟨rfl,rfl⟩;go_wp2_with fail;refine (W6.out _).mono ?_;rintro e w5 ⟨rfl,rfl⟩;go_wp2_with fail;refine (W7.out _).mono ?_;rintro e w5 ⟨rfl,rfl⟩;go_wp2_with fail;refine (W8.out _).mono ?_;rintro e w5 ⟨rfl,rfl⟩;go_wp2_with fail;refine (W9.out _).mono ?_;rintro e w5 ⟨rfl,rfl⟩;go_wp2_with fail;go_ret;exact ⟨by rw[Hk.out];simp[h4],HF.out⟩
    ·go_wp2_with fail
     refine (W1.out _).mono ?_;rintro e w5 ⟨rfl,rfl⟩;go_wp2_with fail;refine (W2.out _).mono ?_;rintro e w5 ⟨rfl,rfl⟩;go_wp2_with fail;refine (W3.out _).mono ?_;rintro e w5 ⟨rfl,rfl⟩;go_wp2_with fail;refine (W4.out _).mono ?_;rintro e w5 ⟨rfl,rfl⟩;go_wp2_with fail;refine (W5.out _).mono ?_;rintro e w5 ⟨rfl,rfl⟩;go_wp2_with fail;refine (W6.out _).mono ?_;rintro e w5 ⟨rfl,rfl⟩;go_wp2_with fail;refine (W7.out _).mono ?_;rintro e w5 ⟨rfl,rfl⟩;go_wp2_with fail;refine (W8.out _).mono ?_;rintro e w5 ⟨rfl,rfl⟩;go_wp2_with fail;refine (W9.out _).mono ?_;rintro e w5 ⟨rfl,rfl⟩;go_wp2_with fail;refine (Wa.out _).mono ?_;rintro e w5 ⟨rfl,rfl⟩;go_wp2_with fail;go_ret;exact ⟨by rw[Hk.out];simp[h4],HF.out⟩
    ·go_wp2_with fail
     refine (W1.out _).mono ?_;rintro e w5 ⟨rfl,rfl⟩;go_wp2_with fail;refine (W2.out _).mono ?_;rintro e w5 ⟨rfl,rfl⟩;go_wp2_with fail;refine (W3.out _).mono ?_;rintro e w5 ⟨rfl,rfl⟩;go_wp2_with fail;refine (W4.out _).mono ?_;rintro e w5 ⟨rfl,rfl⟩;go_wp2_with fail;refine (W5.out _).mono ?_;rintro e w5 ⟨rfl,rfl⟩;go_wp2_with fail;refine (W6.out _).mono ?_;rintro e w5 ⟨rfl,rfl⟩;go_wp2_with fail;refine (W7.out _).mono ?_;rintro e w5 ⟨rfl,rfl⟩;go_wp2_with fail;refine (W8.out _).mono ?_;rintro e w5 ⟨rfl,rfl⟩;go_wp2_with fail;refine (W9.out _).mono ?_;rintro e w5 ⟨rfl,rfl⟩;go_wp2_with fail;refine (Wa.out _).mono ?_;rintro e w5 ⟨rfl,rfl⟩;go_wp2_with fail;refine (Wb.out _).mono ?_;rintro e w5 ⟨rfl,rfl⟩;go_wp2_with fail;go_ret;exact ⟨by rw[Hk.out];simp[h4],HF.out⟩
    ·go_wp2_with fail
     refine (W1.out _).mono ?_;rintro e w5 ⟨rfl,rfl⟩;go_wp2_with fail;refine (W2.out _).mono ?_;rintro e w5 ⟨rfl,rfl⟩;go_wp2_with fail;refine (W3.out _).mono ?_;rintro e w5 ⟨rfl,rfl⟩;go_wp2_with fail;refine (W4.out _).mono ?_;rintro e w5 ⟨rfl,rfl⟩;go_wp2_with fail;refine (W5.out _).mono ?_;rintro e w5 ⟨rfl,rfl⟩;go_wp2_with fail;refine (W6.out _).mono ?_;rintro e w5 ⟨rfl,rfl⟩;go_wp2_with fail;refine (W7.out _).mono ?_;rintro e w5 ⟨rfl,rfl⟩;go_wp2_with fail;refine (W8.out _).mono ?_;rintro e w5 ⟨rfl,rfl⟩;go_wp2_with fail;refine (W9.out _).mono ?_;rintro e w5 ⟨rfl,rfl⟩;go_wp2_with fail;refine (Wa.out _).mono ?_;rintro e w5 ⟨rfl,rfl⟩;go_wp2_with fail;refine (Wb.out _).mono ?_;rintro e w5 ⟨rfl,rfl⟩;go_wp2_with fail;go_ret;exact ⟨by rw[Hk.out];simp[h4],HF.out⟩
   ·have h4i:¬(n:Int)<=4:=by omega
    cases q1
    ·go_wp2_with fail
     refine (W1.out _).mono ?_;rintro e w5 ⟨rfl,rfl⟩;go_wp2_with fail;go_ret;exact ⟨by rw[Hk.out];simp[h4],HF.out⟩
    ·go_wp2_with fail
     refine (W1.out _).mono ?_;rintro e w5 ⟨rfl,rfl⟩;go_wp2_with fail;go_ret;exact ⟨by first|rfl|(rw[Hk.out];simp[h4]),HF.out⟩
end Go.Proofs.YtdbfejfhpkakhaaGreat
namespace Go.Proofs.YtdbfejfhpkakhaaGreat
open Go.RowKit Ps
def uT (l:List bZ):ByteArray:=if gK l=true then vY (textF l) else ⟨#[]⟩
theorem toL (s:ByteArray) (i:Nat) (h:i<s.size):s.data.toList[i]'(by rw[Array.length_toList];exact h)=s[i]:=by
 rw[Array.getElem_toList];rfl
theorem pO {s:ByteArray} {i:Nat} (h:i<s.size):fK (s.data.toList.take (i+1))=fK (s.data.toList.take i)++Dl s[i]:=by
 rw[List.take_succ_eq_append_getElem (by rw[Array.length_toList];exact h),DT,toL s i h]
theorem FV {l:List bZ} {k:Nat} (h:k<l.length):bodyT (l.take (k+1))=bodyT (l.take k)++((if k=0 then [] else [44])++labT l[k]):=by
 rw[List.take_succ_eq_append_getElem h,FW]
 have e:(if l.take k=[] then ([]:List UInt8) else [44])=if k=0 then [] else [44]:=by
  cases k with
  |zero=>rfl
  |succ k=>
   rw[if_neg (Nat.succ_ne_zero k),if_neg];intro e;have:=congrArg List.length e;rw[List.length_take]at this;simp only[List.length_nil]at this;omega
 rw[e]
theorem XQ:∀{l:List bZ},(∀x∈l,aT x.name=true/\x.value.size<=16)->(bodyT l).length<=60 * l.length
 |[],_=>Nat.le_refl _
 |x::r,h=>by
  have h1:=mO (h x List.mem_cons_self).1 (h x List.mem_cons_self).2;have h2:=z32 (r:=r) (fun y hy=>h y (List.mem_cons_of_mem _ hy));unfold bodyT;simp only[List.length_cons,List.length_append];omega
theorem xQ (a:ByteArray) (b:Array UInt8):(a++(⟨b⟩:ByteArray)).data.toList=a.data.toList++b.toList:=by
 rw[ByteArray.data_append,Array.toList_append]
section
variable {w : World} {D : Nat → Prop} {A : Option Addr} {c : Nat} {l : List bZ}
theorem kN (h:Rd w D 2 A l.length (lbl l)) (hl:l.length<=1000000) (hsm:∀x∈l,x.small):
 Calls Tryz.prog 50 #[.slice A l.length c] w fun e w'=>e=.returned (.tuple #[.string (uT l),.int .i64 (if gK l=true then 0 else 4)])/\Nx w w':=by
 have Lc:=ah (Yb (c:=c) h rfl (by omega) hsm);have HR:=ah h;clear h hsm;cases hr:gK l
 ·rw[hr]at Lc
  have HX:Hid (uT l=⟨#[]⟩):=ah (by unfold uT;rw[hr];rfl);clear hr;go_enter Tryz.func50,Tryz.ntmps50;go_wp2_with fail;refine Lc.out.mono ?_;rintro e w1 ⟨rfl,n1⟩;have N1:=ah n1;clear n1;go_wp2_with fail;exact bodyPost_ret (v:=.tuple #[.string ⟨#[]⟩,.int .i64 4]) (by simp[results,Tryz.results50,go_sem]) rfl ⟨by rw[HX.out];first|done|rfl,N1.out⟩
 ·rw[hr]at Lc
  have HX:Hid (uT l=vY (123::(bodyT l++[125]))):=ah (by unfold uT;rw[hr];rfl);have WL:=ah (fun x (hx:x∈l)=>Xl hr hx)
  have h4:l.length<=4:=by
   unfold gK at hr;rw[Bool.and_eq_true,decide_eq_true_eq]at hr;exact hr.1
  clear hr;go_enter Tryz.func50,Tryz.ntmps50;go_wp2_with fail;refine Lc.out.mono ?_;rintro e w1 ⟨rfl,n1⟩;have N1:=ah n1;have HB0:=ah (z10 (jE.new w1) ⟨#[123]⟩ (by decide));clear n1 Lc;go_wp2_with fail;refine HB0.out.mono ?_;rintro e w2 ⟨rfl,hb2,hr2⟩;have HB2:=ah hb2;clear hb2 hr2 HB0;go_wp2_with fail;go_loopw [15] (fun s15 wr=>∃k:Nat,k<=l.length/\s15=.int .i64 (k:Int)/\Hid (jE w1 wr w1.heap.size (123::bodyT (l.take k)))) (fun s15 _=>l.length-(intOf s15).toNat)
  case atStart=>exact ⟨0,Nat.zero_le _,rfl,HB2⟩
  case round=>
   obtain ⟨w3,rfl⟩:∃w3:World,w3=wr:=⟨_,rfl⟩;obtain ⟨k,hk,rfl,HB⟩:=hrel;by_cases hlt:k<l.length
   ·obtain ⟨ad,rfl,hbk,p0,p1⟩:=mM (HR.out.nx (by decide) (N1.out.tr HB.out.nx)) hlt
    have HS:=ah (FV hlt);have hin:=WL.out _ (List.getElem_mem hlt)
    have hbl:(bodyT (l.take k)).length<=60 * k:=by
     have:=XQ (l:=l.take k) (fun x hx=>WL.out x (List.mem_of_mem_take hx));rw[List.length_take]at this;omega
    generalize bodyT (l.take k)=T at *;generalize l[k]=x at *;obtain ⟨nm,val⟩:=x;simp only at p0 p1 hin
    have hnl:nm.size<=8:=by
     have:=hin.1;unfold aT at this;rw[Bool.and_eq_true,decide_eq_true_eq]at this;exact this.1.2
    have hvl:=hin.2;clear hin hbk;have B4:=ah (HB.out.tr ((Ch.refl (fun _=>False) w3).alloc (.cells #[.string nm,.string val] 71)));have G4:=ah (aG.new w3 71 #[.string nm,.string val])
    have hgb:w1.heap.size<w3.heap.size:=by
     obtain ⟨_,_,_,hb,_⟩:=HB.out;exact hb.lt
    by_cases hk0:0<k
    ·have HS2:Hid (123::bodyT (l.take (k+1))=((123::T)++[44])++labT ⟨nm,val⟩):=ah (by rw[HS.out,if_neg (by omega)];simp)
     have HW1:=ah (z10 B4.out ⟨#[44]⟩ (by show (123::T).length+1<=_;simp only[List.length_cons];omega));clear HS;go_wp2_with fail;refine HW1.out.mono ?_;rintro e w5 ⟨rfl,hb5,hr5⟩;have B5:Hid (jE w1 w5 w1.heap.size ((123::T)++[44])):=ah hb5;have G5:=ah (hr5.2 _ _ _ G4.out (by decide) (by omega));have c0:w5.cell? ⟨w3.heap.size,0,none⟩=some (.string nm):=G5.out.cell 0;have HW2:=ah (z10 B5.out (nm++⟨#[61,34]⟩) (by rw[ByteArray.size_append];show ((123::T)++[44]).length+(nm.size+2)<=_;simp only[List.length_cons,List.length_append,List.length_nil];omega));clear hb5 hr5 HW1 G4 B4 HB p0 p1;go_wp2_with fail;refine HW2.out.mono ?_;rintro e w6 ⟨rfl,hb6,hr6⟩;obtain ⟨Q,hQ⟩:∃Q,Q=((123::T)++[44])++(nm.data.toList++[61,34]):=⟨_,rfl⟩;have B6:Hid (jE w1 w6 w1.heap.size Q):=ah (by rw[hQ];have h:=hb6;rw[xQ]at h;exact h);have G6:=ah (hr6.2 _ _ _ G5.out (by decide) (by omega));clear hb6 hr6 HW2 c0;have HSQ:Hid (123::bodyT (l.take (k+1))=Q++(fK val.data.toList++[34])):=ah (by rw[HS2.out,hQ];simp[labT])
     have hql:Q.length<=400:=by
      rw[hQ];have e2:nm.data.toList.length=nm.size:=Array.length_toList ..;simp only[List.length_append,List.length_cons,List.length_nil];omega
     have c1:w6.cell? ⟨w3.heap.size,1,none⟩=some (.string val):=G6.out.cell 1;have hl6:=G6.out.lt;clear hQ HS2 hbl;go_wp2_with fail;clear c1;go_loopw [30] (fun s30 wr=>∃i:Nat,i<=val.size/\s30=.int .i64 (i:Int)/\Hid (jE w1 wr w1.heap.size (Q++fK (val.data.toList.take i)))/\Hid (aG wr w3.heap.size 71 #[.string nm,.string val])) (fun s30 _=>val.size-(intOf s30).toNat)
     case atStart=>exact ⟨0,Nat.zero_le _,rfl,ah (by have h:=B6.out;rw[List.take_zero,show fK []=[] from rfl,List.append_nil];exact h),G6⟩
     case round=>
      obtain ⟨w7,rfl⟩:∃w7:World,w7=wr:=⟨_,rfl⟩;obtain ⟨i,hi,rfl,B7,G7⟩:=hrel;have c1:w7.cell? ⟨w3.heap.size,1,none⟩=some (.string val):=G7.out.cell 1;have hl7:=G7.out.lt;by_cases hil:i<val.size
      ·have HV:=ah (pO hil)
       have Ri:(fK (val.data.toList.take i)).length<=3 * i:=by
        have:=TI (val.data.toList.take i);rw[List.length_take]at this;omega
       have hc256:=val[i].toNat_lt;have uz:=ah (qB val[i].toNat (by omega));generalize hvt:fK (val.data.toList.take i)=V at *;cases hp:Pn val[i].toNat
       ·rw[hp]at uz
        have kE:Hid (Dl val[i]=[92,jP (val[i].toNat / 16),jP (val[i].toNat % 16)]):=ah (by unfold Dl;rw[hp];rfl);clear hp;go_wp2_with fail;refine (uz.out _).mono ?_;rintro e w8 ⟨rfl,rfl⟩;go_wp2_with fail;obtain ⟨X,hX⟩:∃X,X=Fa:=⟨_,rfl⟩;have Rz:=hX;have HX:=ah hX.symm;unfold Fa at HX;have Zm:X.size=16:=by rw[hX];rfl
        clear hX;obtain ⟨cc,hcc⟩:∃cc,cc=val[i].toNat:=⟨_,rfl⟩;rw[HX.out];obtain ⟨p,hp⟩:∃p,p=cc / 16:=⟨_,rfl⟩;obtain ⟨m,hm⟩:∃m,m=cc % 16:=⟨_,rfl⟩;have VF:cc<256:=by rw[hcc];omega
        rw[←hcc]at kE;rw[←hcc];have hn1:p<X.size:=(by omega);have hn2:m<X.size:=(by omega);have HEP:=ah (show X[p]=jP p by subst Rz;exact CV (by omega));have HEM:=ah (show X[m]=jP m by subst Rz;exact CV (by omega));rw[←hp,←hm]at kE;have k3:(cc:Int) / 16=(p:Int):=(by omega);have k4:=u8_and15 (x:=(cc:Int)) (by omega) (by omega);rw[show (cc:Int) % 16=(m:Int) by omega]at k4;have kn1:(p:Int)<(X.size:Int):=(by omega);have kn2:(m:Int)<(X.size:Int):=(by omega);have k7:cc % 16=m:=hm.symm;have k8:cc / 16=p:=hp.symm;clear hcc hp hm Zm Rz;have N8:=ah (((Ch.refl (fun _=>False) w7).alloc (.cells #[.int .u8 92,.int .u8 (X[p].toNat:Int),.int .u8 (X[m].toNat:Int)] 5)).drew);have B8:=ah (B7.out.tr N8.out);have G8:=ah (G7.out.nx N8.out);have hg:aG (w7.alloc (.cells #[.int .u8 92,.int .u8 (X[p].toNat:Int),.int .u8 (X[m].toNat:Int)] 5)).drew w7.heap.size 5 (Lib.byteCells [92,X[p],X[m]]).toArray:=(aG.new w7 5 _).drew
        have hgo:∀v,(w7.alloc (.cells #[.int .u8 92,.int .u8 (X[p].toNat:Int),.int .u8 (X[m].toNat:Int)] 5)).drew.cell? ⟨w1.heap.size,1,none⟩=some v->v.ownBlock≠some w7.heap.size:=by
         obtain ⟨p0,v0,_,hb0,o0,_⟩:=B7.out;intro v hv e;have h1:=(hb0.nx N8.out).cell 1;rw[h1]at hv;injection hv with hv;subst hv;have:=(o0.lt _ e).2;omega
        have ZX:Hid (Calls Tryz.prog 74 #[.pointer (some ⟨w1.heap.size,0,none⟩),.slice (some ⟨w7.heap.size,0,none⟩) 3 3] (w7.alloc (.cells #[.int .u8 92,.int .u8 (X[p].toNat:Int),.int .u8 (X[m].toNat:Int)] 5)).drew fun e w'=>e=.returned (.tuple #[.int .i64 3,.nilIface])/\jE w1 w' w1.heap.size ((Q++V)++[92,X[p],X[m]])/\Rest w1.heap.size (w7.alloc (.cells #[.int .u8 92,.int .u8 (X[p].toNat:Int),.int .u8 (X[m].toNat:Int)] 5)).drew w'):=
         ah (ru (m:=[92,X[p],X[m]]) (cap:=3) B8.out hg hgo (by rw[List.length_append];show _+3<=_;omega))
        clear hg hgo c1;go_region_held3 (fun _=>True) (exact trivial) ((go_at_call 74;refine ZX.out.mono ?_;rintro e w9 ⟨rfl,hb9,hr9⟩;have B9:=ah hb9;have G9:=ah (hr9.2 _ _ _ G8.out (by decide) (by omega));clear hb9 hr9))
        go_wp2_with fail
        all_goals
         refine ⟨⟨i+1,by omega,by go_num,ah (by rw[HV.out,kE.out,←HEP.out,←HEM.out,←List.append_assoc];exact B9.out),G9⟩,?_⟩;simp[intOf];omega
       ·rw[hp]at uz
        have kE:Hid (Dl val[i]=[val[i]]):=ah (by unfold Dl;rw[hp];rfl);have ZY:=ah (xY B7.out val[i] (by rw[List.length_append];omega));clear hp;go_wp2_with fail;refine (uz.out _).mono ?_;rintro e w8 ⟨rfl,rfl⟩;go_wp2_with fail;refine ZY.out.mono ?_;rintro e w9 ⟨rfl,hb9,hr9⟩;have B9:=ah hb9;have G9:=ah (hr9.2 _ _ _ G7.out (by decide) (by omega));clear hb9 hr9 c1;go_wp2_with fail;go_roundw
        case rel=>exact ⟨i+1,by omega,by go_num,ah (by rw[HV.out,kE.out,←List.append_assoc];exact B9.out),G9⟩
        case measure=>simp[intOf];omega
      ·have HQE:Hid (jE w1 w7 w1.heap.size (Q++fK val.data.toList)):=ah (by have h:=B7.out;rw[List.take_of_length_le (by rw[Array.length_toList];show val.size<=i;omega)]at h;exact h)
       have Ri:(fK val.data.toList).length<=48:=by
        have:=TI val.data.toList;have e2:val.data.toList.length=val.size:=Array.length_toList ..;omega
       have HW3:=ah (z10 HQE.out ⟨#[34]⟩ (by rw[List.length_append];show _+1<=_;omega));clear B7 c1;go_wp2_with fail;refine HW3.out.mono ?_;rintro e w8 ⟨rfl,hb8,hr8⟩;have B8:=ah hb8;clear hb8 hr8 HW3;go_wp2_with fail;go_roundw
       case rel=>exact ⟨k+1,by omega,by go_num,ah (by rw[HSQ.out,←List.append_assoc];exact B8.out)⟩
       case measure=>simp[intOf];omega
    ·have HS2:Hid (123::bodyT (l.take (k+1))=(123::T)++labT ⟨nm,val⟩):=ah (by rw[HS.out,if_pos (by omega)];simp)
     have HW2:=ah (z10 B4.out (nm++⟨#[61,34]⟩) (by rw[ByteArray.size_append];show (123::T).length+(nm.size+2)<=_;simp only[List.length_cons];omega));clear HS HB;go_wp2_with fail;refine HW2.out.mono ?_;rintro e w6 ⟨rfl,hb6,hr6⟩;obtain ⟨Q,hQ⟩:∃Q,Q=(123::T)++(nm.data.toList++[61,34]):=⟨_,rfl⟩;have B6:Hid (jE w1 w6 w1.heap.size Q):=ah (by rw[hQ];have h:=hb6;rw[xQ]at h;exact h);have G6:=ah (hr6.2 _ _ _ G4.out (by decide) (by omega));clear hb6 hr6 HW2 B4 G4 p0 p1;have HSQ:Hid (123::bodyT (l.take (k+1))=Q++(fK val.data.toList++[34])):=ah (by rw[HS2.out,hQ];simp[labT])
     have hql:Q.length<=400:=by
      rw[hQ];have e2:nm.data.toList.length=nm.size:=Array.length_toList ..;simp only[List.length_append,List.length_cons,List.length_nil];omega
     have c1:w6.cell? ⟨w3.heap.size,1,none⟩=some (.string val):=G6.out.cell 1;have hl6:=G6.out.lt;clear hQ HS2 hbl;go_wp2_with fail;clear c1;go_loopw [30] (fun s30 wr=>∃i:Nat,i<=val.size/\s30=.int .i64 (i:Int)/\Hid (jE w1 wr w1.heap.size (Q++fK (val.data.toList.take i)))/\Hid (aG wr w3.heap.size 71 #[.string nm,.string val])) (fun s30 _=>val.size-(intOf s30).toNat)
     case atStart=>exact ⟨0,Nat.zero_le _,rfl,ah (by have h:=B6.out;rw[List.take_zero,show fK []=[] from rfl,List.append_nil];exact h),G6⟩
     case round=>
      obtain ⟨w7,rfl⟩:∃w7:World,w7=wr:=⟨_,rfl⟩;obtain ⟨i,hi,rfl,B7,G7⟩:=hrel;have c1:w7.cell? ⟨w3.heap.size,1,none⟩=some (.string val):=G7.out.cell 1;have hl7:=G7.out.lt;by_cases hil:i<val.size
      ·have HV:=ah (pO hil)
       have Ri:(fK (val.data.toList.take i)).length<=3 * i:=by
        have:=TI (val.data.toList.take i);rw[List.length_take]at this;omega
       have hc256:=val[i].toNat_lt;have uz:=ah (qB val[i].toNat (by omega));generalize hvt:fK (val.data.toList.take i)=V at *;cases hp:Pn val[i].toNat
       ·rw[hp]at uz
        have kE:Hid (Dl val[i]=[92,jP (val[i].toNat / 16),jP (val[i].toNat % 16)]):=ah (by unfold Dl;rw[hp];rfl);clear hp;go_wp2_with fail;refine (uz.out _).mono ?_;rintro e w8 ⟨rfl,rfl⟩;go_wp2_with fail;obtain ⟨X,hX⟩:∃X,X=Fa:=⟨_,rfl⟩;have Rz:=hX;have HX:=ah hX.symm;unfold Fa at HX;have Zm:X.size=16:=by rw[hX];rfl
        clear hX;obtain ⟨cc,hcc⟩:∃cc,cc=val[i].toNat:=⟨_,rfl⟩;rw[HX.out];obtain ⟨p,hp⟩:∃p,p=cc / 16:=⟨_,rfl⟩;obtain ⟨m,hm⟩:∃m,m=cc % 16:=⟨_,rfl⟩;have VF:cc<256:=by rw[hcc];omega
        rw[←hcc]at kE;rw[←hcc];have hn1:p<X.size:=(by omega);have hn2:m<X.size:=(by omega);have HEP:=ah (show X[p]=jP p by subst Rz;exact CV (by omega));have HEM:=ah (show X[m]=jP m by subst Rz;exact CV (by omega));rw[←hp,←hm]at kE;have k3:(cc:Int) / 16=(p:Int):=(by omega);have k4:=u8_and15 (x:=(cc:Int)) (by omega) (by omega);rw[show (cc:Int) % 16=(m:Int) by omega]at k4;have kn1:(p:Int)<(X.size:Int):=(by omega);have kn2:(m:Int)<(X.size:Int):=(by omega);have k7:cc % 16=m:=hm.symm;have k8:cc / 16=p:=hp.symm;clear hcc hp hm Zm Rz;have N8:=ah (((Ch.refl (fun _=>False) w7).alloc (.cells #[.int .u8 92,.int .u8 (X[p].toNat:Int),.int .u8 (X[m].toNat:Int)] 5)).drew);have B8:=ah (B7.out.tr N8.out);have G8:=ah (G7.out.nx N8.out);have hg:aG (w7.alloc (.cells #[.int .u8 92,.int .u8 (X[p].toNat:Int),.int .u8 (X[m].toNat:Int)] 5)).drew w7.heap.size 5 (Lib.byteCells [92,X[p],X[m]]).toArray:=(aG.new w7 5 _).drew
        have hgo:∀v,(w7.alloc (.cells #[.int .u8 92,.int .u8 (X[p].toNat:Int),.int .u8 (X[m].toNat:Int)] 5)).drew.cell? ⟨w1.heap.size,1,none⟩=some v->v.ownBlock≠some w7.heap.size:=by
         obtain ⟨p0,v0,_,hb0,o0,_⟩:=B7.out;intro v hv e;have h1:=(hb0.nx N8.out).cell 1;rw[h1]at hv;injection hv with hv;subst hv;have:=(o0.lt _ e).2;omega
        have ZX:Hid (Calls Tryz.prog 74 #[.pointer (some ⟨w1.heap.size,0,none⟩),.slice (some ⟨w7.heap.size,0,none⟩) 3 3] (w7.alloc (.cells #[.int .u8 92,.int .u8 (X[p].toNat:Int),.int .u8 (X[m].toNat:Int)] 5)).drew fun e w'=>e=.returned (.tuple #[.int .i64 3,.nilIface])/\jE w1 w' w1.heap.size ((Q++V)++[92,X[p],X[m]])/\Rest w1.heap.size (w7.alloc (.cells #[.int .u8 92,.int .u8 (X[p].toNat:Int),.int .u8 (X[m].toNat:Int)] 5)).drew w'):=
         ah (ru (m:=[92,X[p],X[m]]) (cap:=3) B8.out hg hgo (by rw[List.length_append];show _+3<=_;omega))
        clear hg hgo c1;go_region_held3 (fun _=>True) (exact trivial) ((go_at_call 74;refine ZX.out.mono ?_;rintro e w9 ⟨rfl,hb9,hr9⟩;have B9:=ah hb9;have G9:=ah (hr9.2 _ _ _ G8.out (by decide) (by omega));clear hb9 hr9))
        go_wp2_with fail
        all_goals
         refine ⟨⟨i+1,by omega,by go_num,ah (by rw[HV.out,kE.out,←HEP.out,←HEM.out,←List.append_assoc];exact B9.out),G9⟩,?_⟩;simp[intOf];omega
       ·rw[hp]at uz
        have kE:Hid (Dl val[i]=[val[i]]):=ah (by unfold Dl;rw[hp];rfl);have ZY:=ah (xY B7.out val[i] (by rw[List.length_append];omega));clear hp;go_wp2_with fail;refine (uz.out _).mono ?_;rintro e w8 ⟨rfl,rfl⟩;go_wp2_with fail;refine ZY.out.mono ?_;rintro e w9 ⟨rfl,hb9,hr9⟩;have B9:=ah hb9;have G9:=ah (hr9.2 _ _ _ G7.out (by decide) (by omega));clear hb9 hr9 c1;go_wp2_with fail;go_roundw
        case rel=>exact ⟨i+1,by omega,by go_num,ah (by rw[HV.out,kE.out,←List.append_assoc];exact B9.out),G9⟩
        case measure=>simp[intOf];omega
      ·have HQE:Hid (jE w1 w7 w1.heap.size (Q++fK val.data.toList)):=ah (by have h:=B7.out;rw[List.take_of_length_le (by rw[Array.length_toList];show val.size<=i;omega)]at h;exact h)
       have Ri:(fK val.data.toList).length<=48:=by
        have:=TI val.data.toList;have e2:val.data.toList.length=val.size:=Array.length_toList ..;omega
       have HW3:=ah (z10 HQE.out ⟨#[34]⟩ (by rw[List.length_append];show _+1<=_;omega));clear B7 c1;go_wp2_with fail;refine HW3.out.mono ?_;rintro e w8 ⟨rfl,hb8,hr8⟩;have B8:=ah hb8;clear hb8 hr8 HW3;go_wp2_with fail;go_roundw
       case rel=>exact ⟨k+1,by omega,by go_num,ah (by rw[HSQ.out,←List.append_assoc];exact B8.out)⟩
       case measure=>simp[intOf];omega
   ·have HT:Hid (bodyT (l.take k)=bodyT l):=ah (by rw[List.take_of_length_le (by omega)])
    rw[HT.out]at HB
    have hbl:(bodyT l).length<=300:=by
     have:=XQ (l:=l) WL.out;omega
    have HB5:=ah (z10 HB.out ⟨#[125]⟩ (by show (123::bodyT l).length+1<=_;simp only[List.length_cons];omega));go_wp2_with fail;refine HB5.out.mono ?_;rintro e w6 ⟨rfl,hb6,hr6⟩;have HB6:=ah hb6;have HO:=ah (NR hb6 hb6.nx.size);clear hb6 hr6 HB5;go_wp2_with fail;refine HO.out.mono ?_;rintro e w7 ⟨rfl,hbw⟩;have HBW:=ah hbw;clear hbw HO;go_wp2_with fail;exact bodyPost_ret (v:=.tuple #[.string ⟨(123::bodyT l++[125]).toArray⟩,.int .i64 0]) (by simp[results,Tryz.results50,go_sem]) rfl ⟨by rw[HX.out];rfl,N1.out.tr (HB6.out.nx.trans (Ch.of_below HBW.out) (fun i hi hs=>by omega))⟩
end
end Go.Proofs.YtdbfejfhpkakhaaGreat
