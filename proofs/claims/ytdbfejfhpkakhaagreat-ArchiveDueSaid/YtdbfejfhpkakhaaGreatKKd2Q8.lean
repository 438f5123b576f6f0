/- Contracts and plain laws that the last text rests on. Conditions: each theorem states its own. -/
import Derived.Test.YtdbfejfhpkakhaaGreatKKd2Q7
import Derived.Test.YtdbfejfhpkakhaaGreatKKd2Q4
import Derived.Test.YtdbfejfhpkakhaaGreatKKd2PbStl
import Derived.Test.YtdbfejfhpkakhaaGreatKKd2Q2
import Derived.Test.YtdbfejfhpkakhaaGreatKKd2PbShl
import Derived.Test.YtdbfejfhpkakhaaGreatKKd2Q6
set_option maxRecDepth 100000
set_option maxHeartbeats 16000000
set_option linter.unusedVariables false
set_option linter.unusedSimpArgs false
namespace Go.Proofs.YtdbfejfhpkakhaaGreat
open Go.RowKit Ps
theorem Rd.Kw (w:World) (x:bT):Rd (w.alloc (.cells #[.string x.name,.string x.value] 71)) (fun k=>k=w.heap.size) 2 (some ⟨w.heap.size,0,none⟩) 1 (lbl [x]):=
 ⟨rfl,fun _=>⟨_,rfl,rfl,fun j u hu=>World.news_of_block (aG.new w 71 #[.string x.name,.string x.value]) j u (by simpa [lbl,bT.cs]using hu)⟩⟩
theorem uJ {w:World} {D:Nat->Prop} {B:Option Addr} {d:Nat} {aH:List ByteArray} (h:Rd w D 1 B aH.length (dK aH)) (hn:aH.length<=9223372036854775807) (x:ByteArray):
 Calls Tryz.prog 76 #[.slice B aH.length d,.string x] w fun e w'=>e=.returned (.bool (inB aH x))/\w'=w:=by
 rcases Nat.eq_zero_or_pos aH.length with h0|h0
 ·have:aH=[]:=List.eq_nil_of_length_eq_zero h0
  subst this;exact (Tryz.slices_Contains_string_empty B d x w).mono fun e w' ⟨he,hw⟩=>⟨he,hw⟩
 ·obtain ⟨ad,rfl, -,hc⟩:=h.2 h0
  obtain ⟨b,o,q⟩:=ad;have h1:=hc 0 _ (Jp h0)
  have hq:q=none:=by
   cases q with
   |none=>rfl
   |some s=>
    exfalso
    have e:(⟨b,o,some s⟩:Addr).add 0=⟨b,o,some s⟩:=rfl;rw[e]at h1;unfold World.cell? at h1;split at h1
    ·simp at h1
    ·cases h1
  subst hq;refine (Tryz.slices_Contains_string b o aH.length d aH x w (Nat.le_refl _) hn (fun j hj=>?_)).mono ?_
  ·have h2:=hc j _ (Jp hj)
   have e:(⟨b,o,none⟩:Addr).add j=⟨b,o+j,none⟩:=by unfold Addr.add;split<;>simp_all
   rw[e]at h2;exact h2
  ·rintro e w' ⟨rfl,rfl⟩
   refine ⟨?_,rfl⟩;rw[List.take_length]
   have hb:Lib.containsS aH x=inB aH x:=by
    rw[Bool.eq_iff_iff,Lib.containsS_iff,PN]
   rw[hb]
section
variable {w : World} {D D2 : Nat → Prop} {A B : Option Addr} {c d : Nat} {l : List bT} {aH : List ByteArray}
theorem qL {k:Nat} (hk:k<l.length):aX (l.take (k+1)) aH=aX (l.take k) aH++(if inB aH l[k].name=true then [l[k]] else []):=by
 unfold aX;rw[List.take_succ_eq_append_getElem hk,List.filter_append,List.filter_cons];split<;>rfl
theorem wO (k:Nat):(aX (l.take k) aH).length<=k:=by
 unfold aX;have:=List.length_filter_le (fun x:bT=>inB aH x.name) (l.take k);rw[List.length_take]at this;omega
theorem wP (h:Rd w D 2 A l.length (lbl l)) (hl:l.length<=1000000) (h2:Rd w D2 1 B aH.length (dK aH)) (hb:aH.length<=9223372036854775807):
 Calls Tryz.prog 51 #[.slice A l.length c,.slice B aH.length d] w fun e w'=>∃v,e=.returned v/\aF w w' 71 2 v (aX l aH).length (lbl (aX l aH)):=by
 obtain ⟨i0,hi0,hz0,hz1,hz2⟩:=info_parts Tryz.kM;have HR:=ah h;have HC:=ah (fun w' (c':Nx w w') x=>uJ (d:=d) (h2.nx (by decide) c') hb x);clear h h2;go_enter Tryz.func51,Tryz.ntmps51;go_wp2_with fail;go_loopw [5,10] (fun s5 s10 wr=>∃k:Nat,k<=l.length/\s10=.int .i64 (k:Int)/\Hid (aF w wr 71 2 s5 (aX (l.take k) aH).length (lbl (aX (l.take k) aH)))) (fun _ s10 _=>l.length-(intOf s10).toNat)
 case atStart=>exact ⟨0,Nat.zero_le _,rfl,ah (aF.nil w w _ 2 (Ch.refl _ _))⟩
 case round=>
  obtain ⟨w4,rfl⟩:∃w4:World,w4=wr:=⟨_,rfl⟩;obtain ⟨k,hk,rfl,Ho⟩:=hrel;by_cases hlt:k<l.length
  ·obtain ⟨ad,rfl,hbk,p0,p1⟩:=SY (HR.out.nx (by decide) Ho.out.nx) hlt
   have HT:=ah (qL (aH:=aH) hlt);have hpl:=wO (l:=l) (aH:=aH) k;generalize aX (l.take k) aH=P at *;generalize l[k]=x at *;obtain ⟨nm,val⟩:=x;simp only at p0 p1 HT;obtain ⟨A7,c7,hu7,hc7,hm7⟩:=Ho.out.form;subst hu7;have H5:=ah (Ho.out.alloc (.cells #[.string nm,.string val] 71));have ZC:=ah (HC.out _ H5.out.nx nm);have HL:=ah (Rd.Kw (w4.alloc (.cells #[.string nm,.string val] 71)) ⟨nm,val⟩);have IU:=ah Ho.out.nx.size;simp only[World.size_alloc]at HL;clear hbk;cases hc:inB aH nm
   ·rw[hc]at ZC HT
    have HE:Hid (aX (l.take (k+1)) aH=P):=ah (by rw[HT.out];simp);clear HT hc;go_wp2_with fail;with_reducible refine ZC.out.mono ?_
    rintro e w6 ⟨rfl,rfl⟩;go_wp2_with fail;go_roundw
    case rel=>exact ⟨k+1,by omega,by go_num,by rw[HE.out];exact H5⟩
    case measure=>simp[intOf];omega
   ·rw[hc]at ZC HT
    have HE:Hid (aX (l.take (k+1)) aH=P++[⟨nm,val⟩]):=ah (by rw[HT.out];simp);clear HT hc;go_wp2_with fail;with_reducible refine ZC.out.mono ?_
    rintro e w6 ⟨rfl,rfl⟩;go_wp2_with (at_builtin;refine z04 _ rfl (.tmp 18) (.tmp 20) _ rfl w.heap.size 71 i0 _ 2 32 Tryz.underlying55 hi0 hz0 hz1 hz2 rfl (by omega) (.slice A7 P.length c7) P.length (lbl P) rfl (H5.out.alloc _).own _ (some ⟨w4.heap.size+1,0,none⟩) 1 1 _ rfl HL.out (kJ _) (by simp only[maxLen];omega) (by omega) (by have:=IU.out;simp;omega) ?_;intro v7 w7 dn gr7 at7;obtain ⟨o7,m7⟩:=Di H5.out ((Ch.refl _ _).alloc _) dn gr7 at7;have O7:=ah o7;clear dn gr7 at7 o7 m7)
    go_roundw
    case rel=>exact ⟨k+1,by omega,by go_num,by rw[HE.out,List.length_append,show lbl (P++[⟨nm,val⟩])=lbl P++lbl [⟨nm,val⟩] by simp[lbl]];exact O7⟩
    case measure=>simp[intOf];omega
  ·have HE:Hid (aX (l.take k) aH=aX l aH):=ah (by rw[List.take_of_length_le (by omega)])
   go_wp2_with fail;go_ret;refine ⟨_,rfl,?_⟩;rw[←HE.out];exact Ho.out
end
end Go.Proofs.YtdbfejfhpkakhaaGreat
namespace Go.Proofs.YtdbfejfhpkakhaaGreat
open Go.RowKit
structure aV where
 window:Int
 aH:List ByteArray
 group:Int
 buffer:Int
 flush:Int
 age:Int
 piece:Int
 tries:Int
 wait:Int
 small:Int
 most:Int
 gG:Int
def ji (n a b:Int):Bool:=decide (a<=n)&&decide (n<=b)
def iY (c:aV) (A:Option Addr) (k:Nat):Value:=.agg #[.int .i64 c.window,.slice A c.aH.length k,.int .i64 c.group,.int .i64 c.buffer,.int .i64 c.flush,.int .i64 c.age,.int .i64 c.piece,.int .i64 c.tries,.int .i64 c.wait,.int .i64 c.small,.int .i64 c.most,.int .i64 c.gG]
def jI (l:List ByteArray) (i:Nat):ByteArray:=l.getD i ⟨#[]⟩
def Ql (l:List ByteArray) (i:Nat):Bool:=bK (jI l i)&&(decide (i=0)||bD (jI l (i-1)) (jI l i))
def Qk (l:List ByteArray):Bool:=(List.range l.length).all fun i=>Ql l i
def jv (c:aV):Bool:=Qk c.aH&&(ji c.window 1 1099511627775&&decide (c.aH.length<=4)&&ji c.group 1 256&&ji c.buffer 1 256&&ji c.most 1 256&&ji c.flush 1 256&&ji c.piece 1 262144&&ji c.tries 1 8&&ji c.small 0 2048&&ji c.age 0 1048576&&ji c.wait 0 1048576&&ji c.gG 0 1048576)
theorem nN {l:List ByteArray} {i:Nat} (h:i<l.length):jI l i=l[i]:=by unfold jI;rw[List.getD_eq_getElem?_getD,List.getElem?_eq_getElem h];rfl
theorem Au (s:ByteArray):gQ [⟨s,⟨#[]⟩⟩]=bK s:=by
 have e:iL [⟨s,⟨#[]⟩⟩] 0=(bK s&&decide ((⟨#[]⟩:ByteArray).size<=16)&&(decide ((0:Nat)=0)||bD (dR [⟨s,⟨#[]⟩⟩] (0-1)).name (dR [⟨s,⟨#[]⟩⟩] 0).name)):=rfl;unfold gQ;rw[show List.range [(⟨s,⟨#[]⟩⟩:bT)].length=[0] from rfl,List.all_cons,List.all_nil,e,decide_eq_true (show (⟨#[]⟩:ByteArray).size<=16 by decide),decide_eq_true (show (0:Nat)=0 from rfl)];simp
theorem ET (n a b:Int) (w:World):Calls Tryz.prog 20 #[.int .i64 n,.int .i64 a,.int .i64 b] w fun e w'=>e=.returned (.bool (ji n a b))/\w=w':=by
 unfold ji;by_cases h:a<=n
 ·have h':¬n<a:=by omega
  go_enter Tryz.func20,Tryz.ntmps20;go_wp2_with fail;go_ret;exact ⟨by simp[h],rfl⟩
 ·have h':n<a:=by omega
  go_enter Tryz.func20,Tryz.ntmps20;go_wp2_with fail;go_ret;exact ⟨by rw[show decide (a<=n)=false from decide_eq_false (by omega)];rfl,rfl⟩
theorem Qe (a b c d e f g h i j k:Bool):a=false∨(a=true/\b=false)∨(a=true/\b=true/\c=false)∨(a=true/\b=true/\c=true/\d=false)∨(a=true/\b=true/\c=true/\d=true/\e=false)∨
 (a=true/\b=true/\c=true/\d=true/\e=true/\f=false)∨(a=true/\b=true/\c=true/\d=true/\e=true/\f=true/\g=false)∨(a=true/\b=true/\c=true/\d=true/\e=true/\f=true/\g=true/\h=false)∨
 (a=true/\b=true/\c=true/\d=true/\e=true/\f=true/\g=true/\h=true/\i=false)∨(a=true/\b=true/\c=true/\d=true/\e=true/\f=true/\g=true/\h=true/\i=true/\j=false)∨
 (a=true/\b=true/\c=true/\d=true/\e=true/\f=true/\g=true/\h=true/\i=true/\j=true/\k=false)∨(a=true/\b=true/\c=true/\d=true/\e=true/\f=true/\g=true/\h=true/\i=true/\j=true/\k=true):=by
 cases a<;>cases b<;>cases c<;>cases d<;>cases e<;>cases f<;>cases g<;>cases h<;>cases i<;>cases j<;>cases k<;>simp
theorem Qj {l:List ByteArray} {k:Nat} (h:k<l.length) (hf:Ql l k=false):Qk l=false:=by
 unfold Qk;rw[List.all_eq_false];exact ⟨k,List.mem_range.2 h,by rw[hf];simp⟩
theorem LY {l:List ByteArray} (h:∀i,i<l.length->Ql l i=true):Qk l=true:=Dh.2 h
theorem Jo {w:World} {D:Nat->Prop} {A:Option Addr} {n k:Nat} {l:List ByteArray} (h:Rd w D 1 A n (dK l)) (hl:l.length=n) (hk:k<n):∃ad,A=some ad/\D ad.block/\w.cell? (ad.add k)=some (.string (jI l k)):=by
 obtain ⟨ad,u,rfl,hD,hu,hc⟩:=h.at_ hk;refine ⟨ad,rfl,hD,?_⟩;rw[nN (by omega)];have:(dK l)[k]?=some (.string (l[k]'(by omega))):=by unfold dK;rw[List.getElem?_map,List.getElem?_eq_getElem (by omega)];rfl
 rw[this]at hu;injection hu with hu;rw[hu];exact hc
theorem fits_any (C:aV) (A:Option Addr) (q:Nat) (w:World) {D:Nat->Prop} (hr:Rd w D 1 A C.aH.length (dK C.aH)) (hn:C.aH.length<=9223372036854775807) (hs:∀s∈C.aH,s.size<=9223372036854775807):
 Calls Tryz.prog 8 #[iY C A q] w fun e w'=>e=.returned (.bool (jv C))/\Nx w w':=by
 obtain ⟨win,vC,gr,bu,fl,ag,pc,tr,wa,sm,mo,gc⟩:=C;simp only at hr hn hs;unfold iY jv;simp only;have CY:=ah (fun k (h:k<vC.length) (hf:Ql vC k=false)=>Qj h hf);have yO:=ah (fun (h:∀i,i<vC.length->Ql vC i=true)=>LY h);have HS:=ah (fun k (h:k<vC.length)=>(by rw[nN h];exact hs _ (List.getElem_mem h):(jI vC k).size<=9223372036854775807));have HT:=ah (fun k (h:k<vC.length) w' (c:Nx w w')=>Jo (hr.nx (by decide) c) rfl h);have W1:=ah (fun w=>ET win 1 1099511627775 w);have W2:=ah (fun w=>ET gr 1 256 w);have W3:=ah (fun w=>ET bu 1 256 w);have W4:=ah (fun w=>ET mo 1 256 w);have W5:=ah (fun w=>ET fl 1 256 w);have W6:=ah (fun w=>ET pc 1 262144 w);have W7:=ah (fun w=>ET tr 1 8 w);have W8:=ah (fun w=>ET sm 0 2048 w);have W9:=ah (fun w=>ET ag 0 1048576 w);have Wa:=ah (fun w=>ET wa 0 1048576 w);have Wb:=ah (fun w=>ET gc 0 1048576 w);clear hr hs;generalize ji win 1 1099511627775=q1 at *;generalize ji gr 1 256=q2 at *;generalize ji bu 1 256=q3 at *;generalize ji mo 1 256=q4 at *;generalize ji fl 1 256=q5 at *;generalize ji pc 1 262144=q6 at *;generalize ji tr 1 8=q7 at *;generalize ji sm 0 2048=q8 at *;generalize ji ag 0 1048576=q9 at *;generalize ji wa 0 1048576=qa at *;generalize ji gc 0 1048576=qb at *;obtain ⟨n,hl⟩:∃n,vC.length=n:=⟨_,rfl⟩;rw[hl]at CY yO HS HT hn ⊢;have HB:=ah (aG.new w 24 #[.int .i64 win,.slice A n q,.int .i64 gr,.int .i64 bu,.int .i64 fl,.int .i64 ag,.int .i64 pc,.int .i64 tr,.int .i64 wa,.int .i64 sm,.int .i64 mo,.int .i64 gc]);have HN:=ah ((Ch.refl (fun _=>False) w).alloc (.cells #[.int .i64 win,.slice A n q,.int .i64 gr,.int .i64 bu,.int .i64 fl,.int .i64 ag,.int .i64 pc,.int .i64 tr,.int .i64 wa,.int .i64 sm,.int .i64 mo,.int .i64 gc] 24));clear hl;go_enter Tryz.func8,Tryz.ntmps8;go_wp2_with fail;have iw:=ah (fun w' (c:Nx (w.alloc (.cells #[.int .i64 win,.slice A n q,.int .i64 gr,.int .i64 bu,.int .i64 fl,.int .i64 ag,.int .i64 pc,.int .i64 tr,.int .i64 wa,.int .i64 sm,.int .i64 mo,.int .i64 gc] 24)) w')=>HB.out.nx c);obtain ⟨W,hW⟩:∃W,w.alloc (.cells #[.int .i64 win,.slice A n q,.int .i64 gr,.int .i64 bu,.int .i64 fl,.int .i64 ag,.int .i64 pc,.int .i64 tr,.int .i64 wa,.int .i64 sm,.int .i64 mo,.int .i64 gc] 24)=W:=⟨_,rfl⟩;rw[hW]at HN iw;simp only[hW];have Hl0:Hid (Nx W W):=ah (Ch.refl _ W);clear hW HB;go_loopw [8] (fun i wr=>∃k:Nat,k<=n/\i=.int .i64 (k:Int)/\Nx W wr/\Hid (∀i,i<k->Ql vC i=true)) (fun i _=>n-(intOf i).toNat)
 case atStart=>exact ⟨0,Nat.zero_le _,rfl,Hl0.out,ah fun i hi=>by omega⟩
 case round=>
  obtain ⟨w4,rfl⟩:∃w4:World,w4=wr:=⟨_,rfl⟩;obtain ⟨k,hk,rfl,hn4,He⟩:=hrel;have b4:=iw.out _ hn4;have N4:=ah hn4;clear hn4;by_cases hlt:k<n
  ·obtain ⟨ad,rfl,hb,p0⟩:=HT.out k hlt _ (HN.out.tr N4.out)
   have hrg:=ZH (c:=1) (Rd.Kw w4 ⟨jI vC k,⟨#[]⟩⟩) rfl (by decide) (fun x hx=>by rw[List.mem_singleton]at hx;subst hx;exact ⟨HS.out k hlt,Nat.zero_le _⟩);rw[Au]at hrg;have HR:=ah hrg;have HF:Hid (Ql vC k=(bK (jI vC k)&&(decide (k=0)||bD (jI vC (k-1)) (jI vC k)))):=ah rfl
   have HG:Hid (Ql vC k=true->∀i,i<k+1->Ql vC i=true):=ah (fun h i hi=>by
    by_cases e:i=k
    ·subst e;exact h
    ·exact He.out i (by omega))
   have HBk:=ah (fun h=>CY.out k hlt h);obtain ⟨j,hj⟩:∃j,k-1=j:=⟨_,rfl⟩;rw[hj]at HF;clear hrg;generalize jI vC k=s at *;cases kQ:bK s
   ·rw[kQ]at HR
    have Hk:=ah (HBk.out (by rw[HF.out,kQ];rfl));clear kQ hj;go_wp2_with fail;refine HR.out.mono ?_;rintro e w5 ⟨rfl,n5⟩;have N5:=ah ((N4.out.alloc _).tr n5);clear n5;go_wp2_with fail;go_ret;exact ⟨by rw[Hk.out];rfl,HN.out.tr N5.out⟩
   ·rw[kQ]at HR
    by_cases h0:0<k
    ·have h0':(0:Int)<(k:Int):=by omega
     have kj:(k:Int)-1=(j:Int):=(by omega);have kw:IntKind.i64.wrap (j:Int)=(j:Int):=IntWalk.i64_in _ (by omega);have kb:(j:Int)<(n:Int):=(by omega);have kb2:j<n:=(by omega);generalize hpv:jI vC j=pv at *;cases hbl:bD pv s
     ·have Hk:=ah (HBk.out (by rw[HF.out,kQ,hbl,decide_eq_false (show ¬k=0 by omega)];rfl))
      have hq:Op.bytesLess pv.toList s.toList=false:=by rw[Nr];exact hbl
      clear kQ hbl hj;go_wp2_with fail;refine HR.out.mono ?_;rintro e w5 ⟨rfl,n5⟩;have N5:=ah ((N4.out.alloc _).tr n5);clear n5 b4 p0;have d5:w5.cell? ⟨w.heap.size,1,none⟩=some (.slice (some ad) n q):=(iw.out _ N5.out).cell 1;obtain ⟨ad2,e2,_,q0⟩:=HT.out j kb2 _ (HN.out.tr N5.out);injection e2 with e2;subst e2;rw[hpv]at q0;go_wp2_with fail;go_ret;exact ⟨by rw[Hk.out];rfl,HN.out.tr N5.out⟩
     ·have Hk:=ah (HG.out (by rw[HF.out,kQ,hbl];simp))
      have hq:Op.bytesLess pv.toList s.toList=true:=by rw[Nr];exact hbl
      clear kQ hbl hj;go_wp2_with fail;refine HR.out.mono ?_;rintro e w5 ⟨rfl,n5⟩;have N5:=ah ((N4.out.alloc _).tr n5);clear n5 b4 p0;have d5:w5.cell? ⟨w.heap.size,1,none⟩=some (.slice (some ad) n q):=(iw.out _ N5.out).cell 1;obtain ⟨ad2,e2,_,q0⟩:=HT.out j kb2 _ (HN.out.tr N5.out);injection e2 with e2;subst e2;rw[hpv]at q0;go_wp2_with fail;go_roundw
      case rel=>exact ⟨k+1,by omega,by go_num,N5.out,ah Hk.out⟩
      case measure=>simp[intOf];omega
    ·have h0':¬(0:Int)<(k:Int):=by omega
     have Hk:=ah (HG.out (by rw[HF.out,kQ,decide_eq_true (show k=0 by omega)];rfl));clear kQ hj;go_wp2_with fail;refine HR.out.mono ?_;rintro e w5 ⟨rfl,n5⟩;have N5:=ah ((N4.out.alloc _).tr n5);clear n5;go_wp2_with fail;go_roundw
     case rel=>exact ⟨k+1,by omega,by go_num,N5.out,ah Hk.out⟩
     case measure=>simp[intOf];omega
  ·have Hk:=ah (yO.out fun i hi=>He.out i (by omega))
   have d0:w4.cell? ⟨w.heap.size,0,none⟩=some (.int .i64 win):=b4.cell 0;have d2:w4.cell? ⟨w.heap.size,2,none⟩=some (.int .i64 gr):=b4.cell 2;have d3:w4.cell? ⟨w.heap.size,3,none⟩=some (.int .i64 bu):=b4.cell 3;have d10:w4.cell? ⟨w.heap.size,10,none⟩=some (.int .i64 mo):=b4.cell 10;have d4:w4.cell? ⟨w.heap.size,4,none⟩=some (.int .i64 fl):=b4.cell 4;have d6:w4.cell? ⟨w.heap.size,6,none⟩=some (.int .i64 pc):=b4.cell 6;have d7:w4.cell? ⟨w.heap.size,7,none⟩=some (.int .i64 tr):=b4.cell 7;have d9:w4.cell? ⟨w.heap.size,9,none⟩=some (.int .i64 sm):=b4.cell 9;have d5:w4.cell? ⟨w.heap.size,5,none⟩=some (.int .i64 ag):=b4.cell 5;have d8:w4.cell? ⟨w.heap.size,8,none⟩=some (.int .i64 wa):=b4.cell 8;have d11:w4.cell? ⟨w.heap.size,11,none⟩=some (.int .i64 gc):=b4.cell 11;have d1:w4.cell? ⟨w.heap.size,1,none⟩=some (.slice A n q):=b4.cell 1;have HF:=ah (HN.out.tr N4.out);clear b4 HT iw He yO CY HS N4 HN;by_cases h4:n<=4
   ·have h4i:(n:Int)<=4:=by omega
    rcases Qe q1 q2 q3 q4 q5 q6 q7 q8 q9 qa qb with rfl|⟨rfl,rfl⟩|⟨rfl,rfl,rfl⟩|⟨rfl,rfl,rfl,rfl⟩|⟨rfl,rfl,rfl,rfl,rfl⟩|⟨rfl,rfl,rfl,rfl,rfl,rfl⟩|⟨rfl,rfl,rfl,rfl,rfl,rfl,rfl⟩|⟨rfl,rfl,rfl,rfl,rfl,rfl,rfl,rfl⟩|⟨rfl,rfl,rfl,rfl,rfl,rfl,rfl,rfl,rfl⟩|⟨rfl,rfl,rfl,rfl,rfl,rfl,rfl,rfl,rfl,rfl⟩|⟨rfl,rfl,rfl,rfl,rfl,rfl,rfl,rfl,rfl,rfl,rfl⟩|⟨rfl,rfl,rfl,rfl,rfl,rfl,rfl,rfl,rfl,rfl,rfl⟩
    ·go_wp2_with fail
     refine (W1.out _).mono ?_;rintro e w5 ⟨rfl,rfl⟩;go_wp2_with fail;go_ret;exact ⟨by rw[Hk.out];simp[h4],HF.out⟩
    ·go_wp2_with fail
     refine (W1.out _).mono ?_;rintro e w5 ⟨rfl,rfl⟩;go_wp2_with fail;refine (W2.out _).mono ?_;rintro e w5 ⟨rfl,rfl⟩;go_wp2_with fail;go_ret;exact ⟨by rw[Hk.out];simp[h4],HF.out⟩
    ·go_wp2_with fail
     refine (W1.out _).mono ?_;rintro e w5 ⟨rfl,rfl⟩;go_wp2_with fail;refine (W2.out _).mono ?_;rintro e w5 ⟨rfl,rfl⟩;go_wp2_with fail;refine (W3.out _).mono ?_;rintro e w5 ⟨rfl,rfl⟩;go_wp2_with fail;go_ret;exact ⟨by rw[Hk.out];simp[h4],HF.out⟩
    ·go_wp2_with fail
     refine (W1.out _).mono ?_;rintro e w5 ⟨rfl,rfl⟩;go_wp2_with fail;refine (W2.out _).mono ?_;rintro e w5 ⟨rfl,rfl⟩;go_wp2_with fail;refine (W3.out _).mono ?_;rintro e w5 ⟨rfl,rfl⟩;go_wp2_with fail;refine (W4.out _).mono ?_;rintro e w5 ⟨rfl,rfl⟩;go_wp2_with fail;go_ret;exact ⟨by rw[Hk.out];simp[h4],HF.out⟩
    ·go_wp2_with fail
     refine (W1.out _).mono ?_;rintro e w5 ⟨rfl,rfl⟩;go_wp2_with fail;refine (W2.out _).mono ?_;rintro e w5 ⟨rfl,rfl⟩;go_wp2_with fail;refine (W3.out _).mono ?_;rintro e w5 ⟨rfl,rfl⟩;go_wp2_with fail;refine (W4.out _).mono ?_;rintro e w5 ⟨rfl,rfl⟩;go_wp2_with fail;refine (W5.out _).mono ?_;rintro e w5 ⟨rfl,rfl⟩;go_wp2_with fail;go_ret;exact ⟨by rw[Hk.out];simp[h4],HF.out⟩
    ·go_wp2_with fail
     refine (W1.out _).mono ?_;rintro e w5 ⟨rfl,rfl⟩;go_wp2_with fail;refine (W2.out _).mono ?_;rintro e w5 ⟨rfl,rfl⟩;go_wp2_with fail;refine (W3.out _).mono ?_;rintro e w5 ⟨rfl,rfl⟩;go_wp2_with fail;refine (W4.out _).mono ?_;rintro e w5 ⟨rfl,rfl⟩;go_wp2_with fail;refine (W5.out _).mono ?_;rintro e w5 ⟨rfl,rfl⟩;go_wp2_with fail;refine (W6.out _).mono ?_;rintro e w5 ⟨rfl,rfl⟩;go_wp2_with fail;go_ret;exact ⟨by rw[Hk.out];simp[h4],HF.out⟩
    ·go_wp2_with fail
     refine (W1.out _).mono ?_;rintro e w5 ⟨rfl,rfl⟩;go_wp2_with fail;refine (W2.out _).mono ?_;rintro e w5 ⟨rfl,rfl⟩;go_wp2_with fail;refine (W3.out _).mono ?_;rintro e w5 ⟨rfl,rfl⟩;go_wp2_with fail;refine (W4.out _).mono ?_;rintro e w5 ⟨rfl,rfl⟩;go_wp2_with fail;refine (W5.out _).mono ?_;rintro e w5 ⟨rfl,rfl⟩;go_wp2_with fail;refine (W6.out _).mono ?_;rintro e w5 ⟨rfl,rfl⟩;go_wp2_with fail;refine (W7.out _).mono ?_;rintro e w5 ⟨rfl,rfl⟩;go_wp2_with fail;go_ret;exact ⟨by rw[Hk.out];simp[h4],HF.out⟩
    ·go_wp2_with fail
     refine (W1.out _).mono ?_;rintro e w5 ⟨rfl,rfl⟩;go_wp2_with fail;refine (W2.out _).mono ?_;rintro e w5 ⟨rfl,rfl⟩;go_wp2_with fail;refine (W3.out _).mono ?_;rintro e w5 ⟨rfl,rfl⟩;go_wp2_with fail;refine (W4.out _).mono ?_;rintro e w5 ⟨rfl,rfl⟩;go_wp2_with fail;refine (W5.out _).mono ?_;rintro e w5 ⟨rfl,rfl⟩;go_wp2_with fail;refine (W6.out _).mono ?_;rintro e w5 ⟨rfl,rfl⟩;go_wp2_with fail;refine (W7.out _).mono ?_;rintro e w5 ⟨rfl,rfl⟩;go_wp2_with fail;refine (W8.out _).mono ?_;rintro e w5 ⟨rfl,rfl⟩;go_wp2_with fail;go_ret;exact ⟨by rw[Hk.out];simp[h4],HF.out⟩
    ·go_wp2_with fail
     refine (W1.out _).mono ?_;rintro e w5 ⟨rfl,rfl⟩;go_wp2_with fail;refine (W2.out _).mono ?_;rintro e w5 ⟨rfl,rfl⟩;go_wp2_with fail;refine (W3.out _).mono ?_;rintro e w5 ⟨rfl,rfl⟩;go_wp2_with fail;refine (W4.out _).mono ?_;rintro e w5 ⟨rfl,rfl⟩;go_wp2_with fail;refine (W5.out _).mono ?_;rintro e w5 ⟨rfl,rfl⟩;go_wp2_with fail;refine (W6.out _).mono ?_;rintro e w5 ⟨rfl,rfl⟩;go_wp2_with fail;refine (W7.out _).mono ?_;rintro e w5 ⟨rfl,rfl⟩;go_wp2_with fail;refine (W8.out _).mono ?_;rintro e w5 ⟨rfl,rfl⟩;go_wp2_with fail;refine (W9.out _).mono ?_;rintro e w5 ⟨rfl,rfl⟩;go_wp2_with fail;go_ret;exact ⟨by rw[Hk.out];simp[h4],HF.out⟩
    ·go_wp2_with fail
     refine (W1.out _).mono ?_;rintro e w5 ⟨rfl,rfl⟩;go_wp2_with fail;refine (W2.out _).mono ?_;rintro e w5 ⟨rfl,rfl⟩;go_wp2_with fail;refine (W3.out _).mono ?_;rintro e w5 ⟨rfl,rfl⟩;go_wp2_with fail;refine (W4.out _).mono ?_;rintro e w5 ⟨rfl,rfl⟩;go_wp2_with fail;refine (W5.out _).mono ?_;rintro e w5 ⟨rfl,rfl⟩;go_wp2_with fail;refine (W6.out _).mono ?_;rintro e w5 ⟨rfl,rfl⟩;go_wp2_with fail;refine (W7.out _).mono ?_;rintro e w5 ⟨rfl,rfl⟩;go_wp2_with fail;refine (W8.out _).mono ?_;rintro e w5 ⟨rfl,rfl⟩;go_wp2_with fail;refine (W9.out _).mono ?_;rintro e w5 ⟨rfl,rfl⟩;go_wp2_with fail;refine (Wa.out _).mono ?_;rintro e w5 ⟨rfl,rfl⟩;go_wp2_with fail;go_ret;exact ⟨by rw[Hk.out];simp[h4],HF.out⟩
    ·go_wp2_with fail
     refine (W1.out _).mono ?_;rintro e w5 ⟨rfl,rfl⟩;go_wp2_with fail;refine (W2.out _).mono ?_;rintro e w5 ⟨rfl,rfl⟩;go_wp2_with fail;refine (W3.out _).mono ?_;rintro e w5 ⟨rfl,rfl⟩;go_wp2_with fail;refine (W4.out _).mono ?_;rintro e w5 ⟨rfl,rfl⟩;go_wp2_with fail;refine (W5.out _).mono ?_;rintro e w5 ⟨rfl,rfl⟩;go_wp2_with fail;refine (W6.out _).mono ?_;rintro e w5 ⟨rfl,rfl⟩;go_wp2_with fail;refine (W7.out _).mono ?_;rintro e w5 ⟨rfl,rfl⟩;go_wp2_with fail;refine (W8.out _).mono ?_;rintro e w5 ⟨rfl,rfl⟩;go_wp2_with fail;refine (W9.out _).mono ?_;rintro e w5 ⟨rfl,rfl⟩;go_wp2_with fail;refine (Wa.out _).mono ?_;rintro e w5 ⟨rfl,rfl⟩;go_wp2_with fail;refine (Wb.out _).mono ?_;rintro e w5 ⟨rfl,rfl⟩;go_wp2_with fail;go_ret;exact ⟨by rw[Hk.out];simp[h4],HF.out⟩
    ·go_wp2_with fail
     refine (W1.out _).mono ?_;rintro e w5 ⟨rfl,rfl⟩;go_wp2_with fail;refine (W2.out _).mono ?_;rintro e w5 ⟨rfl,rfl⟩;go_wp2_with fail;refine (W3.out _).mono ?_;rintro e w5 ⟨rfl,rfl⟩;go_wp2_with fail;refine (W4.out _).mono ?_;rintro e w5 ⟨rfl,rfl⟩;go_wp2_with fail;refine (W5.out _).mono ?_;rintro e w5 ⟨rfl,rfl⟩;go_wp2_with fail;refine (W6.out _).mono ?_;rintro e w5 ⟨rfl,rfl⟩;go_wp2_with fail;refine (W7.out _).mono ?_;rintro e w5 ⟨rfl,rfl⟩;go_wp2_with fail;refine (W8.out _).mono ?_;rintro e w5 ⟨rfl,rfl⟩;go_wp2_with fail;refine (W9.out _).mono ?_;rintro e w5 ⟨rfl,rfl⟩;go_wp2_with fail;refine (Wa.out _).mono ?_;rintro e w5 ⟨rfl,rfl⟩;go_wp2_with fail;refine (Wb.out _).mono ?_;rintro e w5 ⟨rfl,rfl⟩;go_wp2_with fail;go_ret;exact ⟨by rw[Hk.out];simp[h4],HF.out⟩
   ·have h4i:¬(n:Int)<=4:=by omega
    cases q1
    ·go_wp2_with fail
     refine (W1.out _).mono ?_;rintro e w5 ⟨rfl,rfl⟩;go_wp2_with fail;go_ret;exact ⟨by rw[Hk.out];simp[h4],HF.out⟩
    ·go_wp2_with fail
     refine (W1.out _).mono ?_;rintro e w5 ⟨rfl,rfl⟩;go_wp2_with fail;go_ret;exact ⟨by first|rfl|(rw[Hk.out];simp[h4]),HF.out⟩
end Go.Proofs.YtdbfejfhpkakhaaGreat
namespace Go.Proofs.YtdbfejfhpkakhaaGreat
open Go.RowKit Ps
section
variable {w : World}
end
def xG (n:Nat):Nat:=if n<10 then 48+n else 87+n
def Ig (c:Nat):List Nat:=if zk c=true then [c] else [92,xG (c / 16),xG (c % 16)]
def D_:ByteArray:=⟨#[48,49,50,51,52,53,54,55,56,57,97,98,99,100,101,102]⟩
theorem Ld:∀(n:Nat) (h:n<D_.size),D_[n].toNat=xG n:=by
 intro n h;have h2:n<16:=h;have h3:n=0∨n=1∨n=2∨n=3∨n=4∨n=5∨n=6∨n=7∨n=8∨n=9∨n=10∨n=11∨n=12∨n=13∨n=14∨n=15:=by omega
 rcases h3 with rfl|rfl|rfl|rfl|rfl|rfl|rfl|rfl|rfl|rfl|rfl|rfl|rfl|rfl|rfl|rfl<;>rfl
theorem Rd.Xq (w:World) (cs:Array Value) (t:TypeId):Rd (w.alloc (.cells cs t)) (fun k=>k=w.heap.size) 1 (some ⟨w.heap.size,0,none⟩) cs.size cs.toList:=by
 refine ⟨by simp,fun _=>⟨_,rfl,rfl,fun j u hu=>?_⟩⟩
 have ea:(Addr.mk w.heap.size 0 none).add j=⟨w.heap.size,j,none⟩:=by
  unfold Addr.add;split
  ·next e=>rw[e]
  ·simp
 rw[ea,cell_of_row _ w.heap.size j cs t (0,0) (heap_alloc_new w _)];simpa using hu
theorem JK (c:Nat):(zk c=true/\(32:Int)<=c/\(c:Int)<=126/\((c:Int) !=34)=true/\((c:Int) !=92)=true)∨(zk c=false/\¬(32:Int)<=c)∨(zk c=false/\(32:Int)<=c/\¬(c:Int)<=126)∨
 (zk c=false/\(32:Int)<=c/\(c:Int)<=126/\((c:Int) !=34)=false)∨(zk c=false/\(32:Int)<=c/\(c:Int)<=126/\((c:Int) !=34)=true/\((c:Int) !=92)=false):=by
 by_cases a:32<=c/\c<=126/\c≠34/\c≠92
 ·exact .inl ⟨decide_eq_true a,by omega,by omega,by rw[bne_iff_ne];omega,by rw[bne_iff_ne];omega⟩
 ·have hf:zk c=false:=decide_eq_false a
  by_cases b1:32<=c
  ·by_cases b2:c<=126
   ·by_cases b3:c=34
    ·exact .inr (.inr (.inr (.inl ⟨hf,by omega,by omega,by rw[bne_eq_false_iff_eq];omega⟩)))
    ·exact .inr (.inr (.inr (.inr ⟨hf,by omega,by omega,by rw[bne_iff_ne];omega,by rw[bne_eq_false_iff_eq];omega⟩)))
   ·exact .inr (.inr (.inl ⟨hf,by omega,by omega⟩))
  ·exact .inr (.inl ⟨hf,by omega⟩)
section
variable {w : World}
theorem LX (c:Nat) (hc:c<256):Calls Tryz.prog 78 #[.int .u8 (c:Int)] w fun e w'=>e=.returned (.string (iT (Ig c)))/\Nx w w':=by
 have hstr:=fun (D:Nat->Prop) (A:Option Addr) (n c:Nat) (t:List Nat) (w:World) (h:Rd w D 1 A n (bl t))=>Ze (P:=Tryz.prog) w 47 9 5 Tryz.underlying47 Tryz.underlying5 Tryz.underlying9 D A n c t h;have Nb:=ah hstr;clear hstr;rcases JK c with ⟨hp,q⟩|⟨hp,q⟩|⟨hp,q⟩|⟨hp,q⟩|⟨hp,q⟩
 ·obtain ⟨q1,q2,q3,q4⟩:=q
  have hr:Hid (Ig c=[c]):=ah (if_pos hp);have hs:=Nb.out _ (some ⟨w.heap.size,0,none⟩) 1 1 [c] _ (Rd.Xq w #[.int .u8 (c:Int)] 5);clear hp;go_enter Tryz.func78,Tryz.ntmps78;go_wp2_with fail;go_ret;exact ⟨by rw[hr.out];rfl,(Ch.refl _ w).alloc _⟩
 all_goals
  have hr:Hid (Ig c=[92,xG (c / 16),xG (c % 16)]):=ah (by unfold Ig;rw[hp];rfl);clear hp;obtain ⟨X,hX⟩:∃X,X=D_:=⟨_,rfl⟩;have XV:X.size=16:=by rw[hX];rfl
  obtain ⟨p,hp⟩:∃p,p=c / 16:=⟨_,rfl⟩;obtain ⟨m,hm⟩:∃m,m=c % 16:=⟨_,rfl⟩;rw[←hp,←hm]at hr;have hn1:p<X.size:=by omega
  have hn2:m<X.size:=by omega
  have e1:X[p].toNat=xG p:=by subst hX;exact Ld _ hn1
  have e2:X[m].toNat=xG m:=by subst hX;exact Ld _ hn2
  have HE:=ah (And.intro e1 e2);have HX:=ah hX.symm;unfold D_ at HX;clear hX e1 e2;have k3:(c:Int) / 16=(p:Int):=by omega
  have k4:(c:Int) % 16=(m:Int):=by omega
  have k1:IntKind.u8.wrap (p:Int)=(p:Int):=by rw[IntWalk.u8_in _ (by omega)]
  have k2:IntKind.u8.wrap (m:Int)=(m:Int):=by rw[IntWalk.u8_in _ (by omega)]
  have k5:IntKind.u8.wrap ((c:Int).tdiv 16)=(p:Int):=by rw[IntWalk.u8_quo _ _ (by omega)];omega
  have k6:(c:Int).tmod 16=(m:Int):=by rw[Int.tmod_eq_emod_of_nonneg (by omega),k4]
  have kn1:(p:Int)<(X.size:Int):=by omega
  have kn2:(m:Int)<(X.size:Int):=by omega
  have hs:=Nb.out _ (some ⟨w.heap.size,0,none⟩) 3 3 [92,X[p].toNat,X[m].toNat] (w.alloc (.cells #[.int .u8 92,.int .u8 (X[p].toNat:Int),.int .u8 (X[m].toNat:Int)] 5)).drew ((Rd.Xq w #[.int .u8 92,.int .u8 (X[p].toNat:Int),.int .u8 (X[m].toNat:Int)] 5).ch (by decide) ((Ch.refl (fun _=>False) _).drew) (fun _ _ _ hf=>hf));have k7:c % 16=m:=hm.symm;have k8:c / 16=p:=hp.symm;clear hp hm;clear XV
  try obtain ⟨q1,q2⟩:=q
  try obtain ⟨q2,q3⟩:=q2
  try obtain ⟨q3,q4⟩:=q3
  go_enter Tryz.func78,Tryz.ntmps78;go_wp2_with fail;rw[HX.out];refine sD (fun _=>True) (fun _=>false) rfl trivial (fun hS0=>?_);refine z00 (i:=0) (oi:=_) (v:=?_) rfl (fun _ _ _ h=>h) (Or.inl ⟨by rfl,?_⟩) ?_;rotate_left
  ·(intro w hSw;(try dsimp only at hSw);go_split_ands;go_simp;try with_reducible rfl)
  try simp only[Act.put,List.setIfInBounds_toArray]
  refine z00 (i:=1) (oi:=_) (v:=?_) rfl (fun _ _ _ h=>h) (Or.inl ⟨by rfl,?_⟩) ?_;rotate_left
  ·(intro w hSw;(try dsimp only at hSw);go_split_ands;go_simp;try with_reducible rfl)
  try simp only[Act.put]
  refine z00 (i:=2) (oi:=_) (v:=?_) rfl (fun _ _ _ h=>h) (Or.inl ⟨by rfl,?_⟩) ?_;rotate_left
  ·(intro w hSw;(try dsimp only at hSw);go_split_ands;go_simp;try with_reducible rfl)
  try simp only[Act.put]
  refine z00 (i:=3) (oi:=_) (v:=?_) rfl (fun _ _ _ h=>h) (Or.inl ⟨by rfl,?_⟩) ?_;rotate_left
  ·(intro w hSw;(try dsimp only at hSw);go_split_ands;go_simp;try with_reducible rfl)
  try simp only[Act.put]
  refine z00 (i:=4) (oi:=_) (v:=?_) rfl (fun _ _ _ h=>h) (Or.inl ⟨by rfl,?_⟩) ?_;rotate_left
  ·(intro w hSw;(try dsimp only at hSw);go_split_ands;go_simp;try with_reducible rfl)
  try simp only[Act.put]
  refine z00 (i:=5) (oi:=_) (v:=?_) rfl (fun _ _ _ h=>h) (Or.inl ⟨by rfl,?_⟩) ?_;rotate_left
  ·(intro w hSw;(try dsimp only at hSw);go_split_ands;go_simp;try with_reducible rfl)
  try simp only[Act.put]
  refine z00 (i:=6) (oi:=_) (v:=?_) rfl (fun _ _ _ h=>h) (Or.inl ⟨by rfl,?_⟩) ?_;rotate_left
  ·(intro w hSw;(try dsimp only at hSw);go_split_ands;go_simp;try with_reducible rfl)
  try simp only[Act.put]
  refine z00 (i:=7) (oi:=_) (v:=?_) rfl (fun _ _ _ h=>h) (Or.inl ⟨by rfl,?_⟩) ?_;rotate_left
  ·(intro w hSw;(try dsimp only at hSw);go_split_ands;go_simp;try with_reducible rfl)
  try simp only[Act.put]
  refine z02 (rs:=[8]) (by kernel_rfl) (by simp) (z01.cons (o:=_) rfl (fun K hK=>?_) z01.nil);go_simp;go_wp2_with fail;refine hK.out _ _ (fun _=>trivial) (fun aj=>?_);have hHeld:=aj (by decide);clear hK K aj
  try simp only[Act.put]
  refine z02 (rs:=[9]) (by kernel_rfl) (by simp) (z01.cons (o:=_) rfl (fun K hK=>?_) z01.nil);go_simp;go_wp2_with fail;refine hK.out _ _ (fun _=>trivial) (fun aj=>?_);have hHeld:=aj (by decide);clear hK K aj
  try simp only[Act.put]
  refine z02 (rs:=[10]) (by kernel_rfl) (by simp) (z01.cons (o:=_) rfl (fun K hK=>?_) z01.nil);go_simp;refine hK.out _ _ (fun _=>trivial) (fun aj=>?_);clear hK K aj
  try simp only[Act.put]
  refine kE (by kernel_rfl) ?_ _;go_wp2_with fail;go_ret;exact ⟨by rw[hr.out,←HE.out.1,←HE.out.2];rfl,((Ch.refl _ w).drew).alloc _⟩
end
end Go.Proofs.YtdbfejfhpkakhaaGreat
