/- Contracts and plain laws that the last text rests on. Conditions: each theorem states its own. -/
import Derived.Test.YtfljcllpmbnjaaaGreatKdPdInfL
import Derived.Test.YtfljcllpmbnjaaaGreatKdPdLaw
import Derived.Test.YtfljcllpmbnjaaaGreatKdPdRfK
import Derived.Test.YtfljcllpmbnjaaaGreatKdQ16
import Derived.Deep.CutBlock
import Derived.Deep.DeepCutAuto
set_option maxRecDepth 100000
set_option maxHeartbeats 32000000
set_option linter.unusedVariables false
namespace Go.Proofs.YtfljcllpmbnjaaaGreat
open Go.RowKit
section
variable {W : World} {bs : List Nat} {most : Int}
theorem zk (A:Option Addr) (n c:Nat) (hm:most<0):Calls Tryz.prog 127 #[.slice A n c,.int .i64 most] W (tH W bs most):=by
 have hF:jV bs most=([],0,1):=by unfold jV;rw[if_pos (.inl hm)]
 have HF:=ah hF;clear hF;go_enter Tryz.func127,Tryz.ntmps127;go_wp2_with fail;refine bodyPost_ret (v:=.tuple #[.slice none 0 0,.int .i64 0,.int .i64 1]) (by simp[results,Tryz.results127,go_sem]) rfl ?_;unfold tH;rw[HF.out];exact ⟨.slice none 0 0,rfl,World.ownsRow_nil _ _ _ _,Ch.refl _ _,by intro x hx;cases hx⟩
theorem sK (D:Nat->Prop) (A:Option Addr) (c:Nat) (hb:Rd W D 1 A bs.length (bl bs)) (hk:okB bs) (hl:bs.length<=140737488355328) (hm:most<=65536):
 Calls Tryz.prog 127 #[.slice A bs.length c,.int .i64 most] W (tH W bs most):=by
 by_cases h0:most<0
 ·exact zk A bs.length c h0
 ·exact zn VB D A c hb hk hl (by omega) hm
end
end Go.Proofs.YtfljcllpmbnjaaaGreat
namespace Go.Proofs.YtfljcllpmbnjaaaGreat
open Go.RowKit R2
def xw (K:Nat->Prop) (w:World) (t g h:Nat) (bs:List Nat) (N most:Nat) (xs:List Nat) (e:Ending) (w':World):Prop:=
 ∃(A1:Option Addr) (c1:Nat) (A2:Option Addr) (c2 n1 n2:Nat) (er:Int) (p':Nat),e=.returned (.tuple #[.slice A1 n1 c1,.slice A2 n2 c2,.int .i64 er])/\kP K w t g h bs N p' xs most w'/\
  (er=0->∃(zl zd:List Int) (D:Nat->Prop),zl.length=n1/\zd.length=n2/\bH zl=0/\bH zd=0/\Rd w' D 1 A1 n1 (il zl)/\Rd w' D 1 A2 n2 (il zd))
theorem xw.bad {K:Nat->Prop} {w w':World} {t g h:Nat} {bs:List Nat} {N most:Nat} {xs:List Nat} {er:Int} {p':Nat} (hr:kP K w t g h bs N p' xs most w') (he:er≠0):xw K w t g h bs N most xs (.returned (.tuple #[.slice none 0 0,.slice none 0 0,.int .i64 er])) w':=
 ⟨none,0,none,0,0,0,er,p',rfl,hr,fun h0=>absurd h0 he⟩
def RP (w:World) (g h:Nat) (bs:List Nat) (N q:Nat) (w':World):Prop:=fE w' g h bs N q/\Ch (· =g) w w'
theorem RP.nx {w w' w2:World} {g h:Nat} {bs:List Nat} {N q:Nat} (r:RP w g h bs N q w') (n:Nx w' w2):RP w g h bs N q w2:=⟨r.1.nx n,r.2.tr n⟩
theorem RP.go {w w' w2:World} {g h:Nat} {bs:List Nat} {N q q2:Nat} (r:RP w g h bs N q w') (r2:fE w2 g h bs N q2) (c:Ch (· =g) w' w2):RP w g h bs N q2 w2:=⟨r2,r.2.trans c fun _ _ e=>e⟩
theorem RP.far {w w' w2:World} {g h:Nat} {bs:List Nat} {N q:Nat} {S:Nat->Prop} (r:RP w g h bs N q w') (c:Ch S w' w2) (hS:∀k,S k->w.heap.size<=k) (hg:g<w.heap.size) (hh:h<w.heap.size):RP w g h bs N q w2:=
 ⟨r.1.ch c (fun e=>by have:=hS _ e;omega) (fun e=>by have:=hS _ e;omega),r.2.trans c fun k hk e=>by have:=hS k e;omega⟩
theorem RP.from {w w1 w':World} {g h:Nat} {bs:List Nat} {N q:Nat} (r:RP w1 g h bs N q w') (c:Ch (· =g) w w1):RP w g h bs N q w':=⟨r.1,c.trans r.2 fun _ _ e=>e⟩
theorem vF (w:World) (n:Nat) (hn:n<=maxLen):(w.alloc (.cells (madeCells #[.int .i64 0] n) 3)).ownsRow w.heap.size 3 1 (.slice (some ⟨w.heap.size,0,none⟩) n n) n (il (List.replicate n 0)):=by
 have e:il (List.replicate n 0)=(madeCells #[Value.int .i64 0] n).toList:=by
  rw[toList_madeCells_one];simp[il]
 rw[e];exact World.ownsRow_lit w _ n (Nat.le_refl _) hn (by simp[size_madeCells])
theorem sD {w:World} {base:Nat} {v:Value} {l:List Int} (h:w.ownsRow base 3 1 v l.length (il l)) (hv:v.ownBlock≠none):∃g c,v=.slice (some ⟨g,0,none⟩) l.length c/\l.length<=c/\c<=maxLen:=by
 obtain ⟨g,hg⟩:∃g,v.ownBlock=some g:=Option.ne_none_iff_exists'.1 hv;obtain ⟨c,rfl,h1,h2⟩:=Ot h hg;exact ⟨g,c,rfl,h1,h2⟩
theorem Zt (g j:Nat):(⟨g,0,none⟩:Addr).add j=⟨g,j,none⟩:=by
 unfold Addr.add;by_cases hj:j=0
 ·rw[if_pos hj,hj]
 ·rw[if_neg hj];simp
theorem zG {w:World} {B g c:Nat} {l:List Int} {k:Nat} (h:w.ownsRow B 3 1 (.slice (some ⟨g,0,none⟩) l.length c) l.length (il l)) (hk:k<=l.length):Rd w (fun j=>j=g) 1 (some ⟨g,k,none⟩) (l.length-k) (il (l.drop k)):=
 ⟨by simp[il],fun h0=>⟨⟨g,k,none⟩,rfl,rfl,fun j u hu=>by
   have hj:k+j<l.length:=by
    rcases Nat.lt_or_ge (k+j) l.length with h|h
    ·exact h
    ·rw[List.getElem?_eq_none (by simp[il];omega)]at hu;cases hu
   have h3:=zq h hj
   have e:Addr.add ⟨g,k,none⟩ j=⟨g,k+j,none⟩:=by
    unfold Addr.add;by_cases hj:j=0
    ·rw[if_pos hj,hj];simp
    ·rw[if_neg hj]
   rw[e,h3,←hu];simp[il,List.getD_eq_getElem?_getD,List.getElem?_eq_getElem hj]⟩⟩
theorem qw {W:World} {g h:Nat} {bs:List Nat} {N q:Nat} (m:Nat) (hm:m<=7) (r:fE W g h bs N q):
 Calls Tryz.prog 129 #[.pointer (some ⟨g,0,none⟩),.int .i64 (m:Int)] W fun e w'=>∃(v:Nat) (er:Int) (q3:Nat),e=.returned (.tuple #[.int .u32 (v:Int),.int .i64 er])/\v<128/\fE w' g h bs N q3/\Ch (· =g) W w':=by
 by_cases hq:q+m<=N
 ·refine (Ol g h bs N q m W r (by omega) hq).mono ?_
  rintro e w' ⟨rfl,r',c'⟩;exact ⟨_,0,_,rfl,Nat.lt_of_lt_of_le (AU bs q m) (Nat.pow_le_pow_right (n:=2) (by omega) hm),r',c'⟩
 ·refine (Oo g h bs N q (m:Nat) W r (by omega) (by omega) (by omega)).mono ?_
  rintro e w' ⟨rfl,d'⟩;exact ⟨0,3,q,rfl,by omega,r.nx d'.nx,d'.nx.mono fun _ _ hf=>hf.elim⟩
def ThR (w:World) (g h:Nat) (bs:List Nat) (N k:Nat) (i:Value) (wr:World):Prop:=
 ∃(j q:Nat) (l:List Int),j<=k/\i=.int .i64 (j:Int)/\l.length=19/\wr.ownsRow w.heap.size 3 1 (.slice (some ⟨w.heap.size,0,none⟩) 19 19) 19 (il l)/\RP w g h bs N q wr
def LnR (w:World) (g h:Nat) (bs:List Nat) (N nm:Nat) (v:Value) (wr:World):Prop:=
 ∃(q:Nat) (l:List Int),l.length<=nm/\v.ownBlock≠none/\wr.ownsRow w.heap.size 3 1 v l.length (il l)/\RP w g h bs N q wr
def LnA (w:World) (g h:Nat) (bs:List Nat) (N q m cnt:Nat) (v i:Value) (wr:World):Prop:=
 ∃(j:Nat) (l:List Int),j<=cnt/\i=.int .i64 (j:Int)/\l.length=m+j/\v.ownBlock≠none/\wr.ownsRow w.heap.size 3 1 v l.length (il l)/\RP w g h bs N q wr
theorem Cm {K:Nat->Prop} {w:World} {t g h:Nat} {bs:List Nat} {p most:Nat} {xs:List Nat} (m:Ey K w t g h bs (8 * bs.length) p xs most):
 Calls Tryz.prog 131 #[.pointer (some ⟨t,0,none⟩)] w (xw K w t g h bs (8 * bs.length) most xs):=by
 obtain ⟨i0,hi0,hz0,hz1,hz2⟩:=info_parts Tryz.info3;obtain ⟨vo,m⟩:=m;generalize 8 * bs.length=N at *;have M:=ah m;have hgl:g<w.heap.size:=by obtain ⟨_,_,b,_⟩:=m.fH;exact b.lt
 have hhl:h<w.heap.size:=(m.far h m.kh).1;have HD:Hid (∀(w':World) (q:Nat),RP w g h bs N q w'->w'.cell? ⟨t,0,none⟩=some (.pointer (some ⟨g,0,none⟩))):=ah fun w' q r=>(M.out.bits r.1 r.2).blk.cell 0;have HE:Hid (∀(w':World) (q:Nat),RP w g h bs N q w'->kP K w t g h bs N q xs most w'):=ah fun w' q r=>⟨⟨_,M.out.bits r.1 r.2⟩,M.out.kW r.2 fun k hk=>.inr (.inl hk)⟩;have R0:Hid (RP w g h bs N p w):=ah ⟨m.fH,Ch.refl _ _⟩;have HB:=ah (fun (q k:Nat) (w':World) (r:RP w g h bs N q w') (hk:k<=32) (hq:q+k<=N)=>Ol g h bs N q k w' r.1 hk hq);have HS:=ah (fun (q k:Nat) (w':World) (r:RP w g h bs N q w') (hk:k<=32) (hq:N<q+k)=>Oo g h bs N q (k:Nat) w' r.1 (by omega) (by omega) (by omega));have d0:=HD.out _ _ R0.out;clear m;go_enter Tryz.func131,Tryz.ntmps131;go_wp2_with fail;by_cases h1:p+5<=N
 ·refine (HB.out p 5 w R0.out (by omega) h1).mono ?_
  rintro e w1 ⟨rfl,r1,c1⟩;have R1:=ah (R0.out.go r1 c1);have d1:=HD.out _ _ R1.out;have hb1:aS bs p 5<32:=AU bs p 5;clear r1 c1 d0;generalize aS bs p 5=a at *;go_wp2_with fail;by_cases h2:p+5+5<=N
  ·refine (HB.out (p+5) 5 w1 R1.out (by omega) h2).mono ?_
   rintro e w2 ⟨rfl,r2,c2⟩;have R2:=ah (R1.out.go r2 c2);have d2:=HD.out _ _ R2.out;have hb2:aS bs (p+5) 5<32:=AU bs (p+5) 5;clear r2 c2 d1;generalize aS bs (p+5) 5=b at *;go_wp2_with fail;by_cases h3:p+5+5+4<=N
   ·refine (HB.out (p+5+5) 4 w2 R2.out (by omega) h3).mono ?_
    rintro e w3 ⟨rfl,r3,c3⟩;have R3:=ah (R2.out.go r3 c3);have hb3:aS bs (p+5+5) 4<16:=AU bs (p+5+5) 4;clear r3 c3 d2;generalize aS bs (p+5+5) 4=c at *;generalize p+5+5+4=q0 at *;obtain ⟨n,hn⟩:∃n,n=a+257:=⟨_,rfl⟩;obtain ⟨mm,hmm⟩:∃mm,mm=b+1:=⟨_,rfl⟩;obtain ⟨k,hk⟩:∃k,k=c+4:=⟨_,rfl⟩;go_upto_region 10 with fail
    go_cut [9,10,11] (fun s9 s10 s11 wx=>s9=.int .i64 (n:Int)/\s10=.int .i64 (mm:Int)/\s11=.int .i64 (k:Int)/\wx=w3)
    case first=>
     have Hn:=ah hn;have Hmm:=ah hmm;have Hk:=ah hk;clear hn hmm hk;go_wp2_with fail;go_meet
     exact ⟨by rw[Hn.out];simp,by rw[Hmm.out];simp,by rw[Hk.out];simp,rfl⟩
    case rest=>
    obtain ⟨rfl,rfl,rfl,hwc⟩:=hcut;rw[hwc];have hn1:257<=n:=(by omega);have hn2:n<=288:=(by omega);have hm1:1<=mm:=(by omega);have hm2:mm<=32:=(by omega);have hk1:k<=19:=(by omega);clear hwc hn hmm hk;by_cases hbig:286<n
    ·have hbi:(286:Int)<(n:Int):=by omega
     go_wp2_with fail;go_ret3;exact xw.bad (HE.out _ _ R3.out) (by decide)
    ·have hbi:¬(286:Int)<(n:Int):=by omega
     by_cases hbig2:30<mm
     ·have WC:(30:Int)<(mm:Int):=by omega
      go_wp2_with fail;go_ret3;exact xw.bad (HE.out _ _ R3.out) (by decide)
     ·have WC:¬(30:Int)<(mm:Int):=by omega
      clear hbi WC;have hg3:g<w3.heap.size:=Nat.lt_of_lt_of_le hgl R3.out.2.size;have hh3:h<w3.heap.size:=Nat.lt_of_lt_of_le hhl R3.out.2.size;have H0:Hid (ThR w3 g h bs N k (.int .i64 0) (w3.alloc (.cells (madeCells #[.int .i64 0] 19) 3))):=ah ⟨0,q0,List.replicate 19 0,by omega,rfl,by simp,vF w3 19 (by simp[maxLen]),R3.out.1.nx ((Ch.refl _ w3).alloc _),(Ch.refl _ w3).alloc _⟩
      have hmk:∀w:World,(Instr.makeSlice 88 (.int .i64 19) (.int .i64 19)).run Tryz.prog w=.ok (.slice (some ⟨w.heap.size,0,none⟩) 19 19) (w.alloc (.cells (madeCells #[.int .i64 0] 19) 3)):=fun w=>by
       have:=run_make (P:=Tryz.prog) w 88 3 i0 (.int .i64 0) Tryz.underlying88 hi0 hz0 .i64 .i64 19 19 (by omega) (by omega) (by rw[hz2];omega) (by omega);rw[hz1,show (19:Int).toNat=19 from rfl,Nat.mul_one]at this;exact this
      go_wp2_with fail;clear hmk;go_loopw [13] (fun i wr=>ThR w3 g h bs N k i wr) (fun i _=>k-(intOf i).toNat)
      case atStart=>exact H0.out
      case round=>
       clear H0;obtain ⟨w4,rfl⟩:∃x:World,x=wr:=⟨_,rfl⟩;obtain ⟨j,q,l,hj,rfl,hll,ho,hr⟩:=hrel;have R4:=ah hr;have O4:=ah ho;have Hll:=ah hll;have TF:=ah (hr.from R3.out.2);clear hr ho hll;by_cases hlt:j<k
       ·have d4:=HD.out _ _ TF.out
        have hjlt:(j:Int)<(k:Int):=(by omega);go_wp2_with fail;by_cases h3:q+3<=N
        ·refine (HB.out q 3 w4 TF.out (by omega) h3).mono ?_
         rintro e w5 ⟨rfl,r5,c5⟩;have R5:=ah (R4.out.go r5 c5);have O5:=ah (z06 O4.out c5 fun i hi e=>by have:=(O4.out.lt i hi).1;omega);clear r5 c5 d4;have hv:aS bs q 3<8:=AU bs q 3;generalize aS bs q 3=v at *;have hidx:=fun W=>sO j (by omega) W;have hth:=xM j;generalize dU.getD j 0=x at *;have hc1:w5.cell? ⟨w3.heap.size,x,none⟩=some (.int .i64 (l.getD x 0)):=(O5.out.cellAt x (by omega)).trans (by have:=Hll.out;simp[il,List.getD_eq_getElem?_getD,List.getElem?_eq_getElem (show x<l.length by omega)]);have hf1:w5.frozen? ⟨w3.heap.size,x,none⟩=false:=O5.out.frozenAt x;have hxi:(x:Int)<19:=by omega
         have HFI:Hid (ThR w3 g h bs N k (.int .i64 ((j:Int)+1)) (w5.setCell ⟨w3.heap.size,x,none⟩ (.int .i64 (v:Int)))):=ah (by
          refine ⟨j+1,q+3,l.set x (v:Int),by omega,by simp,by rw[List.length_set];exact Hll.out,?_,R5.out.far (S:=fun i=>i=w3.heap.size) (Ch.setCell (S:=fun i=>i=w3.heap.size) (Ch.refl _ w5) (p:=⟨w3.heap.size,x,none⟩) (fun _=>rfl) _) (fun i e=>by rw[e];exact Nat.le_refl _) hg3 hh3⟩;have e:il (l.set x (v:Int))=(il l).set x (.int .i64 (v:Int)):=(by simp[il,List.map_set]);rw[e];exact (O5.out.stored x _).1)
         go_wp2_with fail;go_roundw
         case rel=>exact HFI.out
         case measure=>simp[intOf];omega
        ·refine (HS.out q 3 w4 TF.out (by omega) (by omega)).mono ?_
         rintro e w5 ⟨rfl,n5⟩;go_wp2_with fail;go_ret3;exact xw.bad (HE.out _ _ (TF.out.nx n5.nx)) (by decide)
       ·have hjlt:¬(j:Int)<(k:Int):=by omega
        have HC:=ah (z45 _ _ 19 19 l w4 (Rd.bY O4.out) Hll.out (by omega));go_wp2_with fail;refine HC.out.mono ?_;rintro e w5 ⟨rfl,n5⟩;have N5:=ah n5;clear n5 HC;by_cases hc0:bH l=0
        ·rw[hc0]
         have HW:=ah (Vm _ _ 19 19 l w5 ((Rd.bY O4.out).nx (by decide) N5.out) Hll.out hc0);have Hc0:=ah hc0;clear hc0;go_wp2_with fail;refine HW.out.mono ?_;rintro e w6 ⟨ka,ca,rfl,oa,ha1,ha2,ha3,ha4⟩;have N56:=ah (N5.out.tr oa.nx);have C6:=ah ((TF.out.nx N56.out).2);have hsz4:w3.heap.size<=w4.heap.size:=R4.out.2.size;have hsz5:w4.heap.size<=w5.heap.size:=N5.out.size;have V_:ka≠g:=(by omega);have HWD:Hid (∀w',Ch (· =g) w6 w'->Rd w' (· =ka) 1 (some ⟨ka,0,none⟩) 19 (sl (strs l))):=ah fun w' c=>oa.fM.ch (by decide) c fun i _ e hn=>V_ (e▸hn);have hg6:g<w6.heap.size:=Nat.lt_of_lt_of_le hgl C6.out.size;have hh6:h<w6.heap.size:=Nat.lt_of_lt_of_le hhl C6.out.size;have HL0:Hid (LnR w6 g h bs N (n+mm) (.slice (some ⟨w6.heap.size,0,none⟩) 0 0) (w6.alloc (.cells #[] 3))):=ah ⟨q,[],Nat.zero_le _,by simp[Value.ownBlock],World.ownsRow_made w6 #[] 0 (Nat.le_refl _) (by simp[maxLen]) rfl,(TF.out.nx N56.out).1.nx ((Ch.refl _ w6).alloc _),(Ch.refl _ w6).alloc _⟩;clear HW oa ha1 ha2 ha3 ha4 hsz4 hsz5;go_wp2_with fail;go_loopw [17] (fun v wr=>LnR w6 g h bs N (n+mm) v wr) (fun v _=>n+mm-lenV v)
         case atStart=>exact HL0.out
         case round=>
          clear HL0;obtain ⟨w7,rfl⟩:∃x:World,x=wr:=⟨_,rfl⟩;obtain ⟨q,l2,hl2,hsm,ho,hr⟩:=hrel;have R7:=ah hr;have O7:=ah ho;have Xa:=ah (hr.from C6.out);obtain ⟨g2,c2,rfl,hc2,hcm2⟩:=sD ho hsm;clear hr ho hsm;by_cases hlt:l2.length<n+mm
          ·have vW:(l2.length:Int)<(n:Int)+(mm:Int):=by omega
           have d7:=HD.out _ _ Xa.out;have OC:=ah (Zn (· =ka) (some ⟨ka,0,none⟩) 19 ca (strs l) bs g h N q w7 (HWD.out w7 R7.out.2) (fun j e=>by rw[e];exact V_) (by rw[Yl];exact Hll.out) (by omega) R7.out.1);go_wp2_with fail;refine OC.out.mono ?_;rintro e w8 ⟨s,er,q2,rfl,r8,c8,hqq,hok, -⟩;have R8:=ah (R7.out.go r8 c8);have R8w:=ah (R8.out.from C6.out);have O8:=ah (z06 O7.out c8 fun i hi e=>by have:=(O7.out.lt i hi).1;omega);have d8:=HD.out _ _ R8w.out;clear r8 c8 OC d7;by_cases her:er=0
           ·subst her
            obtain ⟨hs1, -⟩:=hok rfl;rw[Yl,Hll.out]at hs1;clear hok hqq;go_upto_if 122 with fail
            go_cut [20] (fun s20 wx=>(∃x:Int,s20=.int .i64 x)/\wx=w8)
            case first=>
             by_cases hc:s<16
             ·have hci:(s:Int)<16:=by omega
              go_wp2_with fail;go_meet
              exact ⟨⟨_,rfl⟩,rfl⟩
             ·have hci:¬(s:Int)<16:=by omega
              go_wp2_with fail;go_meet
              exact ⟨⟨_,rfl⟩,rfl⟩
            case rest=>
            obtain ⟨⟨x,rfl⟩,hwc⟩:=hcut;rw[hwc];clear hwc;go_upto_if 125 with fail
            go_cut [20,21,22] (fun s20 s21 s22 wx=>(∃(x:Int) (B mb:Nat),s20=.int .i64 x/\s21=.int .i64 (B:Int)/\s22=.int .i64 (mb:Int)/\1<=B/\B<=11/\mb<=7)/\wx=w8)
            case first=>
             by_cases hc:s=16
             ·have hci:((s:Int)==16)=true:=by rw[beq_iff_eq];omega
              clear hc;by_cases hl0:l2.length=0
              ·have hli:((l2.length:Int)==0)=true:=by rw[beq_iff_eq];omega
               clear hl0;go_wp2_with fail;go_ret3;exact xw.bad (HE.out _ _ R8w.out) (by decide)
              ·have hli:((l2.length:Int)==0)=false:=by rw[beq_eq_false_iff_ne];omega
               obtain ⟨z,hz⟩:∃z,l2.length-1=z:=⟨_,rfl⟩;have hzi:(l2.length:Int)-1=(z:Int):=(by omega);have hzl:(z:Int)<(l2.length:Int):=(by omega);have hcz:w8.cell? ⟨g2,z,none⟩=some (.int .i64 (l2.getD z 0)):=zq O8.out (by omega);have hcz2:w8.cell? ((⟨g2,0,none⟩:Addr).add z)=some (.int .i64 (l2.getD z 0)):=by rw[Zt];exact hcz
               clear hl0 hz;generalize l2.getD z 0=y at *;go_wp2_with fail;go_meet
               exact ⟨⟨y,3,2,rfl,rfl,rfl,by omega,by omega,by omega⟩,rfl⟩
             ·have hci:((s:Int)==16)=false:=by rw[beq_eq_false_iff_ne];omega
              clear hc;go_wp2_with fail;go_meet
              exact ⟨⟨x,1,0,rfl,rfl,rfl,by omega,by omega,by omega⟩,rfl⟩
            case rest=>
            obtain ⟨⟨x,B,mb,rfl,rfl,rfl,hB1,hB2,hmb⟩,hwc⟩:=hcut;rw[hwc];clear hwc;go_upto_if 136 with fail
            go_cut [20,21,22] (fun s20 s21 s22 wx=>(∃(x:Int) (B mb:Nat),s20=.int .i64 x/\s21=.int .i64 (B:Int)/\s22=.int .i64 (mb:Int)/\1<=B/\B<=11/\mb<=7)/\wx=w8)
            case first=>
             by_cases hc:s=17
             ·have hci:((s:Int)==17)=true:=by rw[beq_iff_eq];omega
              clear hc;go_wp2_with fail;go_meet
              exact ⟨⟨x,3,3,rfl,rfl,rfl,by omega,by omega,by omega⟩,rfl⟩
             ·have hci:((s:Int)==17)=false:=by rw[beq_eq_false_iff_ne];omega
              clear hc;go_wp2_with fail;go_meet
              exact ⟨⟨x,B,mb,rfl,rfl,rfl,hB1,hB2,hmb⟩,rfl⟩
            case rest=>
            obtain ⟨⟨x,B,mb,rfl,rfl,rfl,hB1,hB2,hmb⟩,hwc⟩:=hcut;rw[hwc];clear hwc;go_upto_if 138 with fail
            go_cut [20,21,22] (fun s20 s21 s22 wx=>(∃(x:Int) (B mb:Nat),s20=.int .i64 x/\s21=.int .i64 (B:Int)/\s22=.int .i64 (mb:Int)/\1<=B/\B<=11/\mb<=7)/\wx=w8)
            case first=>
             by_cases hc:s=18
             ·have hci:((s:Int)==18)=true:=by rw[beq_iff_eq];omega
              clear hc;go_wp2_with fail;go_meet
              exact ⟨⟨x,11,7,rfl,rfl,rfl,by omega,by omega,by omega⟩,rfl⟩
             ·have hci:((s:Int)==18)=false:=by rw[beq_eq_false_iff_ne];omega
              clear hc;go_wp2_with fail;go_meet
              exact ⟨⟨x,B,mb,rfl,rfl,rfl,hB1,hB2,hmb⟩,rfl⟩
            case rest=>
            obtain ⟨⟨x,B,mb,rfl,rfl,rfl,hB1,hB2,hmb⟩,hwc⟩:=hcut;rw[hwc];clear hwc;have UU:=ah (qw mb hmb R8.out.1);go_wp2_with fail;refine UU.out.mono ?_;rintro e w9 ⟨v,er,q3,rfl,hv,r9,c9⟩;have R9:=ah (R8.out.go r9 c9);have R9w:=ah (R9.out.from C6.out);have O9:=ah (z06 O8.out c9 fun i hi e=>by have:=(O8.out.lt i hi).1;omega);clear r9 c9 UU d8;by_cases her:er=0
            ·subst her
             by_cases hov:n+mm<l2.length+(B+v)
             ·have hovi:(n:Int)+(mm:Int)-(l2.length:Int)<(B:Int)+(v:Int):=by omega
              go_wp2_with fail;go_ret3;exact xw.bad (HE.out _ _ R9w.out) (by decide)
             ·have hovi:¬(n:Int)+(mm:Int)-(l2.length:Int)<(B:Int)+(v:Int):=by omega
              have HA0:Hid (LnA w6 g h bs N q3 l2.length (B+v) (.slice (some ⟨g2,0,none⟩) l2.length c2) (.int .i64 0) w9):=ah ⟨0,l2,Nat.zero_le _,rfl,rfl,by simp[Value.ownBlock],O9.out,R9.out⟩;go_wp2_with fail;go_loopw [17,24] (fun v' i wr=>LnA w6 g h bs N q3 l2.length (B+v) v' i wr) (fun _ i _=>B+v-(intOf i).toNat)
              case atStart=>exact HA0.out
              case round=>
               clear HA0;obtain ⟨wa,rfl⟩:∃x:World,x=wr:=⟨_,rfl⟩;obtain ⟨j,l3,hj,rfl,hl3,VG,ho3,hr3⟩:=hrel;have RA:=ah hr3;have OA:=ah ho3;obtain ⟨g3,c3,rfl,hc3,hcm3⟩:=sD ho3 VG;have Hl3:=ah hl3;clear hr3 ho3 hl3;by_cases hjl:j<B+v
               ·have hjli:(j:Int)<(B:Int)+(v:Int):=by omega
                have hl3b:l3.length<=1000:=by rw[Hl3.out];omega
                have hszA:w6.heap.size<=wa.heap.size:=RA.out.2.size;have hrd:Rd (wa.alloc (.cells #[.int .i64 x] 3)) (fun i=>i=wa.heap.size) 1 (some ⟨wa.heap.size,0,none⟩) 1 [.int .i64 x]:=⟨rfl,fun _=>⟨_,rfl,rfl,cell_one_new _ _ _⟩⟩
                have kS:Hid (∀(v':Value) (wb:World),wb.ownsRow w6.heap.size 3 1 v' (l3.length+1) (il l3++[.int .i64 x])->(wa.alloc (.cells #[.int .i64 x] 3)).grownBy wb (Value.ownBlock (.slice (some ⟨g3,0,none⟩) l3.length c3))->(v'.ownBlock=Value.ownBlock (.slice (some ⟨g3,0,none⟩) l3.length c3)∨v'.ownBlock=some (wa.alloc (.cells #[.int .i64 x] 3)).heap.size)->
                 LnA w6 g h bs N q3 l2.length (B+v) v' (.int .i64 ((j:Int)+1)) wb):=ah fun v' wb hown hg hat=>by
                 have cb:Ch (fun k=>w6.heap.size<=k) wa wb:=((Ch.refl (fun k=>w6.heap.size<=k) wa).alloc _).grown hg fun k hk _=>(OA.out.lt k hk).1;refine ⟨j+1,l3++[x],by omega,by simp,by rw[List.length_append,Hl3.out];simp;omega,?_,?_,RA.out.far cb (fun k hk=>hk) hg6 hh6⟩
                 ·rcases hat with e|e
                  ·rw[e];simp[Value.ownBlock]
                  ·rw[e];simp
                 ·rw[List.length_append,show il (l3++[x])=il l3++[.int .i64 x] by simp[il]]
                  exact hown
                go_wp2_with (at_builtin;refine z00 _ rfl (.tmp 170) (.tmp 172) _ rfl w6.heap.size 3 i0 _ 1 8 Tryz.underlying88 hi0 hz0 hz1 hz2 rfl (by omega) (.slice (some ⟨g3,0,none⟩) l3.length c3) l3.length (il l3) rfl (z06 OA.out ((Ch.refl (fun _=>False) _).alloc _) (fun _ _ hf=>hf)) (fun i=>i=wa.heap.size) (some ⟨wa.heap.size,0,none⟩) 1 1 [.int .i64 x] rfl hrd (by intro u hu;simp at hu;subst hu;rfl) (by simp only[maxLen];omega) (by omega) (Nat.le_trans hszA (by simp)) ?_;intro v' wb hown hg hat;have HQ:=ah (kS.out v' wb hown hg hat);clear hown hg hat)
                go_roundw
                case rel=>exact HQ.out
                case measure=>simp[intOf];omega
               ·have hjli:¬(j:Int)<(B:Int)+(v:Int):=by omega
                go_wp2_with fail;go_roundw
                case rel=>exact ⟨q3,l3,by rw[Hl3.out];omega,VG,OA.out,RA.out⟩
                case measure=>simp only[lenV];rw[Hl3.out];omega
            ·have qI:(er !=0)=true:=by rw[bne_iff_ne];exact her
             have Jr:=ah her;clear her;go_wp2_with fail;go_ret3;exact xw.bad (HE.out _ _ R9w.out) Jr.out
           ·have qI:(er !=0)=true:=by rw[bne_iff_ne];exact her
            have Jr:=ah her;clear her hok;go_wp2_with fail;go_ret3;exact xw.bad (HE.out _ _ R8w.out) Jr.out
          ·have vW:¬(l2.length:Int)<(n:Int)+(mm:Int):=by omega
           have hlen:n+mm=l2.length:=(by omega);have hc256:w7.cell? ⟨g2,256,none⟩=some (.int .i64 (l2.getD 256 0)):=zq O7.out (by omega);have h256:(256:Int)<(l2.length:Int):=(by omega);have e1:(l2.take n).length=n:=by rw[List.length_take];omega
           have e2:(l2.drop n).length=l2.length-n:=List.length_drop ..;have hnl:(n:Int)<=(l2.length:Int):=(by omega);have hnc:(n:Int)<=(c2:Int):=(by omega);have hcn:¬c2=n:=(by omega);have hmx:l2.length<=318:=(by omega);have rd1:=(Rd.bY O7.out).take (k:=n) (by omega);rw[Nat.mul_one,show (il l2).take n=il (l2.take n) by simp[il,List.map_take]]at rd1;have rd2:=zG O7.out (k:=n) (by omega);have HC1:=ah (z45 _ _ n c2 (l2.take n) w7 rd1 e1 (by omega));have HC2:=ah (fun (w':World) (c':Nx w7 w')=>z45 _ _ (l2.length-n) (c2-n) (l2.drop n) w' (rd2.nx (by decide) c') e2 (by omega));have E1:=ah e1;have E2:=ah e2;have RD1:=ah rd1;have RD2:=ah rd2;clear e1 e2 rd1 rd2 hlen hlt;generalize l2.getD 256 0=z at *;by_cases hz:z=0
           ·have hzi:(z==0)=true:=by rw[beq_iff_eq];exact hz
            clear hz;go_wp2_with fail;go_ret3;exact xw.bad (HE.out _ _ Xa.out) (by decide)
           ·have hzi:(z==0)=false:=by rw[beq_eq_false_iff_ne];exact hz
            clear hz;obtain ⟨ea,hea⟩:∃ea,bH (l2.take n)=ea:=⟨_,rfl⟩;obtain ⟨eb,heb⟩:∃eb,bH (l2.drop n)=eb:=⟨_,rfl⟩;rw[hea]at HC1;rw[heb]at HC2;have YM:=ah hea;have Heb:=ah heb;clear hea heb;go_wp2_with fail;refine HC1.out.mono ?_;rintro e w8 ⟨rfl,n8⟩;have N8:=ah n8;clear n8;by_cases hea:ea=0
            ·have hea2:(ea !=0)=false:=by rw[bne_eq_false_iff_eq];exact hea
             have Ha0:=ah hea;clear hea;go_wp2_with fail;refine (HC2.out w8 N8.out).mono ?_;rintro e w9 ⟨rfl,n9⟩;have N9:=ah (N8.out.tr n9);clear n9;by_cases heb:eb=0
             ·have heb2:(eb !=0)=false:=by rw[bne_eq_false_iff_eq];exact heb
              have Hb0:=ah heb;clear heb;go_wp2_with fail;go_quiet (fail)
              go_wp2_with fail;go_ret3;have N10:=N9.out.drewN nq;exact ⟨_,_,_,_,_,_,_,_,rfl,HE.out _ _ (Xa.out.nx N10),fun _=>⟨l2.take n,l2.drop n,fun _=>True,E1.out,E2.out,YM.out.trans Ha0.out,Heb.out.trans Hb0.out,(RD1.out.nx (by decide) N10).more fun _ _=>trivial,(RD2.out.nx (by decide) N10).more fun _ _=>trivial⟩⟩
             ·have heb2:(eb !=0)=true:=by rw[bne_iff_ne];exact heb
              clear heb;go_wp2_with fail;go_ret3;exact xw.bad (HE.out _ _ (Xa.out.nx N9.out)) (by decide)
            ·have hea2:(ea !=0)=true:=by rw[bne_iff_ne];exact hea
             clear hea;go_wp2_with fail;go_ret3;exact xw.bad (HE.out _ _ (Xa.out.nx N8.out)) (by decide)
        ·have hc1:(bH l !=0)=true:=by rw[bne_iff_ne];exact hc0
         clear hc0;go_wp2_with fail;go_ret3;exact xw.bad (HE.out _ _ (TF.out.nx N5.out)) (by decide)
   ·refine (HS.out (p+5+5) 4 w2 R2.out (by omega) (by omega)).mono ?_
    rintro e w3 ⟨rfl,n3⟩;go_wp2_with fail;go_ret3;exact xw.bad (HE.out _ _ (R2.out.nx n3.nx)) (by decide)
  ·refine (HS.out (p+5) 5 w1 R1.out (by omega) (by omega)).mono ?_
   rintro e w3 ⟨rfl,n3⟩;go_wp2_with fail;go_ret3;exact xw.bad (HE.out _ _ (R1.out.nx n3.nx)) (by decide)
 ·refine (HS.out p 5 w R0.out (by omega) (by omega)).mono ?_
  rintro e w3 ⟨rfl,n3⟩;go_wp2_with fail;go_ret3;exact xw.bad (HE.out _ _ (R0.out.nx n3.nx)) (by decide)
end Go.Proofs.YtfljcllpmbnjaaaGreat
