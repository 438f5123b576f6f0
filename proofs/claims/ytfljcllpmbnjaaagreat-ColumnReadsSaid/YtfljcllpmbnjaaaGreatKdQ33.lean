/- Contracts and plain laws that the last text rests on. Conditions: each theorem states its own. -/
import Derived.Test.YtfljcllpmbnjaaaGreatKdQ31
import Derived.Test.YtfljcllpmbnjaaaGreatKdQ20
import Derived.Test.YtfljcllpmbnjaaaGreatKdQ32
import Derived.Test.YtfljcllpmbnjaaaGreatKdQ21
import Derived.Test.YtfljcllpmbnjaaaGreatKdQ30
import Derived.Test.YtfljcllpmbnjaaaGreatKdQ27
set_option maxRecDepth 100000
set_option maxHeartbeats 16000000
set_option linter.unusedVariables false
namespace Go.Proofs.YtfljcllpmbnjaaaGreat
theorem z4i:∀(l m:List Nat) (i n v k:Nat),z04 l i n=(v,k,0)->z04 (l++m) i n=(v,k,0)
 |[],m,i,n,v,k,h=>by simp[z04]at h
 |x::l,m,i,n,v,k,h=>by
  rw[List.cons_append];simp only[z04]at h ⊢;by_cases h1:(i=9/\1<x)∨(x=0/\0<i)
  ·rw[if_pos h1]at h
   simp at h
  ·rw[if_neg h1]at h ⊢
   by_cases h2:x<128
   ·rw[if_pos h2]at h ⊢
    exact h
   ·rw[if_neg h2]at h ⊢
    exact z4i l m _ _ v k h
theorem ni {b:List Nat} {L p v k:Nat} (h:ay (b.take L) p=(v,k,0)):ay b p=(v,k,0):=by
 unfold ay at h ⊢;by_cases hp:(p:Int)<0∨((b.take L).length:Int)<=(p:Int)
 ·rw[if_pos hp]at h
  simp at h
 ·rw[if_neg hp]at h
  have hpl:p<(b.take L).length:=by omega
  have hpb:p<b.length:=Nat.lt_of_lt_of_le hpl (List.length_take_le' ..);rw[if_neg (by omega),Int.toNat_natCast]at *
  have e:b.drop p=(b.take L).drop p++b.drop L:=by
   rw[List.length_take]at hpl;conv=>lhs;rw[←List.take_append_drop L b]
   rw[List.drop_append_of_le_length (by rw[List.length_take];omega)]
  rw[e];exact z4i _ _ _ _ _ _ h
theorem sG {bs:List Nat} {n p m q:Nat} {xs:List Nat} (h:aA bs n ⟨p,xs,0⟩=(m,⟨q,xs,0⟩)):aS bs p n=m:=by
 have h0:(aA bs n ⟨p,xs,0⟩).2.e=0:=by rw[h]
 have h1:=(XT h0).2;rw[h]at h1;injection h1 with h1;exact h1.symm
theorem La (xs:List Nat):wU (aX xs):=by
 unfold aX;split
 ·obtain ⟨r,hr⟩:∃r,aI (aF xs xs.length 0)=numBits 3 3++r:=⟨_,List.append_assoc ..⟩
  have e3:numBits 3 3=numBits 1 1++numBits 1 2:=by decide
  rw[hr];have h1:=Fix.lu (L:=numBits 3 3++r) (a:=[]) (c:=numBits 1 2++r) (m:=1) (n:=1) (P:=0) (out:=[]) (by rw[e3];simp) rfl;have h2:=Fix.lu (L:=numBits 3 3++r) (a:=numBits 1 1) (c:=r) (m:=1) (n:=2) (P:=1) (out:=[]) (by rw[e3]) (by decide);have g2:(aA (pack (numBits 3 3++r)) 2 ⟨1,[],0⟩).2.e=0:=by rw[h2]
  exact ⟨sG h1,.inr (sG h2),by have:=(XT g2).1;omega⟩
 ·have hl:5<=(aW xs).length:=by simp[aW,AV]
  have h0:(aW xs).getD 0 0=1:=rfl;refine ⟨?_,.inl ?_,by omega⟩
  ·have:=Vj (aW xs) 0 1 0 (by omega)
   rw[h0]at this;exact this
  ·have:=Vj (aW xs) 0 2 1 (by omega)
   rw[h0]at this;exact this
theorem zX {kind:Nat} {ys b:List Nat} (hy:ys.length<=3000) (h:b=aC kind ys) {t:List Nat} (ht:b.take (b.length-4)=t):
 3<=t.length/\t.getD 0 0=kind/\t.getD 1 0=dM ys/\ay t 2=(ys.length,(aj ys.length).length,0)/\t.drop (2+(aj ys.length).length)=dG ys:=by
 have hp:=z07 (n:=ys.length) (by omega)
 have e:t=[kind,dM ys]++aj ys.length++dG ys:=by
  rw[←ht,h];unfold aC;rw[AY,Nat.add_sub_cancel];unfold dL;rw[List.take_left];rfl
 have hr:=OQ (v:=ys.length) (by omega) [kind,dM ys] (dG ys);rw[←e]at hr;refine ⟨?_,by rw[e];rfl,by rw[e];rfl,hr,?_⟩
 ·rw[e]
  simp only[List.length_append,List.length_cons,List.length_nil];omega
 ·rw[e,List.append_assoc,←List.drop_drop,show ([kind,dM ys]++(aj ys.length++dG ys)).drop 2=aj ys.length++dG ys from rfl,List.drop_left]
theorem ND {ys:List Nat} (h:dM ys=0):dG ys=ys:=by
 unfold dM at h;unfold dG;split at h
 ·cases h
 ·next hn=>rw[if_neg hn]
theorem Qi {ys:List Nat} (ok:okB ys) (hy:ys.length<=3000) (h:dM ys=1):dG ys=aX ys/\jV (aX ys) ys.length=(ys,(aX ys).length,0):=by
 unfold dM at h;unfold dG;split at h
 ·next hp=>
  rw[if_pos hp];exact ⟨rfl,oq ok (by omega) hp⟩
 ·cases h
theorem oD (kind:Nat) (ys:List Nat):z15 (aC kind ys):=Yk _
end Go.Proofs.YtfljcllpmbnjaaaGreat
namespace Go.Proofs.YtfljcllpmbnjaaaGreat
open Go.RowKit
def jT (b:List Nat):Prop:=∀v k,ay b 2=(v,k,0)->v<=3000
def xu (kind:Nat) (b xs:List Nat):Prop:=okB xs/\xs.length<=3000/\b=aC kind xs
def W_ (W:World) (kind:Nat) (b:List Nat) (ce:Int) (e:Ending) (w':World):Prop:=
 (∃k cap xs,e=.returned (.tuple #[.slice (some ⟨k,0,none⟩) xs.length cap,.int .i64 0])/\au W w' 5 1 (.slice (some ⟨k,0,none⟩) xs.length cap) xs.length (bl xs)/\xs.length<=cap/\xu kind b xs)∨
 (e=.returned (.tuple #[.slice none 0 0,.int .i64 ce])/\Nx W w'/\∀xs,¬xu kind b xs)
def WZ (w1:World) (kind:Nat) (b:List Nat) (v:Value) (wx:World):Prop:=
 ∃(A:Option Addr) (xs:List Nat) (cc:Nat) (D:Nat->Prop),v=.slice A xs.length cc/\Rd wx D 1 A xs.length (bl xs)/\xs.length<=cc/\xs.length<=1000000/\okB xs/\Nx w1 wx/\∀ys,xu kind b ys->xs=ys
theorem z23 (D:Nat->Prop) (A:Option Addr) (n c kind:Nat) (b:List Nat) (W:World) (hr:Rd W D 1 A n (bl b)) (dX:∀k,D k->k<W.heap.size) (ok:okB b) (hl:b.length=n) (hn:n<=1000000) (hc:n<=c) (hk:kind<256) (hfew:jT b):
 Calls Tryz.prog 56 #[.int .i64 (kind:Int),.slice A n c] W (W_ W kind b (aT b)):=by
 have hop:=Gx D A n c b W hr ok hl hn hc;by_cases hopen:z15 b
 ·obtain ⟨t,ht⟩:∃t,b.take (b.length-4)=t:=⟨_,rfl⟩
  have Df:okB t:=by rw[←ht];exact fun x hx=>ok x (List.mem_of_mem_take hx)
  have htl:b.length-4=t.length:=by rw[←ht,List.length_take];omega
  have htm:t.length<=1000000:=by omega
  have HX:Hid (∀ys,xu kind b ys->3<=t.length/\t.getD 0 0=kind/\t.getD 1 0=dM ys/\ay t 2=(ys.length,(aj ys.length).length,0)/\t.drop (2+(aj ys.length).length)=dG ys):=ah fun ys h=>zX h.2.1 h.2.2 ht;have HF:Hid (∀v k,ay t 2=(v,k,0)->v<=3000):=ah fun v k h=>hfew v k (ni (L:=b.length-4) (by rw[ht];exact h));rw[show aT b=4 from if_pos hopen];unfold OH at hop;rw[ht,htl]at hop;have Hop:=ah hop;have fU:=ah hopen;have HR:=ah hr;have lN:=ah ok;have HL:=ah hl;clear hop hopen htl ht hl hr ok hfew;go_enter Tryz.func56,Tryz.ntmps56;go_wp2_with fail;refine Hop.out.mono ?_;rintro e w1 ⟨h1, -⟩;obtain ⟨k1,cap1,rfl,o1,hcap1⟩:=h1 fU.out;have N1:=ah o1.nx;have r1:=o1.fM;have R1:=ah r1;have hk1:=(o1.lt k1 rfl).2;have O1:=ah o1;clear h1 Hop o1 r1;by_cases h3:t.length<3
  ·have h3i:(t.length:Int)<3:=by omega
   go_wp2_with fail;go_ret2;exact .inr ⟨rfl,N1.out,fun ys h=>by have:=(HX.out ys h).1;omega⟩
  ·have h3i:¬(t.length:Int)<3:=by omega
   have c0:w1.cell? ⟨k1,0,none⟩=some (.int .u8 (t.getD 0 0:Int)):=(O1.out.own.cellAt 0 (by omega)).trans (tV (by omega));have c1:w1.cell? ⟨k1,1,none⟩=some (.int .u8 (t.getD 1 0:Int)):=(O1.out.own.cellAt 1 (by omega)).trans (tV (by omega));have hx0:=uf Df 0;have hx1:=uf Df 1;have b0:(0:Int)<(t.length:Int):=(by omega);have b1:(1:Int)<(t.length:Int):=(by omega);generalize t.getD 0 0=x0 at *;generalize t.getD 1 0=x1 at *;by_cases hk0:x0=kind
   ·have e0:((x0:Int) !=(kind:Int))=false:=by rw[bne_eq_false_iff_eq];omega
    clear hk0;by_cases hx:1<x1
    ·have e1:(1:Int)<(x1:Int):=by omega
     go_wp2_with fail;go_ret2
     exact .inr ⟨rfl,N1.out,fun ys h=>by
      have:=(HX.out ys h).2.2.1;unfold dM at this;split at this<;>omega⟩
    ·have e1:¬(1:Int)<(x1:Int):=by omega
     have hu:=mQ _ (some ⟨k1,0,none⟩) t.length cap1 t 2 w1 R1.out Df rfl (by omega) (by omega);unfold Ai at hu;have hue:=OM t 2;have Ov:=Ba (b:=t) (p:=2) (by omega);have HU:=ah hu;clear hu;generalize ay t 2=tr at *;obtain ⟨v,kk,f⟩:=tr;simp only at hue Ov HU;go_wp2_with fail;refine HU.out.mono ?_;rintro e w2 ⟨rfl,hw2⟩;rw[←hw2];clear hw2 HU;by_cases hf:f=0
     ·subst hf
      have hv3:v<=3000:=HF.out v kk rfl;clear hue HF;have t1:decide ((65536:Int)<(v:Int))=false:=by rw[decide_eq_false_iff_not];omega
      obtain ⟨q,hq⟩:∃q,q=2+kk:=⟨_,rfl⟩;have hqi:(2:Int)+(kk:Int)=(q:Int):=by omega
      have HXQ:Hid (∀ys,xu kind b ys->x1=dM ys/\v=ys.length/\t.drop q=dG ys):=ah fun ys h=>by
       obtain ⟨a1,a2,a3,a4,a5⟩:=HX.out ys h;injection a4 with b1 b2;injection b2 with b2 b3;exact ⟨a3,b1,by rw[hq,b2];exact a5⟩
      have hql:q<=t.length:=(by omega);have hqli:(q:Int)<=(t.length:Int):=(by omega);have hct:=R1.out.cut (k:=q) (cap:=cap1) hql hcap1;rw[Nat.mul_one,show (bl t).drop q=bl (t.drop q) by simp[bl,List.map_drop]]at hct;have AO:okB (t.drop q):=fun x hx=>Df x (List.mem_of_mem_drop hx);have hle:t.length-q=(t.drop q).length:=List.length_drop.symm;have OD:=ah hle;have hds:(t.drop q).length<=1000000:=by rw[List.length_drop];omega
      clear hq hle HX;generalize t.drop q=ds at *
      have hX:∃X,(if cap1=q then (some ⟨k1,0,none⟩:Option Addr) else (some ⟨k1,0,none⟩:Option Addr).map (·.add q))=some ⟨k1,X,none⟩/\(cap1=q->X=0)/\(¬cap1=q->X=q):=by
       by_cases hcc:cap1=q
       ·exact ⟨0,by rw[if_pos hcc],fun _=>rfl,fun h=>absurd hcc h⟩
       ·refine ⟨q,?_,fun h=>absurd h hcc,fun _=>rfl⟩
        rw[if_neg hcc];simp only[Option.map_some,Option.some.injEq];unfold Addr.add;rw[if_neg (by omega)];simp
      obtain ⟨X,MH,hX0,qJ⟩:=hX;rw[MH]at hct;have hdc:ds.length<=cap1-q:=by have:=OD.out;omega
      have kw:IntKind.i64.wrap (v:Int)=(v:Int):=IntWalk.i64_in _ (by omega);have hx01:x1=0∨x1=1:=(by omega);have HKW:=ah hk1;clear MH;by_cases hcc:cap1=q
      all_goals
       first|(rw[hX0 hcc]at hct)|(rw[qJ hcc]at hct)
       clear hX0 qJ X;have HI:=ah (fun cc=>uS _ _ (t.length-q) cc ds v w1 hct (fun k e=>by rw[e];exact HKW.out) AO OD.out.symm (by rw[OD.out];omega) (by omega));have HCT:=ah hct;clear hct;go_upto_if 58 with fail
       go_cut [10] (fun s10 wx=>WZ w1 kind b s10 wx)
       case first=>
        rcases hx01 with h0|h1
        ·have hxi:((x1:Int)==1)=false:=by rw[beq_eq_false_iff_ne];omega
         have H0:=ah h0;clear h0;go_wp2_with fail;go_meet
         have hct:=HCT.out;rw[OD.out]at hct;refine ⟨_,ds,_,_,by rw[OD.out],hct,by omega,hds,AO,Ch.refl _ _,fun ys h=>?_⟩;obtain ⟨a1,a2,a3⟩:=HXQ.out ys h;rw[a3];exact ND (a1.symm.trans H0.out)
        ·have hxi:((x1:Int)==1)=true:=by rw[beq_iff_eq];omega
         have H1:=ah h1;clear h1;go_wp2_with fail;refine (HI.out _).mono ?_;rintro e w3 ⟨v7,xs,u,er,rfl,n3,hgood,hbad,LX⟩
         have HEX:Hid (∀ys,xu kind b ys->er=0/\xs=ys/\u=ds.length):=ah fun ys h=>by
          obtain ⟨a1,a2,a3⟩:=HXQ.out ys h;obtain ⟨b1,b2⟩:=Qi h.1 h.2.1 (a1.symm.trans H1.out);rw[b1]at a3;subst a2;have b3:=LX (by rw[a3];exact La ys) ys ds.length (by rw[a3];exact b2);exact b3
         have N3:=ah n3;clear n3 LX hbad HI;by_cases her:er=0
         ·obtain ⟨A7,c7,D7,rfl,r7,hc7,hm7,ok7,hl7⟩:=hgood her
          have qI:(er !=0)=false:=by rw[bne_eq_false_iff_eq];exact her
          have R7:=ah r7;clear hgood her r7 hm7;have VZ:=OD.out;by_cases hu:u=t.length-q
          ·have f1:((u:Int) !=((t.length-q:Nat):Int))=false:=by rw[bne_eq_false_iff_eq,hu]
           have f2:((u:Int) !=(t.length:Int)-(q:Int))=false:=by rw[bne_eq_false_iff_eq];omega
           clear hu VZ;go_wp2_with fail;go_meet
           exact ⟨A7,xs,c7,D7,rfl,R7.out,hc7,by omega,ok7,N3.out,fun ys h=>(HEX.out ys h).2.1⟩
          ·have f1:((u:Int) !=((t.length-q:Nat):Int))=true:=by rw[bne_iff_ne];omega
           have f2:((u:Int) !=(t.length:Int)-(q:Int))=true:=by rw[bne_iff_ne];omega
           have Hu:=ah hu;clear hu VZ;go_wp2_with fail;go_ret2;exact .inr ⟨rfl,N1.out.tr N3.out,fun ys h=>Hu.out (by rw[(HEX.out ys h).2.2,OD.out])⟩
         ·have qI:(er !=0)=true:=by rw[bne_iff_ne];exact her
          have Jr:=ah her;clear hgood her;go_wp2_with fail;go_ret2;exact .inr ⟨rfl,N1.out.tr N3.out,fun ys h=>Jr.out (HEX.out ys h).1⟩
       case rest=>
       obtain ⟨A8,xs,cc,D8,rfl,r8,hc8,hl8,ok8,n8,Wq⟩:=hcut;obtain ⟨w3,rfl⟩:∃x:World,x=wc:=⟨_,rfl⟩;have R8:=ah r8;have N8:=ah (N1.out.tr n8);have HEX:=ah Wq;clear r8 n8 Wq HI HCT c0 c1 hcc;have kw2:IntKind.u64.wrap (xs.length:Int)=(xs.length:Int):=by rw[IntKind.wrap_u64];omega
       by_cases hlen:xs.length=v
       ·have f1:((xs.length:Int) !=(v:Int))=false:=by rw[bne_eq_false_iff_eq];omega
        have Rq:=ah hlen;have hlx:xs.length<=3000:=(by omega);clear hlen;have HC:=ah (GL D8 A8 xs.length cc kind xs w3 R8.out ok8 rfl hc8 (by omega) hk);go_wp2_with fail;refine HC.out.mono ?_;rintro e w4 ⟨k4,cap4,rfl,o4,hk4,hk4',hc4,hm4⟩;have N4:=ah o4.nx;have hsame:=z30 _ D _ A (aC kind xs).length cap4 n c (aC kind xs) b w4 o4.fM (HR.out.nx (by decide) (N8.out.tr o4.nx)) (Vl hk ok8 (by omega)) lN.out;clear o4 HC hk4 hk4' hc4 hm4;by_cases heq:aC kind xs=b
        ·rw[show decide (aC kind xs=b)=true by simpa using heq]at hsame
         have fG:=ah hsame;have Heq:=ah heq;have htw:=RH D8 A8 xs.length cc xs w4 (R8.out.nx (by decide) N4.out) (by omega);have Htw:=ah htw;clear hsame heq htw;generalize (aC kind xs).length=L4 at *;go_wp2_with fail;refine fG.out.mono ?_;rintro e w5 ⟨rfl,rfl⟩;go_wp2_with fail;refine Htw.out.mono ?_;rintro e w6 ⟨k,cap,rfl,hk2,hk3,ho, -,n6⟩;have HO:=ah ho;have N6:=ah n6;clear ho n6;go_wp2_with fail;go_ret2;have n5:=N8.out.tr N4.out;obtain ⟨_,_,hv,hcp,_⟩:=z05 HO.out;injection hv with _ _ hv;subst hv;exact .inl ⟨k,cap,xs,rfl,⟨iT HO.out n5.size,n5.tr N6.out⟩,hcp,ok8,hlx,Heq.out.symm⟩
        ·rw[show decide (aC kind xs=b)=false by simpa using heq]at hsame
         have fG:=ah hsame;have Heq:=ah heq;clear hsame heq;generalize (aC kind xs).length=L4 at *;go_wp2_with fail;refine fG.out.mono ?_;rintro e w5 ⟨rfl,rfl⟩;go_wp2_with fail;go_ret2;exact .inr ⟨rfl,N8.out.tr N4.out,fun ys h=>Heq.out (by rw[HEX.out ys h];exact h.2.2.symm)⟩
       ·have f1:((xs.length:Int) !=(v:Int))=true:=by rw[bne_iff_ne];omega
        have Rq:=ah hlen;clear hlen;go_wp2_with fail;go_ret2;exact .inr ⟨rfl,N8.out,fun ys h=>Rq.out (by rw[HEX.out ys h,(HXQ.out ys h).2.1])⟩
     ·have hf2:(f !=0)=true:=by rw[bne_iff_ne];exact hf
      have Hf:=ah hf;clear hue hf;go_wp2_with fail;go_ret2
      exact .inr ⟨rfl,N1.out,fun ys h=>by
       obtain ⟨a1,a2,a3,a4,a5⟩:=HX.out ys h;injection a4 with b1 b2;injection b2 with b2 b3;exact Hf.out b3⟩
   ·have e0:((x0:Int) !=(kind:Int))=true:=by rw[bne_iff_ne];omega
    have Hk0:=ah hk0;clear hk0;go_wp2_with fail;go_ret2;exact .inr ⟨rfl,N1.out,fun ys h=>Hk0.out (HX.out ys h).2.1⟩
 ·rw[show aT b=if b.length<4 then 3 else 6 from if_neg hopen]
  have hce:(if b.length<4 then (3:Int) else 6)≠0:=by split<;>decide
  unfold OH at hop;have Hop:=ah (hop.mono fun e w' h=>h.2 hopen);have Hno:=ah hopen;clear hop hl hr ok hfew hopen;generalize (if b.length<4 then (3:Int) else 6)=ce at *;have hce2:(ce !=0)=true:=by rw[bne_iff_ne];exact hce
  clear hce;go_enter Tryz.func56,Tryz.ntmps56;go_wp2_with fail;refine Hop.out.mono ?_;rintro e w1 ⟨rfl,n1⟩;have N1:=ah n1;clear n1;go_wp2_with fail;go_ret2;exact .inr ⟨rfl,N1.out,fun ys h=>Hno.out (by rw[h.2.2];exact oD kind ys)⟩
theorem Qk (l m:List Nat):bl (l++m)=bl l++bl m:=by simp[bl]
theorem DX {W w5 w6:World} {D:Nat->Prop} {g:Nat} {A:Option Addr} {c:Nat} {T:List Nat} {p:Nat} {e:Int} {u:Value} (cu:aJ w5 D g A c T p e) (hgl:g<W.heap.size) (fK:∀k,D k->k<W.heap.size) (c5:Ch (· =g) W w5)
 (hg:w5.grownBy w6 u.ownBlock) (hu:∀j,u.ownBlock=some j->W.heap.size<=j):aJ w6 D g A c T p e/\Ch (· =g) W w6:=by
 have c6:Ch (fun j=>u.ownBlock=some j) w5 w6:=(Ch.refl _ w5).grown hg fun j hj _=>hj;exact ⟨cu.ch c6 (fun e=>by have:=hu _ e;omega) (fun j hj e=>by have:=hu _ e;have:=fK j hj;omega),c5.trans c6 fun i hi e=>by have:=hu _ e;omega⟩
theorem z5j {w:World} {D:Nat->Prop} {g:Nat} {A:Option Addr} {c:Nat} {xs:List Nat} {p:Nat} (h:aJ w D g A c xs p 0) (n:Nat):Calls Tryz.prog 53 #[.pointer (some ⟨g,0,none⟩),.int .i64 (n:Int)] w fun en w'=>
 ∃(A1:Option Addr) (c1:Nat) (ys:List Nat) (p':Nat) (e':Int),en=.returned (.slice A1 ys.length c1)/\ys.length<=c1/\Rd w' (fun k=>w.heap.size<=k/\k<w'.heap.size) 1 A1 ys.length (bl ys)/\okB ys/\dA w D g A c xs p' e' w'/\e'≠5:=by
 by_cases hn:p+n<=xs.length
 ·refine (z12 h n hn).mono ?_
  rintro en w' ⟨k,cap,rfl,t,o,hc,hk⟩;have hl:((xs.drop p).take n).length=n:=by rw[List.length_take,List.length_drop];omega
  refine ⟨some ⟨k,0,none⟩,cap,(xs.drop p).take n,_,_,by rw[hl],by omega,?_,fun x hx=>h.ok x (List.mem_of_mem_drop (List.mem_of_mem_take hx)),t,by decide⟩;rw[hl];exact (Rd.bY o).more fun j hj=>⟨hj.2.1,hj.2.2⟩
 ·refine (ZE h (n:Int) (.inr (by have:=h.pos;omega))).mono ?_
  rintro en w' ⟨rfl,t⟩;exact ⟨none,0,[],_,_,rfl,Nat.le_refl _,Rd.none_ _ _ _ _,(fun x hx=>by cases hx),t,by decide⟩
theorem Ii (D:Nat->Prop) (g:Nat) (A:Option Addr) (c:Nat) (T:List Nat) (W:World) (h:aJ W D g A c T 0 0):
 Calls Tryz.prog 52 #[.pointer (some ⟨g,0,none⟩)] W (lQ W D g A c T 2 il fun l=>l.length<=2048/\∀z∈l,i64 z):=by
 obtain ⟨i0,hi0,hz0,hz1,hz2⟩:=info_parts Tryz.info5;have hgl:=h.blk.lt;have fK:=h.bnd;have hTl:=h.len;have Hb0:=ah (z5j h 1);clear h;go_enter Tryz.func52,Tryz.ntmps52;go_wp2_with fail;refine Hb0.out.mono ?_;rintro e w2 ⟨A2,c2',ys,p2,q2,rfl,hyc,r2,YB,t2,hq2⟩;have hw2:=t2.dN.size;have SQ:g<w2.heap.size:=by omega
 have MC:∀k,D k->k<w2.heap.size:=fun k hk=>by have:=fK k hk;omega
 have Vs:=t2.cur;have YA:=t2.dN;clear Hb0 t2;go_wp2_with fail;go_loopw [4] (fun v wr=>∃(p:Nat) (q:Int) (L:List Nat),L.length<=p/\q≠5/\okB L/\aJ wr D g A c T p q/\wr.ownsRow w2.heap.size 5 1 v L.length (bl L)/\Ch (· =g) w2 wr) (fun v _=>T.length-jZ v)
 case atStart=>exact ⟨p2,q2,[],Nat.zero_le _,hq2,(fun x hx=>by cases hx),Vs,World.ownsRow_nil _ _ _ _,Ch.refl _ _⟩
 case round=>
  clear Vs;obtain ⟨w4,rfl⟩:∃w4:World,w4=wr:=⟨_,rfl⟩;obtain ⟨p,q,L,hLp,hq5,okL,cu4,o4,c4⟩:=hrel;obtain ⟨A4,c4',rfl,hc4,_⟩:=z05 o4;have hpT:=cu4.pos;have fV:=ah (EG cu4);by_cases h5:bn T.length p q=5/\q=0
  ·obtain ⟨h5,rfl⟩:=h5
   have hpl:p<T.length:=by
    unfold bn at h5;rw[if_neg (by simp)]at h5;split at h5
    ·assumption
    ·exact absurd h5 (by decide)
   rw[h5]at fV;clear h5;go_wp2_with fail;refine fV.out.mono ?_;rintro e w5 ⟨rfl,d5⟩;have cu5:=cu4.nx d5.nx;have o5:=z06 o4 d5.nx (fun _ _ hf=>hf);have c5:=c4.tr d5.nx;have hby:=z12 cu5 1 (by omega);unfold Rx at hby;have kG:=ah hby;have hw5:=c5.size;have Hx:Hid (((T.drop p).take 1).length=1/\okB ((T.drop p).take 1)):=ah ⟨by rw[List.length_take,List.length_drop];omega,fun x hx=>cu5.ok x (List.mem_of_mem_drop (List.mem_of_mem_take hx))⟩;generalize (T.drop p).take 1=xs at *;clear hby cu4 o4 c4 d5 fV;go_wp2_with fail;refine kG.out.mono ?_;rintro e w6 ⟨k6,cap6,rfl,t6,o6,hc6,hk6⟩;have hu:∀j,(Value.slice A4 L.length c4').ownBlock=some j->w2.heap.size<=j:=fun j hj=>(o5.lt j hj).1;have o56:=z06 o5 t6.dN (fun j hj e=>by have:=hu j hj;omega);have c6:Ch (· =g) w2 w6:=c5.trans t6.dN fun _ _ e=>e;have hw6:=c6.size;have r6:=Rd.bY o6;have one:∀(v':Value) (w8:World),w6.grownBy w8 (Value.slice A4 L.length c4').ownBlock->aJ w8 D g A c T (p+1) 0/\Ch (· =g) w2 w8:=fun v' w8 hg=>DX t6.cur SQ MC c6 hg hu;have One:=ah one;clear one t6 o6 o5 c5 c6 kG hu cu5;go_wp2_with (at_builtin;refine z00 _ rfl (.tmp 12) (.tmp 14) _ rfl w2.heap.size 5 i0 _ 1 1 Tryz.underlying27 hi0 hz0 hz1 hz2 rfl (by omega) _ L.length (bl L) rfl o56 _ (some ⟨k6,0,none⟩) 1 cap6 (bl xs) rfl r6 (iP _) (by simp only[maxLen];omega) (by omega) (by omega) ?_;intro v' w8 h2 h3 h4)
   obtain ⟨A8,c8',rfl,_,_⟩:=z05 h2;go_roundw
   case rel=>
    obtain ⟨q1,q2⟩:=One.out (.slice A8 (L.length+1) c8') w8 h3;have hl:(L++xs).length=L.length+1:=(by rw[List.length_append,Hx.out.1]);refine ⟨p+1,0,L++xs,by omega,by decide,fun x hx=>?_,q1,by rw[hl,Qk];exact h2,q2⟩;rcases List.mem_append.1 hx with hx|hx
    ·exact okL x hx
    ·exact Hx.out.2 x hx
   case measure=>simp[jZ];omega
  ·have hE:bn T.length p q≠5:=fun e=>by
    by_cases hq0:q=0
    ·exact h5 ⟨e,hq0⟩
    ·unfold bn at e
     rw[if_pos hq0]at e;exact hq5 e
   have e1:(bn T.length p q==5)=false:=by rw[beq_eq_false_iff_ne];exact hE
   have hLl:L.length<=1000000000:=(by omega);clear h5 hE hq5;generalize bn T.length p q=E at *;go_wp2_with fail;refine fV.out.mono ?_;rintro e w5 ⟨rfl,d5⟩;have cu5:=cu4.nx d5.nx;have o5:=z06 o4 d5.nx (fun _ _ hf=>hf);have c5:=c4.tr d5.nx;have hw5:=c5.size;have r5:=r2.ch (by decide) c5 (fun k _ hk e=>by have:=hk.1;omega);have C5:=ah (YA.trans c5 fun _ _ e=>e);clear fV cu4 o4 c4 d5 r2 YA c5;by_cases hy0:ys.length=0
   ·have e2:((ys.length:Int)==0)=true:=by rw[beq_iff_eq];omega
    clear hy0;go_wp2_with fail;go_ret;exact ⟨[],_,_,_,rfl,⟨Nat.zero_le _,fun z hz=>by cases hz⟩,World.ownsRow_nil _ _ _ _,cu5,C5.out⟩
   ·have hyp:0<ys.length:=by omega
    obtain ⟨ad,rfl, -,hcell⟩:=r5.2 hyp;have hc0:=hcell 0 _ (by rw[bl,List.getElem?_map,List.getElem?_eq_getElem hyp];rfl);have hx:=YB _ (List.getElem_mem hyp);have e2:((ys.length:Int)==0)=false:=by rw[beq_eq_false_iff_ne];omega
    generalize ys[0]=x at *;have kx:IntKind.i64.wrap (x:Int)=(x:Int):=IntWalk.i64_in _ (by omega);have HD:=ah (decode_any _ A4 L.length c4' L x w5 (Rd.bY o5) okL rfl hLl hc4 hx);rw[show ad.add 0=ad by simp[Addr.add]]at hc0;clear hcell r5 o5 hy0;go_wp2_with fail;refine HD.out.mono ?_;rintro e w6 ⟨v6,l,er,rfl,o6,hl1,hl2⟩;go_wp2_with fail;go_ret;exact ⟨l,v6,_,_,rfl,⟨hl1,hl2⟩,iT o6.own (by omega),cu5.nx o6.nx,C5.out.tr o6.nx⟩
theorem IG (D:Nat->Prop) (A:Option Addr) (n c:Nat) (l:List ByteArray) (W:World) (hr:Rd W D 1 A n (bl (aC 3 (bC l)))) (hl:(aC 3 (bC l)).length=n) (hn:l.length<=2048) (hs:∀s∈l,s.size<=1024) (hC:(bC l).length<=65536)
 (hcont:Calls Tryz.prog 92 #[.int .u8 3,.slice A n c] W (Jh W (bC l))):
 Calls Tryz.prog 58 #[.int .u8 3,.slice A n c,.func (.func 65) #[] #[],.func (.func 13) #[] #[]] W (T_ W l):=by
 have hput:=fun (D:Nat->Prop) (A:Option Addr) (c:Nat) (w:World) (h:Rd w D 1 A l.length (bW l)) (hc:l.length<=c)=>wG D A l.length c l w h rfl hn hs hc hC;have hcl:=fun (D:Nat->Prop) (g:Nat) (A:Option Addr) (c:Nat) (w:World) (h:aJ w D g A c (bC l) 0 0)=>Ed D g A c l w h hn hs;have hstr:=fun (D:Nat->Prop) (A:Option Addr) (c:Nat) (w:World) (h:Rd w D 1 A n (bl (aC 3 (bC l))))=>xB (P:=Tryz.prog) w 27 9 5 Tryz.underlying27 Tryz.underlying5 Tryz.underlying9 D A n c _ h;have iJ:=ah hput;have tJ:=ah hcl;have eU:=ah hstr;have Hc:=ah hcont;clear hput hcl hstr hcont;generalize bC l=fc at *;generalize aC 3 fc=ch at *;subst hl;go_enter Tryz.func58,Tryz.ntmps58;go_wp2_with fail;with_reducible refine Hc.out.mono ?_
 rintro e w1 ⟨g,A1,c1,D1,rfl,cu1,n1,hg,hD1⟩;go_wp2_with fail;with_reducible refine (tJ.out _ _ _ _ _ cu1).mono ?_
 rintro e w2 ⟨v2,rfl,o2,cu2,c2⟩;have n2:Nx W w2:=n1.trans c2 fun i hi e=>by omega
 have hs1:=n1.size;have vG:au W w2 9 1 v2 l.length (bW l):=⟨iT o2 hs1,n2⟩;obtain ⟨A2,cc2,rfl,PW,_⟩:=z05 o2;have hen:=EG cu2;rw[show bn fc.length fc.length 0=0 by unfold bn;rw[if_neg (by simp),if_neg (by omega)]]at hen;have fV:=ah hen;clear hen o2 c2 cu1 cu2;go_wp2_with fail;with_reducible refine fV.out.mono ?_
 rintro e w3 ⟨rfl,d3⟩;have o3:=vG.tr d3.nx;clear d3 fV;go_wp2_with fail;with_reducible refine (iJ.out _ _ _ _ o3.rd PW).mono ?_
 rintro e w4 ⟨k4,cap4,rfl,o4,h4⟩;have o5:=o3.tr o4.nx;have n5:=o5.nx;have e1:=eU.out _ _ cap4 w4 o4.fM;have e2:=eU.out D A c w4 (hr.nx (by decide) n5);generalize b_ ch=sx at *;go_wp2_with fail;go_ret2;exact ⟨_,rfl,o5⟩
theorem IQ (D:Nat->Prop) (A:Option Addr) (n c:Nat) (l:List ByteArray) (W:World) (hr:Rd W D 1 A n (bl (aC 3 (bC l)))) (hl:(aC 3 (bC l)).length=n) (hn:l.length<=2048) (hs:∀s∈l,s.size<=1024) (hC:(bC l).length<=65536)
 (hcont:Calls Tryz.prog 92 #[.int .u8 3,.slice A n c] W (Jh W (bC l))):
 Calls Tryz.prog 26 #[.slice A n c] W (T_ W l):=by
 have Hr:=ah (IG D A n c l W hr hl hn hs hC hcont);clear hr hcont hl;go_enter Tryz.func26,Tryz.ntmps26;go_wp2_with fail;with_reducible refine Hr.out.mono ?_
 rintro e w1 ⟨v,rfl,h⟩;go_wp2_with fail;go_ret2;exact ⟨_,rfl,h⟩
theorem qU (D:Nat->Prop) (A:Option Addr) (n c:Nat) (l:List ByteArray) (W:World) (hr:Rd W D 1 A n (bl (aC 3 (bC l)))) (dX:∀k,D k->k<W.heap.size) (hl:(aC 3 (bC l)).length=n) (hc:n<=c) (hn:l.length<=2048) (hs:∀s∈l,s.size<=1024) (hC:(bC l).length<=65536):
 Calls Tryz.prog 26 #[.slice A n c] W (T_ W l):=
 IQ D A n c l W hr hl hn hs hC (Yv D A n c 3 (bC l) W hr dX (QI hn hs).1 (by decide) hl hc hC (QI hn hs).2.2)
end Go.Proofs.YtfljcllpmbnjaaaGreat
