/- Contracts and plain laws that the last text rests on. Conditions: each theorem states its own. -/
import Derived.Test.YtfljcllpmbnjaaaGreatKdQ33
import Derived.Test.YtfljcllpmbnjaaaGreatKdQ34
set_option maxRecDepth 100000
set_option maxHeartbeats 16000000
set_option linter.unusedVariables false
namespace Go.Proofs.YtfljcllpmbnjaaaGreat
open Go.RowKit
theorem lG {kind:Nat} {b xs:List Nat} (hf:jT b) (hl:xs.length<18446744073709551616) (h:b=aC kind xs):xs.length<=3000:=by
 refine hf xs.length (aj xs.length).length ?_;refine ni (L:=b.length-4) ?_
 have e:b.take (b.length-4)=[kind,dM xs]++aj xs.length++dG xs:=by
  rw[h];unfold aC;rw[AY,Nat.add_sub_cancel];unfold dL;rw[List.take_left];rfl
 rw[e];exact OQ hl [kind,dM xs] (dG xs)
theorem XM {kind:Nat} {b xs ys:List Nat} (h:xu kind b xs) (k:xu kind b ys):xs=ys:=by
 have h1:=h.2.1;have h2:=k.2.1;exact Vg h.1 k.1 (by omega) (by omega) (h.2.2.symm.trans k.2.2)
theorem XL {kind:Nat} {b xs:List Nat} (h:xu kind b xs):aT b=4:=if_pos (by rw[h.2.2];exact oD kind xs)
theorem Sm {b:List Nat} (hf:jT b) {l:List Int} (h:fP b l):xu 1 b (bT l):=by
 have h1:=(Oi h.1).2;have h2:=(jH h.1).1;exact ⟨z25 h.1,lG hf (by omega) h.2,h.2⟩
theorem Sr {b:List Nat} (hf:jT b) {l:List Bool} (h:fQ b l):xu 4 b (aU l):=by
 have h1:=RN h.1;exact ⟨z20 h.1,lG hf (by omega) h.2,h.2⟩
def Ja {α:Type} (cells:List α->List Value) (made:List α->Prop) (ce:Int) (W:World) (e:Ending) (w':World):Prop:=
 (∃(A:Option Addr) (c:Nat) (D:Nat->Prop) (l:List α),e=.returned (.tuple #[.slice A l.length c,.int .i64 0])/\Rd w' D 1 A l.length (cells l)/\Nx W w'/\made l)∨
 (e=.returned (.tuple #[.slice none 0 0,.int .i64 ce])/\Nx W w'/\∀l,¬made l)
theorem Gw (D:Nat->Prop) (A:Option Addr) (n c:Nat) (b:List Nat) (W:World) (hr:Rd W D 1 A n (bl b)) (dX:∀k,D k->k<W.heap.size) (ok:okB b) (hl:b.length=n) (hn:n<=1000000) (hc:n<=c) (hfew:jT b):
 Calls Tryz.prog 22 #[.slice A n c] W (Ja il (fP b) (aT b) W):=by
 have pI:=ah (z23 D A n c 1 b W hr dX ok hl hn hc (by decide) hfew);have EF:=ah (fun (l:List Int) (h:fP b l)=>Sm hfew h);have hce:=QG b;have HE4:=ah (fun xs (h:xu 1 b xs)=>XL h);generalize aT b=ce at *;clear hr dX ok hl hn hc hfew;go_enter Tryz.func22,Tryz.ntmps22;go_wp2_with fail;refine pI.out.mono ?_;intro e w1 hcr;rcases hcr with ⟨k,cap,xs,rfl,o1,hcap,hcont⟩|⟨rfl,n1,hno⟩
 ·obtain rfl:ce=4:=HE4.out xs hcont
  have HC:=ah hcont;have jB:=hcont.1;have hx3:=hcont.2.1;have O1:=ah o1;have hk1:=(o1.lt k rfl).2;have HM:Hid (∀l,fP b l->aO l=0/\xs=[aY l]++bf l (aY l)):=ah fun l h=>⟨h.1,XM HC.out (EF.out l h)⟩;clear hce HE4 hcont o1 pI EF;by_cases h0:xs.length=0
  ·have h0i:((xs.length:Int)==0)=true:=by rw[beq_iff_eq];omega
   have H0:=ah h0;clear h0;go_wp2_with fail;go_ret2
   exact .inr ⟨rfl,O1.out.nx,fun l h=>by
    have h1:=congrArg List.length (HM.out l h).2;rw[List.length_append,H0.out]at h1;simp at h1;omega⟩
  ·have h0i:((xs.length:Int)==0)=false:=by rw[beq_eq_false_iff_ne];omega
   have c0:w1.cell? ⟨k,0,none⟩=some (.int .u8 (xs.getD 0 0:Int)):=(O1.out.own.cellAt 0 (by omega)).trans (tV (by omega));have hx0:=uf jB 0;have b0:(0:Int)<(xs.length:Int):=(by omega);have b0n:0<xs.length:=by omega
   have HXS:Hid (∀l,fP b l->xs.getD 0 0=aY l/\xs.drop 1=bf l (xs.getD 0 0)):=ah fun l h=>by
    have h1:=(HM.out l h).2;rw[h1];exact ⟨rfl,rfl⟩
   generalize hx0e:xs.getD 0 0=x0 at *;clear hx0e;by_cases h2:2<x0
   ·have h2i:(2:Int)<(x0:Int):=by omega
    go_wp2_with fail;go_ret2
    exact .inr ⟨rfl,O1.out.nx,fun l h=>by
     have h1:=(HXS.out l h).1;have:=z19 l;omega⟩
   ·have h2i:¬(2:Int)<(x0:Int):=by omega
    have kwx:IntKind.i64.wrap (x0:Int)=(x0:Int):=IntWalk.i64_in _ (by omega);have hx2:x0<=2:=(by omega);have hct:=O1.out.fM.cut (k:=1) (cap:=cap) (by omega) hcap;rw[Nat.mul_one,show (bl xs).drop 1=bl (xs.drop 1) by simp[bl]]at hct
    have hX:∃X,(if cap=1 then (some ⟨k,0,none⟩:Option Addr) else (some ⟨k,0,none⟩:Option Addr).map (·.add 1))=some ⟨k,X,none⟩/\(cap=1->X=0)/\(¬cap=1->X=1):=by
     by_cases hcc:cap=1
     ·exact ⟨0,by rw[if_pos hcc],fun _=>rfl,fun h=>absurd hcc h⟩
     ·refine ⟨1,?_,fun h=>absurd h hcc,fun _=>rfl⟩
      rw[if_neg hcc];rfl
    obtain ⟨X,MH,hX0,qJ⟩:=hX;rw[MH]at hct;have AO:okB (xs.drop 1):=fun x hx=>jB x (List.mem_of_mem_drop hx);have hdl:(xs.drop 1).length=xs.length-1:=List.length_drop ..;have UQ:=ah hdl;have b1:(1:Int)<=(xs.length:Int):=(by omega);have b2:(1:Int)<=(cap:Int):=(by omega);have HXL:=ah hx3;clear MH hdl;go_wp2_with fail;by_cases hcc:cap=1
    all_goals
     first|(rw[hX0 hcc]at hct)|(rw[qJ hcc]at hct)
     clear hX0 qJ X;have HDC:=ah (fun cc (w':World) (nx:Nx w1 w')=>yC _ _ (xs.length-1) cc (xs.drop 1) x0 w' (hct.nx (by decide) nx) AO UQ.out (by omega) (by omega));unfold ru at HDC;clear hct;go_region_held3 (fun w'=>w'.cell? ⟨k,0,none⟩=some (.int .u8 (x0:Int))) (first|(with_reducible exact c0)|go_keep) ((go_at_call 57;refine (HDC.out _ _ ((Ch.refl _ _).drew)).mono ?_;rintro e w5 ⟨v,l,er,rfl,o5,hg5,hx5⟩;have c0:w5.cell? ⟨k,0,none⟩=some (.int .u8 (x0:Int)):=(o5.nx.cell (p:=⟨k,0,none⟩) hk1).trans c0;have O5:=ah o5;have HG5:=ah hg5;have HX5:=ah hx5;clear o5 hg5 hx5))
     have N5:Hid (Nx w1 w5):=ah (((Ch.refl _ w1).drew).tr O5.out.nx)
     have OD:Hid (∀l',fP b l'->er=0/\l=l'/\bT l'=xs):=ah fun l' h=>by
      obtain ⟨h1,h3⟩:=HM.out l' h;obtain ⟨a1,a2⟩:=HX5.out l' h1 (HXS.out l' h).2;exact ⟨a1,a2,h3.symm⟩
     by_cases her:er=0
     ·have qI:(er !=0)=false:=by rw[bne_eq_false_iff_eq];exact her
      have HR0:=ah (HG5.out her);obtain ⟨A5,c5,rfl, -, -⟩:=O5.out.form;clear her;have HIO:=ah (CV _ A5 l.length c5 l w5 O5.out.rd rfl HR0.out);go_wp2_with fail;refine HIO.out.mono ?_;rintro e w6 ⟨k6,cap6,rfl,o6,hk6,hk6',hc6,hm6⟩;have N6:=ah o6.nx;have h10:=(Oi HR0.out).2;have h11:=(jH HR0.out).1;have hsame:=fun cd=>z30 _ _ _ (some ⟨k,0,none⟩) (bT l).length cap6 xs.length cd (bT l) xs w6 o6.fM ((O1.out.fM.nx (by decide) N5.out).nx (by decide) N6.out) (z25 HR0.out) jB;clear o6 hk6 hk6' hc6 hm6 HIO h10 h11;by_cases heq:bT l=xs
      ·rw[show decide (bT l=xs)=true by simpa using heq]at hsame
       have fG:=ah hsame;have Heq:=ah heq;clear hsame heq;generalize (bT l).length=L6 at *;go_wp2_with fail;refine (fG.out _).mono ?_;rintro e w7 ⟨rfl,rfl⟩;go_wp2_with fail;go_ret2;have n5:=O1.out.nx.tr N5.out;exact .inl ⟨_,_,_,l,rfl,(O5.out.tr N6.out).rd,n5.tr N6.out,HR0.out,by rw[Heq.out];exact HC.out.2.2⟩
      ·rw[show decide (bT l=xs)=false by simpa using heq]at hsame
       have fG:=ah hsame;have Heq:=ah heq;clear hsame heq;generalize (bT l).length=L6 at *;go_wp2_with fail;refine (fG.out _).mono ?_;rintro e w7 ⟨rfl,rfl⟩;go_wp2_with fail;go_ret2;exact .inr ⟨rfl,(O1.out.nx.tr N5.out).tr N6.out,fun l' h=>Heq.out (by obtain ⟨_,a2,a3⟩:=OD.out l' h;rw[a2,a3])⟩
     ·have qI:(er !=0)=true:=by rw[bne_iff_ne];exact her
      have Jr:=ah her;clear her;go_wp2_with fail;go_ret2;exact .inr ⟨rfl,O1.out.nx.tr N5.out,fun l' h=>Jr.out (OD.out l' h).1⟩
 ·have q1:(ce !=0)=true:=by rw[bne_iff_ne];exact hce
  have N1:=ah n1;have FI:=ah hno;clear hce n1 hno;go_wp2_with fail;go_ret2;exact .inr ⟨rfl,N1.out,fun l h=>FI.out _ (EF.out l h)⟩
theorem KC (l:List Bool) (N:Nat) (h:l.length<=N):(R2.dW (pack l) N).take l.length=l:=by
 apply List.ext_getElem
 ·rw[List.length_take,R2.eH];omega
 ·intro i h1 h2
  rw[List.getElem_take];unfold R2.dW;rw[List.getElem_map,List.getElem_range,Vf];have e:l.getD i false=l[i]:=by simp[List.getD,h2]
  rw[e];cases l[i]<;>simp[iZ]
theorem CP (D:Nat->Prop) (A:Option Addr) (n c:Nat) (b:List Nat) (W:World) (hr:Rd W D 1 A n (bl b)) (dX:∀k,D k->k<W.heap.size) (ok:okB b) (hl:b.length=n) (hn:n<=1000000) (hc:n<=c) (hfew:jT b):
 Calls Tryz.prog 29 #[.slice A n c] W (Ja ji (fQ b) (aT b) W):=by
 have pI:=ah (z23 D A n c 4 b W hr dX ok hl hn hc (by decide) hfew);have EF:=ah (fun (l:List Bool) (h:fQ b l)=>Sr hfew h);have hce:=QG b;have HE4:=ah (fun xs (h:xu 4 b xs)=>XL h);generalize aT b=ce at *;clear hr dX ok hl hn hc hfew;go_enter Tryz.func29,Tryz.ntmps29;go_wp2_with fail;refine pI.out.mono ?_;intro e w1 hcr;rcases hcr with ⟨k,cap,xs,rfl,o1,hcap,hcont⟩|⟨rfl,n1,hno⟩
 ·obtain rfl:ce=4:=HE4.out xs hcont
  have HC:=ah hcont;have jB:=hcont.1;have hx3:=hcont.2.1;have O1:=ah o1;have hk1:=(o1.lt k rfl).2;have HM:Hid (∀l,fQ b l->l.length<=2048/\xs=aU l):=ah fun l h=>⟨h.1,XM HC.out (EF.out l h)⟩
  have YT:Hid (∀l,fQ b l->ay xs 0=(l.length,(aj l.length).length,0)/\xs.drop (aj l.length).length=pack l/\xs.length=(aj l.length).length+(l.length+7) / 8):=ah fun l h=>by
   obtain ⟨h1,h2⟩:=HM.out l h;rw[h2];have h3:=OQ (v:=l.length) (by omega) [] (pack l);refine ⟨h3,by unfold aU;rw[List.drop_left],by unfold aU;rw[List.length_append,tZ]⟩
  have hu:=mQ _ (some ⟨k,0,none⟩) xs.length cap xs 0 w1 o1.fM jB rfl (by omega) (by omega);unfold Ai at hu;have hue:=OM xs 0;have Ov:=Ba (b:=xs) (p:=0) (by omega);have hub:=OU jB 0;have HU:=ah hu;clear hce HE4 hcont o1 pI EF hu;generalize ay xs 0=tr at *;obtain ⟨u,kk,f⟩:=tr;simp only at hue Ov HU hub;go_wp2_with fail;refine HU.out.mono ?_;rintro e w2 ⟨rfl,hw2⟩;rw[←hw2];clear hw2 HU;by_cases hf:f=0
  ·subst hf
   clear hue;by_cases hbig:2048<u
   ·have t1:decide ((2048:Int)<(u:Int))=true:=by rw[decide_eq_true_iff];omega
    go_wp2_with fail;go_ret2
    exact .inr ⟨rfl,O1.out.nx,fun l h=>by
     obtain ⟨h1,_⟩:=YT.out l h;have h2:=(HM.out l h).1;injection h1 with h1;omega⟩
   ·have t1:decide ((2048:Int)<(u:Int))=false:=by rw[decide_eq_false_iff_not];omega
    have kw:IntKind.i64.wrap (u:Int)=(u:Int):=IntWalk.i64_in _ (by omega);obtain ⟨g8,hg8⟩:∃g8,g8=(u+7) / 8:=⟨_,rfl⟩;have hgi:((u:Int)+7) / 8=(g8:Int):=(by omega);have hgb:g8<=257:=(by omega);have hkl:kk<=xs.length:=(by omega);by_cases hlen:xs.length=kk+g8
    ·have f1:((xs.length:Int)-(kk:Int) !=(g8:Int))=false:=by rw[bne_eq_false_iff_eq];omega
     have hct:=O1.out.fM.cut (k:=kk) (cap:=cap) hkl hcap;rw[Nat.mul_one,show (bl xs).drop kk=bl (xs.drop kk) by simp[bl,List.map_drop]]at hct
     have hX:∃X,(if cap=kk then (some ⟨k,0,none⟩:Option Addr) else (some ⟨k,0,none⟩:Option Addr).map (·.add kk))=some ⟨k,X,none⟩/\(cap=kk->X=0)/\(¬cap=kk->X=kk):=by
      by_cases hcc:cap=kk
      ·exact ⟨0,by rw[if_pos hcc],fun _=>rfl,fun h=>absurd hcc h⟩
      ·refine ⟨kk,?_,fun h=>absurd h hcc,fun _=>rfl⟩
       rw[if_neg hcc];simp only[Option.map_some,Option.some.injEq];unfold Addr.add;by_cases h0:kk=0
       ·rw[if_pos h0,h0]
       ·rw[if_neg h0];simp
     obtain ⟨X,MH,hX0,qJ⟩:=hX;rw[MH]at hct;have AO:okB (xs.drop kk):=fun x hx=>jB x (List.mem_of_mem_drop hx);have UQ:=ah (show (xs.drop kk).length=xs.length-kk from List.length_drop ..);have hkli:(kk:Int)<=(xs.length:Int):=(by omega);have Hg8:=ah hg8;have Hlen:=ah hlen;have YD:u<=8 * (xs.length-kk):=(by omega);have hxm:xs.length-kk<=257:=(by omega);have hui:(u:Int)<=((8 * (xs.length-kk):Nat):Int):=(by omega);have HK1:=ah hk1;clear MH hg8 hlen;by_cases hcc:cap=kk
     all_goals
      first|(rw[hX0 hcc]at hct)|(rw[qJ hcc]at hct)
      clear hX0 qJ X;have Xw:=ah (fun cc=>R2.EX _ _ (xs.length-kk) cc (xs.drop kk) w1 hct (fun j e=>by rw[e];exact HK1.out) UQ.out (by omega) AO);clear hct;go_wp2_with fail;refine (Xw.out _).mono ?_;rintro e w3 ⟨k3,cap3,rfl,o3,hk3,hk3',hc3,hm3⟩;have O3:=ah o3;have hm3':cap3<=9223372036854775807:=hm3;have h3c:(u:Int)<=(cap3:Int):=(by omega);have h3n:u<=cap3:=(by omega);have hrt:=O3.out.fM.take (k:=u) YD;rw[Nat.mul_one,show (R2.iO (R2.dW (xs.drop kk) (8 * (xs.length-kk)))).take u=ji ((R2.dW (xs.drop kk) (8 * (xs.length-kk))).take u) by simp[R2.iO,ji,List.map_take]]at hrt;have hrl:((R2.dW (xs.drop kk) (8 * (xs.length-kk))).take u).length=u:=by rw[List.length_take,R2.eH];omega
      have HLM:Hid (∀l,fQ b l->(R2.dW (xs.drop kk) (8 * (xs.length-kk))).take u=l):=ah fun l h=>by
       obtain ⟨h1,h2,h3⟩:=YT.out l h;injection h1 with h1 h4;injection h4 with h4 h5;rw[h4,h2,h1];rw[h1]at YD;rw[h4]at YD;exact KC l _ YD
      have YO:=ah hrt;clear o3 hk3 hk3' hm3 hrt Xw hc3;generalize (R2.dW (xs.drop kk) (8 * (xs.length-kk))).take u=out at *;have HFO:=ah (yJ _ (some ⟨k3,0,none⟩) u cap3 out w3 YO.out hrl (by omega) h3n hm3');have Hrl:=ah hrl;clear hrl;go_wp2_with fail;refine HFO.out.mono ?_;rintro e w4 ⟨k4,cap4,rfl,o4,hk4,hk4',hc4,hm4⟩;have N4:=ah o4.nx;have ho2:out.length<=2048:=by rw[Hrl.out];omega
      have hsame:=fun cd=>z30 _ _ _ (some ⟨k,0,none⟩) (aU out).length cap4 xs.length cd (aU out) xs w4 o4.fM ((O1.out.fM.nx (by decide) O3.out.nx).nx (by decide) o4.nx) (z20 ho2) jB;clear o4 HFO hk4 hk4' hc4 hm4;by_cases heq:aU out=xs
      ·rw[show decide (aU out=xs)=true by simpa using heq]at hsame
       have fG:=ah hsame;have Heq:=ah heq;clear hsame heq;generalize (aU out).length=L6 at *;go_wp2_with fail;refine (fG.out _).mono ?_;rintro e w7 ⟨rfl,rfl⟩;go_wp2_with fail;go_ret2;have n3:=O1.out.nx.tr O3.out.nx;have hu:=Hrl.out;clear Hrl;subst hu;exact .inl ⟨_,_,_,out,rfl,YO.out.nx (by decide) N4.out,n3.tr N4.out,ho2,by rw[Heq.out];exact HC.out.2.2⟩
      ·rw[show decide (aU out=xs)=false by simpa using heq]at hsame
       have fG:=ah hsame;have Heq:=ah heq;clear hsame heq;generalize (aU out).length=L6 at *;go_wp2_with fail;refine (fG.out _).mono ?_;rintro e w7 ⟨rfl,rfl⟩;go_wp2_with fail;go_ret2;exact .inr ⟨rfl,(O1.out.nx.tr O3.out.nx).tr N4.out,fun l' h=>Heq.out (by rw[HLM.out l' h];exact (HM.out l' h).2.symm)⟩
    ·have f1:((xs.length:Int)-(kk:Int) !=(g8:Int))=true:=by rw[bne_iff_ne];omega
     have Hlen:=ah hlen;have Hg8:=ah hg8;clear hlen hg8;go_wp2_with fail;go_ret2
     exact .inr ⟨rfl,O1.out.nx,fun l h=>Hlen.out (by
      obtain ⟨h1,h2,h3⟩:=YT.out l h;injection h1 with h1 h4;injection h4 with h4 h5;rw[h3,Hg8.out,h4,h1])⟩
  ·have hf2:(f !=0)=true:=by rw[bne_iff_ne];exact hf
   have Hf:=ah hf;clear hue hf;go_wp2_with fail;go_ret2
   exact .inr ⟨rfl,O1.out.nx,fun l h=>by
    obtain ⟨h1,_⟩:=YT.out l h;injection h1 with h1 h4;injection h4 with h4 h5;exact Hf.out h5⟩
 ·have q1:(ce !=0)=true:=by rw[bne_iff_ne];exact hce
  have N1:=ah n1;have FI:=ah hno;clear hce n1 hno;go_wp2_with fail;go_ret2;exact .inr ⟨rfl,N1.out,fun l h=>FI.out _ (EF.out l h)⟩
theorem z3e:∀(l:List Nat) (i n v k:Nat),okB l->z04 l i n=(v,k,0)->∃u,(0<i->0<u)/\v=n+u * 2 ^ (7 * i)/\i<k/\l=aj u++l.drop (k-i)
 |[],i,n,v,k,ok,h=>by simp[z04]at h
 |x::l,i,n,v,k,ok,h=>by
  have hx:=ok x (by simp);simp only[z04]at h;by_cases h1:(i=9/\1<x)∨(x=0/\0<i)
  ·rw[if_pos h1]at h
   simp at h
  ·rw[if_neg h1]at h
   by_cases h2:x<128
   ·rw[if_pos h2]at h
    injection h with a b;injection b with b c;refine ⟨x,fun hi=>by omega,a.symm,by omega,?_⟩;rw[JF h2,←b,show i+1-i=1 by omega];rfl
   ·rw[if_neg h2]at h
    obtain ⟨u,hu0,hv,hk,hl⟩:=z3e l _ _ v k (fun y hy=>ok y (by simp[hy])) h;have hu:=hu0 (by omega);refine ⟨x % 128+128 * u,fun _=>by omega,?_,by omega,?_⟩
    ·rw[hv,KW,Nat.add_mul,←Nat.mul_assoc,Nat.mul_comm 128 u]
     omega
    ·rw[z35 (by omega),show (x % 128+128 * u) % 128=x % 128 by omega,show (x % 128+128 * u) / 128=u by omega,show 128+x % 128=x by omega,show k-i=k-(i+1)+1 by omega,List.drop_succ_cons,List.cons_append,←hl]
theorem yL {b:List Nat} {p v k:Nat} (ok:okB b) (h:ay b p=(v,k,0)):b.drop p=aj v++b.drop (p+k):=by
 unfold ay at h;by_cases hp:(p:Int)<0∨(b.length:Int)<=(p:Int)
 ·rw[if_pos hp]at h
  simp at h
 ·rw[if_neg hp,Int.toNat_natCast]at h
  obtain ⟨u,_,hv,_,hl⟩:=z3e _ _ _ _ _ (fun y hy=>ok y (List.mem_of_mem_drop hy)) h;have e:v=u:=by rw[hv];simp
  rw[e,hl,Nat.sub_zero,List.drop_drop]
theorem z5p {b:List Nat} {p v q m:Nat} (ok:okB b) (h:aB b p 0 m=(v,q,0)):b.drop p=aj v++b.drop q/\v<=m:=by
 unfold aB at h;rw[if_neg (by simp)]at h;by_cases h0:(ay b p).2.2=0
 ·rw[if_neg (fun k=>k h0)]at h
  by_cases h1:(m:Int)<0∨(m:Int)<((ay b p).1:Int)
  ·rw[if_pos h1]at h
   simp at h
  ·rw[if_neg h1]at h
   injection h with a c;injection c with c d;have e:ay b p=(v,(ay b p).2.1,0):=(by rw[←a,←h0]);have:=yL ok e;rw[c]at this;exact ⟨this,by omega⟩
 ·rw[if_pos h0]at h
  injection h with a c;injection c with c d;exact absurd d h0
theorem zW (b:List Nat) (p:Nat) {e:Int} (m:Int) (he:e≠0):aB b p e m=(0,p,e):=by unfold aB;rw[if_pos he]
theorem Ub {b rest:List Nat} {p v m:Nat} (hv:v<=m) (hm:m<18446744073709551616) (hp:p<=b.length) (h:b.drop p=aj v++rest):aB b p 0 m=(v,p+(aj v).length,0):=by
 have hr:=Jk (v:=v) (by omega) hp h;unfold aB;rw[if_neg (by simp),hr,if_neg (by simp),if_neg (by simp only;omega)]
theorem IC {b T rest:List Nat} {p m:Nat} (hv:T.length<=m) (hm:m<18446744073709551616) (hp:p<=b.length) (h:b.drop p=aj T.length++T++rest):bM b p 0 m=(T,p+(aj T.length).length+T.length,0):=by
 have hr:=Jk (v:=T.length) (rest:=T++rest) (by omega) hp (by rw[h,List.append_assoc]);have hl:=congrArg List.length h;simp only[List.length_append,List.length_drop]at hl
 have hd:b.drop (p+(aj T.length).length)=T++rest:=by
  rw[←List.drop_drop,h,List.append_assoc,List.drop_left]
 unfold bM;rw[if_neg (by simp),hr,if_neg (by simp),if_neg (by simp only;omega),if_neg (by simp only;omega)];simp only;rw[hd,List.take_left]
section
variable {P : Program}
theorem z22 {ops:Array Oper} {rest:List Oper} {o:Oper} {a:Act} {Q:Exit->Act->World->Prop} (hgd:o.guard=none) (s x:Operand) (t:TypeId)
 (ho:o.op=.call { callee:=.builtin .append,args:= #[s,x],argTypes:= #[t,t]})
 (e:TypeId) (i:TypeInfo) (z:Value) (bytes:Nat) (ht:P.underlying t=some (.slice e)) (hi:P.info? e=some i) (hz:i.zero=some z)
 (hsize:i.size=1) (hby:i.bytes=bytes) (hzs:z.cells.size=1)
 {base:Nat} {w:World} {v:Value} {n:Nat} {xs:List Value} (u:Value) (hu:u.oneCell'=true) (hs:a.eval s=v) (hown:w.ownsRow base e 1 v n xs) (hbase:base<=w.heap.size)
 (hx:a.eval x=.slice (some ⟨w.heap.size,0,none⟩) 1 1)
 (h63:n+1<=maxLen) (hbytes:(n+1) * bytes<=140737488355328)
 (h:∀v' w',w'.ownsRow base e 1 v' (n+1) (xs++[u])->Moved w w' v v'->wpList P ops Q rest (a.put o.dst v') w'):wpList P ops Q (o::rest) a (w.alloc (.cells #[u] e)):=
 z00 (w.alloc (.cells #[u] e)) hgd s x t ho base e i z 1 bytes ht hi hz hsize hby hzs (by omega) v n xs hs (z06 hown ((Ch.refl (fun _=>False) w).alloc _) (fun _ _ hf=>hf)) (fun _=>True) _ 1 1 [u] hx
  ⟨rfl,fun _=>⟨⟨w.heap.size,0,none⟩,rfl,trivial,cell_one_new _ _ _⟩⟩ (by simpa using hu) h63 hbytes (Nat.le_trans hbase (by simp))
  fun v' w' h2 h3 h4=>h v' w' h2 ⟨((Ch.refl (fun k=>v.ownBlock=some k) w).alloc _).grown h3 fun k hk _=>hk,by
   rcases h4 with e|e
   ·exact .inl e
   ·exact .inr ⟨_,e,by simp⟩⟩
end
end Go.Proofs.YtfljcllpmbnjaaaGreat
namespace Go.Proofs.YtfljcllpmbnjaaaGreat
theorem JK {T:List Nat} (ok:okB T):iU (b_ T)=T:=by
 unfold iU;rw[Gi,List.map_map];conv=>rhs;rw[←List.map_id T]
 apply List.map_congr_left
 intro x hx;have:=ok x hx;simp only[Function.comp,id];show (UInt8.ofNat x).toNat=x
 rw[UInt8.toNat_ofNat'];exact Nat.mod_eq_of_lt this
def MX (xs:List Nat) (l:List ByteArray):Prop:=l.length<=2048/\(∀s∈l,s.size<=1024)/\xs=bC l
def EC (L:List Nat):List Nat:=L.flatMap aj
def oZ (xs:List Nat) (n p:Nat) (e:Int) (L:List Nat):Prop:=
 p<=xs.length/\(e=0->xs=aj n++EC L++xs.drop p)/\(∀z∈L,z<=1024)/\
 (∀l,MX xs l->e=0/\n=l.length/\L=(l.map ByteArray.size).take L.length/\xs.drop p=eG (l.drop L.length)++dF l)
theorem uG {xs:List Nat} (ok:okB xs):oZ xs (aB xs 0 0 2048).1 (aB xs 0 0 2048).2.1 (aB xs 0 0 2048).2.2 []/\(aB xs 0 0 2048).1<=2048:=by
 have hle:(aB xs 0 0 2048).2.1<=xs.length:=by
  unfold aB;have h1:=Ba (b:=xs) (p:=0) (Nat.zero_le _);split
  ·exact Nat.zero_le _
  ·split
   ·exact Nat.zero_le _
   ·split
    ·exact Nat.zero_le _
    ·exact h1
 have hm:(aB xs 0 0 2048).1<=2048:=Jp xs 0 0 2048;refine ⟨⟨hle,fun h0=>?_,by simp,fun l hl=>?_⟩,hm⟩
 ·have:=(z5p (m:=2048) ok (show aB xs 0 0 (2048:Nat)=((aB xs 0 0 2048).1,(aB xs 0 0 2048).2.1,0) from Prod.ext rfl (Prod.ext rfl h0))).1
  rw[List.drop_zero]at this;simpa [EC]using this
 ·obtain ⟨h1,h2,h3⟩:=hl
  have h4:xs.drop 0=aj l.length++(eG l++dF l):=by rw[List.drop_zero,h3];simp[bC]
  have h5:=Ub (m:=2048) h1 (by omega) (Nat.zero_le _) h4;rw[show ((2048:Nat):Int)=2048 from rfl]at h5;rw[h5];refine ⟨rfl,rfl,by simp,?_⟩;simp only[Nat.zero_add,List.length_nil,List.drop_zero];rw[List.drop_zero]at h4;conv=>lhs;rw[h4]
  rw[List.drop_left]
theorem xP {xs:List Nat} {n p:Nat} {e:Int} {L:List Nat} (ok:okB xs) (h:oZ xs n p e L) (hlt:L.length<n):oZ xs n (aB xs p e 1024).2.1 (aB xs p e 1024).2.2 (L++[(aB xs p e 1024).1]):=by
 obtain ⟨hp,hs,hb,hx⟩:=h
 have hb2:∀z∈L++[(aB xs p e 1024).1],z<=1024:=fun z hz=>by
  rcases List.mem_append.1 hz with hz|hz
  ·exact hb z hz
  ·rw[List.mem_singleton]at hz;rw[hz];exact Jp xs p e 1024
 by_cases he:e=0
 ·subst he
  have hle:(aB xs p 0 1024).2.1<=xs.length:=by
   unfold aB;have h1:=Ba (b:=xs) (p:=p) hp;split
   ·exact hp
   ·split
    ·exact hp
    ·split
     ·exact hp
     ·exact h1
  refine ⟨hle,fun h0=>?_,hb2,fun l hl=>?_⟩
  ·have h1:=hs rfl
   obtain ⟨h3,h4⟩:=z5p (p:=p) (m:=1024) (v:=(aB xs p 0 1024).1) (q:=(aB xs p 0 1024).2.1) ok (Prod.ext rfl (Prod.ext rfl h0));have e1:EC (L++[(aB xs p 0 1024).1])=EC L++aj (aB xs p 0 1024).1:=(by simp[EC]);rw[e1];conv=>lhs;rw[h1,h3]
   simp
  ·obtain ⟨_,h2,h3,h4⟩:=hx l hl
   have hk:L.length<l.length:=(by omega);rw[Ye hk,List.append_assoc]at h4
   have hsz:(l.getD L.length ByteArray.empty).size<=1024:=by
    rw[List.getD_eq_getElem?_getD,List.getElem?_eq_getElem hk];exact hl.2.1 _ (List.getElem_mem hk)
   have h5:=Ub (m:=1024) hsz (by omega) hp h4;rw[show ((1024:Nat):Int)=1024 from rfl]at h5;rw[h5];refine ⟨rfl,h2,?_,?_⟩
   ·rw[List.length_append,List.length_singleton,List.take_succ_eq_append_getElem (by rw[List.length_map];exact hk),←h3,List.getElem_map]
    simp[List.getD,hk]
   ·rw[List.length_append,List.length_singleton]
    simp only;rw[←List.drop_drop,h4,List.drop_left]
 ·have hc:=zW xs p (1024:Int) he
  rw[hc];rw[hc]at hb2;exact ⟨hp,fun h0=>absurd h0 he,hb2,fun l hl=>absurd (hx l hl).1 he⟩
def jv (xs:List Nat) (p:Nat) (e:Int) (z:Nat):List Nat×Nat×Int:=if e≠0 then ([],p,e) else if p+z<=xs.length then ((xs.drop p).take z,p+z,0) else ([],p,3)
def oV (xs:List Nat) (n p:Nat) (e:Int) (L:List Nat) (O:List ByteArray):Prop:=
 p<=xs.length/\L.length=n/\(e=0->xs=aj n++EC L++dF O++xs.drop p/\O.map ByteArray.size=L.take O.length)/\(∀z∈L,z<=1024)/\
 (∀l,MX xs l->e=0/\n=l.length/\L=l.map ByteArray.size/\O=l.take O.length/\xs.drop p=dF (l.drop O.length))
theorem uD {xs:List Nat} {n p:Nat} {e:Int} {L:List Nat} (h:oZ xs n p e L) (hl:L.length=n):oV xs n p e L []:=by
 obtain ⟨hp,hs,hb,hx⟩:=h;refine ⟨hp,hl,fun h0=>?_,hb,fun l h1=>?_⟩
 ·have a:=hs h0
  exact ⟨by simpa [dF]using a,by simp⟩
 ·obtain ⟨a,b,c,d⟩:=hx l h1
  have hll:L.length=l.length:=by omega
  rw[hll,List.take_of_length_le (by simp)]at c;rw[hll,List.drop_length]at d;exact ⟨a,b,c,by simp,by simpa [eG]using d⟩
theorem xO {xs:List Nat} {n p:Nat} {e:Int} {L:List Nat} {O:List ByteArray} (ok:okB xs) (h:oV xs n p e L O) (hlt:O.length<n):
 oV xs n (jv xs p e (L.getD O.length 0)).2.1 (jv xs p e (L.getD O.length 0)).2.2 L (O++[b_ (jv xs p e (L.getD O.length 0)).1]):=by
 obtain ⟨hp,hl,hs,hb,hx⟩:=h;obtain ⟨z,hz⟩:∃z,L.getD O.length 0=z:=⟨_,rfl⟩;have UJ:O.length<L.length:=by omega
 have Z_:L[O.length]=z:=by rw[←hz];simp[List.getD,UJ]
 rw[hz];unfold jv;by_cases he:e=0
 ·subst he
  rw[if_neg (by simp)];by_cases hpz:p+z<=xs.length
  ·rw[if_pos hpz]
   have hTl:((xs.drop p).take z).length=z:=by rw[List.length_take,List.length_drop];omega
   have YC:okB ((xs.drop p).take z):=fun y hy=>ok y (List.mem_of_mem_drop (List.mem_of_mem_take hy));refine ⟨hpz,hl,fun _=>?_,hb,fun l h1=>?_⟩
   ·obtain ⟨a,c⟩:=hs rfl
    refine ⟨?_,?_⟩
    ·have e1:dF (O++[b_ ((xs.drop p).take z)])=dF O++(xs.drop p).take z:=by
      unfold dF;rw[List.flatMap_append];simp[JK YC]
     simp only;rw[e1,←List.drop_drop];conv=>lhs;rw[a,←List.take_append_drop z (xs.drop p)]
     simp
    ·simp only[List.map_append,List.map_cons,List.map_nil,List.length_append,List.length_singleton]
     rw[List.take_succ_eq_append_getElem UJ,c,Z_,Yd,hTl]
   ·obtain ⟨_,a2,a3,a4,a5⟩:=hx l h1
    have hk:O.length<l.length:=by omega
    have hsz:z=(l.getD O.length ByteArray.empty).size:=by
     rw[←Z_];simp only[a3,List.getElem_map];simp[List.getD,hk]
    rw[Vk hk]at a5;have hwl:(iU (l.getD O.length ByteArray.empty)).length=z:=(by rw[kJ,hsz]);have e1:(xs.drop p).take z=iU (l.getD O.length ByteArray.empty):=(by rw[a5,←hwl,List.take_left]);refine ⟨rfl,a2,a3,?_,?_⟩
    ·simp only
     rw[e1,Uh,List.length_append,List.length_singleton,List.take_succ_eq_append_getElem hk,←a4];simp[List.getD,hk]
    ·simp only
     rw[List.length_append,List.length_singleton,←List.drop_drop,a5,←hwl,List.drop_left]
  ·rw[if_neg hpz]
   refine ⟨hp,hl,fun h0=>by simp at h0,hb,fun l h1=>?_⟩;exfalso
   obtain ⟨_,a2,a3,a4,a5⟩:=hx l h1;have hk:O.length<l.length:=by omega
   have hsz:z=(l.getD O.length ByteArray.empty).size:=by
    rw[←Z_];simp only[a3,List.getElem_map];simp[List.getD,hk]
   rw[Vk hk]at a5;have h2:=congrArg List.length a5;rw[List.length_append,kJ,List.length_drop,←hsz]at h2;omega
 ·rw[if_pos he]
  refine ⟨hp,hl,fun h0=>absurd h0 he,hb,fun l h1=>absurd (hx l h1).1 he⟩
theorem BG {xs:List Nat} {n p:Nat} {e:Int} {L:List Nat} {O:List ByteArray} (h:oV xs n p e L O) (hn:n<=2048) (hO:O.length=n):
 (bn xs.length p e=0->MX xs O)/\(bn xs.length p e≠0->∀l,¬MX xs l):=by
 obtain ⟨hp,hl,hs,hb,hx⟩:=h;refine ⟨fun h0=>?_,fun h0 l h1=>h0 ?_⟩
 ·unfold bn at h0
  by_cases he:e=0
  ·rw[if_neg (fun k=>k he)]at h0
   obtain ⟨a,c⟩:=hs he;have hpl:¬p<xs.length:=fun k=>by rw[if_pos k]at h0;simp at h0
   rw[hO,←hl,List.take_length]at c;rw[List.drop_of_length_le (by omega),List.append_nil]at a;refine ⟨by omega,fun s hs=>?_,?_⟩
   ·have:s.size∈O.map ByteArray.size:=List.mem_map_of_mem hs
    rw[c]at this;exact hb _ this
   ·rw[a,←c,hO.symm]
    unfold bC EC eG;rw[List.flatMap_map]
  ·rw[if_pos he]at h0
   exact absurd h0 he
 ·obtain ⟨a1,a2,a3,a4,a5⟩:=hx l h1
  unfold bn;rw[if_neg (fun k=>k a1),if_neg];intro hlt;have h2:=congrArg List.length a5;rw[List.length_drop,List.drop_of_length_le (by omega)]at h2;simp[dF]at h2;omega
end Go.Proofs.YtfljcllpmbnjaaaGreat
