/- ColumnReads: any bytes are the chunk that the document says, of each kind, or none. Conditions: none. -/
import Derived.Test.YtfljcllpmbnjaaaGreatKdQ37
import Derived.Test.YtfljcllpmbnjaaaGreatKdPdSameR
import Derived.Test.YtfljcllpmbnjaaaGreatKdPdLaw
import Derived.Deep.Grids
import Derived.SliceStrings
set_option maxRecDepth 100000
set_option maxHeartbeats 16000000
set_option linter.unusedVariables false
namespace Go.Proofs.YtfljcllpmbnjaaaGreat.ColumnReads
open Go.RowKit
theorem walk (A:Option Addr) (n c:Nat) (b:List Nat) (W:World) (hr:Rd W (· <W.heap.size) 1 A n (bl b)) (ok:okB b) (hl:b.length=n) (hc:n<=c) (hn:n<=9223372036854775807):
 Calls Tryz.prog 4 #[.slice A n c] W fun e W'=>e=.returned (.bool true)/\Nx W W':=by
 have HR:=ah hr;have HL:=ah hl;have lN:=ah ok;clear hr hl ok;go_enter Tryz.func4,Tryz.ntmps4;go_wp2_with fail;refine (z54 _).mono ?_;rintro e w1 ⟨rfl,n1⟩;by_cases hbig:700<n
 ·go_wp2_with fail
  refine (z54 _).mono ?_;rintro e w2 ⟨rfl,n2⟩;go_wp2_with fail;go_ret;exact ⟨rfl,n1.tr n2⟩
 ·have N1:=ah n1
  clear n1;have htw:=RH _ A n c b w1 (HR.out.nx (by decide) N1.out) (by omega);unfold pJ at htw;rw[HL.out]at htw;have Htw:=ah htw;clear htw;go_wp2_with fail;refine Htw.out.mono ?_;rintro e w2 ⟨k,cap,rfl,hk1,hk2,ho,hrd,n2⟩;have hcap:n<=cap:=by obtain ⟨_,_,hv,h1,_⟩:=z05 ho;injection hv with _ _ hv;rw[hv];exact h1
  have N2:=ah (N1.out.tr n2);have RD2:=ah hrd;clear ho hrd n2 Htw;have hu:=mQ _ A n c b 2 w2 (HR.out.nx (by decide) N2.out) lN.out HL.out (by omega) (by omega);unfold Ai at hu;have HU:=ah hu
  have HFW:Hid ((ay b 2).2.2≠0∨(ay b 2).1<=3000->jT b):=ah fun h v kk e=>by
   rw[e]at h;rcases h with h|h
   ·exact absurd rfl h
   ·exact h
  clear hu;generalize ay b 2=tr at *;obtain ⟨v,kk,f⟩:=tr;simp only at HU HFW;go_wp2_with fail;refine HU.out.mono ?_;rintro e w3 ⟨rfl,hw3⟩;rw[←hw3];clear hw3 HU;by_cases hbad:f=0/\3000<v
  ·obtain ⟨rfl,hv⟩:=hbad
   have hvi:decide ((3000:Int)<(v:Int))=true:=by rw[decide_eq_true_iff];omega
   go_wp2_with fail;go_ret;exact ⟨rfl,N2.out⟩
  ·have hfew:jT b:=HFW.out (by
    by_cases hf:f=0
    ·exact .inr (by have:=fun h=>hbad ⟨hf,h⟩;omega)
    ·exact .inl hf)
   have hcase:((f==0)=false)∨((f==0)=true/\decide ((3000:Int)<(v:Int))=false):=by
    by_cases hf:f=0
    ·exact .inr ⟨by rw[beq_iff_eq];exact hf,by rw[decide_eq_false_iff_not];intro h;exact hbad ⟨hf,by omega⟩⟩
    ·exact .inl (by rw[beq_eq_false_iff_ne];exact hf)
   have hD:=fun (w':World) (nx:Nx w2 w')=>show ∀j,j=k->j<w'.heap.size from fun j e=>by have:=nx.size;omega
   have WM:=fun (w':World) (nx:Nx w2 w')=>show ∀j,j<W.heap.size->j<w'.heap.size from fun j e=>by have:=(N2.out.tr nx).size;omega
   have YR:=ah (fun (w':World) (nx:Nx w2 w')=>GV _ (some ⟨k,0,none⟩) n cap b w' (RD2.out.nx (by decide) nx) (hD w' nx) lN.out HL.out (by omega) hcap);have YQ:=ah (fun (w':World) (nx:Nx w2 w')=>CY _ (some ⟨k,0,none⟩) n cap b w' (RD2.out.nx (by decide) nx) (hD w' nx) lN.out HL.out (by omega) hcap);have YP:=ah (fun (w':World) (nx:Nx w2 w')=>CZ _ (some ⟨k,0,none⟩) n cap b w' (RD2.out.nx (by decide) nx) (hD w' nx) lN.out HL.out (by omega) hcap);have YS:=ah (fun (w':World) (nx:Nx w2 w')=>C_ _ (some ⟨k,0,none⟩) n cap b w' (RD2.out.nx (by decide) nx) (hD w' nx) lN.out HL.out (by omega) hcap);have Za:=ah (fun (w':World) (nx:Nx w2 w')=>MO _ A n c b w' (HR.out.nx (by decide) (N2.out.tr nx)) (WM w' nx) lN.out HL.out (by omega) hc hfew);have Y_:=ah (fun (w':World) (nx:Nx w2 w')=>Iy _ A n c b w' (HR.out.nx (by decide) (N2.out.tr nx)) (WM w' nx) lN.out HL.out (by omega) hc hfew);have YZ:=ah (fun (w':World) (nx:Nx w2 w')=>Iz _ A n c b w' (HR.out.nx (by decide) (N2.out.tr nx)) (WM w' nx) lN.out HL.out (by omega) hc hfew);have Zb:=ah (fun (w':World) (nx:Nx w2 w')=>IB _ A n c b w' (HR.out.nx (by decide) (N2.out.tr nx)) (WM w' nx) lN.out HL.out (by omega) hc hfew);have Xv:=ah (fun (w':World) (nx:Nx w2 w')=>z30 _ _ (some ⟨k,0,none⟩) A n cap n c b b w' (RD2.out.nx (by decide) nx) (HR.out.nx (by decide) (N2.out.tr nx)) lN.out lN.out);simp only[decide_true]at Xv;have hI:=lK (ce:=aT b) (made:=fP b) (fun l h=>(jH h.1).1);have hW:=lK (ce:=aT b) (made:=gy b) (fun l h=>h.1);have hX:=lK (ce:=aT b) (made:=gu b) (fun l h=>h.1);have hB:=lK (ce:=aT b) (made:=fQ b) (fun l h=>h.1);unfold kT at YR YQ YP YS Za Y_ YZ Zb;clear hD WM hfew hbad HFW;generalize h_ (fP b) (aT b)=tI at *;generalize h_ (gy b) (aT b)=tW at *;generalize h_ (gu b) (aT b)=tX at *;generalize h_ (fQ b) (aT b)=tB at *;obtain ⟨lI,eI⟩:=tI;obtain ⟨lW,eW⟩:=tW;obtain ⟨lX,eX⟩:=tX;obtain ⟨lB,eB⟩:=tB;simp only at YR YQ YP YS Za Y_ YZ Zb hI hW hX hB;rcases hcase with f1|⟨f1,f2⟩
   all_goals
    go_wp2_with fail;refine (YR.out _ (Ch.refl _ _)).mono ?_;rintro e w4 ⟨A4,c4,D4,rfl,r4,n4⟩;have N4:=ah n4;have R4:=ah r4;clear n4 r4 YR;go_wp2_with fail;refine (Za.out _ N4.out).mono ?_;rintro e w5 ⟨A5,c5,D5,rfl,r5,n5⟩;have hs1:=Gs D4 D5 A4 A5 lI.length c4 c5 lI w5 (R4.out.nx (by decide) n5) r5 rfl (by omega);have N5:=ah (N4.out.tr n5);have HS1:=ah hs1;clear n5 r5 Za hs1;go_wp2_with fail;refine HS1.out.mono ?_;rintro e w6 ⟨rfl,n6⟩;have N6:=ah (N5.out.tr n6);clear n6;go_wp2_with fail;refine (YQ.out _ N6.out).mono ?_;rintro e w7 ⟨A7,c7,D7,rfl,r7,n7⟩;have N7:=ah (N6.out.tr n7);have R7:=ah r7;clear n7 r7 YQ;go_wp2_with fail;refine (Y_.out _ N7.out).mono ?_;rintro e w8 ⟨A8,c8,D8,rfl,r8,n8⟩;have hs2:=mO D7 D8 A7 A8 lW.length c7 c8 lW w8 (R7.out.nx (by decide) n8) r8 rfl (by omega);have N8:=ah (N7.out.tr n8);have HS2:=ah hs2;clear n8 r8 Y_ hs2;go_wp2_with fail;refine HS2.out.mono ?_;rintro e w9 ⟨rfl,n9⟩;have N9:=ah (N8.out.tr n9);clear n9;go_wp2_with fail;refine (YP.out _ N9.out).mono ?_;rintro e wa ⟨Aa,ca,Da,rfl,ra,na⟩;have Na:=ah (N9.out.tr na);have Ra:=ah ra;clear na ra YP;go_wp2_with fail;refine (YZ.out _ Na.out).mono ?_;rintro e wb ⟨Ab,cb,Db,rfl,rb,nb⟩;have hs3:=mO Da Db Aa Ab lX.length ca cb lX wb (Ra.out.nx (by decide) nb) rb rfl (by omega);have Nb:=ah (Na.out.tr nb);have HS3:=ah hs3;clear nb rb YZ hs3;go_wp2_with fail;refine HS3.out.mono ?_;rintro e wc ⟨rfl,nc⟩;have Nc:=ah (Nb.out.tr nc);clear nc;go_wp2_with fail;refine (YS.out _ Nc.out).mono ?_;rintro e wd ⟨Ad,cd,Dd,rfl,rd,nd⟩;have Nd:=ah (Nc.out.tr nd);have Rd':=ah rd;clear nd rd YS;go_wp2_with fail;refine (Zb.out _ Nd.out).mono ?_;rintro e we ⟨Ae,ce,De,rfl,re,ne⟩;have hs4:=Cj Dd De Ad Ae lB.length cd ce lB we (Rd'.out.nx (by decide) ne) re rfl (by omega);have Ne:=ah (Nd.out.tr ne);have HS4:=ah hs4;clear ne re Zb hs4;go_wp2_with fail;refine HS4.out.mono ?_;rintro e wf ⟨rfl,nf⟩;have Nf:=ah (Ne.out.tr nf);clear nf;go_wp2_with fail;refine (Xv.out _ Nf.out).mono ?_;rintro e wg ⟨rfl,rfl⟩;go_wp2_with fail;go_ret;exact ⟨rfl,N2.out.tr Nf.out⟩
theorem walks:Walks 4 Tryz.f4:=by
 intro H enc W args ds ps h;rw[Tryz.params4]at h;obtain ⟨A,n,c,xs,vs,ds1,q,rfl,hl,hr,ok,hn,hc,h1⟩:=h.bytes;have e3:=h1.nil;simp at e3;subst e3;exact walk A n c xs W hr ok hl hn (by omega)
theorem proved:Rows.ColumnReadsSaid:=
 OpenClaim.holds_of_wide 4 Tryz.f4 rfl rfl rfl rfl rfl rfl rfl ⟨rfl,rfl,rfl,rfl,rfl⟩ rfl rfl rfl rfl rfl (by kernel_rfl) Tryz.func4 (by kernel_rfl)
  (of_decide_eq_true (by kernel_rfl)) (by unfold Func.isWrapper;first|(rw[if_pos (by decide+kernel)];kernel_rfl)|(rw[if_neg (by decide+kernel)];exact ⟨rfl,rfl⟩))
  (fun os started H enc _=>law_lifted (s:=Rows.columnReadsSpec) Tryz.func4 (by kernel_rfl) rfl rfl
    (by intro H ds h;rw[Tryz.params4]at h;match ds,h with|[d1],_=>rfl)
    (by rw[Tryz.params4];intro t ht;simp at ht;rcases ht with rfl<;>exact ⟨by kernel_rfl,of_decide_eq_true (by kernel_rfl)⟩) walks os started H enc
    (ChangeSpec.witness6 (enc:=enc) (C:=Tryz.checked) false ⟨#[], #[.slice none 0 0],[]⟩ 8 (by kernel_rfl) (by kernel_rfl) (by kernel_rfl) (by kernel_rfl)))
end Go.Proofs.YtfljcllpmbnjaaaGreat.ColumnReads
