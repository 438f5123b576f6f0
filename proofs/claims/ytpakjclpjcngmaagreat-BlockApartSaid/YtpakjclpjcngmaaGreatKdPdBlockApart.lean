/- BlockApart: unlike rows have unlike blocks; a block with a byte turned is none of the same rows. Conditions: none. -/
import Derived.Test.YtpakjclpjcngmaaGreatKdQ39
import Derived.Test.YtpakjclpjcngmaaGreatKdPdBkJ
import Derived.Test.YtpakjclpjcngmaaGreatKdQ20
import Derived.Test.YtpakjclpjcngmaaGreatKdQ19
import Derived.Test.YtpakjclpjcngmaaGreatKdPdSzR
import Derived.Test.YtpakjclpjcngmaaGreatKdQ40
import Derived.Shelf.Vars
set_option maxRecDepth 100000
set_option maxHeartbeats 32000000
set_option linter.unusedVariables false
namespace Go.Proofs.YtpakjclpjcngmaaGreat.BlockApart
open Go.RowKit Go.Proofs.YtpakjclpjcngmaaGreat
open Go.ChangeShapes Go.WideShapes Go.ChangeAt
theorem kU.Yy {w w':World} {zs:List RV} {A:Option Addr} {c:Nat} (h:fE w w' (.slice A zs.length c) zs) (hf:∀z∈zs,z.row.few):xG w' (fun k=>k<w'.heap.size) A zs:=
 ⟨h.rd,fun x hx=>⟨(h.ok x hx).ch (Ch.refl (fun _=>False) _) (fun _ _ _ hf=>hf) fun k hk=>hk.2.1,by have:=(hf x hx).2;omega⟩⟩
theorem aaR {W w:World} {t:TypeId} {size k n c:Nat} {xs:List Value} (h:ay W w t size (.slice (some ⟨k,0,none⟩) n c) n xs):n<=c:=by
 obtain ⟨_,_,ee,hcap, -⟩:=h.form;injection ee with _ _ ee;omega
theorem turned {l:List au} {per:Int} (h:jl l per=0) (i y:Nat) (l':List au) (hi:i<(aT l per.toNat).length) (hy:y≠(aT l per.toNat).getD i 0) (hb:UC ((aT l per.toNat).set i y)=some l'):l'≠l:=fun e=>by
 subst e;obtain ⟨q,h2,e2⟩:=z6u hb;have:=zU h h2 e2.symm;have e3:=e2.trans (Eq.refl _);rw[←this]at e3;have e4:=congrArg (fun z=>z.getD i 0) e3;simp only[List.getD,List.getElem?_set_self hi,Option.getD_some]at e4;exact hy (e4.symm.trans rfl)
theorem QE {l:List au} (h:iP l=true):fK iw l=l:=Wi z4e (JR.1 h).2.2
theorem CU {l:List au} (h:iP l=true):∀x∈l,x.aB.length<=1000000000:=fun x hx=>by
 have:=(z4z (PI ((JR.1 h).2.1 x hx).1).2.2.1).1;omega
theorem same_iff {l m:List au} {per:Int} (h:jl l per=0) (h2:jl m per=0):aT l per.toNat=aT m per.toNat↔l=m:=⟨OQ h h2,fun e=>by rw[e]⟩
theorem walk (A A':Option Addr) (c c':Nat) (l ls:List RV) (per at_:Int) (Jv:Nat) (W:World) (h:Rd W (fun k=>k<W.heap.size) 9 A l.length (ji l)) (hk:∀x∈l,(x.ok W (fun k=>k<W.heap.size)/\x.row.small)/\x.row.aB.length<=4398046511104) (hc:l.length<=c) (hcm:c<=maxLen)
 (h':Rd W (fun k=>k<W.heap.size) 9 A' ls.length (ji ls)) (hk':∀x∈ls,(x.ok W (fun k=>k<W.heap.size)/\x.row.small)/\x.row.aB.length<=4398046511104) (hc':ls.length<=c') (hcm':c'<=maxLen) (hp:i64 per) (hby:Jv<256) (hm0:∃m,W.cell? ⟨0,0,none⟩=some (.int .i64 m)):
 Calls Tryz.prog 9 #[.slice A l.length c,.slice A' ls.length c',.int .i64 per,.int .i64 at_,.int .u8 (Jv:Int)] W fun e w'=>e=.returned (.bool true)/\Nx W w':=by
 obtain ⟨m,hm⟩:=hm0;have HZ:=ah (fun (w':World) (c':Nx W w')=>show w'.cell? ⟨0,0,none⟩=some (.int .i64 m) from (c'.cell (p:=⟨0,0,none⟩) (World.block_lt_of_cell? W _ hm)).trans hm);have HLV:=ah (fun (w':World) (c':Nx W w')=>CX w' m (HZ.out w' c'));have hl63:l.length<=9223372036854775807:=by have:=hcm;unfold maxLen at this;omega
 have hl63':ls.length<=9223372036854775807:=by have:=hcm';unfold maxLen at this;omega
 have HL:=ah (fun (w':World) (c':Nx W w')=>h.nx (by decide) c');have HL2:=ah (fun (w':World) (c':Nx W w')=>h'.nx (by decide) c');have HK:Hid (∀w',Nx W w'->∀x∈l,(x.ok w' (fun k=>k<W.heap.size)/\x.row.mid)/\x.row.aB.length<=4398046511104):=ah fun w' c' x hx=>⟨⟨(hk x hx).1.1.ch c' (fun _ _ _ hf=>hf) fun _ hd=>hd,(hk x hx).1.2,by have:=(hk x hx).2;omega⟩,(hk x hx).2⟩;have HK2:Hid (∀w',Nx W w'->∀x∈ls,(x.ok w' (fun k=>k<W.heap.size)/\x.row.mid)/\x.row.aB.length<=4398046511104):=ah fun w' c' x hx=>⟨⟨(hk' x hx).1.1.ch c' (fun _ _ _ hf=>hf) fun _ hd=>hd,(hk' x hx).1.2,by have:=(hk' x hx).2;omega⟩,(hk' x hx).2⟩;clear h hk hm h' hk';by_cases hs:l.length<=60
 ·have k1:decide ((60:Int)<(l.length:Int))=false:=by rw[decide_eq_false_iff_not];omega
  by_cases hs':ls.length<=60
  ·have k2':decide ((60:Int)<(ls.length:Int))=false:=by rw[decide_eq_false_iff_not];omega
   have HB1:=ah (fun (w':World) (c1:Nx W w')=>z4m (c:=c) (HL.out w' c1) rfl (by omega) hc (fun x hx=>(HK.out w' c1 x hx).1) per hp.1 hp.2);have HB2:=ah (fun (w':World) (c1:Nx W w')=>z4m (c:=c') (HL2.out w' c1) rfl (by omega) hc' (fun x hx=>(HK2.out w' c1 x hx).1) per hp.1 hp.2);have UU:=ah (fun (w':World) (c1:Nx W w')=>z36 (c:=c) (d:=c') (w:=w') (l:=l) (ls:=ls) ⟨HL.out w' c1,fun x hx=>⟨(HK.out w' c1 x hx).1.1,(HK.out w' c1 x hx).2⟩⟩ rfl (by omega) ⟨HL2.out w' c1,fun x hx=>⟨(HK2.out w' c1 x hx).1.1,(HK2.out w' c1 x hx).2⟩⟩ rfl);obtain ⟨R,hR⟩:∃R,R=l.map fun x=>x.row:=⟨_,rfl⟩;obtain ⟨R',hR'⟩:∃R,R=ls.map fun x=>x.row:=⟨_,rfl⟩;rw[←hR]at HB1 UU;rw[←hR']at HB2 UU;have HRE:=ah hR;clear hR hR';unfold Vg at HB1 HB2;go_enter Tryz.func9,Tryz.ntmps9;go_wp2_with fail;refine (HLV.out _ (Ch.refl _ _)).mono ?_;rintro e w1 ⟨rfl,n1⟩;have M1:=ah n1;clear n1 HLV;go_wp2_with fail;refine (HB1.out _ M1.out).mono ?_;rintro e w2 ⟨hb1,hk1⟩;by_cases e1:jl R per=0
   ·obtain ⟨k2,cap2,rfl,o2⟩:=hk1 e1
    have O2:=ah o2;have hcap:=aaR o2;have E1:=ah e1;have N2:=ah o2.nx;have M2:=ah (M1.out.tr o2.nx);have mO:=ah (z4d e1);have EM:=ah (turned e1);have hmay:=(Yt e1).2.2.2.1;have hxn:(aT R per.toNat).length<=1000000:=by have:=(Yt e1).2.2.2.2;omega
    have hx0:8<=(aT R per.toNat).length:=by have:=z4J (bK per.toNat R);unfold aT;omega
    have HSO:Hid (fK iw (l.map fun x=>x.row)=R):=ah (by rw[←HRE.out];exact QE hmay);have HLB:Hid (∀x∈l,x.row.aB.length<=1000000000):=ah fun x hx=>CU hmay x.row (by rw[HRE.out];exact List.mem_map_of_mem hx);have LH:Hid (∀x∈R,x.aB.length<=4398046511104):=ah fun x hx=>by have:=CU hmay x hx;omega
    have HEQ:=ah (fun e2:jl R' per=0=>same_iff e1 e2);have q1:(jl R per==0)=true:=by rw[e1];rfl
    clear hb1 hk1 HB1 o2 e1 hmay;obtain ⟨X,hXe⟩:∃X,X=aT R per.toNat:=⟨_,rfl⟩;rw[←hXe]at O2 hcap mO EM hxn hx0 HEQ ⊢;clear hXe;obtain ⟨u,hu⟩:∃u:Nat,IntKind.u64.wrap at_=(u:Int):=⟨(IntKind.u64.wrap at_).toNat,by rw[IntKind.wrap_u64];omega⟩;have hlw:IntKind.u64.wrap (X.length:Int)=(X.length:Int):=by rw[IntKind.wrap_u64];omega
    have hmod:(u:Int) % (X.length:Int)=((u % X.length:Nat):Int):=(by simp);have hil:u % X.length<X.length:=Nat.mod_lt _ (by omega);obtain ⟨i,hi⟩:∃i,u % X.length=i:=⟨_,rfl⟩;rw[hi]at hmod hil;have htm:(u:Int).tmod (X.length:Int)=(i:Int):=(by rw[Int.tmod_eq_emod_of_nonneg (by omega),hmod]);have hxl:=z19 mO.out i;obtain ⟨x,hx⟩:∃x,X.getD i 0=x:=⟨_,rfl⟩;rw[hx]at hxl;have HX:=ah hx;clear hx hi;go_wp2_with fail;refine (HB2.out _ M2.out).mono ?_;rintro e w2b ⟨hb2,hk2⟩;by_cases e2:jl R' per=0
    ·obtain ⟨k3,cap3,rfl,o3⟩:=hk2 e2
     have afq:=ah (HEQ.out e2);have hoy:=z4d e2;have HSA:=ah (QL _ _ _ _ _ cap2 _ cap3 _ _ w2b (O2.out.tr o3.nx).rd o3.rd mO.out hoy);have M2b:=ah (M2.out.tr o3.nx);have O2b:=ah (O2.out.tr o3.nx);clear hb2 hk2 HB2 HEQ hoy o3;generalize aT R' per.toNat=Y at *;go_wp2_with fail;refine HSA.out.mono ?_;rintro e w2c ⟨rfl,rfl⟩;go_wp2_with fail;refine (UU.out _ M2b.out).mono ?_;rintro e w3 ⟨bb,rfl,hbb,n3⟩
     obtain rfl:bb=decide (X=Y):=by
      rw[Bool.eq_iff_iff,hbb,decide_eq_true_iff,afq.out]
     have M3:=ah (M2b.out.tr n3);have O3:=ah (O2b.out.tr n3);have hq:(decide (X=Y) !=decide (X=Y))=false:=(by simp);clear hbb n3 UU HSA afq O2 O2b M2 M2b;generalize decide (X=Y)=dd at *;by_cases hb0:Jv=0
     ·subst hb0
      go_wp2_with fail;go_ret;exact ⟨rfl,M3.out⟩
     ·have hbq:((Jv:Int)==0)=false:=by rw[beq_eq_false_iff_ne];omega
      have c1:w3.cell? ⟨k2,i,none⟩=some (.int .u8 (x:Int)):=by
       have:=(O3.out.own.cellAt i (by omega)).trans (Pn hil);rwa [HX.out]at this
      have hfz:=O3.out.own.frozenAt i
      have hne:x ^^^ Jv≠x:=fun h=>hb0 (by
       have h2:=congrArg (x ^^^ ·) h;simpa [←Nat.xor_assoc]using h2)
      have hyl:x ^^^ Jv<256:=Nat.xor_lt_two_pow (n:=8) hxl hby;have aau:=u8_xor_nat x Jv hxl hby;obtain ⟨y,hy⟩:∃y,x ^^^ Jv=y:=⟨_,rfl⟩;rw[hy]at hne hyl aau;clear hy
      have O4:Hid (ay w1 (w3.setCell ⟨k2,i,none⟩ (.int .u8 (y:Int))) 5 1 (.slice (some ⟨k2,0,none⟩) X.length cap2) X.length (bl (X.set i y))):=by
       have Td:(bl X).set i (.int .u8 (y:Int))=bl (X.set i y):=(by simp[bl,List.map_set]);have:=O3.out.own.stored i (.int .u8 (y:Int));rw[Td]at this;exact ah ⟨this.1,O3.out.nx.setCell (fun hlt=>absurd hlt (Nat.not_lt.2 (O3.out.lt k2 rfl).1)) _⟩
      have M4:=ah (M1.out.tr O4.out.nx)
      have okb:okB (X.set i y):=fun z hz=>by
       rcases List.mem_or_eq_of_mem_set hz with h|h
       ·exact mO.out z h
       ·rw[h];exact hyl
      have Vw:=ah (vV (c:=cap2) O4.out.jZ (fun j e=>by have:=(O4.out.lt k2 rfl).2;omega) okb (by rw[List.length_set]) hxn hcap m (HZ.out _ M4.out));have HT:=ah (fun l' h=>EM.out i y l' hil (by rw[HX.out];exact hne) h);clear okb hne EM O3;go_wp2_with fail;refine Vw.out.mono ?_;intro e w5 hgt;cases Iw:UC (X.set i y) with
      |none=>
       rw[Iw]at hgt;obtain ⟨rfl,n5⟩:=hgt;clear Vw HT Iw;go_wp2_with fail;go_ret;exact ⟨rfl,M4.out.tr n5⟩
      |some l'=>
       rw[Iw]at hgt;have hl':=HT.out l' Iw;obtain ⟨zs,A5,c5,rfl,hz5,ro5,hf5⟩:=hgt;have M5:=ah (M4.out.tr ro5.own.nx);have RO5:=ah ro5;have HZ5:=ah hz5;have HF5:=ah hf5
       have hzl:zs.length<=1000000:=by
        obtain ⟨per',hb', -⟩:=z6u Iw;have h1:=(Yt hb').2.2.1;rw[←hz5,List.length_map]at h1;omega
       have HL':=ah hl';have HST:=ah (vS (c:=c) (HL.out w5 M5.out) rfl (by omega) (fun x hx=>⟨(HK.out w5 M5.out x hx).1.1,HLB.out x hx⟩));clear Vw HT Iw hz5 ro5 hf5 hl';go_wp2_with fail;refine HST.out.mono ?_;rintro e w6 ⟨v6,ys,rfl,ro6,hy6⟩;obtain ⟨A6,c6,rfl,hc6, -⟩:=ro6.form;have N6:=ah ro6.own.nx;have hys:ys.map (fun x=>x.row)=R:=hy6.trans HSO.out;have HYS:=ah hys;have HSR:=ah (z36 (c:=c5) (d:=c6) (kU.Yy (RO5.out.tr N6.out) HF5.out) rfl (by omega) ⟨ro6.rd,fun x hx=>⟨(ro6.ok x hx).ch (Ch.refl (fun _=>False) _) (fun _ _ _ hf=>hf) fun k hk=>hk.2.1,LH.out x.row (by rw[←hys];exact List.mem_map_of_mem hx)⟩⟩ rfl);clear ro6 hy6 hys HST;go_wp2_with fail;refine HSR.out.mono ?_;rintro e w7 ⟨bb,rfl,hbb,n7⟩
       have hbf:bb=false:=by
        cases bb
        ·rfl
        ·exact absurd (HZ5.out.symm.trans ((hbb.1 rfl).trans HYS.out)) HL'.out
       subst hbf;clear hbb;go_wp2_with fail;go_ret;exact ⟨rfl,(M5.out.tr N6.out).tr n7⟩
    ·obtain ⟨rfl,n3⟩:=hb2 e2
     have q2:(jl R' per==0)=false:=by rw[beq_eq_false_iff_ne];exact e2
     have M3:=ah (M2.out.tr n3);have O3:=ah (O2.out.tr n3);clear hb2 hk2 HB2 HEQ UU n3 e2 O2 M2;by_cases hb0:Jv=0
     ·subst hb0
      go_wp2_with fail;go_ret;exact ⟨rfl,M3.out⟩
     ·have hbq:((Jv:Int)==0)=false:=by rw[beq_eq_false_iff_ne];omega
      have c1:w2b.cell? ⟨k2,i,none⟩=some (.int .u8 (x:Int)):=by
       have:=(O3.out.own.cellAt i (by omega)).trans (Pn hil);rwa [HX.out]at this
      have hfz:=O3.out.own.frozenAt i
      have hne:x ^^^ Jv≠x:=fun h=>hb0 (by
       have h2:=congrArg (x ^^^ ·) h;simpa [←Nat.xor_assoc]using h2)
      have hyl:x ^^^ Jv<256:=Nat.xor_lt_two_pow (n:=8) hxl hby;have aau:=u8_xor_nat x Jv hxl hby;obtain ⟨y,hy⟩:∃y,x ^^^ Jv=y:=⟨_,rfl⟩;rw[hy]at hne hyl aau;clear hy
      have O4:Hid (ay w1 (w2b.setCell ⟨k2,i,none⟩ (.int .u8 (y:Int))) 5 1 (.slice (some ⟨k2,0,none⟩) X.length cap2) X.length (bl (X.set i y))):=by
       have Td:(bl X).set i (.int .u8 (y:Int))=bl (X.set i y):=(by simp[bl,List.map_set]);have:=O3.out.own.stored i (.int .u8 (y:Int));rw[Td]at this;exact ah ⟨this.1,O3.out.nx.setCell (fun hlt=>absurd hlt (Nat.not_lt.2 (O3.out.lt k2 rfl).1)) _⟩
      have M4:=ah (M1.out.tr O4.out.nx)
      have okb:okB (X.set i y):=fun z hz=>by
       rcases List.mem_or_eq_of_mem_set hz with h|h
       ·exact mO.out z h
       ·rw[h];exact hyl
      have Vw:=ah (vV (c:=cap2) O4.out.jZ (fun j e=>by have:=(O4.out.lt k2 rfl).2;omega) okb (by rw[List.length_set]) hxn hcap m (HZ.out _ M4.out));have HT:=ah (fun l' h=>EM.out i y l' hil (by rw[HX.out];exact hne) h);clear okb hne EM O3;go_wp2_with fail;refine Vw.out.mono ?_;intro e w5 hgt;cases Iw:UC (X.set i y) with
      |none=>
       rw[Iw]at hgt;obtain ⟨rfl,n5⟩:=hgt;clear Vw HT Iw;go_wp2_with fail;go_ret;exact ⟨rfl,M4.out.tr n5⟩
      |some l'=>
       rw[Iw]at hgt;have hl':=HT.out l' Iw;obtain ⟨zs,A5,c5,rfl,hz5,ro5,hf5⟩:=hgt;have M5:=ah (M4.out.tr ro5.own.nx);have RO5:=ah ro5;have HZ5:=ah hz5;have HF5:=ah hf5
       have hzl:zs.length<=1000000:=by
        obtain ⟨per',hb', -⟩:=z6u Iw;have h1:=(Yt hb').2.2.1;rw[←hz5,List.length_map]at h1;omega
       have HL':=ah hl';have HST:=ah (vS (c:=c) (HL.out w5 M5.out) rfl (by omega) (fun x hx=>⟨(HK.out w5 M5.out x hx).1.1,HLB.out x hx⟩));clear Vw HT Iw hz5 ro5 hf5 hl';go_wp2_with fail;refine HST.out.mono ?_;rintro e w6 ⟨v6,ys,rfl,ro6,hy6⟩;obtain ⟨A6,c6,rfl,hc6, -⟩:=ro6.form;have N6:=ah ro6.own.nx;have hys:ys.map (fun x=>x.row)=R:=hy6.trans HSO.out;have HYS:=ah hys;have HSR:=ah (z36 (c:=c5) (d:=c6) (kU.Yy (RO5.out.tr N6.out) HF5.out) rfl (by omega) ⟨ro6.rd,fun x hx=>⟨(ro6.ok x hx).ch (Ch.refl (fun _=>False) _) (fun _ _ _ hf=>hf) fun k hk=>hk.2.1,LH.out x.row (by rw[←hys];exact List.mem_map_of_mem hx)⟩⟩ rfl);clear ro6 hy6 hys HST;go_wp2_with fail;refine HSR.out.mono ?_;rintro e w7 ⟨bb,rfl,hbb,n7⟩
       have hbf:bb=false:=by
        cases bb
        ·rfl
        ·exact absurd (HZ5.out.symm.trans ((hbb.1 rfl).trans HYS.out)) HL'.out
       subst hbf;clear hbb;go_wp2_with fail;go_ret;exact ⟨rfl,(M5.out.tr N6.out).tr n7⟩
   ·obtain ⟨rfl,n2⟩:=hb1 e1
    have M2:=ah (M1.out.tr n2);have q1:(jl R per==0)=false:=by rw[beq_eq_false_iff_ne];exact e1
    have q1b:(jl R per !=0)=true:=by rw[bne_iff_ne];exact e1
    clear hb1 hk1 n2 e1 HB1;go_wp2_with fail;refine (HB2.out _ M2.out).mono ?_;rintro e w3 ⟨hb2,hk2⟩;by_cases e2:jl R' per=0
    ·obtain ⟨k3,cap3,rfl,o3⟩:=hk2 e2
     have M3:=ah (M2.out.tr o3.nx);clear hb2 hk2 o3;go_wp2_with fail;go_ret;exact ⟨rfl,M3.out⟩
    ·obtain ⟨rfl,n3⟩:=hb2 e2
     have M3:=ah (M2.out.tr n3);clear hb2 hk2 n3;go_wp2_with fail;go_ret;exact ⟨rfl,M3.out⟩
  ·have k2':decide ((60:Int)<(ls.length:Int))=true:=by rw[decide_eq_true_eq];omega
   go_enter Tryz.func9,Tryz.ntmps9;go_wp2_with fail;refine (HLV.out _ (Ch.refl _ _)).mono ?_;rintro e w1 ⟨rfl,n1⟩;have M1:=ah n1;clear n1;go_wp2_with fail;refine (HLV.out _ M1.out).mono ?_;rintro e w2 ⟨rfl,n2⟩;go_wp2_with fail;go_ret;exact ⟨rfl,M1.out.tr n2⟩
 ·have k1:decide ((60:Int)<(l.length:Int))=true:=by rw[decide_eq_true_eq];omega
  go_enter Tryz.func9,Tryz.ntmps9;go_wp2_with fail;refine (HLV.out _ (Ch.refl _ _)).mono ?_;rintro e w1 ⟨rfl,n1⟩;have M1:=ah n1;clear n1;go_wp2_with fail;refine (HLV.out _ M1.out).mono ?_;rintro e w2 ⟨rfl,n2⟩;go_wp2_with fail;go_ret;exact ⟨rfl,M1.out.tr n2⟩
theorem CV {W:World} (h:W.ShapedOpen Tryz.prog):∃m,W.cell? ⟨0,0,none⟩=some (.int .i64 m):=
 cell_of_shapedOpen_int (zero:= #[.int .i64 0]) (t:=3) h (of_decide_eq_true (by kernel_rfl)) (by kernel_rfl) rfl (by kernel_rfl) (by kernel_rfl) Tryz.underlying3
section
variable {H : Type} {enc : TypeId × Value → H} {W : World}
theorem VN {args:Array Value} {ds:List (DataW H)} {ps:List MemPlace} {ts:List TypeId} (h:Told enc (5::ts) W args ds ps):∃(a:Nat) (vs:List Value) (ds':List (DataW H)) (q:List MemPlace),args=(.int .u8 (a:Int)::vs).toArray/\a<256/\Told enc ts W vs.toArray ds' q:=by
 obtain ⟨v,vs,d,ds',p,q,rfl,rfl,h0,⟨b,ho⟩,_,_,h'⟩:=h.cons;obtain ⟨a,rfl,rfl,rfl,wf⟩:=open_int Tryz.underlying5 ho h0;have h1:IntKind.u8.min=0:=rfl;have h2:IntKind.u8.max=255:=rfl;simp only[Lit.wf,Bool.and_eq_true,decide_eq_true_eq]at wf;obtain ⟨x,rfl⟩:=Int.eq_ofNat_of_zero_le (show 0<=a by omega);exact ⟨x,vs,ds',q,rfl,by omega,h'⟩
end
theorem walks:UK 9 Tryz.f9:=by
 intro H enc W args ds ps hsh h;rw[Tryz.params9]at h;obtain ⟨A,c,l,vs,ds1,q,rfl,hr,hk,hc,hc2,h1⟩:=h.Yz;obtain ⟨A',c',ls,vs2,ds2,q2,e1,hr',hk',hc',hc2',h2⟩:=h1.Yz;obtain ⟨a,vs3,ds3,q3,e2,ha,h3⟩:=h2.int;obtain ⟨b,vs4,ds4,q4,e3,hb,h4⟩:=h3.int;obtain ⟨y,vs5,ds5,q5,e4,hy,h5⟩:=VN h4;have e5:=h5.nil;simp at e1 e2 e3 e4 e5;subst e5;subst e4;subst e3;subst e2;subst e1;exact walk A A' c c' l ls a b y W hr hk hc hc2 hr' hk' hc' hc2' ha hy (CV hsh)
theorem proved:Rows.BlockApartSaid:=
 OpenClaim.holds_of_wide 9 Tryz.f9 rfl rfl rfl rfl rfl rfl rfl ⟨rfl,rfl,rfl,rfl,rfl⟩ rfl rfl rfl rfl rfl (by as_aux_lemma=>kernel_rfl) Tryz.func9 tK
  (of_decide_eq_true (by as_aux_lemma=>kernel_rfl)) (by as_aux_lemma=>(unfold Func.isWrapper;first|(rw[if_pos (by decide+kernel)];kernel_rfl)|(rw[if_neg (by decide+kernel)];exact ⟨rfl,rfl⟩)))
  (fun os started H enc _=>Ii (s:=Rows.blockApartSpec) Tryz.func9 (by as_aux_lemma=>kernel_rfl) rfl rfl
    (by intro H ds h;rw[Tryz.params9]at h;match ds,h with|[d1,d2,d3,d4,d5],_=>rfl)
    (by rw[Tryz.params9];intro t ht;simp at ht;rcases ht with rfl|rfl|rfl<;>exact ⟨by kernel_rfl,of_decide_eq_true (by as_aux_lemma=>kernel_rfl)⟩) walks os started H enc
    (ChangeSpec.witness6 (enc:=enc) (C:=Tryz.checked) false ⟨#[], #[.slice none 0 0,.slice none 0 0,.int .i64 0,.int .i64 0,.int .u8 0],[]⟩ 8 (by as_aux_lemma=>kernel_rfl) (by as_aux_lemma=>kernel_rfl) (by as_aux_lemma=>kernel_rfl) (by as_aux_lemma=>kernel_rfl)))
end Go.Proofs.YtpakjclpjcngmaaGreat.BlockApart
