/- Contracts and plain laws that the last text rests on. Conditions: each theorem states its own. -/
import Derived.Test.YtdbfejfhpkakhaaGreatKKd2Q10
import Derived.Test.YtdbfejfhpkakhaaGreatKKd2Q7
import Derived.BigRegion
set_option maxRecDepth 100000
set_option maxHeartbeats 16000000
set_option linter.unusedVariables false
set_option linter.unusedSimpArgs false
namespace Go.Proofs.YtdbfejfhpkakhaaGreat
open Go.RowKit
section
variable {q : QryE} {p : aC → Bool} {l : List aC} {x : aC}
end
section
variable {w : World} {D D2 : Nat → Prop}
end
section
variable {w : World} {D D2 : Nat → Prop} {A B : Option Addr} {n c m d : Nat} {l ls : List RV}
end
theorem LQ (x y:aC):decide (0<dQ x y)=dN y x:=by
 unfold dN;rw[decide_eq_decide];rcases Int.lt_trichotomy x.time y.time with h|h|h
 ·rw[Es h];omega
 ·rcases Int.lt_trichotomy x.maker y.maker with h1|h1|h1
  ·rw[Ep h h1];omega
  ·rcases Int.lt_trichotomy x.seq y.seq with h2|h2|h2
   ·rw[Eo h h1 h2];omega
   ·rcases Int.lt_trichotomy x.place y.place with h3|h3|h3
    ·rw[En h h1 h2 h3];omega
    ·rw[cmp_eq h h1 h2 h3];omega
    ·rw[Et h h1 h2 h3];omega
   ·rw[Eu h h1 h2];omega
  ·rw[Ew h h1];omega
 ·rw[Ey h];omega
theorem Ae {α:Type} (lt:α->α->Bool) (l:List α) (x:α):bP lt (l++[x])=iC lt x (bP lt l):=by
 unfold bP;rw[List.foldl_append];rfl
theorem FV {α:Type} {lt:α->α->Bool} {x:α} {l:List α} {j:Nat} (h0:0<j) (hj:j-1<l.length) (h:lt x l[j-1]=true):fA lt x l j=fA lt x l (j-1):=by
 obtain ⟨i,rfl⟩:∃i,j=i+1:=⟨j-1,by omega⟩;simp only[Nat.add_sub_cancel]at hj h ⊢;conv=>lhs;unfold fA
 rw[List.getElem?_eq_getElem hj];simp only;rw[if_pos h]
theorem FU {α:Type} {lt:α->α->Bool} {x:α} {l:List α} {j:Nat} (h0:0<j) (hj:j-1<l.length) (h:lt x l[j-1]=false):fA lt x l j=j:=by
 obtain ⟨i,rfl⟩:∃i,j=i+1:=⟨j-1,by omega⟩;simp only[Nat.add_sub_cancel]at hj h;unfold fA;rw[List.getElem?_eq_getElem hj];simp only;rw[h];rfl
def QJ (l:List RV) (w:World) (e:Ending) (w':World):Prop:=∃v,e=.returned v/\aF w w' 79 9 v l.length (bM (bP dw l))
section
variable {w : World} {D : Nat → Prop} {A : Option Addr} {n c : Nat} {l : List RV}
theorem FB (h:Rd w D 9 A n (bM l)) (hl:l.length=n) (hn:n<=1000000):
 Calls Tryz.prog 32 #[.slice A n c] w (QJ l w):=by
 obtain ⟨i0,hi0,hz0,hz1,hz2⟩:=info_parts Tryz.fZ;have Hl:=ah hl;have H:=ah h;clear hl h;have H0:=ah (aF.lit w w 79 (Ch.refl _ _) 9);go_enter Tryz.func32,Tryz.ntmps32;go_wp2_with fail;go_loopw [3,11] (fun v i wr=>∃(k:Nat) (os:List RV),k<=n/\os.length=k/\i=.int .i64 (k:Int)/\Hid (aF w wr 79 9 v k (bM os))/\Hid (os=bP dw (l.take k))) (fun _ i _=>n-(intOf i).toNat)
 case atStart=>exact ⟨0,[],Nat.zero_le _,rfl,rfl,H0,ah rfl⟩
 case round=>
  obtain ⟨w4,rfl⟩:∃w4:World,w4=wr:=⟨_,rfl⟩;obtain ⟨k,os,hkn,hok,rfl,Hr,Ho⟩:=hrel;have Zu:=ah hok;clear hok;obtain ⟨A6,c6,hu3,hc6,hm6⟩:=Hr.out.form;subst hu3;by_cases hlt:k<n
  ·have hkl:k<l.length:=by rw[Hl.out];exact hlt
   obtain ⟨ad,rfl,hb,p0,p1,p2,p3,p4,p5,p6,p7,p8⟩:=qg (H.out.nx (by decide) Hr.out.nx) hkl;have HT:=ah (show bP dw (l.take (k+1))=iC dw l[k] os by rw[List.take_succ_eq_append_getElem hkl,Ae,Ho.out]);clear hb;generalize l[k]=x at *;obtain ⟨⟨kind,time,ak,text,value,null,maker,seq,place⟩,A1,c1⟩:=x;simp only at p0 p1 p2 p3 p4 p5 p6 p7 p8;have HB:=ah (aG.new w4 79 #[.int .i64 kind,.int .i64 time,.slice A1 ak.length c1,.string text,.int .i64 value,.bool null,.int .i64 maker,.int .i64 seq,.int .i64 place]);have SI:=ah (fun w' (c':Nx w4 w')=>Hr.out.rd.nx (by decide) c');generalize hX:(⟨⟨kind,time,ak,text,value,null,maker,seq,place⟩,A1,c1⟩:RV)=X at *;have HX:=ah hX;clear hX;go_upto_block 2 with fail
   go_cut [6] (fun s6 wx=>s6=.int .i64 ((fA dw X os os.length:Nat):Int)/\Hid (Nx (w4.alloc (.cells #[.int .i64 kind,.int .i64 time,.slice A1 ak.length c1,.string text,.int .i64 value,.bool null,.int .i64 maker,.int .i64 seq,.int .i64 place] 79)) wx))
   case first=>
    go_wp2_with fail;clear p0 p1 p2 p3 p4 p5 p6 p7 p8;go_loopw [6] (fun s6 wr=>∃j:Nat,j<=k/\s6=.int .i64 (j:Int)/\Hid (Nx (w4.alloc (.cells #[.int .i64 kind,.int .i64 time,.slice A1 ak.length c1,.string text,.int .i64 value,.bool null,.int .i64 maker,.int .i64 seq,.int .i64 place] 79)) wr)/\Hid (fA dw X os j=fA dw X os os.length)) (fun s6 _=>(intOf s6).toNat)
    case atStart=>exact ⟨k,Nat.le_refl _,rfl,ah (Ch.refl _ _),ah (by rw[Zu.out])⟩
    case round=>
     obtain ⟨w5,rfl⟩:∃w5:World,w5=wr:=⟨_,rfl⟩;obtain ⟨j,hj,rfl,hn5,Hp⟩:=hrel;by_cases hj0:0<j
     ·have hjl:j-1<os.length:=by rw[Zu.out];omega
      have HQ:=ah (fun w' (c':Nx w5 w')=>qg (SI.out w' ((((Ch.refl (fun _=>False) w4).alloc _).tr hn5.out).tr c')) hjl);have HQ2:=ah (fun w' (c':Nx w5 w')=>(HB.out.nx hn5.out).nx c');have HDn:=ah (fun h=>FV (lt:=dw) (x:=X) hj0 hjl h);have HSt:=ah (fun h=>FU (lt:=dw) (x:=X) hj0 hjl h);have fH:=ah (fun w=>uK os[j-1] X w);have hcp:decide (0<dQ os[j-1].row ⟨kind,time,ak,text,value,null,maker,seq,place⟩)=dw X os[j-1]:=by rw[←HX.out];exact LQ _ _
      rw[←HX.out]at fH;generalize os[j-1]=y at *;obtain ⟨⟨kind2,aU,bJ,bH,value2,bI,aP,seq2,aO⟩,A2,c2⟩:=y;unfold aK at fH;simp only at fH HQ hcp;obtain ⟨ad6,rfl, -, -⟩:=HQ.out _ (Ch.refl _ _);go_wp2_with fail;have hnd:Nx w5 w5.drew:=(Ch.refl _ w5).drew;refine wp_region_still_tail 9 rfl (by kernel_rfl) ?_;change wpStill _ _ w5.drew _ _ _;obtain ⟨ad6',ea, -,p0,p1,p2,p3,p4,p5,p6,p7,p8⟩:=HQ.out _ hnd;injection ea with ea;subst ea;have bq:=HQ2.out _ hnd;have q0:w5.drew.cell? ⟨w4.heap.size,0,none⟩=some (.int .i64 kind):=bq.cell 0;have q1:w5.drew.cell? ⟨w4.heap.size,1,none⟩=some (.int .i64 time):=bq.cell 1;have q2:w5.drew.cell? ⟨w4.heap.size,2,none⟩=some (.slice A1 ak.length c1):=bq.cell 2;have q3:w5.drew.cell? ⟨w4.heap.size,3,none⟩=some (.string text):=bq.cell 3;have q4:w5.drew.cell? ⟨w4.heap.size,4,none⟩=some (.int .i64 value):=bq.cell 4;have q5:w5.drew.cell? ⟨w4.heap.size,5,none⟩=some (.bool null):=bq.cell 5;have q6:w5.drew.cell? ⟨w4.heap.size,6,none⟩=some (.int .i64 maker):=bq.cell 6;have q7:w5.drew.cell? ⟨w4.heap.size,7,none⟩=some (.int .i64 seq):=bq.cell 7;have q8:w5.drew.cell? ⟨w4.heap.size,8,none⟩=some (.int .i64 place):=bq.cell 8;clear bq hnd;generalize w5.drew=w6 at *;simp only[List.take_succ_cons,List.take_zero,List.drop_succ_cons,List.drop_zero];have hd:decide ((0:Int)<(j:Int))=true:=by rw[decide_eq_true_iff];omega
      have hd2:decide (0<j)=true:=by rw[decide_eq_true_iff];exact hj0
      have hwr:IntKind.i64.wrap ((j:Int)-1)=(j:Int)-1:=IntWalk.i64_in _ (by omega);have htn:((j:Int)-1).toNat=j-1:=(by omega);have hb4:(1:Int)<=(j:Int):=(by omega);have hb1:(0:Int)<=(j:Int)-1:=(by omega);have hb2:(j:Int)-1<(k:Int):=(by omega);have hb3:j-1<k:=by omega
      repeat still_step
      refine wpStill_nil ?_;clear p0 p1 p2 p3 p4 p5 p6 p7 p8 q0 q1 q2 q3 q4 q5 q6 q7 q8 HQ HQ2;go_wp2_with fail;refine (fH.out _).mono ?_;rintro e w7 ⟨rfl,n7⟩;have N7:=ah (hn5.out.drew.tr n7);clear n7 fH;generalize dQ _ _=r at *;cases hv:dw X ⟨⟨kind2,aU,bJ,bH,value2,bI,aP,seq2,aO⟩,A2,c2⟩
      ·rw[hv]at hcp
       have HR:=ah ((HSt.out hv).symm.trans Hp.out);have hr:¬(0<r):=of_decide_eq_false hcp;clear hv hcp HDn HSt;go_wp2_with fail;go_meet
       exact ⟨by rw[←HR.out],N7⟩
      ·rw[hv]at hcp
       have HR:=ah ((HDn.out hv).symm.trans Hp.out);have hr:0<r:=of_decide_eq_true hcp;clear hv hcp HDn HSt;go_wp2_with fail;go_roundw
       case rel=>exact ⟨j-1,by omega,by go_num,N7,HR⟩
       case measure=>simp[intOf];omega
     ·obtain rfl:j=0:=by omega
      have HR:Hid (0=fA dw X os os.length):=ah Hp.out;have hd:decide ((0:Int)<((0:Nat):Int))=false:=rfl;go_wp2_with fail;go_quiet (fail)
      go_wp2_with fail;go_meet
      exact ⟨by rw[←HR.out],ah (hn5.out.drewN _)⟩
   case rest=>
    obtain ⟨rfl,N6⟩:=hcut;obtain ⟨w6,rfl⟩:∃w6:World,w6=wc:=⟨_,rfl⟩
    have hpl:fA dw X os os.length<=k:=by
     have:=t_ dw X os os.length;have:=Zu.out;omega
    obtain ⟨j,hj⟩:∃j,fA dw X os os.length=j:=⟨_,rfl⟩;rw[hj]at hpl ⊢;have HI:=ah (show iC dw X os=os.take j++[X]++os.drop j by unfold iC;rw[hj]);have N46:=ah (((Ch.refl (fun _=>False) w4).alloc _).tr N6.out);have HO6:=ah (Hr.out.tr N46.out);have HB6:=ah (HB.out.nx N6.out)
    have hrt:∀w',Nx w6 w'->Rd w' (fun TW=>(Value.slice A6 k c6).ownBlock=some TW/\w.heap.size<=TW/\TW<w4.heap.size) 9 A6 j (bM (os.take j)):=fun w' c'=>by
     have:=(SI.out w' (N46.out.tr c')).take hpl;unfold bM at this ⊢;rw[ZY RV.aQ]at this;exact this
    have hrc:∀w',Nx w6 w'->Rd w' (fun TW=>(Value.slice A6 k c6).ownBlock=some TW/\w.heap.size<=TW/\TW<w4.heap.size) 9 (if c6=j then A6 else A6.map (·.add (j * 9))) (k-j) (bM (os.drop j)):=fun w' c'=>by
     have:=(SI.out w' (N46.out.tr c')).cut (k:=j) (cap:=c6) hpl hc6;unfold bM at this ⊢;rw[ZX RV.aQ]at this;exact this
    have EI:=ah hrt;have Yx:=ah hrc;have hjc:j<=c6:=(by omega);clear hj hrt hrc N6 HB p0 p1 p2 p3 p4 p5 p6 p7 p8
    go_wp2_with (at_builtin;first
     |(refine z05 rfl (.tmp 31) (.tmp 34) _ rfl 79 i0 _ 9 96 Tryz.underlying34 hi0 hz0 hz1 hz2 rfl (by omega) rfl (aF.lit w6 w6 79 (Ch.refl _ _) 9) _ A6 j c6 _ rfl (EI.out _ ((Ch.refl _ w6).alloc _)) (IY _) (by simp only[maxLen];omega) (by omega) ?_;intro v7 w7 o7 m7;rw[Nat.zero_add,List.nil_append]at o7;have O7:=ah o7;have b7:=HB6.out.nx o7.nx;have e0:w7.cell? ⟨w4.heap.size,0,none⟩=some (.int .i64 kind):=b7.cell 0;have e1:w7.cell? ⟨w4.heap.size,1,none⟩=some (.int .i64 time):=b7.cell 1;have e2:w7.cell? ⟨w4.heap.size,2,none⟩=some (.slice A1 ak.length c1):=b7.cell 2;have e3:w7.cell? ⟨w4.heap.size,3,none⟩=some (.string text):=b7.cell 3;have e4:w7.cell? ⟨w4.heap.size,4,none⟩=some (.int .i64 value):=b7.cell 4;have e5:w7.cell? ⟨w4.heap.size,5,none⟩=some (.bool null):=b7.cell 5;have e6:w7.cell? ⟨w4.heap.size,6,none⟩=some (.int .i64 maker):=b7.cell 6;have e7:w7.cell? ⟨w4.heap.size,7,none⟩=some (.int .i64 seq):=b7.cell 7;have e8:w7.cell? ⟨w4.heap.size,8,none⟩=some (.int .i64 place):=b7.cell 8;clear o7 m7 b7)
     |(refine z04 _ rfl (.tmp 36) (.tmp 38) _ rfl w6.heap.size 79 i0 _ 9 96 Tryz.underlying34 hi0 hz0 hz1 hz2 rfl (by omega) v7 j _ rfl (O7.out.alloc _).own _ (some ⟨w7.heap.size,0,none⟩) 1 1 _ rfl (Rd.wW w7 ⟨⟨kind,time,ak,text,value,null,maker,seq,place⟩,A1,c1⟩) (IY _) (by simp only[maxLen];omega) (by omega) (by have:=O7.out.nx.size;simp;omega) ?_;intro v8 w8 Gf gr8 at8;obtain ⟨o8,m8⟩:=Di O7.out ((Ch.refl _ _).alloc _) Gf gr8 at8;have O8:=ah o8;clear Gf gr8 at8 o8 m8)
     |(refine z05 rfl (.tmp 40) (.tmp 43) _ rfl 79 i0 _ 9 96 Tryz.underlying34 hi0 hz0 hz1 hz2 rfl (by omega) rfl O8.out _ _ (k-j) _ _ rfl (Yx.out _ O8.out.nx) (IY _) (by simp only[maxLen];omega) (by omega) ?_;intro v9 w9 o9 m9;have O9:=ah o9;clear o9 m9))
    have O:=ah (show aF w w9 79 9 v9 (k+1) (bM (iC dw X os)) by
     have:=O9.out.weak HO6.out.nx;rw[show j+1+(k-j)=k+1 by omega]at this;rw[HI.out];rw[←HX.out];simpa [bM]using this)
    go_roundw
    case rel=>exact ⟨k+1,_,by omega,by rw[HI.out];have:=Zu.out;simp;omega,by go_num,O,ah HT.out.symm⟩
    case measure=>simp[intOf];omega
  ·have HR:=ah (show bP dw l=os by rw[Ho.out,List.take_of_length_le (by rw[Hl.out];omega)])
   have hkk:k=n:=(by omega);have HLn:=ah (show l.length=k by rw[Hl.out,hkk]);clear hkk;go_wp2_with fail;go_ret;exact ⟨_,rfl,by rw[HR.out,HLn.out];exact Hr.out⟩
end
end Go.Proofs.YtdbfejfhpkakhaaGreat
