/- Contracts and plain laws that the last text rests on. Conditions: each theorem states its own. -/
import Derived.Test.YtdbfejfhpkakhaaGreatKKd2Q4
import Derived.Deep.RegionHeld3
import Derived.StillTailTactics
import Derived.Deep.QuietTactic
import Derived.BigQuiet
import Derived.Test.YtdbfejfhpkakhaaGreatKKd2Q2
set_option maxRecDepth 100000
set_option maxHeartbeats 16000000
set_option linter.unusedVariables false
set_option linter.unusedSimpArgs false
namespace Go.Proofs.YtdbfejfhpkakhaaGreat
open Go.RowKit
theorem Gx (c k:Nat):((97:Int)<=c/\(c:Int)<=122/\fU c k=true)∨(¬(97:Int)<=c/\¬(0:Int)<k/\fU c k=false)∨((97:Int)<=c/\¬(c:Int)<=122/\¬(0:Int)<k/\fU c k=false)∨((97:Int)<=c/\¬(c:Int)<=122/\(0:Int)<k/\(48:Int)<=c/\¬(c:Int)<=57/\((c:Int)==95)=false/\fU c k=false)∨
 (¬(97:Int)<=c/\(0:Int)<k/\¬(48:Int)<=c/\((c:Int)==95)=false/\fU c k=false)∨(¬(97:Int)<=c/\(0:Int)<k/\(48:Int)<=c/\(c:Int)<=57/\fU c k=true)∨(¬(97:Int)<=c/\(0:Int)<k/\(48:Int)<=c/\¬(c:Int)<=57/\((c:Int)==95)=false/\fU c k=false)∨(¬(97:Int)<=c/\(0:Int)<k/\(48:Int)<=c/\¬(c:Int)<=57/\((c:Int)==95)=true/\fU c k=true):=by
 have T:(97<=c/\c<=122)∨(0<k/\((48<=c/\c<=57)∨c=95))->fU c k=true:=fun h=>by
  unfold fU;rw[Bool.or_eq_true,Bool.and_eq_true,Bool.or_eq_true];simp only[decide_eq_true_eq];exact h
 have F:¬((97<=c/\c<=122)∨(0<k/\((48<=c/\c<=57)∨c=95)))->fU c k=false:=fun h=>by
  cases hl:fU c k with
  |false=>rfl
  |true=>
   exfalso
   unfold fU at hl;rw[Bool.or_eq_true,Bool.and_eq_true,Bool.or_eq_true]at hl;simp only[decide_eq_true_eq]at hl;exact h hl
 by_cases a1:(97:Int)<=c
 ·by_cases a2:(c:Int)<=122
  ·exact .inl ⟨a1,a2,T (by omega)⟩
  ·by_cases b0:k=0
   ·exact .inr (.inr (.inl ⟨a1,a2,by omega,F (by omega)⟩))
   ·exact .inr (.inr (.inr (.inl ⟨a1,a2,by omega,by omega,by omega,by rw[beq_eq_false_iff_ne];omega,F (by omega)⟩)))
 ·by_cases b0:k=0
  ·exact .inr (.inl ⟨a1,by omega,F (by omega)⟩)
  ·by_cases b1:(48:Int)<=c
   ·by_cases b2:(c:Int)<=57
    ·exact .inr (.inr (.inr (.inr (.inr (.inl ⟨a1,by omega,b1,b2,T (by omega)⟩)))))
    ·by_cases b3:(c:Int)=95
     ·exact .inr (.inr (.inr (.inr (.inr (.inr (.inr ⟨a1,by omega,b1,b2,by rw[beq_iff_eq];exact b3,T (by omega)⟩))))))
     ·exact .inr (.inr (.inr (.inr (.inr (.inr (.inl ⟨a1,by omega,b1,b2,by rw[beq_eq_false_iff_ne];exact b3,F (by omega)⟩))))))
   ·exact .inr (.inr (.inr (.inr (.inl ⟨a1,by omega,b1,by rw[beq_eq_false_iff_ne];omega,F (by omega)⟩))))
theorem byte_at {s:ByteArray} {k:Nat} (h:k<s.size):jD s k=s[k].toNat:=by
 unfold jD;rw[Array.getElem?_eq_getElem (show k<s.data.size from h)];rfl
section
variable {w : World}
theorem name_any (s:ByteArray) (w:World) (hs:s.size<=9223372036854775807):Calls Tryz.prog 41 #[.string s] w fun en w'=>en=.returned (.bool (bK s))/\w=w':=by
 have hall:(∀i,i<s.size->fU (jD s i) i=true)->bK s=decide (1<=s.size/\s.size<=8):=fun h=>by
  unfold bK;rw[show ((List.range s.size).all fun i=>fU (jD s i) i)=true from Dh.2 h,Bool.and_true]
 have hbad:∀k (h:k<s.size),fU s[k].toNat k=false->bK s=false:=fun k h hf=>by
  unfold bK;rw[Bool.and_eq_false_iff];right
  rw[List.all_eq_false];refine ⟨k,List.mem_range.2 h,?_⟩;rw[byte_at h,hf];simp
 have QM:=ah hall;have CY:=ah hbad;clear hall hbad;go_enter Tryz.func41,Tryz.ntmps41;go_wp2_with fail;go_loop [7] (fun i=>∃k:Nat,k<=s.size/\i=.int .i64 k/\Hid (∀i,i<k->fU (jD s i) i=true)) (fun i=>s.size-(intOf i).toNat)
 case atStart=>exact ⟨0,by omega,rfl,ah (fun i hk=>by omega)⟩
 case round=>
  obtain ⟨k,hk,rfl,He⟩:=hrel;by_cases hlt:k<s.size
  ·have hB:=ah (CY.out k hlt)
   have hG:Hid (fU s[k].toNat k=true->∀i,i<k+1->fU (jD s i) i=true):=ah (fun h i hi=>by
    by_cases e:i=k
    ·subst e;rw[byte_at hlt];exact h
    ·exact He.out i (by omega))
   rcases Gx s[k].toNat k with ⟨c1,c2,c3⟩|⟨c1,c2,c3⟩|⟨c1,c2,c4,c3⟩|⟨c1,c2,c4,c5,c6,c7,c3⟩|⟨c1,c4,c5,c6,c3⟩|⟨c1,c2,c4,c5,c3⟩|⟨c1,c2,c4,c5,c6,c3⟩|⟨c1,c2,c4,c5,c6,c3⟩
   all_goals
    have Hc:=ah c3;clear c3
    first
    |(have Hk:=ah (hB.out Hc.out)
      go_wp2_with fail;go_ret;exact ⟨by rw[Hk.out];rfl,rfl⟩)
    |(go_wp2_with fail
      go_round
      case rel=>exact ⟨k+1,by omega,by go_num,ah (hG.out Hc.out)⟩
      case measure=>simp[intOf];omega)
  ·have hkk:s.size=k:=by omega
   have Hk:=ah (QM.out fun i hi=>He.out i (by omega));by_cases h1:1<=s.size
   ·have e:Hid (decide (1<=s.size/\s.size<=8)=decide ((s.size:Int)<=8)):=ah (by rw[decide_eq_decide];omega)
    clear hkk;go_wp2_with fail;go_ret;exact ⟨by rw[Hk.out,e.out];rfl,rfl⟩
   ·have e:Hid (decide (1<=s.size/\s.size<=8)=false):=ah (by simp[h1])
    clear hkk;go_wp2_with fail;go_ret;exact ⟨by rw[Hk.out,e.out];rfl,rfl⟩
end
def eU (x y:Int):Int:=if x<y then -1 else if y<x then 1 else 0
def or4 (a b c d:Int):Int:=if a=0 then (if b=0 then (if c=0 then d else c) else b) else a
def dQ (x y:aC):Int:=or4 (eU x.time y.time) (eU x.maker y.maker) (eU x.seq y.seq) (eU x.place y.place)
theorem WM (x y:Int):eU x y<0↔x<y:=by
 unfold eU;by_cases h:x<y
 ·simp[h]
 ·by_cases h2:y<x
  ·simp[h,h2]
  ·simp[h,h2]
theorem YZ (x y:Int):eU x y=0↔x=y:=by
 unfold eU;by_cases h:x<y
 ·simp[h];omega
 ·by_cases h2:y<x
  ·simp[h,h2];omega
  ·simp[h,h2];omega
theorem yx (x y:aC):decide (dQ x y<0)=dN x y:=by
 unfold dQ or4 dN;have a:=YZ x.time y.time;have b:=YZ x.maker y.maker;have c:=YZ x.seq y.seq;have a':=WM x.time y.time;have b':=WM x.maker y.maker;have c':=WM x.seq y.seq;have d':=WM x.place y.place;rw[Bool.eq_iff_iff,decide_eq_true_iff,decide_eq_true_iff];by_cases h1:x.time=y.time
 ·rw[if_pos (a.2 h1)]
  by_cases h2:x.maker=y.maker
  ·rw[if_pos (b.2 h2)]
   by_cases h3:x.seq=y.seq
   ·rw[if_pos (c.2 h3)];omega
   ·rw[if_neg (fun e=>h3 (c.1 e))];omega
  ·rw[if_neg (fun e=>h2 (b.1 e))];omega
 ·rw[if_neg (fun e=>h1 (a.1 e))];omega
section
variable {w : World} {D : Nat → Prop}
theorem Pn (x:Int) (w:World):Calls Tryz.prog 114 #[.int .i64 x] w fun e w'=>e=.returned (.bool false)/\w=w':=by
 go_enter Tryz.func114,Tryz.ntmps114;go_wp2_with fail;go_ret;exact ⟨rfl,rfl⟩
theorem Ez (x y:Int) (w:World):Calls Tryz.prog 87 #[.int .i64 x,.int .i64 y] w fun e w'=>e=.returned (.int .i64 (eU x y))/\w=w':=by
 have Hn:=ah Pn;by_cases h1:x<y
 ·have HR:Hid (eU x y= -1):=ah (if_pos h1)
  go_enter Tryz.func87,Tryz.ntmps87;go_wp2_with fail;refine (Hn.out _ _).mono ?_;rintro e w1 ⟨rfl,rfl⟩;go_wp2_with fail;refine (Hn.out _ _).mono ?_;rintro e w1 ⟨rfl,rfl⟩;go_wp2_with fail;go_ret;exact ⟨by rw[HR.out];rfl,rfl⟩
 ·by_cases h2:y<x
  ·have HR:Hid (eU x y=1):=ah ((if_neg h1).trans (if_pos h2))
   go_enter Tryz.func87,Tryz.ntmps87;go_wp2_with fail;refine (Hn.out _ _).mono ?_;rintro e w1 ⟨rfl,rfl⟩;go_wp2_with fail;refine (Hn.out _ _).mono ?_;rintro e w1 ⟨rfl,rfl⟩;go_wp2_with fail;go_ret;exact ⟨by rw[HR.out];rfl,rfl⟩
  ·have HR:Hid (eU x y=0):=ah ((if_neg h1).trans (if_neg h2))
   go_enter Tryz.func87,Tryz.ntmps87;go_wp2_with fail;refine (Hn.out _ _).mono ?_;rintro e w1 ⟨rfl,rfl⟩;go_wp2_with fail;refine (Hn.out _ _).mono ?_;rintro e w1 ⟨rfl,rfl⟩;go_wp2_with fail;go_ret;exact ⟨by rw[HR.out];rfl,rfl⟩
def qM:List Int->Int
 |[]=>0
 |x::l=>if x=0 then qM l else x
theorem JQ {l:List Int} {k:Nat} (h:k<l.length) (hz:l[k]=0):qM (l.drop k)=qM (l.drop (k+1)):=by
 rw[List.drop_eq_getElem_cons h];show (if l[k]=0 then _ else _)=_
 rw[if_pos hz]
theorem TN {l:List Int} {k:Nat} (h:k<l.length) (hz:¬l[k]=0):qM (l.drop k)=l[k]:=by
 rw[List.drop_eq_getElem_cons h];show (if l[k]=0 then _ else _)=_
 rw[if_neg hz]
theorem JO {A:Option Addr} {n c:Nat} {l:List Int} (hr:Rd w D 1 A n (l.map (Value.int .i64))) (hl:l.length=n) (hn:n<=1000000):
 Calls Tryz.prog 86 #[.slice A n c] w fun e w'=>e=.returned (.int .i64 (qM l))/\w=w':=by
 have Hl:=ah hl;clear hl;go_enter Tryz.func86,Tryz.ntmps86;go_wp2_with fail;go_loop [8] (fun i=>∃k:Nat,k<=n/\i=.int .i64 (k:Int)/\Hid (qM l=qM (l.drop k))) (fun i=>n-(intOf i).toNat)
 case atStart=>exact ⟨0,Nat.zero_le _,rfl,ah rfl⟩
 case round=>
  obtain ⟨k,hk,rfl,He⟩:=hrel;by_cases hlt:k<n
  ·have hkl:k<l.length:=by rw[Hl.out];exact hlt
   obtain ⟨ad,u,rfl,hb,hu,hc0⟩:=hr.at_ hlt;rw[List.getElem?_map,List.getElem?_eq_getElem hkl]at hu;injection hu with hu;subst hu;have HA:=ah (fun (h:¬l[k]=0)=>He.out.trans (TN hkl h));have HB:=ah (fun (h:l[k]=0)=>He.out.trans (JQ hkl h));clear hr;generalize l[k]=x at *;by_cases hx:x=0
   ·have HR:=ah (HB.out hx)
    have hx2:(x !=0)=false:=(by simp[hx]);clear hx;go_wp2_with fail;go_round
    case rel=>exact ⟨k+1,by omega,by go_num,HR⟩
    case measure=>simp[intOf];omega
   ·have HR:=ah (HA.out hx)
    have hx2:(x !=0)=true:=(by simp[hx]);clear hx;go_wp2_with fail;go_ret;exact ⟨by rw[HR.out];rfl,rfl⟩
  ·have hd:qM l=0:=by rw[He.out,List.drop_eq_nil_of_le (by rw[Hl.out];omega)];rfl
   have HR:=ah hd;clear hd;obtain rfl:k=n:=(by omega);go_wp2_with fail;go_ret;exact ⟨by rw[HR.out];rfl,rfl⟩
end
section
variable {w : World} {D : Nat → Prop}
theorem LJ (x y:Int) (w:World):Calls Tryz.prog 87 #[.int .i64 x,.int .i64 y] w fun e w'=>e=.returned (.int .i64 (eU x y))/\w'=w:=
 (Ez x y w).mono fun e w' h=>⟨h.1,h.2.symm⟩
theorem MF {w:World} {b:Nat} {ty:TypeId} {xs:List Value} (h:aG w b ty xs.toArray):Rd w (fun k=>k=b) 1 (some ⟨b,0,none⟩) xs.length xs:=
 ⟨by simp,fun _=>⟨⟨b,0,none⟩,rfl,rfl,fun j u hu=>by
   have e:Addr.add ⟨b,0,none⟩ j=⟨b,j,none⟩:=by
    unfold Addr.add;by_cases hj:j=0
    ·rw[if_pos hj,hj]
    ·rw[if_neg hj];simp
   rw[e,h.cell];simpa using hu⟩⟩
theorem WS (x y:RV) (w:World):Calls Tryz.prog 112 #[aK x,aK y] w fun e w'=>e=.returned (.int .i64 (dQ x.row y.row))/\Nx w w':=by
 obtain ⟨⟨kind,time,ak,text,value,null,maker,seq,place⟩,A,c⟩:=x;obtain ⟨⟨kind2,aU,bJ,bH,value2,bI,aP,seq2,aO⟩,A2,c2⟩:=y
 have HF:Hid (dQ ⟨kind,time,ak,text,value,null,maker,seq,place⟩ ⟨kind2,aU,bJ,bH,value2,bI,aP,seq2,aO⟩=qM [eU time aU,eU maker aP,eU seq seq2,eU place aO]):=ah (by
  unfold dQ or4 qM qM qM qM qM;simp only;split
  ·split
   ·split
    ·split
     ·assumption
     ·rfl
    ·rfl
   ·rfl
  ·rfl)
 have Hc:=ah LJ;have Hn:=ah (fun o o2=>(((Ch.refl (fun _=>False) w).alloc o).alloc o2).drew);unfold aK;simp only;go_enter Tryz.func112,Tryz.ntmps112;go_wp2_with fail;have hx:=(aG.new w 79 #[.int .i64 kind,.int .i64 time,.slice A ak.length c,.string text,.int .i64 value,.bool null,.int .i64 maker,.int .i64 seq,.int .i64 place]).alloc (.cells #[.int .i64 kind2,.int .i64 aU,.slice A2 bJ.length c2,.string bH,.int .i64 value2,.bool bI,.int .i64 aP,.int .i64 seq2,.int .i64 aO] 79);have hy:=aG.new (w.alloc (.cells #[.int .i64 kind,.int .i64 time,.slice A ak.length c,.string text,.int .i64 value,.bool null,.int .i64 maker,.int .i64 seq,.int .i64 place] 79)) 79 #[.int .i64 kind2,.int .i64 aU,.slice A2 bJ.length c2,.string bH,.int .i64 value2,.bool bI,.int .i64 aP,.int .i64 seq2,.int .i64 aO];have hn:=Hn.out (.cells #[.int .i64 kind,.int .i64 time,.slice A ak.length c,.string text,.int .i64 value,.bool null,.int .i64 maker,.int .i64 seq,.int .i64 place] 79) (.cells #[.int .i64 kind2,.int .i64 aU,.slice A2 bJ.length c2,.string bH,.int .i64 value2,.bool bI,.int .i64 aP,.int .i64 seq2,.int .i64 aO] 79);rw[World.size_alloc]at hy;generalize (w.alloc (.cells #[.int .i64 kind,.int .i64 time,.slice A ak.length c,.string text,.int .i64 value,.bool null,.int .i64 maker,.int .i64 seq,.int .i64 place] 79)).alloc (.cells #[.int .i64 kind2,.int .i64 aU,.slice A2 bJ.length c2,.string bH,.int .i64 value2,.bool bI,.int .i64 aP,.int .i64 seq2,.int .i64 aO] 79)=W2 at *;generalize w.heap.size=g at *;have q1:W2.cell? ⟨g,1,none⟩=some (.int .i64 time):=hx.cell 1;have q6:W2.cell? ⟨g,6,none⟩=some (.int .i64 maker):=hx.cell 6;have q7:W2.cell? ⟨g,7,none⟩=some (.int .i64 seq):=hx.cell 7;have q8:W2.cell? ⟨g,8,none⟩=some (.int .i64 place):=hx.cell 8;have r1:W2.cell? ⟨g+1,1,none⟩=some (.int .i64 aU):=hy.cell 1;have r6:W2.cell? ⟨g+1,6,none⟩=some (.int .i64 aP):=hy.cell 6;have r7:W2.cell? ⟨g+1,7,none⟩=some (.int .i64 seq2):=hy.cell 7;have r8:W2.cell? ⟨g+1,8,none⟩=some (.int .i64 aO):=hy.cell 8;have HN:=ah hn;clear hx hy Hn hn;go_still_tail 22,rfl
 repeat still_step
 still_call (Hc.out _ _ _)
 repeat still_step
 still_call (Hc.out _ _ _)
 repeat still_step
 still_call (Hc.out _ _ _)
 repeat still_step
 still_call (Hc.out _ _ _)
 repeat still_step
 refine wpStill_nil ?_;change wpList _ _ _ _ _ W2.drew;clear q1 q6 q7 q8 r1 r6 r7 r8;generalize W2.drew=W3 at *;have HO:=ah (fun a b c d=>JO (c:=4) (MF (aG.new W3 3 #[.int .i64 a,.int .i64 b,.int .i64 c,.int .i64 d]) (xs:=[a,b,c,d].map (Value.int .i64))) rfl (by simp));go_wp2_with fail;refine (HO.out _ _ _ _).mono ?_;rintro e w5 ⟨rfl,rfl⟩;go_wp2_with fail;go_ret;exact ⟨by rw[HF.out];rfl,HN.out.alloc _⟩
end
def dw (x y:RV):Bool:=dN x.row y.row
theorem Tt:Weak dw:=⟨fun x y h=>z35.1 x.row y.row h,fun x y z h k=>z35.2 x.row y.row z.row h k,fun x y z h k=>z35.3 x.row y.row z.row h k⟩
theorem kH (x y:RV):decide (dQ x.row y.row<0)=dw x y:=yx x.row y.row
abbrev jY:Value:=.func (.func 112) #[] #[]
abbrev SAT (w:World) (g:Nat) (A:Option Addr) (cap:Nat) (ys:List (Tg RV)):Prop:=SA w g A cap (ys.map fun x=>x.row)
section
variable {w : World} {g cap : Nat} {A : Option Addr}
theorem ins_any {P M S:List (Tg RV)} {n a m b:Nat} (h:SAT w g A cap (P++M++S)) (hn:P.length+M.length+S.length=n) (hn2:n<=1000000) (ha:P.length=a) (hm:M.length=m) (hb:a+m=b) (ht:M.Pairwise fun x y=>x.tag<y.tag):
 Calls Tryz.prog 196 #[.slice A n cap,.int .i64 a,.int .i64 b,jY] w fun e w'=>e=.returned (.tuple #[])/\∃C,C.Perm M/\C.Pairwise (Rt dw)/\SAT w' g A cap (P++C++S)/\Ch (fun k=>k=g) w w':=by
 have HT:=ah ht;have hmn:b<=n:=by omega
 have hab:a<=b:=by omega
 have HB:=ah hb;have u_:Hid (P.length+M.length+S.length=n):=ah hn;have HA:=ah ha;have HM:=ah hm;have Hh:=ah h;clear ht hn ha hm hb h;go_enter Tryz.func196,Tryz.ntmps196;go_wp2_with fail;go_loopw [8] (fun s8 wr=>∃(I:Nat) (ys:List (Tg RV)),s8=.int .i64 (I:Int)/\a+1<=I/\I<=b+1/\Hid (SAT wr g A cap ys)/\Hid (Ch (fun k=>k=g) w wr)/\Hid (oh dw P M S (I-a) ys)) (fun s8 _=>b+1-(intOf s8).toNat)
 case atStart=>exact ⟨a+1,_,by go_num,by omega,by omega,Hh,ah (Ch.refl _ _),ah (by rw[Nat.add_sub_cancel_left];exact oh.first P M S)⟩
 case round=>
  obtain ⟨w4,rfl⟩:∃w4:World,w4=wr:=⟨_,rfl⟩;obtain ⟨I,ys,rfl,hi1,him,Hs,Hc,Hi⟩:=hrel;clear Hh;by_cases hlt:I<b
  ·have hj0:=(Hi.out).enter (by rw[HM.out];have:=HB.out;omega)
   rw[HA.out,show a+(I-a)=I by omega]at hj0;have HJ0:=ah hj0;have HC0:=Hc;clear hj0;go_wp2_with fail;go_loopw [9] (fun s9 wr=>∃(J:Nat) (ys:List (Tg RV)),s9=.int .i64 (J:Int)/\J<=I/\Hid (SAT wr g A cap ys)/\Hid (Ch (fun k=>k=g) w wr)/\Hid (CW dw P M S (I-a) J ys)) (fun s9 _=>(intOf s9).toNat)
   case atStart=>exact ⟨I,ys,rfl,Nat.le_refl _,Hs,Hc,HJ0⟩
   case round=>
    obtain ⟨w5,rfl⟩:∃w5:World,w5=wr:=⟨_,rfl⟩;obtain ⟨J,zs,rfl,hJi,Js,Jc,Ji⟩:=hrel;obtain ⟨hJl,haJ,h0,h1⟩:=Ji.out.all Tt HT.out;rw[HA.out]at haJ h0 h1;rw[show I-a+1=I+1-a by omega]at h0 h1;have hzn:zs.length=n:=(by rw[Ji.out.len,u_.out]);clear Hs Hc Hi HJ0 HC0 Ji;by_cases hgt:a<J
    ·obtain ⟨hJ2,hY,hN⟩:=h1 hgt
     have HY:=ah hY;have HN:=ah hN;clear h0 h1 hY hN;have jF:J<(zs.map fun x=>x.row).length:=(by simpa using hJl);have ig:J-1<(zs.map fun x=>x.row).length:=(by simpa using hJ2);have hA:=Js.out.form jF;subst hA;have gJ:(zs.map fun x=>x.row)[J]=zs[J].row:=List.getElem_map ..;have gJ2:(zs.map fun x=>x.row)[J-1]=zs[J-1].row:=List.getElem_map ..;have HQ:=ah (fun w' (hn:Nx w5 w')=>(Js.out.nx hn).at_ jF);have HQ2:=ah (fun w' (hn:Nx w5 w')=>(Js.out.nx hn).at_ ig);have HF:=ah (fun w' (hn:Nx w5 w')=>(Js.out.nx hn).frozen jF);have HS:=ah (fun w' (hn:Nx w5 w') wf=>(Js.out.nx hn).swap jF ig (w':=wf));have uZ:=ah (fun w' (hn:Nx w5 w')=>Js.out.nx hn);rw[←ZL,gJ,gJ2]at HS;rw[gJ]at HQ;rw[gJ2]at HQ2;have fH:=ah (fun w=>WS zs[J].row zs[J-1].row w);have hlt:=kH zs[J].row zs[J-1].row;have HL:=ah (qw zs J (J-1));generalize zs[J].row=x at *;generalize zs[J-1].row=y at *;have hnd:Nx w5 w5.drew:=(Ch.refl _ w5).drew;clear Js gJ gJ2;obtain ⟨⟨kind,time,ak,text,value,null,maker,seq,place⟩,A1,c1⟩:=x;obtain ⟨⟨kind2,aU,bJ,bH,value2,bI,aP,seq2,aO⟩,A2,c2⟩:=y;unfold aK at fH;unfold yM at HQ HQ2;simp only at fH HQ HQ2 hlt;go_wp2_with fail;refine wp_region_still_tail 14 rfl (by kernel_rfl) ?_;change wpStill _ _ w5.drew _ _ _;obtain ⟨p0,p1,p2,p3,p4,p5,p6,p7,p8⟩:=HQ.out _ hnd;obtain ⟨q0,q1,q2,q3,q4,q5,q6,q7,q8⟩:=HQ2.out _ hnd;have Vo:=ah hnd;clear hnd;generalize w5.drew=w6 at *;simp only[List.take_succ_cons,List.take_zero,List.drop_succ_cons,List.drop_zero];have hd:decide ((a:Int)<(J:Int))=true:=by rw[decide_eq_true_iff];omega
     have hwr:IntKind.i64.wrap ((J:Int)-1)=(J:Int)-1:=IntWalk.i64_in _ (by omega);have htn:((J:Int)-1).toNat=J-1:=(by omega);have hb4:(1:Int)<=(J:Int):=(by omega);have hb1:(0:Int)<=(J:Int)-1:=(by omega);have hb2:(J:Int)-1<(n:Int):=(by omega);have hb3:(J:Int)<(n:Int):=by omega
     repeat still_step
     refine wpStill_nil ?_;clear p0 p1 p2 p3 p4 p5 p6 p7 p8 q0 q1 q2 q3 q4 q5 q6 q7 q8;go_wp2_with fail;refine (fH.out _).mono ?_;rintro e w7 ⟨rfl,n7⟩;have N7:=ah ((Ch.refl (fun _=>False) w5).drew.tr n7);clear n7 Vo fH;generalize dQ _ _=r at *;cases hv:dw ⟨⟨kind,time,ak,text,value,null,maker,seq,place⟩,A1,c1⟩ ⟨⟨kind2,aU,bJ,bH,value2,bI,aP,seq2,aO⟩,A2,c2⟩
     ·have HR:=ah (HN.out hv)
      rw[hv]at hlt;have hr:¬r<0:=of_decide_eq_false hlt;have Hs7:=ah (uZ.out w7 N7.out);clear hv hlt HN HY HS HQ HQ2 HF uZ;go_wp2_with fail;go_roundw
      case rel=>exact ⟨I+1,zs,by go_num,by omega,by omega,Hs7,ah (Jc.out.tr N7.out),HR⟩
      case measure=>simp[intOf];omega
     ·have HR:=ah (HY.out hv)
      rw[hv]at hlt;have hr:r<0:=of_decide_eq_true hlt;have HS7:=ah (fun wf=>HS.out w7 N7.out wf);obtain ⟨p0,p1,p2,p3,p4,p5,p6,p7,p8⟩:=HQ.out w7 N7.out;obtain ⟨q0,q1,q2,q3,q4,q5,q6,q7,q8⟩:=HQ2.out w7 N7.out;have cf:=HF.out w7 N7.out;clear hv hlt HN HY HS HQ HQ2 HF uZ;go_wp2_with fail;go_region
      generalize hW:World.setCell _ _ _=W8;obtain ⟨g1,g2⟩:=HS7.out W8 hW.symm;clear hW p0 p1 p2 p3 p4 p5 p6 p7 p8 q0 q1 q2 q3 q4 q5 q6 q7 q8 cf HS7;have G1:=ah g1;have G2:=ah ((Jc.out.tr N7.out).trans g2 fun _ _ e=>e);clear g1 g2;go_wp2_with fail;go_roundw
      case rel=>exact ⟨J-1,_,by go_num,by omega,G1,ah G2.out.drew,HR⟩
      case measure=>simp[intOf];omega
    ·have hJa:J=a:=by omega
     have HR:=ah (h0 hJa);have hd:decide ((a:Int)<(J:Int))=false:=by rw[decide_eq_false_iff_not];omega
     clear h0 h1;go_wp2_with fail;go_quiet (fail)
     go_wp2_with fail;go_roundw
     case rel=>exact ⟨I+1,zs,by go_num,by omega,by omega,Js,ah (Ch.drewN Jc.out _),HR⟩
     case measure=>simp[intOf];omega
  ·have hend:=(Hi.out).last (by rw[HM.out];have:=HB.out;omega)
   obtain ⟨C,hp,Zn,hys⟩:=hend;have HE:=ah (⟨hp,Zn,hys⟩:C.Perm M/\C.Pairwise (Rt dw)/\ys=P++C++S);clear hp Zn hys;go_wp2_with fail;go_end0
   obtain ⟨hp,Zn,rfl⟩:=HE.out;exact ⟨rfl,C,hp,Zn,Hs.out,Hc.out⟩
end
end Go.Proofs.YtdbfejfhpkakhaaGreat
namespace Go.Proofs.YtdbfejfhpkakhaaGreat
section
variable {α : Type} {lt : α → α → Bool}
def iR (P:List (Tg α)) (x:Tg α) (B S:List (Tg α)) (a k:Nat):List (Tg α):=P++(B.take (k-a)++[x]++B.drop (k-a))++S
theorem iR.len {P B S:List (Tg α)} {x:Tg α} {a k:Nat}:(iR P x B S a k).length=P.length+(B.length+1)+S.length:=by
 unfold iR;simp
 omega
theorem iR.right {P B S:List (Tg α)} {x:Tg α} {a k:Nat} (ha:P.length=a) (hk:a<=k) (h:k<a+B.length):fQ (iR P x B S a k) k (k+1)=iR P x B S a (k+1):=by
 have e:=AV P S B x (k-a) (by omega);rw[show P.length+(k-a)=k by omega,show k-a+1=k+1-a by omega]at e;exact e
theorem iR.left {P B S:List (Tg α)} {x:Tg α} {a k:Nat} (ha:P.length=a) (hk:a<k) (h:k<=a+B.length):fQ (iR P x B S a k) k (k-1)=iR P x B S a (k-1):=by
 have e:=Gp P S B x (k-1-a) (by omega);rw[show P.length+(k-1-a)+1=k by omega,show P.length+(k-1-a)=k-1 by omega,show k-1-a+1=k-a by omega]at e;exact e
def g_ (lt:α->α->Bool) (x:Tg α) (B:List (Tg α)) (o i j:Nat):Prop:=
 o<=i/\i<=j/\j<=o+B.length/\(o<i->∃y,B[i-1-o]?=some y/\Rt lt y x)/\(j<o+B.length->∃y,B[j-o]?=some y/\Rt lt x y)
theorem g_.start (x:Tg α) (B:List (Tg α)) (o e:Nat) (he:e=o+B.length):g_ lt x B o o e:=by
 subst he;exact ⟨Nat.le_refl _,by omega,Nat.le_refl _,fun h=>by omega,fun h=>by omega⟩
theorem g_.up {x y:Tg α} {B:List (Tg α)} {o i j h:Nat} (H:g_ lt x B o i j) (h1:i<=h) (h2:h<j) (hy:B[h-o]?=some y) (hr:Rt lt y x):g_ lt x B o (h+1) j:=
 ⟨by have:=H.1;omega,by omega,H.2.2.1,fun _=>⟨y,hy,hr⟩,H.2.2.2.2⟩
theorem g_.down {x y:Tg α} {B:List (Tg α)} {o i j h:Nat} (H:g_ lt x B o i j) (h1:i<=h) (h2:h<j) (hy:B[h-o]?=some y) (hr:Rt lt x y):g_ lt x B o i h:=
 ⟨H.1,h1,by have:=H.2.2.1;omega,H.2.2.2.1,fun _=>⟨y,hy,hr⟩⟩
theorem g_.Gz (w:Weak lt) {x:Tg α} {B:List (Tg α)} {o i:Nat} (H:g_ lt x B o i i) (sb:B.Pairwise (Rt lt)):kX lt [x] B (B.take (i-o)++[x]++B.drop (i-o)):=by
 refine wS w (by have:=H.2.2.1;omega) sb (fun h=>?_) (fun h=>?_)
 ·have:=H.2.2.2.1 (by omega)
  rwa [show i-1-o=i-o-1 by omega]at this
 ·exact H.2.2.2.2 (by have:=H.1;omega)
theorem g_.Bh (w:Weak lt) {x:Tg α} {A:List (Tg α)} {o i:Nat} (H:g_ lt x A o i i) (sa:A.Pairwise (Rt lt)):kX lt A [x] (A.take (i-o)++[x]++A.drop (i-o)):=by
 refine Gg w (by have:=H.2.2.1;omega) sa (fun h=>?_) (fun h=>?_)
 ·have:=H.2.2.2.1 (by omega)
  rwa [show i-1-o=i-o-1 by omega]at this
 ·exact H.2.2.2.2 (by have:=H.1;omega)
def CO (lt:α->α->Bool) (ys:List (Tg α)) (n lo hi s r:Nat):Prop:=
 lo<=s/\s<=r/\r<=hi/\(lo<s->∃x y,ys[s-1]?=some x/\ys[n-s]?=some y/\lt y.row x.row=false)/\(r<hi->∃x y,ys[n-1-r]?=some x/\ys[r]?=some y/\lt x.row y.row=true)
theorem CO.start (ys:List (Tg α)) (n lo hi:Nat) (h:lo<=hi):CO lt ys n lo hi lo hi:=⟨Nat.le_refl _,h,Nat.le_refl _,fun h=>by omega,fun h=>by omega⟩
theorem CO.up {ys:List (Tg α)} {n lo hi s r c:Nat} (H:CO lt ys n lo hi s r) (h1:s<=c) (h2:c<r) (hc:c<ys.length) (hn:n-1-c<ys.length) (h:lt (ys[n-1-c]).row (ys[c]).row=false):CO lt ys n lo hi (c+1) r:=
 ⟨by have:=H.1;omega,by omega,H.2.2.1,fun _=>⟨ys[c],ys[n-1-c],List.getElem?_eq_getElem hc,by rw[show n-(c+1)=n-1-c by omega];exact List.getElem?_eq_getElem hn,h⟩,H.2.2.2.2⟩
theorem CO.down {ys:List (Tg α)} {n lo hi s r c:Nat} (H:CO lt ys n lo hi s r) (h1:s<=c) (h2:c<r) (hc:c<ys.length) (hn:n-1-c<ys.length) (h:lt (ys[n-1-c]).row (ys[c]).row=true):CO lt ys n lo hi s c:=
 ⟨H.1,h1,by have:=H.2.2.1;omega,H.2.2.2.1,fun _=>⟨ys[n-1-c],ys[c],List.getElem?_eq_getElem hn,List.getElem?_eq_getElem hc,h⟩⟩
theorem FM {α:Type} (l:List α) {a m b:Nat} (h1:a<=m) (h2:m<=b) (h:a=m∨m=b):rotL l a m b=l:=by
 unfold rotL;rcases h with rfl|rfl
 ·rw[Nat.sub_self,List.take_zero,List.append_nil,List.append_assoc]
  conv=>rhs;rw[←List.take_append_drop a l]
  congr 1
  conv=>rhs;rw[←List.take_append_drop (b-a) (l.drop a)]
  rw[List.drop_drop,show a+(b-a)=b by omega]
 ·rw[Nat.sub_self,List.take_zero,List.append_nil,List.append_assoc]
  conv=>rhs;rw[←List.take_append_drop a l]
  congr 1
  conv=>rhs;rw[←List.take_append_drop (m-a) (l.drop a)]
  rw[List.drop_drop,show a+(m-a)=m by omega]
theorem Runs.in_a {P A B S:List (Tg α)} {i:Nat} {x:Tg α} (h1:P.length<=i) (h2:i<P.length+A.length) (hx:(P++A++B++S)[i]?=some x):x∈A:=by
 rw[List.append_assoc,List.append_assoc,List.getElem?_append_right h1,List.getElem?_append_left (by omega)]at hx;exact List.mem_of_getElem? hx
theorem Runs.in_b {P A B S:List (Tg α)} {i:Nat} {x:Tg α} (h1:P.length+A.length<=i) (h2:i<P.length+A.length+B.length) (hx:(P++A++B++S)[i]?=some x):x∈B:=by
 rw[List.append_assoc,List.append_assoc,List.getElem?_append_right (by omega),List.getElem?_append_right (by omega),List.getElem?_append_left (by omega)]at hx;exact List.mem_of_getElem? hx
theorem CO.last (w:Weak lt) {P A B S:List (Tg α)} (hR:Runs lt P A B S) {a m b mid n lo hi s:Nat} (ha:P.length=a) (hm:a+A.length=m) (hb:m+B.length=b) (qW:2 * mid<=a+b) (xC:a+b<=2 * mid+1) (hn:n=mid+m)
 (hlo:lo=if mid<m then n-b else a) (hhi:hi=if mid<m then mid else m) (h:CO lt (P++A++B++S) n lo hi s s):
 a<=s/\s<=m/\s<=mid/\m<=n-s/\n-s<=b/\mid<=n-s/\∃A1 A2 B1 B2:List (Tg α),A=A1++A2/\B=B1++B2/\A1.length=s-a/\A2.length=m-s/\B1.length=n-s-m/\B2.length=b-(n-s)/\
  rotL (P++A++B++S) s m (n-s)=P++(A1++B1)++(A2++B2)++S/\(∀x∈A1++B1,∀y∈A2++B2,Rt lt x y):=by
 obtain ⟨h1,_,h3,h4,h5⟩:=h
 have hbd:a<=s/\s<=m/\s<=mid/\m<=n-s/\n-s<=b/\mid<=n-s:=by
  by_cases e:mid<m
  ·rw[if_pos e]at hlo hhi;omega
  ·rw[if_neg e]at hlo hhi;omega
 obtain ⟨b1,b2,b3,b4,b5,b6⟩:=hbd;refine ⟨b1,b2,b3,b4,b5,b6,?_⟩;subst ha;refine Fh w hR hm hb qW xC (by omega) b1 b2 b4 b5 (fun hs he=>?_) (fun hs he=>?_)
 ·obtain ⟨x,y,hx,hy,hxy⟩:=h4 (by by_cases e:mid<m<;>simp only[e,if_true,if_false]at hlo<;>omega)
  exact ⟨x,y,hx,hy,Rt.mP w (hR.tg x (Runs.in_a (by omega) (by omega) hx) y (Runs.in_b (by omega) (by omega) hy)) hxy⟩
 ·obtain ⟨x,y,hx,hy,hxy⟩:=h5 (by by_cases e:mid<m<;>simp only[e,if_true,if_false]at hhi<;>omega)
  exact ⟨x,y,by rw[show n-s-1=n-1-s by omega];exact hx,hy,.inl hxy⟩
end
end Go.Proofs.YtdbfejfhpkakhaaGreat
namespace Go.Proofs.YtdbfejfhpkakhaaGreat
open Go.RowKit
section
variable {w : World} {g cap : Nat} {A : Option Addr}
theorem Jk {P B S:List (Tg RV)} {x:Tg RV} {n a m b:Nat} (h:SAT w g A cap (P++[x]++B++S)) (hn:P.length+1+B.length+S.length=n) (hn2:n<=1000000) (ha:P.length=a) (hm:a+1=m) (hb:m+B.length=b) (hR:Runs dw P [x] B S):
 Calls Tryz.prog 197 #[.slice A n cap,.int .i64 a,.int .i64 m,.int .i64 b,jY] w fun e w'=>e=.returned (.tuple #[])/\∃C,kX dw [x] B C/\SAT w' g A cap (P++C++S)/\Ch (fun k=>k=g) w w':=by
 have HR:=ah hR;have hbn:b<=n:=by omega
 have ham:a<m:=by omega
 have hmb:m<=b:=by omega
 have hq:((m:Int)-(a:Int)==1)=true:=by simp;omega
 have u_:=ah hn;have HA:=ah ha;have HM:=ah hm;have HB:=ah hb;have Hh:=ah h;clear hn ha hm hb h hR;go_enter Tryz.func197,Tryz.ntmps197;go_wp2_with fail;go_loopw [10,11] (fun s10 s11 wr=>∃(i j:Nat),s10=.int .i64 (i:Int)/\s11=.int .i64 (j:Int)/\m<=i/\i<=j/\j<=b/\Hid (SAT wr g A cap (P++[x]++B++S))/\Hid (Ch (fun k=>k=g) w wr)/\Hid (g_ dw x B m i j)) (fun s10 s11 _=>(intOf s11).toNat-(intOf s10).toNat)
 case atStart=>exact ⟨m,b,rfl,rfl,Nat.le_refl _,hmb,Nat.le_refl _,Hh,ah (Ch.refl _ _),ah (g_.start x B m b HB.out.symm)⟩
 case round=>
  obtain ⟨w5,rfl⟩:∃w5:World,w5=wr:=⟨_,rfl⟩;obtain ⟨i,j,rfl,rfl,hmi,hij,hjb,Js,Jc,Ji⟩:=hrel;clear Hh;by_cases hlt:i<j
  ·obtain ⟨H,hHe⟩:∃H:Nat,((i:Int)+(j:Int)) / 2=(H:Int):=⟨(i+j) / 2,by omega⟩
   have hHi:i<=H:=(by omega);have hHj:H<j:=(by omega);go_wp2_with fail;clear hHe;have hL1:H<(P++[x]++B++S).length:=by simp;have:=u_.out;have:=HB.out;have:=HA.out;have:=HM.out;omega
   have hL2:a<(P++[x]++B++S).length:=by simp;have:=u_.out;have:=HB.out;have:=HA.out;have:=HM.out;omega
   have jF:H<((P++[x]++B++S).map fun x=>x.row).length:=by rw[List.length_map];exact hL1
   have ig:a<((P++[x]++B++S).map fun x=>x.row).length:=by rw[List.length_map];exact hL2
   have hA:=Js.out.form jF;subst hA;have gJ:((P++[x]++B++S).map fun x=>x.row)[H]=(P++[x]++B++S)[H].row:=List.getElem_map ..;have gJ2:((P++[x]++B++S).map fun x=>x.row)[a]=(P++[x]++B++S)[a].row:=List.getElem_map ..;have HQ:=ah (fun w' (hn:Nx w5 w')=>(Js.out.nx hn).at_ jF);have HQ2:=ah (fun w' (hn:Nx w5 w')=>(Js.out.nx hn).at_ ig);have uZ:=ah (fun w' (hn:Nx w5 w')=>Js.out.nx hn);rw[gJ]at HQ;rw[gJ2]at HQ2;have fH:=ah (fun w=>WS (P++[x]++B++S)[H].row (P++[x]++B++S)[a].row w);have hcv:=kH (P++[x]++B++S)[H].row (P++[x]++B++S)[a].row
   have ga:(P++[x]++B++S)[a]=x:=by
    have e:(P++[x]++B++S)[a]?=some x:=by
     rw[List.append_assoc,List.append_assoc,List.getElem?_append_right (by rw[HA.out];exact Nat.le_refl _),HA.out,Nat.sub_self];rfl
    rw[List.getElem?_eq_getElem hL2]at e;injection e
   obtain ⟨y,hy,gy⟩:∃y,B[H-m]?=some y/\(P++[x]++B++S)[H]=y:=by
    have e:(P++[x]++B++S)[H]?=B[H-m]?:=by
     rw[List.append_assoc,List.getElem?_append_right (by rw[List.length_append,HA.out];have:=HM.out;simp;omega),List.length_append,HA.out,show H-(a+[x].length)=H-m by rw[List.length_singleton,HM.out],List.getElem?_append_left (by have:=HB.out;omega)]
    rw[List.getElem?_eq_getElem hL1]at e;exact ⟨_,e.symm,rfl⟩
   have HY:Hid (dw (P++[x]++B++S)[H].row (P++[x]++B++S)[a].row=true->g_ dw x B m (H+1) j):=ah (fun hl=>by
    rw[gy,ga]at hl;exact Ji.out.up hHi hHj hy (.inl hl))
   have HN:Hid (dw (P++[x]++B++S)[H].row (P++[x]++B++S)[a].row=false->g_ dw x B m i H):=ah (fun hl=>by
    rw[gy,ga]at hl;exact Ji.out.down hHi hHj hy (Rt.mP Tt (HR.out.tg x (by simp) y (List.mem_of_getElem? hy)) hl))
   clear hy ga gy y Ji;have hx1:(H:Int)<(n:Int):=(by omega);have hx2:(a:Int)<(n:Int):=(by omega);generalize (P++[x]++B++S)[H].row=x1 at *;generalize (P++[x]++B++S)[a].row=y1 at *;have hnd:Nx w5 w5.drew:=(Ch.refl _ w5).drew;clear Js gJ gJ2 hL1 hL2 jF ig;obtain ⟨⟨kind,time,ak,text,value,null,maker,seq,place⟩,A1,c1⟩:=x1;obtain ⟨⟨kind2,aU,bJ,bH,value2,bI,aP,seq2,aO⟩,A2,c2⟩:=y1;unfold aK at fH;unfold yM at HQ HQ2;simp only at fH HQ HQ2 hcv;refine wp_region_still_tail 9 rfl (by kernel_rfl) ?_;change wpStill _ _ w5.drew _ _ _;obtain ⟨p0,p1,p2,p3,p4,p5,p6,p7,p8⟩:=HQ.out _ hnd;obtain ⟨q0,q1,q2,q3,q4,q5,q6,q7,q8⟩:=HQ2.out _ hnd;have Vo:=ah hnd;clear hnd;generalize w5.drew=w6 at *;simp only[List.take_succ_cons,List.take_zero,List.drop_succ_cons,List.drop_zero]
   repeat still_step
   refine wpStill_nil ?_;clear p0 p1 p2 p3 p4 p5 p6 p7 p8 q0 q1 q2 q3 q4 q5 q6 q7 q8 HQ HQ2;go_wp2_with fail;refine (fH.out _).mono ?_;rintro e w7 ⟨rfl,n7⟩;have N7:=ah ((Ch.refl (fun _=>False) w5).drew.tr n7);clear n7 Vo fH;generalize dQ _ _=r at *;have Hs7:=ah (uZ.out w7 N7.out);have C7:=ah (Jc.out.tr N7.out);clear uZ N7 Jc;cases hv:dw ⟨⟨kind,time,ak,text,value,null,maker,seq,place⟩,A1,c1⟩ ⟨⟨kind2,aU,bJ,bH,value2,bI,aP,seq2,aO⟩,A2,c2⟩
   ·have HRR:=ah (HN.out hv)
    rw[hv]at hcv;have hr:¬r<0:=of_decide_eq_false hcv;clear hv hcv HN HY;go_wp2_with fail;go_roundw
    case rel=>exact ⟨i,H,rfl,rfl,hmi,hHi,by omega,Hs7,C7,HRR⟩
    case measure=>simp[intOf];omega
   ·have HRR:=ah (HY.out hv)
    rw[hv]at hcv;have hr:r<0:=of_decide_eq_true hcv;clear hv hcv HN HY;go_wp2_with fail;go_roundw
    case rel=>exact ⟨H+1,j,by go_num,rfl,by omega,by omega,hjb,Hs7,C7,HRR⟩
    case measure=>simp[intOf];omega
  ·obtain rfl:i=j:=by omega
   have HMg:=ah (Ji.out.Gz Tt HR.out.sb)
   have Js0:Hid (SAT w5 g A cap (iR P x B S a a)):=ah (by
    have:=Js.out;unfold iR;rw[Nat.sub_self];simp only[List.take_zero,List.drop_zero,List.nil_append];rw[show P++([x]++B)++S=P++[x]++B++S by simp];exact this)
   have hai:a<=i-1:=(by omega);clear Ji Js;go_wp2_with fail;go_loopw [13] (fun s13 wr=>∃k:Nat,s13=.int .i64 (k:Int)/\a<=k/\k<=i-1/\Hid (SAT wr g A cap (iR P x B S a k))/\Hid (Ch (fun k=>k=g) w wr)) (fun s13 _=>i-(intOf s13).toNat)
   case atStart=>exact ⟨a,rfl,Nat.le_refl _,hai,Js0,Jc⟩
   case round=>
    obtain ⟨w5,rfl⟩:∃w5:World,w5=wr:=⟨_,rfl⟩;obtain ⟨k,rfl,hak,hki,Js,Jc⟩:=hrel;clear Js0;have hi1:(1:Int)<=(i:Int):=(by omega);by_cases hlt:k<i-1
    ·have hlt2:(k:Int)<(i:Int)-1:=by omega
     have hL1:k<(iR P x B S a k).length:=by rw[iR.len];have:=u_.out;have:=HB.out;have:=HA.out;have:=HM.out;omega
     have hL2:(k+1)<(iR P x B S a k).length:=by rw[iR.len];have:=u_.out;have:=HB.out;have:=HA.out;have:=HM.out;omega
     have jF:k<((iR P x B S a k).map fun x=>x.row).length:=by rw[List.length_map];exact hL1
     have ig:(k+1)<((iR P x B S a k).map fun x=>x.row).length:=by rw[List.length_map];exact hL2
     have hA:=Js.out.form jF;subst hA;obtain ⟨p0,p1,p2,p3,p4,p5,p6,p7,p8⟩:=Js.out.at_ jF;obtain ⟨q0,q1,q2,q3,q4,q5,q6,q7,q8⟩:=Js.out.at_ ig;have cf:=Js.out.frozen jF;have HS:=ah (fun wf=>Js.out.swap jF ig (w':=wf));rw[←ZL]at HS;generalize ((iR P x B S a k).map fun x=>x.row)[k]=x1 at *;generalize ((iR P x B S a k).map fun x=>x.row)[(k+1)]=y1 at *;rw[iR.right HA.out hak (by have:=HB.out;have:=HM.out;omega)]at HS;have hx1:(k:Int)+1<(n:Int):=(by omega);have hx2:(k:Int)<(n:Int):=(by omega);clear Js hL1 hL2 jF ig;obtain ⟨⟨kind,time,ak,text,value,null,maker,seq,place⟩,A1,c1⟩:=x1;obtain ⟨⟨kind2,aU,bJ,bH,value2,bI,aP,seq2,aO⟩,A2,c2⟩:=y1;simp only at p0 p1 p2 p3 p4 p5 p6 p7 p8 q0 q1 q2 q3 q4 q5 q6 q7 q8;go_wp2_with fail;go_region
     generalize hW:World.setCell _ _ _=W8;obtain ⟨g1,g2⟩:=HS.out W8 hW.symm;clear hW p0 p1 p2 p3 p4 p5 p6 p7 p8 q0 q1 q2 q3 q4 q5 q6 q7 q8 cf HS;have G1:=ah g1;have G2:=ah (Jc.out.trans g2 fun _ _ e=>e);clear g1 g2 Jc;go_wp2_with fail;go_roundw
     case rel=>exact ⟨k+1,by go_num,by omega,by omega,G1,ah G2.out.drew⟩
     case measure=>simp[intOf];omega
    ·have hk:k=i-1:=by omega
     have hlt2:¬(k:Int)<(i:Int)-1:=by omega
     have uY:Hid (SAT w5 g A cap (P++(B.take (i-m)++[x]++B.drop (i-m))++S)):=ah (by
      have:=Js.out;unfold iR at this;rw[show k-a=i-m by have:=HM.out;omega]at this;exact this)
     clear Js hk;go_wp2_with fail;refine bodyPost_ret (results_none rfl _ _ _) rfl ?_;exact ⟨rfl,_,HMg.out,by first|exact uY.out|(have:=uY.out;rwa [List.append_assoc P]at this),Jc.out⟩
end
section
variable {w : World} {g cap : Nat} {A : Option Addr}
theorem Fj {P A1' S:List (Tg RV)} {x:Tg RV} {n a m b:Nat} (h:SAT w g A cap (P++A1'++[x]++S)) (hn:P.length+A1'.length+1+S.length=n) (hn2:n<=1000000) (ha:P.length=a) (hm:a+A1'.length=m) (hb:m+1=b) (hA2:a+1<m) (hR:Runs dw P A1' [x] S):
 Calls Tryz.prog 197 #[.slice A n cap,.int .i64 a,.int .i64 m,.int .i64 b,jY] w fun e w'=>e=.returned (.tuple #[])/\∃C,kX dw A1' [x] C/\SAT w' g A cap (P++C++S)/\Ch (fun k=>k=g) w w':=by
 have HR:=ah hR;have hbn:b<=n:=by omega
 have ham:a<m:=by omega
 have hmb:m<b:=by omega
 have hq:((m:Int)-(a:Int)==1)=false:=by simp;omega
 have hq2:((b:Int)-(m:Int)==1)=true:=by simp;omega
 have u_:=ah hn;have HA:=ah ha;have HM:=ah hm;have HB:=ah hb;have Hh:=ah h;clear hn ha hm hb h hR hA2;go_enter Tryz.func197,Tryz.ntmps197;go_wp2_with fail;go_loopw [14,15] (fun s10 s11 wr=>∃(i j:Nat),s10=.int .i64 (i:Int)/\s11=.int .i64 (j:Int)/\a<=i/\i<=j/\j<=m/\Hid (SAT wr g A cap (P++A1'++[x]++S))/\Hid (Ch (fun k=>k=g) w wr)/\Hid (g_ dw x A1' a i j)) (fun s10 s11 _=>(intOf s11).toNat-(intOf s10).toNat)
 case atStart=>exact ⟨a,m,rfl,rfl,Nat.le_refl _,by omega,Nat.le_refl _,Hh,ah (Ch.refl _ _),ah (g_.start x A1' a m HM.out.symm)⟩
 case round=>
  obtain ⟨w5,rfl⟩:∃w5:World,w5=wr:=⟨_,rfl⟩;obtain ⟨i,j,rfl,rfl,hmi,hij,hjb,Js,Jc,Ji⟩:=hrel;clear Hh;by_cases hlt:i<j
  ·obtain ⟨H,hHe⟩:∃H:Nat,((i:Int)+(j:Int)) / 2=(H:Int):=⟨(i+j) / 2,by omega⟩
   have hHi:i<=H:=(by omega);have hHj:H<j:=(by omega);go_wp2_with fail;clear hHe;have hL1:m<(P++A1'++[x]++S).length:=by simp;have:=u_.out;have:=HB.out;have:=HA.out;have:=HM.out;omega
   have hL2:H<(P++A1'++[x]++S).length:=by simp;have:=u_.out;have:=HB.out;have:=HA.out;have:=HM.out;omega
   have jF:m<((P++A1'++[x]++S).map fun x=>x.row).length:=by rw[List.length_map];exact hL1
   have ig:H<((P++A1'++[x]++S).map fun x=>x.row).length:=by rw[List.length_map];exact hL2
   have hA:=Js.out.form jF;subst hA;have gJ:((P++A1'++[x]++S).map fun x=>x.row)[m]=(P++A1'++[x]++S)[m].row:=List.getElem_map ..;have gJ2:((P++A1'++[x]++S).map fun x=>x.row)[H]=(P++A1'++[x]++S)[H].row:=List.getElem_map ..;have HQ:=ah (fun w' (hn:Nx w5 w')=>(Js.out.nx hn).at_ jF);have HQ2:=ah (fun w' (hn:Nx w5 w')=>(Js.out.nx hn).at_ ig);have uZ:=ah (fun w' (hn:Nx w5 w')=>Js.out.nx hn);rw[gJ]at HQ;rw[gJ2]at HQ2;have fH:=ah (fun w=>WS (P++A1'++[x]++S)[m].row (P++A1'++[x]++S)[H].row w);have hcv:=kH (P++A1'++[x]++S)[m].row (P++A1'++[x]++S)[H].row
   have ga:(P++A1'++[x]++S)[m]=x:=by
    have e:(P++A1'++[x]++S)[m]?=some x:=by
     rw[List.append_assoc,List.getElem?_append_right (by rw[List.length_append,HA.out,HM.out];exact Nat.le_refl _),List.length_append,HA.out,HM.out,Nat.sub_self];rfl
    rw[List.getElem?_eq_getElem hL1]at e;injection e
   obtain ⟨y,hy,gy⟩:∃y,A1'[H-a]?=some y/\(P++A1'++[x]++S)[H]=y:=by
    have e:(P++A1'++[x]++S)[H]?=A1'[H-a]?:=by
     rw[List.append_assoc,List.append_assoc,List.getElem?_append_right (by rw[HA.out];omega),HA.out,List.getElem?_append_left (by have:=HM.out;omega)]
    rw[List.getElem?_eq_getElem hL2]at e;exact ⟨_,e.symm,rfl⟩
   have HY:Hid (dw (P++A1'++[x]++S)[m].row (P++A1'++[x]++S)[H].row=true->g_ dw x A1' a i H):=ah (fun hl=>by
    rw[gy,ga]at hl;exact Ji.out.down hHi hHj hy (.inl hl))
   have HN:Hid (dw (P++A1'++[x]++S)[m].row (P++A1'++[x]++S)[H].row=false->g_ dw x A1' a (H+1) j):=ah (fun hl=>by
    rw[gy,ga]at hl;exact Ji.out.up hHi hHj hy (Rt.mP Tt (HR.out.tg y (List.mem_of_getElem? hy) x (by simp)) hl))
   clear hy ga gy y Ji;have hx1:(H:Int)<(n:Int):=(by omega);have hx2:(m:Int)<(n:Int):=(by omega);generalize (P++A1'++[x]++S)[m].row=x1 at *;generalize (P++A1'++[x]++S)[H].row=y1 at *;have hnd:Nx w5 w5.drew:=(Ch.refl _ w5).drew;clear Js gJ gJ2 hL1 hL2 jF ig;obtain ⟨⟨kind,time,ak,text,value,null,maker,seq,place⟩,A1,c1⟩:=x1;obtain ⟨⟨kind2,aU,bJ,bH,value2,bI,aP,seq2,aO⟩,A2,c2⟩:=y1;unfold aK at fH;unfold yM at HQ HQ2;simp only at fH HQ HQ2 hcv;refine wp_region_still_tail 9 rfl (by kernel_rfl) ?_;change wpStill _ _ w5.drew _ _ _;obtain ⟨p0,p1,p2,p3,p4,p5,p6,p7,p8⟩:=HQ.out _ hnd;obtain ⟨q0,q1,q2,q3,q4,q5,q6,q7,q8⟩:=HQ2.out _ hnd;have Vo:=ah hnd;clear hnd;generalize w5.drew=w6 at *;simp only[List.take_succ_cons,List.take_zero,List.drop_succ_cons,List.drop_zero]
   repeat still_step
   refine wpStill_nil ?_;clear p0 p1 p2 p3 p4 p5 p6 p7 p8 q0 q1 q2 q3 q4 q5 q6 q7 q8 HQ HQ2;go_wp2_with fail;refine (fH.out _).mono ?_;rintro e w7 ⟨rfl,n7⟩;have N7:=ah ((Ch.refl (fun _=>False) w5).drew.tr n7);clear n7 Vo fH;generalize dQ _ _=r at *;have Hs7:=ah (uZ.out w7 N7.out);have C7:=ah (Jc.out.tr N7.out);clear uZ N7 Jc;cases hv:dw ⟨⟨kind,time,ak,text,value,null,maker,seq,place⟩,A1,c1⟩ ⟨⟨kind2,aU,bJ,bH,value2,bI,aP,seq2,aO⟩,A2,c2⟩
   ·have HRR:=ah (HN.out hv)
    rw[hv]at hcv;have hr:(!decide (r<0))=true:=by rw[hcv];rfl
    clear hv hcv HN HY;go_wp2_with fail;go_roundw
    case rel=>exact ⟨H+1,j,by go_num,rfl,by omega,by omega,hjb,Hs7,C7,HRR⟩
    case measure=>simp[intOf];omega
   ·have HRR:=ah (HY.out hv)
    rw[hv]at hcv;have hr:(!decide (r<0))=false:=by rw[hcv];rfl
    clear hv hcv HN HY;go_wp2_with fail;go_roundw
    case rel=>exact ⟨i,H,rfl,rfl,hmi,hHi,by omega,Hs7,C7,HRR⟩
    case measure=>simp[intOf];omega
  ·obtain rfl:i=j:=by omega
   have HMg:=ah (Ji.out.Bh Tt HR.out.sa)
   have Js0:Hid (SAT w5 g A cap (iR P x A1' S a m)):=ah (by
    have:=Js.out;unfold iR;rw[show m-a=A1'.length by have:=HM.out;omega,List.take_length,List.drop_length];rw[show P++(A1'++[x]++[])++S=P++A1'++[x]++S by simp];exact this)
   clear Ji Js;go_wp2_with fail;go_loopw [17] (fun s13 wr=>∃k:Nat,s13=.int .i64 (k:Int)/\i<=k/\k<=m/\Hid (SAT wr g A cap (iR P x A1' S a k))/\Hid (Ch (fun k=>k=g) w wr)) (fun s13 _=>(intOf s13).toNat)
   case atStart=>exact ⟨m,rfl,hjb,Nat.le_refl _,Js0,Jc⟩
   case round=>
    obtain ⟨w5,rfl⟩:∃w5:World,w5=wr:=⟨_,rfl⟩;obtain ⟨k,rfl,hak,hki,Js,Jc⟩:=hrel;clear Js0;by_cases hlt:i<k
    ·have hk1:(1:Int)<=(k:Int):=by omega
     have hL1:k<(iR P x A1' S a k).length:=by rw[iR.len];have:=u_.out;have:=HB.out;have:=HA.out;have:=HM.out;omega
     have hL2:(k-1)<(iR P x A1' S a k).length:=by rw[iR.len];have:=u_.out;have:=HB.out;have:=HA.out;have:=HM.out;omega
     have jF:k<((iR P x A1' S a k).map fun x=>x.row).length:=by rw[List.length_map];exact hL1
     have ig:(k-1)<((iR P x A1' S a k).map fun x=>x.row).length:=by rw[List.length_map];exact hL2
     have hA:=Js.out.form jF;subst hA;obtain ⟨p0,p1,p2,p3,p4,p5,p6,p7,p8⟩:=Js.out.at_ jF;obtain ⟨q0,q1,q2,q3,q4,q5,q6,q7,q8⟩:=Js.out.at_ ig;have cf:=Js.out.frozen jF;have HS:=ah (fun wf=>Js.out.swap jF ig (w':=wf));rw[←ZL]at HS;generalize ((iR P x A1' S a k).map fun x=>x.row)[k]=x1 at *;generalize ((iR P x A1' S a k).map fun x=>x.row)[(k-1)]=y1 at *;rw[iR.left HA.out (by omega) (by have:=HM.out;omega)]at HS;have hx1:(k:Int)-1<(n:Int):=(by omega);have hx2:(k:Int)<(n:Int):=(by omega);have hx3:(0:Int)<=(k:Int)-1:=(by omega);clear Js hL1 hL2 jF ig;obtain ⟨⟨kind,time,ak,text,value,null,maker,seq,place⟩,A1,c1⟩:=x1;obtain ⟨⟨kind2,aU,bJ,bH,value2,bI,aP,seq2,aO⟩,A2,c2⟩:=y1;simp only at p0 p1 p2 p3 p4 p5 p6 p7 p8 q0 q1 q2 q3 q4 q5 q6 q7 q8;go_wp2_with fail;go_region
     generalize hW:World.setCell _ _ _=W8;obtain ⟨g1,g2⟩:=HS.out W8 hW.symm;clear hW p0 p1 p2 p3 p4 p5 p6 p7 p8 q0 q1 q2 q3 q4 q5 q6 q7 q8 cf HS;have G1:=ah g1;have G2:=ah (Jc.out.trans g2 fun _ _ e=>e);clear g1 g2 Jc;go_wp2_with fail;go_roundw
     case rel=>exact ⟨k-1,by go_num,by omega,by omega,G1,ah G2.out.drew⟩
     case measure=>simp[intOf];omega
    ·obtain rfl:k=i:=by omega
     have uY:Hid (SAT w5 g A cap (P++(A1'.take (k-a)++[x]++A1'.drop (k-a))++S)):=ah Js.out;clear Js;go_wp2_with fail;refine bodyPost_ret (results_none rfl _ _ _) rfl ?_;exact ⟨rfl,_,HMg.out,by first|exact uY.out|(have:=uY.out;rwa [List.append_assoc P]at this),Jc.out⟩
end
end Go.Proofs.YtdbfejfhpkakhaaGreat
