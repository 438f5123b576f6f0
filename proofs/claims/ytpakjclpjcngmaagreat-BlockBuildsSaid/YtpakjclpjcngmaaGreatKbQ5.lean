/- Contracts and plain laws that the last text rests on. Conditions: each theorem states its own. -/
import Derived.Test.YtpakjclpjcngmaaGreatKbQ4
import Derived.Deep.RegionHeld3
import Derived.StillTailTactics
import Derived.Test.YtpakjclpjcngmaaGreatKbQ2
import Derived.Deep.QuietTactic
import Derived.BigQuiet
set_option maxRecDepth 100000
set_option maxHeartbeats 4000000
set_option linter.unusedVariables false
namespace Go.Proofs.YtpakjclpjcngmaaGreat
open Go.RowKit
theorem uy (c k:Nat):((97:Int)<=c/\(c:Int)<=122/\eu c k=true)∨(¬(97:Int)<=c/\¬(0:Int)<k/\eu c k=false)∨((97:Int)<=c/\¬(c:Int)<=122/\¬(0:Int)<k/\eu c k=false)∨((97:Int)<=c/\¬(c:Int)<=122/\(0:Int)<k/\(48:Int)<=c/\¬(c:Int)<=57/\((c:Int)==95)=false/\eu c k=false)∨
 (¬(97:Int)<=c/\(0:Int)<k/\¬(48:Int)<=c/\((c:Int)==95)=false/\eu c k=false)∨(¬(97:Int)<=c/\(0:Int)<k/\(48:Int)<=c/\(c:Int)<=57/\eu c k=true)∨(¬(97:Int)<=c/\(0:Int)<k/\(48:Int)<=c/\¬(c:Int)<=57/\((c:Int)==95)=false/\eu c k=false)∨(¬(97:Int)<=c/\(0:Int)<k/\(48:Int)<=c/\¬(c:Int)<=57/\((c:Int)==95)=true/\eu c k=true):=by
 have T:(97<=c/\c<=122)∨(0<k/\((48<=c/\c<=57)∨c=95))->eu c k=true:=fun h=>by
  unfold eu;rw[Bool.or_eq_true,Bool.and_eq_true,Bool.or_eq_true];simp only[decide_eq_true_eq];exact h
 have F:¬((97<=c/\c<=122)∨(0<k/\((48<=c/\c<=57)∨c=95)))->eu c k=false:=fun h=>by
  cases hl:eu c k with
  |false=>rfl
  |true=>
   exfalso
   unfold eu at hl;rw[Bool.or_eq_true,Bool.and_eq_true,Bool.or_eq_true]at hl;simp only[decide_eq_true_eq]at hl;exact h hl
 by_cases a1:(97:Int)<=c
 ·by_cases a2:(c:Int)<=122
  ·exact .inl ⟨a1,a2,T (by omega)⟩
  ·by_cases b0:k=0
   ·exact .inr (.inr (.inl ⟨a1,a2,by omega,F (by omega)⟩))
   ·exact .inr (.inr (.inr (.inl ⟨a1,a2,by omega,by omega,by omega,by rw[beq_eq_false_iff_ne];omega,F (by omega)⟩)))
 ·by_cases b0:k=0
  ·exact .inr (.inl ⟨a1,by omega,F (by omega)⟩)
  ·by_cases b1:(48:Int)<=c
   ·by_cases b2:(c:Int)<=57
    ·exact .inr (.inr (.inr (.inr (.inr (.inl ⟨a1,by omega,b1,b2,T (by omega)⟩)))))
    ·by_cases b3:(c:Int)=95
     ·exact .inr (.inr (.inr (.inr (.inr (.inr (.inr ⟨a1,by omega,b1,b2,by rw[beq_iff_eq];exact b3,T (by omega)⟩))))))
     ·exact .inr (.inr (.inr (.inr (.inr (.inr (.inl ⟨a1,by omega,b1,b2,by rw[beq_eq_false_iff_ne];exact b3,F (by omega)⟩))))))
   ·exact .inr (.inr (.inr (.inr (.inl ⟨a1,by omega,b1,by rw[beq_eq_false_iff_ne];omega,F (by omega)⟩))))
theorem byte_at {s:ByteArray} {k:Nat} (h:k<s.size):jI s k=s[k].toNat:=by
 unfold jI;rw[Array.getElem?_eq_getElem (show k<s.data.size from h)];rfl
section
variable {w : World}
theorem name_any (s:ByteArray) (w:World) (hs:s.size<=9223372036854775807):Calls Tryz.prog 161 #[.string s] w fun en w'=>en=.returned (.bool (dw s))/\w=w':=by
 have hall:(∀i,i<s.size->eu (jI s i) i=true)->dw s=decide (1<=s.size/\s.size<=8):=fun h=>by
  unfold dw;rw[show ((List.range s.size).all fun i=>eu (jI s i) i)=true from IC.2 h,Bool.and_true]
 have hbad:∀k (h:k<s.size),eu s[k].toNat k=false->dw s=false:=fun k h hf=>by
  unfold dw;rw[Bool.and_eq_false_iff];right
  rw[List.all_eq_false];refine ⟨k,List.mem_range.2 h,?_⟩;rw[byte_at h,hf];simp
 have Hall:=ah hall;have Yf:=ah hbad;clear hall hbad;go_enter Tryz.func161,Tryz.ntmps161;go_wp2_with fail;go_loop [7] (fun i=>∃k:Nat,k<=s.size/\i=.int .i64 k/\Hid (∀i,i<k->eu (jI s i) i=true)) (fun i=>s.size-(intOf i).toNat)
 case atStart=>exact ⟨0,by omega,rfl,ah (fun i hk=>by omega)⟩
 case round=>
  obtain ⟨k,hk,rfl,He⟩:=hrel;by_cases hlt:k<s.size
  ·have hB:=ah (Yf.out k hlt)
   have hG:Hid (eu s[k].toNat k=true->∀i,i<k+1->eu (jI s i) i=true):=ah (fun h i hi=>by
    by_cases e:i=k
    ·subst e;rw[byte_at hlt];exact h
    ·exact He.out i (by omega))
   rcases uy s[k].toNat k with ⟨c1,c2,c3⟩|⟨c1,c2,c3⟩|⟨c1,c2,c4,c3⟩|⟨c1,c2,c4,c5,c6,c7,c3⟩|⟨c1,c4,c5,c6,c3⟩|⟨c1,c2,c4,c5,c3⟩|⟨c1,c2,c4,c5,c6,c3⟩|⟨c1,c2,c4,c5,c6,c3⟩
   all_goals
    have Hc:=ah c3;clear c3
    first
    |(have Hk:=ah (hB.out Hc.out)
      go_wp2_with fail;go_ret;exact ⟨by rw[Hk.out];rfl,rfl⟩)
    |(go_wp2_with fail
      go_round
      case rel=>exact ⟨k+1,by omega,by go_num,ah (hG.out Hc.out)⟩
      case measure=>simp[intOf];omega)
  ·have hkk:s.size=k:=by omega
   have Hk:=ah (Hall.out fun i hi=>He.out i (by omega));by_cases h1:1<=s.size
   ·have e:Hid (decide (1<=s.size/\s.size<=8)=decide ((s.size:Int)<=8)):=ah (by rw[decide_eq_decide];omega)
    clear hkk;go_wp2_with fail;go_ret;exact ⟨by rw[Hk.out,e.out];rfl,rfl⟩
   ·have e:Hid (decide (1<=s.size/\s.size<=8)=false):=ah (by simp[h1])
    clear hkk;go_wp2_with fail;go_ret;exact ⟨by rw[Hk.out,e.out];rfl,rfl⟩
end
def gq (x y:Int):Int:=if x<y then -1 else if y<x then 1 else 0
def or4 (a b c d:Int):Int:=if a=0 then (if b=0 then (if c=0 then d else c) else b) else a
def fQ (x y:aA):Int:=or4 (gq x.time y.time) (gq x.maker y.maker) (gq x.seq y.seq) (gq x.place y.place)
theorem z4j (x y:Int):gq x y<0↔x<y:=by
 unfold gq;by_cases h:x<y
 ·simp[h]
 ·by_cases h2:y<x
  ·simp[h,h2]
  ·simp[h,h2]
theorem VX (x y:Int):gq x y=0↔x=y:=by
 unfold gq;by_cases h:x<y
 ·simp[h];omega
 ·by_cases h2:y<x
  ·simp[h,h2];omega
  ·simp[h,h2];omega
theorem BF (x y:aA):decide (fQ x y<0)=iO x y:=by
 unfold fQ or4 iO;have a:=VX x.time y.time;have b:=VX x.maker y.maker;have c:=VX x.seq y.seq;have a':=z4j x.time y.time;have b':=z4j x.maker y.maker;have c':=z4j x.seq y.seq;have d':=z4j x.place y.place;rw[Bool.eq_iff_iff,decide_eq_true_iff,decide_eq_true_iff];by_cases h1:x.time=y.time
 ·rw[if_pos (a.2 h1)]
  by_cases h2:x.maker=y.maker
  ·rw[if_pos (b.2 h2)]
   by_cases h3:x.seq=y.seq
   ·rw[if_pos (c.2 h3)];omega
   ·rw[if_neg (fun e=>h3 (c.1 e))];omega
  ·rw[if_neg (fun e=>h2 (b.1 e))];omega
 ·rw[if_neg (fun e=>h1 (a.1 e))];omega
section
variable {w : World} {D : Nat → Prop}
theorem SL (x:Int) (w:World):Calls Tryz.prog 209 #[.int .i64 x] w fun e w'=>e=.returned (.bool false)/\w=w':=by
 go_enter Tryz.func209,Tryz.ntmps209;go_wp2_with fail;go_ret;exact ⟨rfl,rfl⟩
theorem Ub (x y:Int) (w:World):Calls Tryz.prog 159 #[.int .i64 x,.int .i64 y] w fun e w'=>e=.returned (.int .i64 (gq x y))/\w=w':=by
 have Hn:=ah SL;by_cases h1:x<y
 ·have HR:Hid (gq x y= -1):=ah (if_pos h1)
  go_enter Tryz.func159,Tryz.ntmps159;go_wp2_with fail;refine (Hn.out _ _).mono ?_;rintro e w1 ⟨rfl,rfl⟩;go_wp2_with fail;refine (Hn.out _ _).mono ?_;rintro e w1 ⟨rfl,rfl⟩;go_wp2_with fail;go_ret;exact ⟨by rw[HR.out];rfl,rfl⟩
 ·by_cases h2:y<x
  ·have HR:Hid (gq x y=1):=ah ((if_neg h1).trans (if_pos h2))
   go_enter Tryz.func159,Tryz.ntmps159;go_wp2_with fail;refine (Hn.out _ _).mono ?_;rintro e w1 ⟨rfl,rfl⟩;go_wp2_with fail;refine (Hn.out _ _).mono ?_;rintro e w1 ⟨rfl,rfl⟩;go_wp2_with fail;go_ret;exact ⟨by rw[HR.out];rfl,rfl⟩
  ·have HR:Hid (gq x y=0):=ah ((if_neg h1).trans (if_neg h2))
   go_enter Tryz.func159,Tryz.ntmps159;go_wp2_with fail;refine (Hn.out _ _).mono ?_;rintro e w1 ⟨rfl,rfl⟩;go_wp2_with fail;refine (Hn.out _ _).mono ?_;rintro e w1 ⟨rfl,rfl⟩;go_wp2_with fail;go_ret;exact ⟨by rw[HR.out];rfl,rfl⟩
def Gx:List Int->Int
 |[]=>0
 |x::l=>if x=0 then Gx l else x
theorem Ns {l:List Int} {k:Nat} (h:k<l.length) (hz:l[k]=0):Gx (l.drop k)=Gx (l.drop (k+1)):=by
 rw[List.drop_eq_getElem_cons h];show (if l[k]=0 then _ else _)=_
 rw[if_pos hz]
theorem WO {l:List Int} {k:Nat} (h:k<l.length) (hz:¬l[k]=0):Gx (l.drop k)=l[k]:=by
 rw[List.drop_eq_getElem_cons h];show (if l[k]=0 then _ else _)=_
 rw[if_neg hz]
theorem WL {A:Option Addr} {n c:Nat} {l:List Int} (hr:Rd w D 1 A n (l.map (Value.int .i64))) (hl:l.length=n) (hn:n<=1000000):
 Calls Tryz.prog 158 #[.slice A n c] w fun e w'=>e=.returned (.int .i64 (Gx l))/\w=w':=by
 have Hl:=ah hl;clear hl;go_enter Tryz.func158,Tryz.ntmps158;go_wp2_with fail;go_loop [8] (fun i=>∃k:Nat,k<=n/\i=.int .i64 (k:Int)/\Hid (Gx l=Gx (l.drop k))) (fun i=>n-(intOf i).toNat)
 case atStart=>exact ⟨0,Nat.zero_le _,rfl,ah rfl⟩
 case round=>
  obtain ⟨k,hk,rfl,He⟩:=hrel;by_cases hlt:k<n
  ·have hkl:k<l.length:=by rw[Hl.out];exact hlt
   obtain ⟨ad,u,rfl,hb,hu,hc0⟩:=hr.at_ hlt;rw[List.getElem?_map,List.getElem?_eq_getElem hkl]at hu;injection hu with hu;subst hu;have HA:=ah (fun (h:¬l[k]=0)=>He.out.trans (WO hkl h));have HB:=ah (fun (h:l[k]=0)=>He.out.trans (Ns hkl h));clear hr;generalize l[k]=x at *;by_cases hx:x=0
   ·have HR:=ah (HB.out hx)
    have hx2:(x !=0)=false:=(by simp[hx]);clear hx;go_wp2_with fail;go_round
    case rel=>exact ⟨k+1,by omega,by go_num,HR⟩
    case measure=>simp[intOf];omega
   ·have HR:=ah (HA.out hx)
    have hx2:(x !=0)=true:=(by simp[hx]);clear hx;go_wp2_with fail;go_ret;exact ⟨by rw[HR.out];rfl,rfl⟩
  ·have hd:Gx l=0:=by rw[He.out,List.drop_eq_nil_of_le (by rw[Hl.out];omega)];rfl
   have HR:=ah hd;clear hd;obtain rfl:k=n:=(by omega);go_wp2_with fail;go_ret;exact ⟨by rw[HR.out];rfl,rfl⟩
end
section
variable {w : World} {D : Nat → Prop}
theorem PI (x y:Int) (w:World):Calls Tryz.prog 159 #[.int .i64 x,.int .i64 y] w fun e w'=>e=.returned (.int .i64 (gq x y))/\w'=w:=
 (Ub x y w).mono fun e w' h=>⟨h.1,h.2.symm⟩
theorem Qa {w:World} {b:Nat} {ty:TypeId} {xs:List Value} (h:aG w b ty xs.toArray):Rd w (fun k=>k=b) 1 (some ⟨b,0,none⟩) xs.length xs:=
 ⟨by simp,fun _=>⟨⟨b,0,none⟩,rfl,rfl,fun j u hu=>by
   have e:Addr.add ⟨b,0,none⟩ j=⟨b,j,none⟩:=by
    unfold Addr.add;by_cases hj:j=0
    ·rw[if_pos hj,hj]
    ·rw[if_neg hj];simp
   rw[e,h.cell];simpa using hu⟩⟩
theorem Bq (x y:RV) (w:World):Calls Tryz.prog 81 #[dA x,dA y] w fun e w'=>e=.returned (.int .i64 (fQ x.row y.row))/\Nx w w':=by
 obtain ⟨⟨kind,time,aB,text,value,null,maker,seq,place⟩,A,c⟩:=x;obtain ⟨⟨kind2,bV,dW,dQ,value2,dS,bI,seq2,bH⟩,A2,c2⟩:=y
 have HF:Hid (fQ ⟨kind,time,aB,text,value,null,maker,seq,place⟩ ⟨kind2,bV,dW,dQ,value2,dS,bI,seq2,bH⟩=Gx [gq time bV,gq maker bI,gq seq seq2,gq place bH]):=ah (by
  unfold fQ or4 Gx Gx Gx Gx Gx;simp only;split
  ·split
   ·split
    ·split
     ·assumption
     ·rfl
    ·rfl
   ·rfl
  ·rfl)
 have Hc:=ah PI;have Hn:=ah (fun o o2=>(((Ch.refl (fun _=>False) w).alloc o).alloc o2).drew);unfold dA;simp only;go_enter Tryz.func81,Tryz.ntmps81;go_wp2_with fail;have hx:=(aG.new w 58 #[.int .i64 kind,.int .i64 time,.slice A aB.length c,.string text,.int .i64 value,.bool null,.int .i64 maker,.int .i64 seq,.int .i64 place]).alloc (.cells #[.int .i64 kind2,.int .i64 bV,.slice A2 dW.length c2,.string dQ,.int .i64 value2,.bool dS,.int .i64 bI,.int .i64 seq2,.int .i64 bH] 58);have hy:=aG.new (w.alloc (.cells #[.int .i64 kind,.int .i64 time,.slice A aB.length c,.string text,.int .i64 value,.bool null,.int .i64 maker,.int .i64 seq,.int .i64 place] 58)) 58 #[.int .i64 kind2,.int .i64 bV,.slice A2 dW.length c2,.string dQ,.int .i64 value2,.bool dS,.int .i64 bI,.int .i64 seq2,.int .i64 bH];have hn:=Hn.out (.cells #[.int .i64 kind,.int .i64 time,.slice A aB.length c,.string text,.int .i64 value,.bool null,.int .i64 maker,.int .i64 seq,.int .i64 place] 58) (.cells #[.int .i64 kind2,.int .i64 bV,.slice A2 dW.length c2,.string dQ,.int .i64 value2,.bool dS,.int .i64 bI,.int .i64 seq2,.int .i64 bH] 58);rw[World.size_alloc]at hy;generalize (w.alloc (.cells #[.int .i64 kind,.int .i64 time,.slice A aB.length c,.string text,.int .i64 value,.bool null,.int .i64 maker,.int .i64 seq,.int .i64 place] 58)).alloc (.cells #[.int .i64 kind2,.int .i64 bV,.slice A2 dW.length c2,.string dQ,.int .i64 value2,.bool dS,.int .i64 bI,.int .i64 seq2,.int .i64 bH] 58)=W2 at *;generalize w.heap.size=g at *;have q1:W2.cell? ⟨g,1,none⟩=some (.int .i64 time):=hx.cell 1;have q6:W2.cell? ⟨g,6,none⟩=some (.int .i64 maker):=hx.cell 6;have q7:W2.cell? ⟨g,7,none⟩=some (.int .i64 seq):=hx.cell 7;have q8:W2.cell? ⟨g,8,none⟩=some (.int .i64 place):=hx.cell 8;have r1:W2.cell? ⟨g+1,1,none⟩=some (.int .i64 bV):=hy.cell 1;have r6:W2.cell? ⟨g+1,6,none⟩=some (.int .i64 bI):=hy.cell 6;have r7:W2.cell? ⟨g+1,7,none⟩=some (.int .i64 seq2):=hy.cell 7;have r8:W2.cell? ⟨g+1,8,none⟩=some (.int .i64 bH):=hy.cell 8;have HN:=ah hn;clear hx hy Hn hn;go_still_tail 22,rfl
 repeat still_step
 still_call (Hc.out _ _ _)
 repeat still_step
 still_call (Hc.out _ _ _)
 repeat still_step
 still_call (Hc.out _ _ _)
 repeat still_step
 still_call (Hc.out _ _ _)
 repeat still_step
 refine wpStill_nil ?_;change wpList _ _ _ _ _ W2.drew;clear q1 q6 q7 q8 r1 r6 r7 r8;generalize W2.drew=W3 at *;have HO:=ah (fun a b c d=>WL (c:=4) (Qa (aG.new W3 3 #[.int .i64 a,.int .i64 b,.int .i64 c,.int .i64 d]) (xs:=[a,b,c,d].map (Value.int .i64))) rfl (by simp));go_wp2_with fail;refine (HO.out _ _ _ _).mono ?_;rintro e w5 ⟨rfl,rfl⟩;go_wp2_with fail;go_ret;exact ⟨by rw[HF.out];rfl,HN.out.alloc _⟩
end
section
variable {w : World} {g cap : Nat} {A : Option Addr}
end
section
variable {w : World} {g cap : Nat} {A : Option Addr}
end
section
variable {w : World} {g cap : Nat} {A : Option Addr}
end
theorem zH (c:Nat) {k:Nat} (h:0<k):eu c k=eu c 1:=by
 unfold eu;rw[decide_eq_true h,decide_eq_true (show 0<1 by decide)]
theorem JC (c:Nat):eu c 0=decide (97<=c/\c<=122):=by
 unfold eu;simp
theorem zI {c:Nat} (h1:97<=c) (h2:c<=122) (k:Nat):eu c k=true:=by
 unfold eu;rw[decide_eq_true ⟨h1,h2⟩];rfl
section
variable {w : World}
theorem Ew (c:Nat) (hc:c<256) (w:World):Calls Tryz.prog 151 #[.int .u8 (c:Int)] w fun e w'=>e=.returned (.bool (eu c 1))/\w=w':=by
 rcases uy c 1 with ⟨c1,c2,c3⟩|⟨c1,c2,c3⟩|⟨c1,c2,c4,c3⟩|⟨c1,c2,c4,c5,c6,c7,c3⟩|⟨c1,c4,c5,c6,c3⟩|⟨c1,c2,c4,c5,c3⟩|⟨c1,c2,c4,c5,c6,c3⟩|⟨c1,c2,c4,c5,c6,c3⟩
 all_goals
  have Hc:=ah c3;clear c3
  first
  |(exfalso;omega)
  |(go_enter Tryz.func151,Tryz.ntmps151
    go_wp2_with fail;go_ret;exact ⟨by rw[Hc.out];rfl,rfl⟩)
theorem uq {s:ByteArray} {k:Nat} (h:k<s.size) (hf:eu s[k].toNat k=false):dw s=false:=by
 unfold dw;rw[Bool.and_eq_false_iff];right
 rw[List.all_eq_false];refine ⟨k,List.mem_range.2 h,?_⟩;rw[byte_at h,hf];simp
theorem Et {s:ByteArray} (h1:1<=s.size) (h8:s.size<=8) (h:∀i,i<s.size->eu (jI s i) i=true):dw s=true:=by
 unfold dw;rw[show ((List.range s.size).all fun i=>eu (jI s i) i)=true from IC.2 h,Bool.and_true];exact decide_eq_true ⟨h1,h8⟩
theorem oV {s:ByteArray} (h:¬(1<=s.size/\s.size<=8)):dw s=false:=by
 unfold dw;rw[decide_eq_false h];rfl
theorem Jz (s:ByteArray) (w:World) (hs:s.size<=9223372036854775807):Calls Tryz.prog 204 #[.string s] w fun en w'=>en=.returned (.bool (dw s))/\w=w':=by
 by_cases h1:1<=s.size
 ·by_cases h8:s.size<=8
  ·have h0:0<s.size:=h1
   have HB0:=ah (fun (h:eu s[0].toNat 0=false)=>uq h0 h);have hb0:=JC s[0].toNat;by_cases d1:97<=s[0].toNat
   ·by_cases d2:s[0].toNat<=122
    ·have e1:¬((s[0].toNat:Int)<97):=by omega
     have e2:¬((122:Int)<(s[0].toNat:Int)):=by omega
     have HB:=ah (fun k (hk:k<s.size) (h:eu s[k].toNat 1=false)=>uq hk (by
      by_cases hz:k=0
      ·subst hz;rw[zI d1 d2]at h;cases h
      ·rw[zH _ (by omega)];exact h))
     have HG:=ah (fun (h:∀i (hi:i<s.size),eu s[i].toNat 1=true)=>Et h1 h8 (fun i hi=>by
      rw[byte_at hi];by_cases hz:i=0
      ·subst hz;exact zI d1 d2 _
      ·rw[zH _ (by omega)];exact h i hi))
     clear hb0 d1 d2 HB0;go_enter Tryz.func204,Tryz.ntmps204;go_wp2_with fail;go_loop [3] (fun i=>∃k:Nat,k<=s.size/\i=.int .i64 k/\Hid (∀i (hi:i<s.size),i<k->eu s[i].toNat 1=true)) (fun i=>s.size-(intOf i).toNat)
     case atStart=>exact ⟨0,by omega,rfl,ah (fun i _ hk=>by omega)⟩
     case round=>
      obtain ⟨k,hk,rfl,He⟩:=hrel;by_cases hlt:k<s.size
      ·have hb:=UInt8.toNat_lt s[k]
       have HL:=ah (fun w=>Ew s[k].toNat hb w);have HBk:=ah (HB.out k hlt)
       have HE:=ah (fun (h:eu s[k].toNat 1=true) i (hi:i<s.size) (hk:i<k+1)=>(by
        by_cases e:i=k
        ·subst e;exact h
        ·exact He.out i hi (by omega):eu s[i].toNat 1=true))
       clear hb;cases hv:eu s[k].toNat 1
       ·rw[hv]at HL
        have HR:=ah (HBk.out hv);clear hv HBk;go_wp2_with fail;refine (HL.out _).mono ?_;rintro e w1 ⟨rfl,rfl⟩;go_wp2_with fail;go_ret;exact ⟨by rw[HR.out];rfl,rfl⟩
       ·rw[hv]at HL
        have HR:=ah (HE.out hv);clear hv HBk;go_wp2_with fail;refine (HL.out _).mono ?_;rintro e w1 ⟨rfl,rfl⟩;go_wp2_with fail;go_round
        case rel=>exact ⟨k+1,by omega,by go_num,HR⟩
        case measure=>simp[intOf];omega
      ·have HR:=ah (HG.out fun i hi=>He.out i hi (by omega))
       go_wp2_with fail;go_ret;exact ⟨by rw[HR.out];rfl,rfl⟩
    ·have e1:¬((s[0].toNat:Int)<97):=by omega
     have e2:((122:Int)<(s[0].toNat:Int)):=(by omega);have HR:=ah (HB0.out (by rw[hb0];exact decide_eq_false (by omega)));clear hb0 d1 d2 HB0;go_enter Tryz.func204,Tryz.ntmps204;go_wp2_with fail;go_ret;exact ⟨by rw[HR.out];rfl,rfl⟩
   ·have e1:((s[0].toNat:Int)<97):=by omega
    have HR:=ah (HB0.out (by rw[hb0];exact decide_eq_false (by omega)));clear hb0 d1 HB0;go_enter Tryz.func204,Tryz.ntmps204;go_wp2_with fail;go_ret;exact ⟨by rw[HR.out];rfl,rfl⟩
  ·have HR:=ah (oV (s:=s) (by omega))
   have h8':(8:Int)<(s.size:Int):=(by omega);go_enter Tryz.func204,Tryz.ntmps204;go_wp2_with fail;go_ret;exact ⟨by rw[HR.out];rfl,rfl⟩
 ·have HR:=ah (oV (s:=s) (by omega))
  have h1':(s.size:Int)<1:=by omega
  go_enter Tryz.func204,Tryz.ntmps204;go_wp2_with fail;go_ret;exact ⟨by rw[HR.out];rfl,rfl⟩
end
end Go.Proofs.YtpakjclpjcngmaaGreat
