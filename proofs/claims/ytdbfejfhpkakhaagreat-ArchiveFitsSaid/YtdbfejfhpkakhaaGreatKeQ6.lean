/- Contracts and plain laws that the last text rests on. Conditions: each theorem states its own. -/
import Derived.Test.YtdbfejfhpkakhaaGreatKeQ5
import Derived.Deep.RegionHeld3
import Derived.StillTailTactics
import Derived.Test.YtdbfejfhpkakhaaGreatKeQ3
set_option maxRecDepth 100000
set_option maxHeartbeats 4000000
set_option linter.unusedVariables false
namespace Go.Proofs.YtdbfejfhpkakhaaGreat
open Go.RowKit
theorem qG (c k:Nat):((97:Int)<=c/\(c:Int)<=122/\bD c k=true)∨(¬(97:Int)<=c/\¬(0:Int)<k/\bD c k=false)∨((97:Int)<=c/\¬(c:Int)<=122/\¬(0:Int)<k/\bD c k=false)∨((97:Int)<=c/\¬(c:Int)<=122/\(0:Int)<k/\(48:Int)<=c/\¬(c:Int)<=57/\((c:Int)==95)=false/\bD c k=false)∨
 (¬(97:Int)<=c/\(0:Int)<k/\¬(48:Int)<=c/\((c:Int)==95)=false/\bD c k=false)∨(¬(97:Int)<=c/\(0:Int)<k/\(48:Int)<=c/\(c:Int)<=57/\bD c k=true)∨(¬(97:Int)<=c/\(0:Int)<k/\(48:Int)<=c/\¬(c:Int)<=57/\((c:Int)==95)=false/\bD c k=false)∨(¬(97:Int)<=c/\(0:Int)<k/\(48:Int)<=c/\¬(c:Int)<=57/\((c:Int)==95)=true/\bD c k=true):=by
 have T:(97<=c/\c<=122)∨(0<k/\((48<=c/\c<=57)∨c=95))->bD c k=true:=fun h=>by
  unfold bD;rw[Bool.or_eq_true,Bool.and_eq_true,Bool.or_eq_true];simp only[decide_eq_true_eq];exact h
 have F:¬((97<=c/\c<=122)∨(0<k/\((48<=c/\c<=57)∨c=95)))->bD c k=false:=fun h=>by
  cases hl:bD c k with
  |false=>rfl
  |true=>
   exfalso
   unfold bD at hl;rw[Bool.or_eq_true,Bool.and_eq_true,Bool.or_eq_true]at hl;simp only[decide_eq_true_eq]at hl;exact h hl
 by_cases a1:(97:Int)<=c
 ·by_cases a2:(c:Int)<=122
  ·exact .inl ⟨a1,a2,T (by omega)⟩
  ·by_cases b0:k=0
   ·exact .inr (.inr (.inl ⟨a1,a2,by omega,F (by omega)⟩))
   ·exact .inr (.inr (.inr (.inl ⟨a1,a2,by omega,by omega,by omega,by rw[beq_eq_false_iff_ne];omega,F (by omega)⟩)))
 ·by_cases b0:k=0
  ·exact .inr (.inl ⟨a1,by omega,F (by omega)⟩)
  ·by_cases b1:(48:Int)<=c
   ·by_cases b2:(c:Int)<=57
    ·exact .inr (.inr (.inr (.inr (.inr (.inl ⟨a1,by omega,b1,b2,T (by omega)⟩)))))
    ·by_cases b3:(c:Int)=95
     ·exact .inr (.inr (.inr (.inr (.inr (.inr (.inr ⟨a1,by omega,b1,b2,by rw[beq_iff_eq];exact b3,T (by omega)⟩))))))
     ·exact .inr (.inr (.inr (.inr (.inr (.inr (.inl ⟨a1,by omega,b1,b2,by rw[beq_eq_false_iff_ne];exact b3,F (by omega)⟩))))))
   ·exact .inr (.inr (.inr (.inr (.inl ⟨a1,by omega,b1,by rw[beq_eq_false_iff_ne];omega,F (by omega)⟩))))
theorem byte_at {s:ByteArray} {k:Nat} (h:k<s.size):iF s k=s[k].toNat:=by
 unfold iF;rw[Array.getElem?_eq_getElem (show k<s.data.size from h)];rfl
section
variable {w : World}
theorem name_any (s:ByteArray) (w:World) (hs:s.size<=9223372036854775807):Calls Tryz.prog 41 #[.string s] w fun en w'=>en=.returned (.bool (aT s))/\w=w':=by
 have hall:(∀i,i<s.size->bD (iF s i) i=true)->aT s=decide (1<=s.size/\s.size<=8):=fun h=>by
  unfold aT;rw[show ((List.range s.size).all fun i=>bD (iF s i) i)=true from yH.2 h,Bool.and_true]
 have hbad:∀k (h:k<s.size),bD s[k].toNat k=false->aT s=false:=fun k h hf=>by
  unfold aT;rw[Bool.and_eq_false_iff];right
  rw[List.all_eq_false];refine ⟨k,List.mem_range.2 h,?_⟩;rw[byte_at h,hf];simp
 have Oq:=ah hall;have nV:=ah hbad;clear hall hbad;go_enter Tryz.func41,Tryz.ntmps41;go_wp2_with fail;go_loop [7] (fun i=>∃k:Nat,k<=s.size/\i=.int .i64 k/\Hid (∀i,i<k->bD (iF s i) i=true)) (fun i=>s.size-(intOf i).toNat)
 case atStart=>exact ⟨0,by omega,rfl,ah (fun i hk=>by omega)⟩
 case round=>
  obtain ⟨k,hk,rfl,He⟩:=hrel;by_cases hlt:k<s.size
  ·have hB:=ah (nV.out k hlt)
   have hG:Hid (bD s[k].toNat k=true->∀i,i<k+1->bD (iF s i) i=true):=ah (fun h i hi=>by
    by_cases e:i=k
    ·subst e;rw[byte_at hlt];exact h
    ·exact He.out i (by omega))
   rcases qG s[k].toNat k with ⟨c1,c2,c3⟩|⟨c1,c2,c3⟩|⟨c1,c2,c4,c3⟩|⟨c1,c2,c4,c5,c6,c7,c3⟩|⟨c1,c4,c5,c6,c3⟩|⟨c1,c2,c4,c5,c3⟩|⟨c1,c2,c4,c5,c6,c3⟩|⟨c1,c2,c4,c5,c6,c3⟩
   all_goals
    have Hc:=ah c3;clear c3
    first
    |(have Hk:=ah (hB.out Hc.out)
      go_wp2_with fail;go_ret;exact ⟨by rw[Hk.out];rfl,rfl⟩)
    |(go_wp2_with fail
      go_round
      case rel=>exact ⟨k+1,by omega,by go_num,ah (hG.out Hc.out)⟩
      case measure=>simp[intOf];omega)
  ·have hkk:s.size=k:=by omega
   have Hk:=ah (Oq.out fun i hi=>He.out i (by omega));by_cases h1:1<=s.size
   ·have e:Hid (decide (1<=s.size/\s.size<=8)=decide ((s.size:Int)<=8)):=ah (by rw[decide_eq_decide];omega)
    clear hkk;go_wp2_with fail;go_ret;exact ⟨by rw[Hk.out,e.out];rfl,rfl⟩
   ·have e:Hid (decide (1<=s.size/\s.size<=8)=false):=ah (by simp[h1])
    clear hkk;go_wp2_with fail;go_ret;exact ⟨by rw[Hk.out,e.out];rfl,rfl⟩
end
def gV (x y:Int):Int:=if x<y then -1 else if y<x then 1 else 0
def or4 (a b c d:Int):Int:=if a=0 then (if b=0 then (if c=0 then d else c) else b) else a
def ny (x y:aC):Int:=or4 (gV x.time y.time) (gV x.maker y.maker) (gV x.seq y.seq) (gV x.place y.place)
theorem z2n (x y:Int):gV x y<0↔x<y:=by
 unfold gV;by_cases h:x<y
 ·simp[h]
 ·by_cases h2:y<x
  ·simp[h,h2]
  ·simp[h,h2]
theorem Xb (x y:Int):gV x y=0↔x=y:=by
 unfold gV;by_cases h:x<y
 ·simp[h];omega
 ·by_cases h2:y<x
  ·simp[h,h2];omega
  ·simp[h,h2];omega
theorem xI (x y:aC):decide (ny x y<0)=dV x y:=by
 unfold ny or4 dV;have a:=Xb x.time y.time;have b:=Xb x.maker y.maker;have c:=Xb x.seq y.seq;have a':=z2n x.time y.time;have b':=z2n x.maker y.maker;have c':=z2n x.seq y.seq;have d':=z2n x.place y.place;rw[Bool.eq_iff_iff,decide_eq_true_iff,decide_eq_true_iff];by_cases h1:x.time=y.time
 ·rw[if_pos (a.2 h1)]
  by_cases h2:x.maker=y.maker
  ·rw[if_pos (b.2 h2)]
   by_cases h3:x.seq=y.seq
   ·rw[if_pos (c.2 h3)];omega
   ·rw[if_neg (fun e=>h3 (c.1 e))];omega
  ·rw[if_neg (fun e=>h2 (b.1 e))];omega
 ·rw[if_neg (fun e=>h1 (a.1 e))];omega
section
variable {w : World} {D : Nat → Prop}
theorem MP (x:Int) (w:World):Calls Tryz.prog 114 #[.int .i64 x] w fun e w'=>e=.returned (.bool false)/\w=w':=by
 go_enter Tryz.func114,Tryz.ntmps114;go_wp2_with fail;go_ret;exact ⟨rfl,rfl⟩
theorem Di (x y:Int) (w:World):Calls Tryz.prog 87 #[.int .i64 x,.int .i64 y] w fun e w'=>e=.returned (.int .i64 (gV x y))/\w=w':=by
 have Hn:=ah MP;by_cases h1:x<y
 ·have HR:Hid (gV x y= -1):=ah (if_pos h1)
  go_enter Tryz.func87,Tryz.ntmps87;go_wp2_with fail;refine (Hn.out _ _).mono ?_;rintro e w1 ⟨rfl,rfl⟩;go_wp2_with fail;refine (Hn.out _ _).mono ?_;rintro e w1 ⟨rfl,rfl⟩;go_wp2_with fail;go_ret;exact ⟨by rw[HR.out];rfl,rfl⟩
 ·by_cases h2:y<x
  ·have HR:Hid (gV x y=1):=ah ((if_neg h1).trans (if_pos h2))
   go_enter Tryz.func87,Tryz.ntmps87;go_wp2_with fail;refine (Hn.out _ _).mono ?_;rintro e w1 ⟨rfl,rfl⟩;go_wp2_with fail;refine (Hn.out _ _).mono ?_;rintro e w1 ⟨rfl,rfl⟩;go_wp2_with fail;go_ret;exact ⟨by rw[HR.out];rfl,rfl⟩
  ·have HR:Hid (gV x y=0):=ah ((if_neg h1).trans (if_neg h2))
   go_enter Tryz.func87,Tryz.ntmps87;go_wp2_with fail;refine (Hn.out _ _).mono ?_;rintro e w1 ⟨rfl,rfl⟩;go_wp2_with fail;refine (Hn.out _ _).mono ?_;rintro e w1 ⟨rfl,rfl⟩;go_wp2_with fail;go_ret;exact ⟨by rw[HR.out];rfl,rfl⟩
def qC:List Int->Int
 |[]=>0
 |x::l=>if x=0 then qC l else x
theorem IB {l:List Int} {k:Nat} (h:k<l.length) (hz:l[k]=0):qC (l.drop k)=qC (l.drop (k+1)):=by
 rw[List.drop_eq_getElem_cons h];show (if l[k]=0 then _ else _)=_
 rw[if_pos hz]
theorem QF {l:List Int} {k:Nat} (h:k<l.length) (hz:¬l[k]=0):qC (l.drop k)=l[k]:=by
 rw[List.drop_eq_getElem_cons h];show (if l[k]=0 then _ else _)=_
 rw[if_neg hz]
theorem Iz {A:Option Addr} {n c:Nat} {l:List Int} (hr:Rd w D 1 A n (l.map (Value.int .i64))) (hl:l.length=n) (hn:n<=1000000):
 Calls Tryz.prog 86 #[.slice A n c] w fun e w'=>e=.returned (.int .i64 (qC l))/\w=w':=by
 have Hl:=ah hl;clear hl;go_enter Tryz.func86,Tryz.ntmps86;go_wp2_with fail;go_loop [8] (fun i=>∃k:Nat,k<=n/\i=.int .i64 (k:Int)/\Hid (qC l=qC (l.drop k))) (fun i=>n-(intOf i).toNat)
 case atStart=>exact ⟨0,Nat.zero_le _,rfl,ah rfl⟩
 case round=>
  obtain ⟨k,hk,rfl,He⟩:=hrel;by_cases hlt:k<n
  ·have hkl:k<l.length:=by rw[Hl.out];exact hlt
   obtain ⟨ad,u,rfl,hb,hu,hc0⟩:=hr.at_ hlt;rw[List.getElem?_map,List.getElem?_eq_getElem hkl]at hu;injection hu with hu;subst hu;have HA:=ah (fun (h:¬l[k]=0)=>He.out.trans (QF hkl h));have HB:=ah (fun (h:l[k]=0)=>He.out.trans (IB hkl h));clear hr;generalize l[k]=x at *;by_cases hx:x=0
   ·have HR:=ah (HB.out hx)
    have hx2:(x !=0)=false:=(by simp[hx]);clear hx;go_wp2_with fail;go_round
    case rel=>exact ⟨k+1,by omega,by go_num,HR⟩
    case measure=>simp[intOf];omega
   ·have HR:=ah (HA.out hx)
    have hx2:(x !=0)=true:=(by simp[hx]);clear hx;go_wp2_with fail;go_ret;exact ⟨by rw[HR.out];rfl,rfl⟩
  ·have hd:qC l=0:=by rw[He.out,List.drop_eq_nil_of_le (by rw[Hl.out];omega)];rfl
   have HR:=ah hd;clear hd;obtain rfl:k=n:=(by omega);go_wp2_with fail;go_ret;exact ⟨by rw[HR.out];rfl,rfl⟩
end
section
variable {w : World} {D : Nat → Prop}
theorem JL (x y:Int) (w:World):Calls Tryz.prog 87 #[.int .i64 x,.int .i64 y] w fun e w'=>e=.returned (.int .i64 (gV x y))/\w'=w:=
 (Di x y w).mono fun e w' h=>⟨h.1,h.2.symm⟩
theorem Ku {w:World} {b:Nat} {ty:TypeId} {xs:List Value} (h:aG w b ty xs.toArray):Rd w (fun k=>k=b) 1 (some ⟨b,0,none⟩) xs.length xs:=
 ⟨by simp,fun _=>⟨⟨b,0,none⟩,rfl,rfl,fun j u hu=>by
   have e:Addr.add ⟨b,0,none⟩ j=⟨b,j,none⟩:=by
    unfold Addr.add;by_cases hj:j=0
    ·rw[if_pos hj,hj]
    ·rw[if_neg hj];simp
   rw[e,h.cell];simpa using hu⟩⟩
theorem Ut (x y:RV) (w:World):Calls Tryz.prog 112 #[aJ x,aJ y] w fun e w'=>e=.returned (.int .i64 (ny x.row y.row))/\Nx w w':=by
 obtain ⟨⟨kind,time,ak,text,value,null,maker,seq,place⟩,A,c⟩:=x;obtain ⟨⟨kind2,bH,bW,bT,value2,bV,aV,seq2,aU⟩,A2,c2⟩:=y
 have HF:Hid (ny ⟨kind,time,ak,text,value,null,maker,seq,place⟩ ⟨kind2,bH,bW,bT,value2,bV,aV,seq2,aU⟩=qC [gV time bH,gV maker aV,gV seq seq2,gV place aU]):=ah (by
  unfold ny or4 qC qC qC qC qC;simp only;split
  ·split
   ·split
    ·split
     ·assumption
     ·rfl
    ·rfl
   ·rfl
  ·rfl)
 have Hc:=ah JL;have Hn:=ah (fun o o2=>(((Ch.refl (fun _=>False) w).alloc o).alloc o2).drew);unfold aJ;simp only;go_enter Tryz.func112,Tryz.ntmps112;go_wp2_with fail;have hx:=(aG.new w 79 #[.int .i64 kind,.int .i64 time,.slice A ak.length c,.string text,.int .i64 value,.bool null,.int .i64 maker,.int .i64 seq,.int .i64 place]).alloc (.cells #[.int .i64 kind2,.int .i64 bH,.slice A2 bW.length c2,.string bT,.int .i64 value2,.bool bV,.int .i64 aV,.int .i64 seq2,.int .i64 aU] 79);have hy:=aG.new (w.alloc (.cells #[.int .i64 kind,.int .i64 time,.slice A ak.length c,.string text,.int .i64 value,.bool null,.int .i64 maker,.int .i64 seq,.int .i64 place] 79)) 79 #[.int .i64 kind2,.int .i64 bH,.slice A2 bW.length c2,.string bT,.int .i64 value2,.bool bV,.int .i64 aV,.int .i64 seq2,.int .i64 aU];have hn:=Hn.out (.cells #[.int .i64 kind,.int .i64 time,.slice A ak.length c,.string text,.int .i64 value,.bool null,.int .i64 maker,.int .i64 seq,.int .i64 place] 79) (.cells #[.int .i64 kind2,.int .i64 bH,.slice A2 bW.length c2,.string bT,.int .i64 value2,.bool bV,.int .i64 aV,.int .i64 seq2,.int .i64 aU] 79);rw[World.size_alloc]at hy;generalize (w.alloc (.cells #[.int .i64 kind,.int .i64 time,.slice A ak.length c,.string text,.int .i64 value,.bool null,.int .i64 maker,.int .i64 seq,.int .i64 place] 79)).alloc (.cells #[.int .i64 kind2,.int .i64 bH,.slice A2 bW.length c2,.string bT,.int .i64 value2,.bool bV,.int .i64 aV,.int .i64 seq2,.int .i64 aU] 79)=W2 at *;generalize w.heap.size=g at *;have q1:W2.cell? ⟨g,1,none⟩=some (.int .i64 time):=hx.cell 1;have q6:W2.cell? ⟨g,6,none⟩=some (.int .i64 maker):=hx.cell 6;have q7:W2.cell? ⟨g,7,none⟩=some (.int .i64 seq):=hx.cell 7;have q8:W2.cell? ⟨g,8,none⟩=some (.int .i64 place):=hx.cell 8;have r1:W2.cell? ⟨g+1,1,none⟩=some (.int .i64 bH):=hy.cell 1;have r6:W2.cell? ⟨g+1,6,none⟩=some (.int .i64 aV):=hy.cell 6;have r7:W2.cell? ⟨g+1,7,none⟩=some (.int .i64 seq2):=hy.cell 7;have r8:W2.cell? ⟨g+1,8,none⟩=some (.int .i64 aU):=hy.cell 8;have HN:=ah hn;clear hx hy Hn hn;go_still_tail 22,rfl
 repeat still_step
 still_call (Hc.out _ _ _)
 repeat still_step
 still_call (Hc.out _ _ _)
 repeat still_step
 still_call (Hc.out _ _ _)
 repeat still_step
 still_call (Hc.out _ _ _)
 repeat still_step
 refine wpStill_nil ?_;change wpList _ _ _ _ _ W2.drew;clear q1 q6 q7 q8 r1 r6 r7 r8;generalize W2.drew=W3 at *;have HO:=ah (fun a b c d=>Iz (c:=4) (Ku (aG.new W3 3 #[.int .i64 a,.int .i64 b,.int .i64 c,.int .i64 d]) (xs:=[a,b,c,d].map (Value.int .i64))) rfl (by simp));go_wp2_with fail;refine (HO.out _ _ _ _).mono ?_;rintro e w5 ⟨rfl,rfl⟩;go_wp2_with fail;go_ret;exact ⟨by rw[HF.out];rfl,HN.out.alloc _⟩
end
end Go.Proofs.YtdbfejfhpkakhaaGreat
namespace Go.Proofs.YtdbfejfhpkakhaaGreat
section
variable {α : Type} {lt : α → α → Bool}
def iO (P:List (Tg α)) (x:Tg α) (B S:List (Tg α)) (a k:Nat):List (Tg α):=P++(B.take (k-a)++[x]++B.drop (k-a))++S
theorem iO.len {P B S:List (Tg α)} {x:Tg α} {a k:Nat}:(iO P x B S a k).length=P.length+(B.length+1)+S.length:=by
 unfold iO;simp
 omega
theorem iO.right {P B S:List (Tg α)} {x:Tg α} {a k:Nat} (ha:P.length=a) (hk:a<=k) (h:k<a+B.length):fJ (iO P x B S a k) k (k+1)=iO P x B S a (k+1):=by
 have e:=zM P S B x (k-a) (by omega);rw[show P.length+(k-a)=k by omega,show k-a+1=k+1-a by omega]at e;exact e
theorem iO.left {P B S:List (Tg α)} {x:Tg α} {a k:Nat} (ha:P.length=a) (hk:a<k) (h:k<=a+B.length):fJ (iO P x B S a k) k (k-1)=iO P x B S a (k-1):=by
 have e:=EI P S B x (k-1-a) (by omega);rw[show P.length+(k-1-a)+1=k by omega,show P.length+(k-1-a)=k-1 by omega,show k-1-a+1=k-a by omega]at e;exact e
def gW (lt:α->α->Bool) (x:Tg α) (B:List (Tg α)) (o i j:Nat):Prop:=
 o<=i/\i<=j/\j<=o+B.length/\(o<i->∃y,B[i-1-o]?=some y/\Rt lt y x)/\(j<o+B.length->∃y,B[j-o]?=some y/\Rt lt x y)
theorem gW.start (x:Tg α) (B:List (Tg α)) (o e:Nat) (he:e=o+B.length):gW lt x B o o e:=by
 subst he;exact ⟨Nat.le_refl _,by omega,Nat.le_refl _,fun h=>by omega,fun h=>by omega⟩
theorem gW.up {x y:Tg α} {B:List (Tg α)} {o i j h:Nat} (H:gW lt x B o i j) (h1:i<=h) (h2:h<j) (hy:B[h-o]?=some y) (hr:Rt lt y x):gW lt x B o (h+1) j:=
 ⟨by have:=H.1;omega,by omega,H.2.2.1,fun _=>⟨y,hy,hr⟩,H.2.2.2.2⟩
theorem gW.down {x y:Tg α} {B:List (Tg α)} {o i j h:Nat} (H:gW lt x B o i j) (h1:i<=h) (h2:h<j) (hy:B[h-o]?=some y) (hr:Rt lt x y):gW lt x B o i h:=
 ⟨H.1,h1,by have:=H.2.2.1;omega,H.2.2.2.1,fun _=>⟨y,hy,hr⟩⟩
theorem gW.ER (w:Weak lt) {x:Tg α} {B:List (Tg α)} {o i:Nat} (H:gW lt x B o i i) (sb:B.Pairwise (Rt lt)):kF lt [x] B (B.take (i-o)++[x]++B.drop (i-o)):=by
 refine vW w (by have:=H.2.2.1;omega) sb (fun h=>?_) (fun h=>?_)
 ·have:=H.2.2.2.1 (by omega)
  rwa [show i-1-o=i-o-1 by omega]at this
 ·exact H.2.2.2.2 (by have:=H.1;omega)
theorem gW.zY (w:Weak lt) {x:Tg α} {A:List (Tg α)} {o i:Nat} (H:gW lt x A o i i) (sa:A.Pairwise (Rt lt)):kF lt A [x] (A.take (i-o)++[x]++A.drop (i-o)):=by
 refine Ez w (by have:=H.2.2.1;omega) sa (fun h=>?_) (fun h=>?_)
 ·have:=H.2.2.2.1 (by omega)
  rwa [show i-1-o=i-o-1 by omega]at this
 ·exact H.2.2.2.2 (by have:=H.1;omega)
def A_ (lt:α->α->Bool) (ys:List (Tg α)) (n lo hi s r:Nat):Prop:=
 lo<=s/\s<=r/\r<=hi/\(lo<s->∃x y,ys[s-1]?=some x/\ys[n-s]?=some y/\lt y.row x.row=false)/\(r<hi->∃x y,ys[n-1-r]?=some x/\ys[r]?=some y/\lt x.row y.row=true)
theorem A_.start (ys:List (Tg α)) (n lo hi:Nat) (h:lo<=hi):A_ lt ys n lo hi lo hi:=⟨Nat.le_refl _,h,Nat.le_refl _,fun h=>by omega,fun h=>by omega⟩
theorem A_.up {ys:List (Tg α)} {n lo hi s r c:Nat} (H:A_ lt ys n lo hi s r) (h1:s<=c) (h2:c<r) (hc:c<ys.length) (hn:n-1-c<ys.length) (h:lt (ys[n-1-c]).row (ys[c]).row=false):A_ lt ys n lo hi (c+1) r:=
 ⟨by have:=H.1;omega,by omega,H.2.2.1,fun _=>⟨ys[c],ys[n-1-c],List.getElem?_eq_getElem hc,by rw[show n-(c+1)=n-1-c by omega];exact List.getElem?_eq_getElem hn,h⟩,H.2.2.2.2⟩
theorem A_.down {ys:List (Tg α)} {n lo hi s r c:Nat} (H:A_ lt ys n lo hi s r) (h1:s<=c) (h2:c<r) (hc:c<ys.length) (hn:n-1-c<ys.length) (h:lt (ys[n-1-c]).row (ys[c]).row=true):A_ lt ys n lo hi s c:=
 ⟨H.1,h1,by have:=H.2.2.1;omega,H.2.2.2.1,fun _=>⟨ys[n-1-c],ys[c],List.getElem?_eq_getElem hn,List.getElem?_eq_getElem hc,h⟩⟩
theorem Ej {α:Type} (l:List α) {a m b:Nat} (h1:a<=m) (h2:m<=b) (h:a=m∨m=b):rotL l a m b=l:=by
 unfold rotL;rcases h with rfl|rfl
 ·rw[Nat.sub_self,List.take_zero,List.append_nil,List.append_assoc]
  conv=>rhs;rw[←List.take_append_drop a l]
  congr 1
  conv=>rhs;rw[←List.take_append_drop (b-a) (l.drop a)]
  rw[List.drop_drop,show a+(b-a)=b by omega]
 ·rw[Nat.sub_self,List.take_zero,List.append_nil,List.append_assoc]
  conv=>rhs;rw[←List.take_append_drop a l]
  congr 1
  conv=>rhs;rw[←List.take_append_drop (m-a) (l.drop a)]
  rw[List.drop_drop,show a+(m-a)=m by omega]
theorem Runs.YG {P A B S:List (Tg α)} {i:Nat} {x:Tg α} (h1:P.length<=i) (h2:i<P.length+A.length) (hx:(P++A++B++S)[i]?=some x):x∈A:=by
 rw[List.append_assoc,List.append_assoc,List.getElem?_append_right h1,List.getElem?_append_left (by omega)]at hx;exact List.mem_of_getElem? hx
theorem Runs.YF {P A B S:List (Tg α)} {i:Nat} {x:Tg α} (h1:P.length+A.length<=i) (h2:i<P.length+A.length+B.length) (hx:(P++A++B++S)[i]?=some x):x∈B:=by
 rw[List.append_assoc,List.append_assoc,List.getElem?_append_right (by omega),List.getElem?_append_right (by omega),List.getElem?_append_left (by omega)]at hx;exact List.mem_of_getElem? hx
theorem A_.last (w:Weak lt) {P A B S:List (Tg α)} (hR:Runs lt P A B S) {a m b mid n lo hi s:Nat} (ha:P.length=a) (hm:a+A.length=m) (hb:m+B.length=b) (qL:2 * mid<=a+b) (wM:a+b<=2 * mid+1) (hn:n=mid+m)
 (hlo:lo=if mid<m then n-b else a) (hhi:hi=if mid<m then mid else m) (h:A_ lt (P++A++B++S) n lo hi s s):
 a<=s/\s<=m/\s<=mid/\m<=n-s/\n-s<=b/\mid<=n-s/\∃A1 A2 B1 B2:List (Tg α),A=A1++A2/\B=B1++B2/\A1.length=s-a/\A2.length=m-s/\B1.length=n-s-m/\B2.length=b-(n-s)/\
  rotL (P++A++B++S) s m (n-s)=P++(A1++B1)++(A2++B2)++S/\(∀x∈A1++B1,∀y∈A2++B2,Rt lt x y):=by
 obtain ⟨h1,_,h3,h4,h5⟩:=h
 have hbd:a<=s/\s<=m/\s<=mid/\m<=n-s/\n-s<=b/\mid<=n-s:=by
  by_cases e:mid<m
  ·rw[if_pos e]at hlo hhi;omega
  ·rw[if_neg e]at hlo hhi;omega
 obtain ⟨b1,b2,b3,b4,b5,b6⟩:=hbd;refine ⟨b1,b2,b3,b4,b5,b6,?_⟩;subst ha;refine DZ w hR hm hb qL wM (by omega) b1 b2 b4 b5 (fun hs he=>?_) (fun hs he=>?_)
 ·obtain ⟨x,y,hx,hy,hxy⟩:=h4 (by by_cases e:mid<m<;>simp only[e,if_true,if_false]at hlo<;>omega)
  exact ⟨x,y,hx,hy,Rt.lV w (hR.tg x (Runs.YG (by omega) (by omega) hx) y (Runs.YF (by omega) (by omega) hy)) hxy⟩
 ·obtain ⟨x,y,hx,hy,hxy⟩:=h5 (by by_cases e:mid<m<;>simp only[e,if_true,if_false]at hhi<;>omega)
  exact ⟨x,y,by rw[show n-s-1=n-1-s by omega];exact hx,hy,.inl hxy⟩
end
section
variable {α : Type} {lt : α → α → Bool}
theorem GR {l:List α} {i:Nat} {x:Tg α} (h:(bI l)[i]?=some x):x.tag=i/\i<l.length:=by
 obtain ⟨h1,e⟩:=List.getElem?_eq_some_iff.1 h;rw[kR]at e;subst e;rw[OI]at h1;exact ⟨rfl,h1⟩
structure St1 (lt:α->α->Bool) (l:List α) (a:Nat) (ys:List (Tg α)):Prop where
 md:a % 20=0
 pm:ys.Perm (bI l)
 bk:dP lt 20 0 a ys
 tl:ys.drop a=(bI l).drop a
theorem St1.start (l:List α):St1 lt l 0 (bI l):=⟨rfl,List.Perm.refl _,fun i x _ h=>by omega,rfl⟩
theorem St1.len {l:List α} {a:Nat} {ys:List (Tg α)} (h:St1 lt l a ys):ys.length=l.length:=by
 rw[h.pm.length_eq,OI]
theorem St1.cut {l:List α} {a:Nat} {ys:List (Tg α)} (h:St1 lt l a ys) {e:Nat} (h1:a<=e) (h2:e<=l.length) (h3:e<=a+20):∃P M S,ys=P++M++S/\P.length=a/\M.length=e-a/\S.length=l.length-e/\(M.Pairwise fun x y=>x.tag<y.tag)/\
 ∀C,C.Perm M->C.Pairwise (Rt lt)->(P++C++S).Perm (bI l)/\dP lt 20 0 e (P++C++S)/\(P++C++S).drop e=(bI l).drop e:=by
 have hl:=h.len;have ht:=OI l;have hP:(ys.take a).length=a:=by rw[List.length_take];omega
 have hM:(((bI l).drop a).take (e-a)).length=e-a:=by rw[List.length_take,List.length_drop];omega
 have hM0:∀i x,(((bI l).drop a).take (e-a))[i]?=some x->x.tag=a+i/\i<e-a:=fun i x hx=>by
  have hi:i<e-a:=by
   have:=(List.getElem?_eq_some_iff.1 hx).1;rwa [hM]at this
  rw[List.getElem?_take_of_lt hi,List.getElem?_drop]at hx;exact ⟨(GR hx).1,hi⟩
 have hy:ys=ys.take a++((bI l).drop a).take (e-a)++(bI l).drop e:=by
  conv=>lhs;rw[←List.take_append_drop a ys,h.tl]
  rw[List.append_assoc];congr 1
  conv=>lhs;rw[←List.take_append_drop (e-a) ((bI l).drop a)]
  rw[List.drop_drop,show a+(e-a)=e by omega]
 refine ⟨ys.take a,((bI l).drop a).take (e-a),(bI l).drop e,hy,hP,hM,by rw[List.length_drop,ht],?_,fun C hp hs=>?_⟩
 ·refine List.pairwise_iff_getElem.2 fun i j hi hj hij=>?_
  have e1:=(hM0 i _ (List.getElem?_eq_getElem hi)).1;have e2:=(hM0 j _ (List.getElem?_eq_getElem hj)).1;omega
 ·have hCl:C.length=e-a:=by rw[hp.length_eq,hM]
  refine ⟨?_,?_,?_⟩
  ·refine List.Perm.trans ?_ h.pm
   conv=>rhs;rw[hy]
   exact (List.Perm.append_left _ hp).append_right _
  ·refine dP.join (m:=a) (h.bk.same fun i _ hi=>?_) ?_ h.md (by decide)
   ·rw[Tv,if_pos (by omega),List.getElem?_take_of_lt hi]
   ·have:=Dq (bs':=20) (P:=ys.take a) (S:=(bI l).drop e) hp hs (by rw[hP];exact h.md) (by omega) (by decide) (fun x hx=>by
     obtain ⟨i,hi⟩:=List.mem_iff_getElem?.1 hx;obtain ⟨e1,e2⟩:=hM0 i x hi;rw[hP,hM];omega)
    rwa [hP,hM,show a+(e-a)=e by omega]at this
  ·rw[List.drop_append_of_le_length (by rw[List.length_append];omega),List.drop_eq_nil_of_le (by rw[List.length_append];omega),List.nil_append]
structure St2 (lt:α->α->Bool) (l:List α) (bs a:Nat) (ys:List (Tg α)):Prop where
 md:a % (2 * bs)=0
 pm:ys.Perm (bI l)
 bk:dP lt (2 * bs) 0 a ys
 tl:dP lt bs a l.length ys
structure St3 (lt:α->α->Bool) (l:List α) (bs:Nat) (ys:List (Tg α)):Prop where
 pm:ys.Perm (bI l)
 bk:dP lt bs 0 l.length ys
theorem St2.start {l:List α} {bs:Nat} {ys:List (Tg α)} (h:St3 lt l bs ys):St2 lt l bs 0 ys:=⟨Nat.zero_mod _,h.pm,fun i x _ h=>by omega,h.bk⟩
theorem St3.last (w:Weak lt) {l:List α} {bs:Nat} {ys:List (Tg α)} (h:St3 lt l bs ys) (hn:l.length<=bs):ys.map (fun x=>x.row)=dJ lt l:=
 uZ w h.pm (NQ h.bk hn (by rw[h.pm.length_eq,OI]))
theorem St2.len {l:List α} {bs a:Nat} {ys:List (Tg α)} (h:St2 lt l bs a ys):ys.length=l.length:=by
 rw[h.pm.length_eq,OI]
theorem St2.end_ {l:List α} {bs a:Nat} {ys:List (Tg α)} (h:St2 lt l bs a ys) (hb:0<bs) (hn:l.length<=a+bs):St3 lt l (2 * bs) ys:=
 ⟨h.pm,dP.join h.bk (Kv h.tl hb h.md hn) h.md (by omega)⟩
theorem St2.cut {l:List α} {bs a:Nat} {ys:List (Tg α)} (h:St2 lt l bs a ys) (hb:0<bs) {e:Nat} (h1:a+bs<e) (h4:e=a+2 * bs∨(e=l.length/\e<=a+2 * bs)) (h3:e<=l.length):∃P A B S,ys=P++A++B++S/\P.length=a/\A.length=bs/\B.length=e-(a+bs)/\S.length=l.length-e/\Runs lt P A B S/\
 ∀C,kF lt A B C->(P++C++S).Perm (bI l)/\dP lt (2 * bs) 0 e (P++C++S)/\dP lt bs e l.length (P++C++S):=by
 have hl:=h.len;have h2:e<=a+2 * bs:=by omega
 obtain ⟨P,A,B,S,rfl,hP,hA,hB,hS⟩:∃P A B S,ys=P++A++B++S/\P.length=a/\A.length=bs/\B.length=e-(a+bs)/\S.length=l.length-e:=by
  refine ⟨ys.take a,(ys.drop a).take bs,(ys.drop (a+bs)).take (e-(a+bs)),ys.drop e,?_,by simp;omega,by simp;omega,by simp;omega,by simp;omega⟩;conv=>lhs;rw[←List.take_append_drop a ys,←List.take_append_drop bs (ys.drop a),List.drop_drop,←List.take_append_drop (e-(a+bs)) (ys.drop (a+bs)),List.drop_drop,show a+bs+(e-(a+bs))=e by omega]
  simp only[List.append_assoc]
 have hab:a % bs=0:=by
  have h5:2 * bs∣a:=Nat.dvd_of_mod_eq_zero h.md;exact Nat.mod_eq_zero_of_dvd (Nat.dvd_trans (Nat.dvd_mul_left bs 2) h5)
 refine ⟨P,A,B,S,rfl,hP,hA,hB,hS,?_,fun C hM=>?_⟩
 ·have:=h.tl
  rw[←hP]at this hab;exact Kt this hb hab hA (by omega) (by omega)
 ·have hCl:=hM.1.length_eq
  rw[List.length_append]at hCl;refine ⟨?_,?_,?_⟩
  ·refine List.Perm.trans ?_ h.pm
   rw[List.append_assoc P A B];exact (List.Perm.append_left _ hM.1).append_right _
  ·refine dP.join (m:=a) (h.bk.same fun i _ hi=>?_) ?_ h.md (by omega)
   ·rw[Tv,if_pos (by omega),List.append_assoc,List.append_assoc,List.getElem?_append_left (by omega)]
   ·have:=Dq (bs':=2 * bs) (P:=P) (S:=S) hM.1 hM.2 (by rw[hP];exact h.md) (by rw[List.length_append];omega) (by omega) (fun x hx=>by
     rw[List.length_append,hP,hA,hB];obtain ⟨i,hi⟩:=List.mem_iff_getElem?.1 hx
     have hil:i<A.length+B.length:=by
      have:=(List.getElem?_eq_some_iff.1 hi).1;rwa [List.length_append]at this
     have hx2:(P++A++B++S)[a+i]?=some x:=by
      rw[List.append_assoc P A B,Tv,if_neg (by omega),if_pos (by rw[List.length_append];omega),show a+i-P.length=i by omega];exact hi
     obtain ⟨t1,t2⟩:=nK h.tl (by omega) (by omega) hx2 hb
     obtain ⟨q,hq⟩:∃q,a=bs * q:=by
      obtain ⟨q,hq⟩:=Nat.dvd_of_mod_eq_zero hab;exact ⟨q,hq⟩
     by_cases hib:i<bs
     ·have e1:(a+i) / bs=q:=by rw[hq,Nat.mul_add_div hb,Nat.div_eq_of_lt hib,Nat.add_zero]
      rw[e1,←hq]at t1 t2;omega
     ·have e1:(a+i) / bs=q+1:=by
       rw[hq,Nat.mul_add_div hb,show i=bs * 1+(i-bs) by omega,Nat.mul_add_div hb,Nat.div_eq_of_lt (by omega)]
      rw[e1,Nat.mul_add,←hq,Nat.mul_one]at t1 t2;have hin:=(h.tl (a+i) x (by omega) (by omega) hx2).1
      have ht:x.tag<l.length:=by
       have:=h.pm.subset (List.mem_of_getElem? hx2);obtain ⟨j,hj⟩:=List.mem_iff_getElem?.1 this;have:=GR hj;omega
      omega)
    rw[List.length_append,hP,hA,hB]at this;rwa [show a+(bs+(e-(a+bs)))=e by omega]at this
  ·refine (h.tl.sub (lo':=e) (by omega) (Nat.le_refl _)).same fun i hi _=>?_
   rw[Tv,if_neg (by omega),if_neg (by omega),List.getElem?_append_right (by simp;omega)];congr 1
   simp
   omega
end
end Go.Proofs.YtdbfejfhpkakhaaGreat
namespace Go.Proofs.YtdbfejfhpkakhaaGreat
open Go.RowKit
theorem wo (c:Nat) {k:Nat} (h:0<k):bD c k=bD c 1:=by
 unfold bD;rw[decide_eq_true h,decide_eq_true (show 0<1 by decide)]
theorem EP (c:Nat):bD c 0=decide (97<=c/\c<=122):=by
 unfold bD;simp
theorem wu {c:Nat} (h1:97<=c) (h2:c<=122) (k:Nat):bD c k=true:=by
 unfold bD;rw[decide_eq_true ⟨h1,h2⟩];rfl
section
variable {w : World}
theorem zW (c:Nat) (hc:c<256) (w:World):Calls Tryz.prog 42 #[.int .u8 (c:Int)] w fun e w'=>e=.returned (.bool (bD c 1))/\w=w':=by
 rcases qG c 1 with ⟨c1,c2,c3⟩|⟨c1,c2,c3⟩|⟨c1,c2,c4,c3⟩|⟨c1,c2,c4,c5,c6,c7,c3⟩|⟨c1,c4,c5,c6,c3⟩|⟨c1,c2,c4,c5,c3⟩|⟨c1,c2,c4,c5,c6,c3⟩|⟨c1,c2,c4,c5,c6,c3⟩
 all_goals
  have Hc:=ah c3;clear c3
  first
  |(exfalso;omega)
  |(go_enter Tryz.func42,Tryz.ntmps42
    go_wp2_with fail;go_ret;exact ⟨by rw[Hc.out];rfl,rfl⟩)
theorem qF {s:ByteArray} {k:Nat} (h:k<s.size) (hf:bD s[k].toNat k=false):aT s=false:=by
 unfold aT;rw[Bool.and_eq_false_iff];right
 rw[List.all_eq_false];refine ⟨k,List.mem_range.2 h,?_⟩;rw[byte_at h,hf];simp
theorem zL {s:ByteArray} (h1:1<=s.size) (h8:s.size<=8) (h:∀i,i<s.size->bD (iF s i) i=true):aT s=true:=by
 unfold aT;rw[show ((List.range s.size).all fun i=>bD (iF s i) i)=true from yH.2 h,Bool.and_true];exact decide_eq_true ⟨h1,h8⟩
theorem lZ {s:ByteArray} (h:¬(1<=s.size/\s.size<=8)):aT s=false:=by
 unfold aT;rw[decide_eq_false h];rfl
theorem EH (s:ByteArray) (w:World) (hs:s.size<=9223372036854775807):Calls Tryz.prog 21 #[.string s] w fun en w'=>en=.returned (.bool (aT s))/\w=w':=by
 by_cases h1:1<=s.size
 ·by_cases h8:s.size<=8
  ·have h0:0<s.size:=h1
   have HB0:=ah (fun (h:bD s[0].toNat 0=false)=>qF h0 h);have hb0:=EP s[0].toNat;by_cases d1:97<=s[0].toNat
   ·by_cases d2:s[0].toNat<=122
    ·have e1:¬((s[0].toNat:Int)<97):=by omega
     have e2:¬((122:Int)<(s[0].toNat:Int)):=by omega
     have HB:=ah (fun k (hk:k<s.size) (h:bD s[k].toNat 1=false)=>qF hk (by
      by_cases hz:k=0
      ·subst hz;rw[wu d1 d2]at h;cases h
      ·rw[wo _ (by omega)];exact h))
     have HG:=ah (fun (h:∀i (hi:i<s.size),bD s[i].toNat 1=true)=>zL h1 h8 (fun i hi=>by
      rw[byte_at hi];by_cases hz:i=0
      ·subst hz;exact wu d1 d2 _
      ·rw[wo _ (by omega)];exact h i hi))
     clear hb0 d1 d2 HB0;go_enter Tryz.func21,Tryz.ntmps21;go_wp2_with fail;go_loop [3] (fun i=>∃k:Nat,k<=s.size/\i=.int .i64 k/\Hid (∀i (hi:i<s.size),i<k->bD s[i].toNat 1=true)) (fun i=>s.size-(intOf i).toNat)
     case atStart=>exact ⟨0,by omega,rfl,ah (fun i _ hk=>by omega)⟩
     case round=>
      obtain ⟨k,hk,rfl,He⟩:=hrel;by_cases hlt:k<s.size
      ·have hb:=UInt8.toNat_lt s[k]
       have HL:=ah (fun w=>zW s[k].toNat hb w);have Oz:=ah (HB.out k hlt)
       have HE:=ah (fun (h:bD s[k].toNat 1=true) i (hi:i<s.size) (hk:i<k+1)=>(by
        by_cases e:i=k
        ·subst e;exact h
        ·exact He.out i hi (by omega):bD s[i].toNat 1=true))
       clear hb;cases hv:bD s[k].toNat 1
       ·rw[hv]at HL
        have HR:=ah (Oz.out hv);clear hv Oz;go_wp2_with fail;refine (HL.out _).mono ?_;rintro e w1 ⟨rfl,rfl⟩;go_wp2_with fail;go_ret;exact ⟨by rw[HR.out];rfl,rfl⟩
       ·rw[hv]at HL
        have HR:=ah (HE.out hv);clear hv Oz;go_wp2_with fail;refine (HL.out _).mono ?_;rintro e w1 ⟨rfl,rfl⟩;go_wp2_with fail;go_round
        case rel=>exact ⟨k+1,by omega,by go_num,HR⟩
        case measure=>simp[intOf];omega
      ·have HR:=ah (HG.out fun i hi=>He.out i hi (by omega))
       go_wp2_with fail;go_ret;exact ⟨by rw[HR.out];rfl,rfl⟩
    ·have e1:¬((s[0].toNat:Int)<97):=by omega
     have e2:((122:Int)<(s[0].toNat:Int)):=(by omega);have HR:=ah (HB0.out (by rw[hb0];exact decide_eq_false (by omega)));clear hb0 d1 d2 HB0;go_enter Tryz.func21,Tryz.ntmps21;go_wp2_with fail;go_ret;exact ⟨by rw[HR.out];rfl,rfl⟩
   ·have e1:((s[0].toNat:Int)<97):=by omega
    have HR:=ah (HB0.out (by rw[hb0];exact decide_eq_false (by omega)));clear hb0 d1 HB0;go_enter Tryz.func21,Tryz.ntmps21;go_wp2_with fail;go_ret;exact ⟨by rw[HR.out];rfl,rfl⟩
  ·have HR:=ah (lZ (s:=s) (by omega))
   have h8':(8:Int)<(s.size:Int):=(by omega);go_enter Tryz.func21,Tryz.ntmps21;go_wp2_with fail;go_ret;exact ⟨by rw[HR.out];rfl,rfl⟩
 ·have HR:=ah (lZ (s:=s) (by omega))
  have h1':(s.size:Int)<1:=by omega
  go_enter Tryz.func21,Tryz.ntmps21;go_wp2_with fail;go_ret;exact ⟨by rw[HR.out];rfl,rfl⟩
end
end Go.Proofs.YtdbfejfhpkakhaaGreat
