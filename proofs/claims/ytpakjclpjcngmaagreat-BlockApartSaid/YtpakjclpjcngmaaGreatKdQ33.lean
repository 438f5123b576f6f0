/- Contracts and plain laws that the last text rests on. Conditions: each theorem states its own. -/
import Derived.Test.YtpakjclpjcngmaaGreatKdQ31
import Derived.Test.YtpakjclpjcngmaaGreatKdPdDelta4
import Derived.Test.YtpakjclpjcngmaaGreatKdQ32
import Derived.Test.YtpakjclpjcngmaaGreatKdQ14
set_option maxRecDepth 100000
set_option maxHeartbeats 32000000
set_option linter.unusedVariables false
namespace Go.Proofs.YtpakjclpjcngmaaGreat
open Go.RowKit
theorem Oz (D:Nat->Prop) (A:Option Addr) (n c:Nat) (l:List ByteArray) (W:World) (hr:Rd W D 1 A n (bl (aA 3 (bD l)))) (hl:(aA 3 (bD l)).length=n) (hn:l.length<=2048) (hs:∀s∈l,s.size<=1024) (hC:(bD l).length<=65536)
 (hcont:Calls Tryz.prog 197 #[.int .u8 3,.slice A n c] W (Pm W (bD l))):
 Calls Tryz.prog 136 #[.int .u8 3,.slice A n c,.func (.func 138) #[] #[],.func (.func 101) #[] #[]] W (z4M W l):=by
 have hput:=fun (D:Nat->Prop) (A:Option Addr) (c:Nat) (w:World) (h:Rd w D 1 A l.length (dM l)) (hc:l.length<=c)=>z4Y D A l.length c l w h rfl hn hs hc hC;have hcl:=fun (D:Nat->Prop) (g:Nat) (A:Option Addr) (c:Nat) (w:World) (h:aH w D g A c (bD l) 0 0)=>Jk D g A c l w h hn hs;have hstr:=fun (D:Nat->Prop) (A:Option Addr) (c:Nat) (w:World) (h:Rd w D 1 A n (bl (aA 3 (bD l))))=>rX (P:=Tryz.prog) w 26 9 5 Tryz.underlying26 Tryz.underlying5 Tryz.underlying9 D A n c _ h;have lD:=ah hput;have AL:=ah hcl;have gK:=ah hstr;have Hc:=ah hcont;clear hput hcl hstr hcont;generalize bD l=fc at *;generalize aA 3 fc=ch at *;subst hl;go_enter Tryz.func136,Tryz.ntmps136;go_wp2_with fail;with_reducible refine Hc.out.mono ?_
 rintro e w1 ⟨g,A1,c1,D1,rfl,cu1,n1,hg,hD1⟩;go_wp2_with fail;with_reducible refine (AL.out _ _ _ _ _ cu1).mono ?_
 rintro e w2 ⟨v2,rfl,o2,cu2,c2⟩;have n2:Nx W w2:=n1.trans c2 fun i hi e=>by omega
 have hs1:=n1.size;have yP:ay W w2 9 1 v2 l.length (dM l):=⟨kX o2 hs1,n2⟩;obtain ⟨A2,cc2,rfl,Ob,_⟩:=z04 o2;have hen:=su cu2;rw[show bg fc.length fc.length 0=0 by unfold bg;rw[if_neg (by simp),if_neg (by omega)]]at hen;have jc:=ah hen;clear hen o2 c2 cu1 cu2;go_wp2_with fail;with_reducible refine jc.out.mono ?_
 rintro e w3 ⟨rfl,d3⟩;have o3:=yP.tr d3.nx;clear d3 jc;go_wp2_with fail;with_reducible refine (lD.out _ _ _ _ o3.rd Ob).mono ?_
 rintro e w4 ⟨k4,cap4,rfl,o4,h4⟩;have o5:=o3.tr o4.nx;have n5:=o5.nx;have e1:=gK.out _ _ cap4 w4 o4.jZ;have e2:=gK.out D A c w4 (hr.nx (by decide) n5);generalize aX ch=sx at *;go_wp2_with fail;go_ret2;exact ⟨_,rfl,o5⟩
theorem OE (D:Nat->Prop) (A:Option Addr) (n c:Nat) (l:List ByteArray) (W:World) (hr:Rd W D 1 A n (bl (aA 3 (bD l)))) (hl:(aA 3 (bD l)).length=n) (hn:l.length<=2048) (hs:∀s∈l,s.size<=1024) (hC:(bD l).length<=65536)
 (hcont:Calls Tryz.prog 197 #[.int .u8 3,.slice A n c] W (Pm W (bD l))):
 Calls Tryz.prog 63 #[.slice A n c] W (z4M W l):=by
 have Hr:=ah (Oz D A n c l W hr hl hn hs hC hcont);clear hr hcont hl;go_enter Tryz.func63,Tryz.ntmps63;go_wp2_with fail;with_reducible refine Hr.out.mono ?_
 rintro e w1 ⟨v,rfl,h⟩;go_wp2_with fail;go_ret2;exact ⟨_,rfl,h⟩
theorem um (D:Nat->Prop) (A:Option Addr) (n c:Nat) (l:List ByteArray) (W:World) (hr:Rd W D 1 A n (bl (aA 3 (bD l)))) (iJ:∀k,D k->k<W.heap.size) (hl:(aA 3 (bD l)).length=n) (hc:n<=c) (hn:l.length<=2048) (hs:∀s∈l,s.size<=1024) (hC:(bD l).length<=65536):
 Calls Tryz.prog 63 #[.slice A n c] W (z4M W l):=
 OE D A n c l W hr hl hn hs hC (z2U D A n c 3 (bD l) W hr iJ (z2t hn hs).1 (by decide) hl hc hC (z2t hn hs).2.2)
def rP (W:World) (e:Ending) (w':World):Prop:=
 ∃v l er,e=.returned (.tuple #[v,.int .i64 er])/\ay W w' 2 1 v l.length (il l)/\l.length<=2048/\∀z∈l,i64 z
theorem rP.bad {W w':World} {er:Int} (n:Nx W w'):rP W (.returned (.tuple #[.slice none 0 0,.int .i64 er])) w':=
 ⟨_,[],er,rfl,ay.nil _ _ _ _ n,Nat.zero_le _,fun z hz=>by cases hz⟩
theorem z4B (l:List Int) (z:Int):il (l++[z])=il l++[.int .i64 z]:=by simp[il]
theorem z3z {l:List Int} {z:Int} (h:∀y∈l,i64 y) (h1: -1152921504606846976<=z) (h2:z<=1152921504606846976):∀y∈l++[z],i64 y:=fun y hy=>by
 rcases List.mem_append.1 hy with hy|hy
 ·exact h y hy
 ·rw[List.mem_singleton.1 hy];unfold i64;omega
theorem decode_any (D:Nat->Prop) (A:Option Addr) (n c:Nat) (b:List Nat) (way:Nat) (W:World) (hr:Rd W D 1 A n (bl b)) (ok:okB b) (hl:b.length=n) (hn:n<=1000000000) (hc:n<=c) (hw:way<256):
 Calls Tryz.prog 135 #[.slice A n c,.int .i64 (way:Int)] W (rP W):=by
 obtain ⟨i0,hi0,hz0,hz1,hz2⟩:=info_parts Tryz.kC;by_cases hw2:2<way
 ·have q1:decide ((way:Int)<0)=false:=by rw[decide_eq_false_iff_not];omega
  have q2:decide ((2:Int)<(way:Int))=true:=by rw[decide_eq_true_eq];omega
  clear hr ok hl hc;go_enter Tryz.func135,Tryz.ntmps135;go_wp2_with fail;go_ret2;exact rP.bad (Ch.refl _ _)
 ·have Hu:=ah (lZ D A n c b 0 W hr ok hl hn hc (by omega))
  have Hi:=ah (fun (p:Nat) (w':World) (nx:Nx W w') (hp:p<=1000000000)=>yQ D A n c b p w' (hr.nx (by decide) nx) ok hl hn hc hp);have hu64:=z5e ok 0;have hul:=z3a (b:=b) (p:=0) (Nat.zero_le _);rw[hl,Nat.zero_add]at hul;have AO:=ah (fun p (hp:p<=b.length)=>z3a (b:=b) hp);have HRT:=ah (fun p=>Zg (z5e ok p));unfold XY at Hu;unfold ITo at Hi;obtain ⟨u,hu⟩:∃u,u=(aO b 0).1:=⟨_,rfl⟩;obtain ⟨a0,ha0⟩:∃u,u=(aO b 0).2.1:=⟨_,rfl⟩;obtain ⟨e0,he0⟩:∃u,u=(aO b 0).2.2:=⟨_,rfl⟩;rw[show ((0:Nat):Int)=0 from rfl]at Hu hul;rw[←hu,←ha0,←he0]at Hu;rw[←hu]at hu64;rw[←ha0]at hul;have HBL:=ah hl;clear hu ha0 he0 hr ok hl;have q1:decide ((way:Int)<0)=false:=by rw[decide_eq_false_iff_not];omega
  have q2:decide ((2:Int)<(way:Int))=false:=by rw[decide_eq_false_iff_not];omega
  go_enter Tryz.func135,Tryz.ntmps135;go_wp2_with fail;refine Hu.out.mono ?_;rintro e w1 ⟨rfl,rfl⟩;clear Hu q1 q2;by_cases hee:e0=0
  ·subst hee
   by_cases hu2:2048<u
   ·have q1:(2048:Int)<(u:Int):=by omega
    go_wp2_with fail;go_ret2;exact rP.bad (Ch.refl _ _)
   ·have q1:¬(2048:Int)<(u:Int):=by omega
    have kw0:IntKind.i64.wrap (u:Int)=(u:Int):=IntWalk.i64_in _ (by omega);go_wp2_with fail;go_loopw [7,9,10,11,37] (fun a v la st i wr=>∃(k p:Nat) (lz s:Int) (l:List Int),k<=u/\l.length=k/\i=.int .i64 (k:Int)/\a=.int .i64 (p:Int)/\la=.int .i64 lz/\st=.int .i64 s/\p<=n/\ -1152921504606846976<=lz/\lz<=1152921504606846976/\(way=2-> -2305843009213693952<=s/\s<=2305843009213693952)/\(∀z∈l,i64 z)/\Hid (ay W wr 2 1 v k (il l))) (fun _ _ _ _ i _=>u-(intOf i).toNat)
    case atStart=>exact ⟨0,_,0,0,[],Nat.zero_le _,rfl,rfl,rfl,rfl,rfl,hul,by omega,by omega,fun _=>by omega,(fun z hz=>by cases hz),ah (ay.nil _ _ _ _ (Ch.refl _ W))⟩
    case round=>
     obtain ⟨w4,rfl⟩:∃w4:World,w4=wr:=⟨_,rfl⟩;obtain ⟨k,p,lz,s,l,hk,hlk,rfl,rfl,rfl,rfl,hp,hz1',hz2',hs,hok,O4⟩:=hrel;have EZ:=ah hlk;have mO:=ah hok;have N4:=ah O4.out.nx;clear hlk hok;by_cases hlt:k<u
     ·have HI:=ah (Hi.out p w4 N4.out (by omega))
      have hrl:=AO.out p (by rw[HBL.out];exact hp);rw[HBL.out]at hrl;have hrt:=HRT.out p;obtain ⟨q,hq⟩:∃u,u=(aO b p).2.1:=⟨_,rfl⟩;obtain ⟨er,her⟩:∃u,u=(aO b p).2.2:=⟨_,rfl⟩;obtain ⟨T,hT⟩:∃u,u=zag (aO b p).1:=⟨_,rfl⟩;rw[←hq,←her,←hT]at HI;rw[←hq]at hrl;rw[←hT]at hrt;clear hq her hT;by_cases he:er=0
      ·subst he
       have HI2:Hid (Calls Tryz.prog 198 #[.slice A n c,.int .i64 (p:Int)] w4 fun e w'=>e=.returned (.tuple #[.int .i64 T,.int .i64 (q:Int),.int .i64 0])/\w4=w'):=ah (by
        have h:=HI.out;simp only[if_true]at h;exact h)
       clear HI;go_wp2_with fail;refine HI2.out.mono ?_;rintro e w5 ⟨rfl,rfl⟩;clear HI2;have kp:IntKind.i64.wrap ((p:Int)+(q:Int))=((p+q:Nat):Int):=by rw[IntWalk.i64_in _ (by omega)];omega
       by_cases t1:T< -4611686018427387904
       ·go_wp2_with fail
        go_ret2;exact rP.bad N4.out
       ·by_cases t2:4611686018427387904<T
        ·go_wp2_with fail
         go_ret2;exact rP.bad N4.out
        ·have fin:∀(X S:Int),(way=2->S=X∨S=X-lz)-> -1152921504606846976<=X->X<=1152921504606846976->(way=2-> -2305843009213693952<=S/\S<=2305843009213693952):=fun X S h h1 h2 hw=>by
          rcases h hw with rfl|rfl<;>omega
         have FIN:=ah fin;clear fin;have hcl:(way=0)∨(k=0/\(way=1∨way=2))∨(1<=k/\way=1)∨(k=1/\way=2)∨(2<=k/\way=2):=(by omega);rcases hcl with hwy|⟨hky,hwy⟩|⟨hky,hwy⟩|⟨hky,hwy⟩|⟨hky,hwy⟩
         ·have f1:((way:Int)==2)=false:=by rw[beq_eq_false_iff_ne];omega
          have f2:((way:Int) !=0)=false:=by rw[bne_eq_false_iff_eq];omega
          clear hs hwy;by_cases x1:T< -1152921504606846976
          ·go_wp2_with fail
           go_ret2;exact rP.bad N4.out
          ·by_cases x2:1152921504606846976<T
           ·go_wp2_with fail
            go_ret2;exact rP.bad N4.out
           ·have HF:=ah (FIN.out T T (by exact fun h=>.inl rfl) (by omega) (by omega))
            clear FIN;go_wp2_with (at_builtin;refine z08 rfl (.tmp 85) (.tmp 87) _ rfl 2 i0 _ 8 Tryz.underlying114 hi0 hz0 hz1 hz2 rfl (.int .i64 T) rfl rfl O4.out rfl (by simp only[maxLen];omega) (by omega) ?_;intro v6 w6 o6 m6)
            go_roundw
            case rel=>exact ⟨k+1,p+q,T,T,l++[T],Nat.succ_le_of_lt hlt,by rw[List.length_append,EZ.out];rfl,by go_num,by go_num,rfl,rfl,hrl,by omega,by omega,HF.out,z3z mO.out (by omega) (by omega),ah (by rw[z4B];exact o6)⟩
            case measure=>simp[intOf];omega
         ·rcases hwy with hwy|hwy
          ·have f1:((way:Int)==2)=false:=by rw[beq_eq_false_iff_ne];omega
           have f2:((way:Int) !=0)=true:=by rw[bne_iff_ne];omega
           have g1:¬(1:Int)<(k:Int):=(by omega);have g0:¬(0:Int)<(k:Int):=(by omega);clear hs hwy hky;by_cases x1:T< -1152921504606846976
           ·go_wp2_with fail
            go_ret2;exact rP.bad N4.out
           ·by_cases x2:1152921504606846976<T
            ·go_wp2_with fail
             go_ret2;exact rP.bad N4.out
            ·have HF:=ah (FIN.out T T (by exact fun h=>.inl rfl) (by omega) (by omega))
             clear FIN;go_wp2_with (at_builtin;refine z08 rfl (.tmp 85) (.tmp 87) _ rfl 2 i0 _ 8 Tryz.underlying114 hi0 hz0 hz1 hz2 rfl (.int .i64 T) rfl rfl O4.out rfl (by simp only[maxLen];omega) (by omega) ?_;intro v6 w6 o6 m6)
             go_roundw
             case rel=>exact ⟨k+1,p+q,T,T,l++[T],Nat.succ_le_of_lt hlt,by rw[List.length_append,EZ.out];rfl,by go_num,by go_num,rfl,rfl,hrl,by omega,by omega,HF.out,z3z mO.out (by omega) (by omega),ah (by rw[z4B];exact o6)⟩
             case measure=>simp[intOf];omega
          ·have f1:((way:Int)==2)=true:=by rw[beq_iff_eq];omega
           have f2:((way:Int) !=0)=true:=by rw[bne_iff_ne];omega
           have g1:¬(1:Int)<(k:Int):=(by omega);have g0:¬(0:Int)<(k:Int):=(by omega);clear hs hwy hky;by_cases x1:T< -1152921504606846976
           ·go_wp2_with fail
            go_ret2;exact rP.bad N4.out
           ·by_cases x2:1152921504606846976<T
            ·go_wp2_with fail
             go_ret2;exact rP.bad N4.out
            ·have HF:=ah (FIN.out T T (by exact fun h=>.inl rfl) (by omega) (by omega))
             clear FIN;go_wp2_with (at_builtin;refine z08 rfl (.tmp 85) (.tmp 87) _ rfl 2 i0 _ 8 Tryz.underlying114 hi0 hz0 hz1 hz2 rfl (.int .i64 T) rfl rfl O4.out rfl (by simp only[maxLen];omega) (by omega) ?_;intro v6 w6 o6 m6)
             go_roundw
             case rel=>exact ⟨k+1,p+q,T,T,l++[T],Nat.succ_le_of_lt hlt,by rw[List.length_append,EZ.out];rfl,by go_num,by go_num,rfl,rfl,hrl,by omega,by omega,HF.out,z3z mO.out (by omega) (by omega),ah (by rw[z4B];exact o6)⟩
             case measure=>simp[intOf];omega
         ·have f1:((way:Int)==2)=false:=by rw[beq_eq_false_iff_ne];omega
          have f2:((way:Int) !=0)=true:=by rw[bne_iff_ne];omega
          have g0:(0:Int)<(k:Int):=(by omega);obtain ⟨X,hX⟩:∃X,X=T+lz:=⟨_,rfl⟩;have kw1:IntKind.i64.wrap (T+lz)=X:=(by rw[IntWalk.i64_in _ (by omega),hX]);have HX:=ah hX;have hw2':¬way=2:=(by omega);clear hs hX hwy hky;by_cases x1:X< -1152921504606846976
          ·go_wp2_with fail
           go_ret2;exact rP.bad N4.out
          ·by_cases x2:1152921504606846976<X
           ·go_wp2_with fail
            go_ret2;exact rP.bad N4.out
           ·have HF:=ah (FIN.out X T (by intro h;omega) (by omega) (by omega))
            clear FIN;go_wp2_with (at_builtin;refine z08 rfl (.tmp 85) (.tmp 87) _ rfl 2 i0 _ 8 Tryz.underlying114 hi0 hz0 hz1 hz2 rfl (.int .i64 X) rfl rfl O4.out rfl (by simp only[maxLen];omega) (by omega) ?_;intro v6 w6 o6 m6)
            go_roundw
            case rel=>exact ⟨k+1,p+q,X,T,l++[X],Nat.succ_le_of_lt hlt,by rw[List.length_append,EZ.out];rfl,by go_num,by go_num,rfl,rfl,hrl,by omega,by omega,HF.out,z3z mO.out (by omega) (by omega),ah (by rw[z4B];exact o6)⟩
            case measure=>simp[intOf];omega
         ·have f1:((way:Int)==2)=true:=by rw[beq_iff_eq];omega
          have f2:((way:Int) !=0)=true:=by rw[bne_iff_ne];omega
          have g1:¬(1:Int)<(k:Int):=(by omega);have g0:(0:Int)<(k:Int):=(by omega);obtain ⟨X,hX⟩:∃X,X=T+lz:=⟨_,rfl⟩;have kw1:IntKind.i64.wrap (T+lz)=X:=(by rw[IntWalk.i64_in _ (by omega),hX]);have HX:=ah hX;clear hs hX hwy hky;by_cases x1:X< -1152921504606846976
          ·go_wp2_with fail
           go_ret2;exact rP.bad N4.out
          ·by_cases x2:1152921504606846976<X
           ·go_wp2_with fail
            go_ret2;exact rP.bad N4.out
           ·have HF:=ah (FIN.out X T (by intro h;have:=HX.out;omega) (by omega) (by omega))
            clear FIN;go_wp2_with (at_builtin;refine z08 rfl (.tmp 85) (.tmp 87) _ rfl 2 i0 _ 8 Tryz.underlying114 hi0 hz0 hz1 hz2 rfl (.int .i64 X) rfl rfl O4.out rfl (by simp only[maxLen];omega) (by omega) ?_;intro v6 w6 o6 m6)
            go_roundw
            case rel=>exact ⟨k+1,p+q,X,T,l++[X],Nat.succ_le_of_lt hlt,by rw[List.length_append,EZ.out];rfl,by go_num,by go_num,rfl,rfl,hrl,by omega,by omega,HF.out,z3z mO.out (by omega) (by omega),ah (by rw[z4B];exact o6)⟩
            case measure=>simp[intOf];omega
         ·have f1:((way:Int)==2)=true:=by rw[beq_iff_eq];omega
          have f2:((way:Int) !=0)=true:=by rw[bne_iff_ne];omega
          have g1:(1:Int)<(k:Int):=(by omega);have g0:(0:Int)<(k:Int):=(by omega);obtain ⟨hs1,hs2⟩:=hs hwy;clear hs;obtain ⟨Y,hY⟩:∃Y,Y=T+s:=⟨_,rfl⟩;have kwY:IntKind.i64.wrap (T+s)=Y:=(by rw[IntWalk.i64_in _ (by omega),hY]);obtain ⟨X,hX⟩:∃X,X=Y+lz:=⟨_,rfl⟩;have kw1:IntKind.i64.wrap (Y+lz)=X:=(by rw[IntWalk.i64_in _ (by omega),hX]);have HX:=ah hX;clear hX hY hwy hky;by_cases x1:X< -1152921504606846976
          ·go_wp2_with fail
           go_ret2;exact rP.bad N4.out
          ·by_cases x2:1152921504606846976<X
           ·go_wp2_with fail
            go_ret2;exact rP.bad N4.out
           ·have HF:=ah (FIN.out X Y (by intro h;have:=HX.out;omega) (by omega) (by omega))
            clear FIN;go_wp2_with (at_builtin;refine z08 rfl (.tmp 85) (.tmp 87) _ rfl 2 i0 _ 8 Tryz.underlying114 hi0 hz0 hz1 hz2 rfl (.int .i64 X) rfl rfl O4.out rfl (by simp only[maxLen];omega) (by omega) ?_;intro v6 w6 o6 m6)
            go_roundw
            case rel=>exact ⟨k+1,p+q,X,Y,l++[X],Nat.succ_le_of_lt hlt,by rw[List.length_append,EZ.out];rfl,by go_num,by go_num,rfl,rfl,hrl,by omega,by omega,HF.out,z3z mO.out (by omega) (by omega),ah (by rw[z4B];exact o6)⟩
            case measure=>simp[intOf];omega
      ·have q1:(er !=0)=true:=by rw[bne_iff_ne];exact he
       go_wp2_with fail;refine HI.out.mono ?_;rintro e w5 ⟨rfl,rfl⟩;go_wp2_with fail;go_ret2;exact rP.bad N4.out
     ·obtain rfl:u=k:=by omega
      by_cases hpn:p<n
      ·have q2:(p:Int)<(n:Int):=by omega
       go_wp2_with fail;go_ret2;exact rP.bad N4.out
      ·have q2:¬(p:Int)<(n:Int):=by omega
       obtain ⟨Av,cv,rfl, -, -⟩:=O4.out.form;go_wp2_with fail;go_ret2;have hl:=EZ.out;exact ⟨_,l,0,rfl,by rw[hl];exact O4.out,by omega,mO.out⟩
  ·have q1:(e0 !=0)=true:=by rw[bne_iff_ne];exact hee
   go_wp2_with fail;go_ret2;exact rP.bad (Ch.refl _ _)
theorem XH (l m:List Nat):bl (l++m)=bl l++bl m:=by simp[bl]
theorem Jb {W w5 w6:World} {D:Nat->Prop} {g:Nat} {A:Option Addr} {c:Nat} {T:List Nat} {p:Nat} {e:Int} {u:Value} (cu:aH w5 D g A c T p e) (hgl:g<W.heap.size) (iD:∀k,D k->k<W.heap.size) (c5:Ch (· =g) W w5)
 (hg:w5.grownBy w6 u.ownBlock) (hu:∀j,u.ownBlock=some j->W.heap.size<=j):aH w6 D g A c T p e/\Ch (· =g) W w6:=by
 have c6:Ch (fun j=>u.ownBlock=some j) w5 w6:=(Ch.refl _ w5).grown hg fun j hj _=>hj;exact ⟨cu.ch c6 (fun e=>by have:=hu _ e;omega) (fun j hj e=>by have:=hu _ e;have:=iD j hj;omega),c5.trans c6 fun i hi e=>by have:=hu _ e;omega⟩
theorem z6e {w:World} {D:Nat->Prop} {g:Nat} {A:Option Addr} {c:Nat} {xs:List Nat} {p:Nat} (h:aH w D g A c xs p 0) (n:Nat):Calls Tryz.prog 132 #[.pointer (some ⟨g,0,none⟩),.int .i64 (n:Int)] w fun en w'=>
 ∃(A1:Option Addr) (c1:Nat) (ys:List Nat) (p':Nat) (e':Int),en=.returned (.slice A1 ys.length c1)/\ys.length<=c1/\Rd w' (fun k=>w.heap.size<=k/\k<w'.heap.size) 1 A1 ys.length (bl ys)/\okB ys/\cO w D g A c xs p' e' w'/\e'≠5:=by
 by_cases hn:p+n<=xs.length
 ·refine (z16 h n hn).mono ?_
  rintro en w' ⟨k,cap,rfl,t,o,hc,hk⟩;have hl:((xs.drop p).take n).length=n:=by rw[List.length_take,List.length_drop];omega
  refine ⟨some ⟨k,0,none⟩,cap,(xs.drop p).take n,_,_,by rw[hl],by omega,?_,fun x hx=>h.ok x (List.mem_of_mem_drop (List.mem_of_mem_take hx)),t,by decide⟩;rw[hl];exact (Rd.dh o).more fun j hj=>⟨hj.2.1,hj.2.2⟩
 ·refine (z2R h (n:Int) (.inr (by have:=h.pos;omega))).mono ?_
  rintro en w' ⟨rfl,t⟩;exact ⟨none,0,[],_,_,rfl,Nat.le_refl _,Rd.none_ _ _ _ _,(fun x hx=>by cases hx),t,by decide⟩
theorem NJ (D:Nat->Prop) (g:Nat) (A:Option Addr) (c:Nat) (T:List Nat) (W:World) (h:aH W D g A c T 0 0):
 Calls Tryz.prog 134 #[.pointer (some ⟨g,0,none⟩)] W (oC W D g A c T 2 il fun l=>l.length<=2048/\∀z∈l,i64 z):=by
 obtain ⟨i0,hi0,hz0,hz1,hz2⟩:=info_parts Tryz.info5;have hgl:=h.blk.lt;have iD:=h.bnd;have hTl:=h.len;have Hb0:=ah (z6e h 1);clear h;go_enter Tryz.func134,Tryz.ntmps134;go_wp2_with fail;refine Hb0.out.mono ?_;rintro e w2 ⟨A2,c2',ys,p2,q2,rfl,hyc,r2,oky,t2,hq2⟩;have hw2:=t2.gW.size;have SQ:g<w2.heap.size:=by omega
 have Tj:∀k,D k->k<w2.heap.size:=fun k hk=>by have:=iD k hk;omega
 have t2c:=t2.cur;have t2g:=t2.gW;clear Hb0 t2;go_wp2_with fail;go_loopw [4] (fun v wr=>∃(p:Nat) (q:Int) (L:List Nat),L.length<=p/\q≠5/\okB L/\aH wr D g A c T p q/\wr.ownsRow w2.heap.size 5 1 v L.length (bl L)/\Ch (· =g) w2 wr) (fun v _=>T.length-mV v)
 case atStart=>exact ⟨p2,q2,[],Nat.zero_le _,hq2,(fun x hx=>by cases hx),t2c,World.ownsRow_nil _ _ _ _,Ch.refl _ _⟩
 case round=>
  clear t2c;obtain ⟨w4,rfl⟩:∃w4:World,w4=wr:=⟨_,rfl⟩;obtain ⟨p,q,L,hLp,hq5,okL,cu4,o4,c4⟩:=hrel;obtain ⟨A4,c4',rfl,hc4,_⟩:=z04 o4;have hpT:=cu4.pos;have jc:=ah (su cu4);by_cases h5:bg T.length p q=5/\q=0
  ·obtain ⟨h5,rfl⟩:=h5
   have hpl:p<T.length:=by
    unfold bg at h5;rw[if_neg (by simp)]at h5;split at h5
    ·assumption
    ·exact absurd h5 (by decide)
   rw[h5]at jc;clear h5;go_wp2_with fail;refine jc.out.mono ?_;rintro e w5 ⟨rfl,d5⟩;have cu5:=cu4.nx d5.nx;have o5:=z09 o4 d5.nx (fun _ _ hf=>hf);have c5:=c4.tr d5.nx;have hby:=z16 cu5 1 (by omega);unfold Zj at hby;have zZ:=ah hby;have hw5:=c5.size;have Hx:Hid (((T.drop p).take 1).length=1/\okB ((T.drop p).take 1)):=ah ⟨by rw[List.length_take,List.length_drop];omega,fun x hx=>cu5.ok x (List.mem_of_mem_drop (List.mem_of_mem_take hx))⟩;generalize (T.drop p).take 1=xs at *;clear hby cu4 o4 c4 d5 jc;go_wp2_with fail;refine zZ.out.mono ?_;rintro e w6 ⟨k6,cap6,rfl,t6,o6,hc6,hk6⟩;have hu:∀j,(Value.slice A4 L.length c4').ownBlock=some j->w2.heap.size<=j:=fun j hj=>(o5.lt j hj).1;have o56:=z09 o5 t6.gW (fun j hj e=>by have:=hu j hj;omega);have c6:Ch (· =g) w2 w6:=c5.trans t6.gW fun _ _ e=>e;have hw6:=c6.size;have r6:=Rd.dh o6;have one:∀(v':Value) (w8:World),w6.grownBy w8 (Value.slice A4 L.length c4').ownBlock->aH w8 D g A c T (p+1) 0/\Ch (· =g) w2 w8:=fun v' w8 hg=>Jb t6.cur SQ Tj c6 hg hu;have One:=ah one;clear one t6 o6 o5 c5 c6 zZ hu cu5;go_wp2_with (at_builtin;refine z03 _ rfl (.tmp 12) (.tmp 14) _ rfl w2.heap.size 5 i0 _ 1 1 Tryz.underlying26 hi0 hz0 hz1 hz2 rfl (by omega) _ L.length (bl L) rfl o56 _ (some ⟨k6,0,none⟩) 1 cap6 (bl xs) rfl r6 (kR _) (by simp only[maxLen];omega) (by omega) (by omega) ?_;intro v' w8 h2 h3 h4)
   obtain ⟨A8,c8',rfl,_,_⟩:=z04 h2;go_roundw
   case rel=>
    obtain ⟨q1,q2⟩:=One.out (.slice A8 (L.length+1) c8') w8 h3;have hl:(L++xs).length=L.length+1:=(by rw[List.length_append,Hx.out.1]);refine ⟨p+1,0,L++xs,by omega,by decide,fun x hx=>?_,q1,by rw[hl,XH];exact h2,q2⟩;rcases List.mem_append.1 hx with hx|hx
    ·exact okL x hx
    ·exact Hx.out.2 x hx
   case measure=>simp[mV];omega
  ·have hE:bg T.length p q≠5:=fun e=>by
    by_cases hq0:q=0
    ·exact h5 ⟨e,hq0⟩
    ·unfold bg at e
     rw[if_pos hq0]at e;exact hq5 e
   have e1:(bg T.length p q==5)=false:=by rw[beq_eq_false_iff_ne];exact hE
   have hLl:L.length<=1000000000:=(by omega);clear h5 hE hq5;generalize bg T.length p q=E at *;go_wp2_with fail;refine jc.out.mono ?_;rintro e w5 ⟨rfl,d5⟩;have cu5:=cu4.nx d5.nx;have o5:=z09 o4 d5.nx (fun _ _ hf=>hf);have c5:=c4.tr d5.nx;have hw5:=c5.size;have r5:=r2.ch (by decide) c5 (fun k _ hk e=>by have:=hk.1;omega);have C5:=ah (t2g.trans c5 fun _ _ e=>e);clear jc cu4 o4 c4 d5 r2 t2g c5;by_cases hy0:ys.length=0
   ·have e2:((ys.length:Int)==0)=true:=by rw[beq_iff_eq];omega
    clear hy0;go_wp2_with fail;go_ret;exact ⟨[],_,_,_,rfl,⟨Nat.zero_le _,fun z hz=>by cases hz⟩,World.ownsRow_nil _ _ _ _,cu5,C5.out⟩
   ·have hyp:0<ys.length:=by omega
    obtain ⟨ad,rfl, -,hcell⟩:=r5.2 hyp;have hc0:=hcell 0 _ (by rw[bl,List.getElem?_map,List.getElem?_eq_getElem hyp];rfl);have hx:=oky _ (List.getElem_mem hyp);have e2:((ys.length:Int)==0)=false:=by rw[beq_eq_false_iff_ne];omega
    generalize ys[0]=x at *;have kx:IntKind.i64.wrap (x:Int)=(x:Int):=IntWalk.i64_in _ (by omega);have HD:=ah (decode_any _ A4 L.length c4' L x w5 (Rd.dh o5) okL rfl hLl hc4 hx);rw[show ad.add 0=ad by simp[Addr.add]]at hc0;clear hcell r5 o5 hy0;go_wp2_with fail;refine HD.out.mono ?_;rintro e w6 ⟨v6,l,er,rfl,o6,hl1,hl2⟩;go_wp2_with fail;go_ret;exact ⟨l,v6,_,_,rfl,⟨hl1,hl2⟩,kX o6.own (by omega),cu5.nx o6.nx,C5.out.tr o6.nx⟩
def Vd (W:World) (e:Ending) (w':World):Prop:=
 ∃(D:Nat->Prop) (A:Option Addr) (c:Nat) (ys:List Nat) (er:Int),e=.returned (.tuple #[.slice A ys.length c,.int .i64 er])/\Rd w' D 1 A ys.length (bl ys)/\Nx W w'
theorem Vd.nil {W w':World} {er:Int} (n:Nx W w'):Vd W (.returned (.tuple #[.slice none 0 0,.int .i64 er])) w':=⟨fun _=>True,none,0,[],er,rfl,Rd.none_ _ _ _ _,n⟩
theorem Vd.chunk {W w':World} {xs:List Nat} {e:Ending} (h:VB W xs e w'):Vd W e w':=by
 obtain ⟨k,cap,rfl,o, -⟩:=h;exact ⟨_,_,_,xs,_,rfl,o.jZ,o.nx⟩
theorem Vd.put {W w':World} {kind:Nat} {xs:List Nat} {e:Ending} (h:kG W kind xs e w'):Vd W e w':=by
 by_cases hx:xs.length<=65536
 ·exact .chunk (h.1 hx)
 ·obtain ⟨rfl,n⟩:=h.2 (by omega)
  exact .nil n
def z54 {α:Type} (t:TypeId) (cells:List α->List Value) (good:List α->Prop) (W:World) (e:Ending) (w':World):Prop:=
 ∃v l er,e=.returned (.tuple #[v,.int .i64 er])/\ay W w' t 1 v l.length (cells l)/\good l
def TI (l:List Bool):Prop:=l.length<=2048
def wO (l:List ByteArray):Prop:=l.length<=2048/\∀s∈l,s.size<=1000000000
def TG (l:List Int):Prop:=l.length<=2048/\∀z∈l,i64 z
theorem FB {l:List ByteArray} (hn:l.length<=2048) (hs:∀s∈l,s.size<=1024):(bC l).length<=100000000:=(Fq hn hs)
theorem yN (D:Nat->Prop) (A:Option Addr) (c:Nat) (l:List Bool) (w:World) (h:Rd w D 1 A l.length (lu l)) (g:TI l) (hc:l.length<=c):Calls Tryz.prog 104 #[.slice A l.length c] w (Vd w):=
 (z3j D A l.length c l w h rfl g).mono fun _ _ h=>.chunk h
theorem tC (D:Nat->Prop) (A:Option Addr) (n c:Nat) (b:List Nat) (W:World) (hr:Rd W D 1 A n (bl b)) (iJ:∀k,D k->k<W.heap.size) (ok:okB b) (hl:b.length=n) (hn:n<=1000000) (hc:n<=c):
 Calls Tryz.prog 139 #[.int .u8 4,.slice A n c,.func (.func 140) #[] #[],.func (.func 104) #[] #[]] W (z54 4 lu TI W):=by
 have Hc:=ah (z2S D A n c 4 b W hr iJ ok hl hn hc (by decide));have AL:=ah (fun (D:Nat->Prop) (g:Nat) (A:Option Addr) (c:Nat) (xs:List Nat) (w:World) (h:aH w D g A c xs 0 0)=>IJ D g A c xs w h);have lD:=ah (fun (D:Nat->Prop) (A:Option Addr) (c:Nat) (l:List _) (w:World) h g hc=>yN D A c l w h g hc);have hstr:=fun (D:Nat->Prop) (A:Option Addr) (n c:Nat) (t:List Nat) (w:World) (h:Rd w D 1 A n (bl t))=>rX (P:=Tryz.prog) w 26 9 5 Tryz.underlying26 Tryz.underlying5 Tryz.underlying9 D A n c _ h;have gK:=ah hstr;have HR:=ah hr;clear hstr hr iJ ok hl;go_enter Tryz.func139,Tryz.ntmps139;go_wp2_with fail;refine Hc.out.mono ?_;intro e w1 hca;rcases hca with ⟨er,her,rfl,n1⟩|⟨xs, -,g,A1,c1,D1,rfl,cu1,n1,hg,hD1⟩
 ·have q1:(er !=0)=true:=by rw[bne_iff_ne];exact her
  clear her;go_wp2_with fail;go_ret2;exact ⟨_,[],er,rfl,ay.nil _ _ _ _ n1,by first|exact Nat.zero_le _|exact ⟨Nat.zero_le _,fun z hz=>by cases hz⟩⟩
 ·have hs1:=n1.size
  go_wp2_with fail;refine (AL.out _ _ _ _ _ _ cu1).mono ?_;rintro e w2 ⟨l,v2,p2,e2,rfl,hgd,o2,cu2,c2⟩;have n2:Nx W w2:=n1.trans c2 fun i hi e=>by omega
  have yP:ay W w2 4 1 v2 l.length (lu l):=⟨kX o2 hs1,n2⟩;obtain ⟨A2,cc2,rfl,hcc,_⟩:=z04 o2;have jc:=ah (su cu2);have HG:=ah hgd;clear o2 c2 cu1 cu2 hgd;by_cases hE:bg xs.length p2 e2=0
  ·rw[hE]at jc
   clear hE;go_wp2_with fail;refine jc.out.mono ?_;rintro e w3 ⟨rfl,d3⟩;have o3:=yP.tr d3.nx;clear d3 jc yP;have HP:=ah (lD.out _ A2 cc2 l w3 o3.rd HG.out hcc);go_wp2_with fail;refine HP.out.mono ?_;rintro e w4 ⟨D4,A4,c4,ys,er,rfl,r4,n4⟩;have o4:=o3.tr n4;have s1:=gK.out _ _ _ c4 _ w4 r4;have s2:=gK.out D A n c b w4 (HR.out.nx (by decide) o4.nx);have O4:=ah o4;generalize aX ys=sx at *;generalize aX b=sb at *;clear HP o3 o4 n4 r4;by_cases he0:er=0
   ·subst he0
    obtain ⟨bb,hbb⟩:∃bb,(sx.toList==sb.toList)=bb:=⟨_,rfl⟩;cases bb
    ·have hb2:(sx.toList !=sb.toList)=true:=by simp[bne,hbb]
     go_wp2_with fail;go_ret2;exact ⟨_,[],4,rfl,ay.nil _ _ _ _ O4.out.nx,by first|exact Nat.zero_le _|exact ⟨Nat.zero_le _,fun z hz=>by cases hz⟩⟩
    ·have hb2:(sx.toList !=sb.toList)=false:=by simp[bne,hbb]
     go_wp2_with fail;go_ret2;exact ⟨_,l,0,rfl,O4.out,HG.out⟩
   ·have q1:(er !=0)=true:=by rw[bne_iff_ne];exact he0
    clear he0;go_wp2_with fail;go_ret2;exact ⟨_,[],4,rfl,ay.nil _ _ _ _ O4.out.nx,by first|exact Nat.zero_le _|exact ⟨Nat.zero_le _,fun z hz=>by cases hz⟩⟩
  ·have q1:(bg xs.length p2 e2 !=0)=true:=by rw[bne_iff_ne];exact hE
   clear hE;generalize bg xs.length p2 e2=E at *;have NN:=ah n2;go_wp2_with fail;refine jc.out.mono ?_;rintro e w3 ⟨rfl,d3⟩;have N3:=ah (NN.out.tr d3.nx);clear d3;go_wp2_with fail;go_ret2;exact ⟨_,[],4,rfl,ay.nil _ _ _ _ N3.out,by first|exact Nat.zero_le _|exact ⟨Nat.zero_le _,fun z hz=>by cases hz⟩⟩
theorem zM (D:Nat->Prop) (A:Option Addr) (n c:Nat) (b:List Nat) (W:World) (hr:Rd W D 1 A n (bl b)) (iJ:∀k,D k->k<W.heap.size) (ok:okB b) (hl:b.length=n) (hn:n<=1000000) (hc:n<=c):
 Calls Tryz.prog 64 #[.slice A n c] W (z54 4 lu TI W):=by
 have Hr:=ah (tC D A n c b W hr iJ ok hl hn hc);clear hr iJ ok hl hn hc;go_enter Tryz.func64,Tryz.ntmps64;go_wp2_with fail;refine Hr.out.mono ?_;rintro e w1 ⟨v,l,er,rfl,h⟩;go_wp2_with fail;go_ret2;exact ⟨v,l,er,rfl,h⟩
theorem yL (D:Nat->Prop) (A:Option Addr) (c:Nat) (l:List ByteArray) (w:World) (h:Rd w D 1 A l.length (dM l)) (g:wO l) (hc:l.length<=c):Calls Tryz.prog 100 #[.slice A l.length c] w (Vd w):=by
 by_cases hs:∀s∈l,s.size<=1024
 ·exact (z3J D A l.length c l w h rfl g.1 hs hc (FB g.1 hs)).mono fun _ _ h=>.put h
 ·refine (z57 D A l.length c l w h rfl g.1 hs).mono ?_
  rintro e w' ⟨rfl,n⟩;exact .nil n
theorem sZ (D:Nat->Prop) (A:Option Addr) (n c:Nat) (b:List Nat) (W:World) (hr:Rd W D 1 A n (bl b)) (iJ:∀k,D k->k<W.heap.size) (ok:okB b) (hl:b.length=n) (hn:n<=1000000) (hc:n<=c):
 Calls Tryz.prog 136 #[.int .u8 2,.slice A n c,.func (.func 137) #[] #[],.func (.func 100) #[] #[]] W (z54 9 dM wO W):=by
 have Hc:=ah (z2S D A n c 2 b W hr iJ ok hl hn hc (by decide));have AL:=ah (fun (D:Nat->Prop) (g:Nat) (A:Option Addr) (c:Nat) (xs:List Nat) (w:World) (h:aH w D g A c xs 0 0)=>FC D g A c xs w h);have lD:=ah (fun (D:Nat->Prop) (A:Option Addr) (c:Nat) (l:List _) (w:World) h g hc=>yL D A c l w h g hc);have hstr:=fun (D:Nat->Prop) (A:Option Addr) (n c:Nat) (t:List Nat) (w:World) (h:Rd w D 1 A n (bl t))=>rX (P:=Tryz.prog) w 26 9 5 Tryz.underlying26 Tryz.underlying5 Tryz.underlying9 D A n c _ h;have gK:=ah hstr;have HR:=ah hr;clear hstr hr iJ ok hl;go_enter Tryz.func136,Tryz.ntmps136;go_wp2_with fail;refine Hc.out.mono ?_;intro e w1 hca;rcases hca with ⟨er,her,rfl,n1⟩|⟨xs, -,g,A1,c1,D1,rfl,cu1,n1,hg,hD1⟩
 ·have q1:(er !=0)=true:=by rw[bne_iff_ne];exact her
  clear her;go_wp2_with fail;go_ret2;exact ⟨_,[],er,rfl,ay.nil _ _ _ _ n1,by first|exact Nat.zero_le _|exact ⟨Nat.zero_le _,fun z hz=>by cases hz⟩⟩
 ·have hs1:=n1.size
  go_wp2_with fail;refine (AL.out _ _ _ _ _ _ cu1).mono ?_;rintro e w2 ⟨l,v2,p2,e2,rfl,hgd,o2,cu2,c2⟩;have n2:Nx W w2:=n1.trans c2 fun i hi e=>by omega
  have yP:ay W w2 9 1 v2 l.length (dM l):=⟨kX o2 hs1,n2⟩;obtain ⟨A2,cc2,rfl,hcc,_⟩:=z04 o2;have jc:=ah (su cu2);have HG:=ah hgd;clear o2 c2 cu1 cu2 hgd;by_cases hE:bg xs.length p2 e2=0
  ·rw[hE]at jc
   clear hE;go_wp2_with fail;refine jc.out.mono ?_;rintro e w3 ⟨rfl,d3⟩;have o3:=yP.tr d3.nx;clear d3 jc yP;have HP:=ah (lD.out _ A2 cc2 l w3 o3.rd HG.out hcc);go_wp2_with fail;refine HP.out.mono ?_;rintro e w4 ⟨D4,A4,c4,ys,er,rfl,r4,n4⟩;have o4:=o3.tr n4;have s1:=gK.out _ _ _ c4 _ w4 r4;have s2:=gK.out D A n c b w4 (HR.out.nx (by decide) o4.nx);have O4:=ah o4;generalize aX ys=sx at *;generalize aX b=sb at *;clear HP o3 o4 n4 r4;by_cases he0:er=0
   ·subst he0
    obtain ⟨bb,hbb⟩:∃bb,(sx.toList==sb.toList)=bb:=⟨_,rfl⟩;cases bb
    ·have hb2:(sx.toList !=sb.toList)=true:=by simp[bne,hbb]
     go_wp2_with fail;go_ret2;exact ⟨_,[],4,rfl,ay.nil _ _ _ _ O4.out.nx,by first|exact Nat.zero_le _|exact ⟨Nat.zero_le _,fun z hz=>by cases hz⟩⟩
    ·have hb2:(sx.toList !=sb.toList)=false:=by simp[bne,hbb]
     go_wp2_with fail;go_ret2;exact ⟨_,l,0,rfl,O4.out,HG.out⟩
   ·have q1:(er !=0)=true:=by rw[bne_iff_ne];exact he0
    clear he0;go_wp2_with fail;go_ret2;exact ⟨_,[],4,rfl,ay.nil _ _ _ _ O4.out.nx,by first|exact Nat.zero_le _|exact ⟨Nat.zero_le _,fun z hz=>by cases hz⟩⟩
  ·have q1:(bg xs.length p2 e2 !=0)=true:=by rw[bne_iff_ne];exact hE
   clear hE;generalize bg xs.length p2 e2=E at *;have NN:=ah n2;go_wp2_with fail;refine jc.out.mono ?_;rintro e w3 ⟨rfl,d3⟩;have N3:=ah (NN.out.tr d3.nx);clear d3;go_wp2_with fail;go_ret2;exact ⟨_,[],4,rfl,ay.nil _ _ _ _ N3.out,by first|exact Nat.zero_le _|exact ⟨Nat.zero_le _,fun z hz=>by cases hz⟩⟩
theorem zK (D:Nat->Prop) (A:Option Addr) (n c:Nat) (b:List Nat) (W:World) (hr:Rd W D 1 A n (bl b)) (iJ:∀k,D k->k<W.heap.size) (ok:okB b) (hl:b.length=n) (hn:n<=1000000) (hc:n<=c):
 Calls Tryz.prog 62 #[.slice A n c] W (z54 9 dM wO W):=by
 have Hr:=ah (sZ D A n c b W hr iJ ok hl hn hc);clear hr iJ ok hl hn hc;go_enter Tryz.func62,Tryz.ntmps62;go_wp2_with fail;refine Hr.out.mono ?_;rintro e w1 ⟨v,l,er,rfl,h⟩;go_wp2_with fail;go_ret2;exact ⟨v,l,er,rfl,h⟩
theorem yM (D:Nat->Prop) (A:Option Addr) (c:Nat) (l:List ByteArray) (w:World) (h:Rd w D 1 A l.length (dM l)) (g:wO l) (hc:l.length<=c):Calls Tryz.prog 101 #[.slice A l.length c] w (Vd w):=by
 by_cases hs:∀s∈l,s.size<=1024
 ·exact (z3K D A l.length c l w h rfl g.1 hs hc).mono fun _ _ h=>.put h
 ·refine (z58 D A l.length c l w h rfl g.1 hs).mono ?_
  rintro e w' ⟨rfl,n⟩;exact .nil n
theorem tu (D:Nat->Prop) (A:Option Addr) (n c:Nat) (b:List Nat) (W:World) (hr:Rd W D 1 A n (bl b)) (iJ:∀k,D k->k<W.heap.size) (ok:okB b) (hl:b.length=n) (hn:n<=1000000) (hc:n<=c):
 Calls Tryz.prog 136 #[.int .u8 3,.slice A n c,.func (.func 138) #[] #[],.func (.func 101) #[] #[]] W (z54 9 dM wO W):=by
 have Hc:=ah (z2S D A n c 3 b W hr iJ ok hl hn hc (by decide));have AL:=ah (fun (D:Nat->Prop) (g:Nat) (A:Option Addr) (c:Nat) (xs:List Nat) (w:World) (h:aH w D g A c xs 0 0)=>FU D g A c xs w h);have lD:=ah (fun (D:Nat->Prop) (A:Option Addr) (c:Nat) (l:List _) (w:World) h g hc=>yM D A c l w h g hc);have hstr:=fun (D:Nat->Prop) (A:Option Addr) (n c:Nat) (t:List Nat) (w:World) (h:Rd w D 1 A n (bl t))=>rX (P:=Tryz.prog) w 26 9 5 Tryz.underlying26 Tryz.underlying5 Tryz.underlying9 D A n c _ h;have gK:=ah hstr;have HR:=ah hr;clear hstr hr iJ ok hl;go_enter Tryz.func136,Tryz.ntmps136;go_wp2_with fail;refine Hc.out.mono ?_;intro e w1 hca;rcases hca with ⟨er,her,rfl,n1⟩|⟨xs, -,g,A1,c1,D1,rfl,cu1,n1,hg,hD1⟩
 ·have q1:(er !=0)=true:=by rw[bne_iff_ne];exact her
  clear her;go_wp2_with fail;go_ret2;exact ⟨_,[],er,rfl,ay.nil _ _ _ _ n1,by first|exact Nat.zero_le _|exact ⟨Nat.zero_le _,fun z hz=>by cases hz⟩⟩
 ·have hs1:=n1.size
  go_wp2_with fail;refine (AL.out _ _ _ _ _ _ cu1).mono ?_;rintro e w2 ⟨l,v2,p2,e2,rfl,hgd,o2,cu2,c2⟩;have n2:Nx W w2:=n1.trans c2 fun i hi e=>by omega
  have yP:ay W w2 9 1 v2 l.length (dM l):=⟨kX o2 hs1,n2⟩;obtain ⟨A2,cc2,rfl,hcc,_⟩:=z04 o2;have jc:=ah (su cu2);have HG:=ah hgd;clear o2 c2 cu1 cu2 hgd;by_cases hE:bg xs.length p2 e2=0
  ·rw[hE]at jc
   clear hE;go_wp2_with fail;refine jc.out.mono ?_;rintro e w3 ⟨rfl,d3⟩;have o3:=yP.tr d3.nx;clear d3 jc yP;have HP:=ah (lD.out _ A2 cc2 l w3 o3.rd HG.out hcc);go_wp2_with fail;refine HP.out.mono ?_;rintro e w4 ⟨D4,A4,c4,ys,er,rfl,r4,n4⟩;have o4:=o3.tr n4;have s1:=gK.out _ _ _ c4 _ w4 r4;have s2:=gK.out D A n c b w4 (HR.out.nx (by decide) o4.nx);have O4:=ah o4;generalize aX ys=sx at *;generalize aX b=sb at *;clear HP o3 o4 n4 r4;by_cases he0:er=0
   ·subst he0
    obtain ⟨bb,hbb⟩:∃bb,(sx.toList==sb.toList)=bb:=⟨_,rfl⟩;cases bb
    ·have hb2:(sx.toList !=sb.toList)=true:=by simp[bne,hbb]
     go_wp2_with fail;go_ret2;exact ⟨_,[],4,rfl,ay.nil _ _ _ _ O4.out.nx,by first|exact Nat.zero_le _|exact ⟨Nat.zero_le _,fun z hz=>by cases hz⟩⟩
    ·have hb2:(sx.toList !=sb.toList)=false:=by simp[bne,hbb]
     go_wp2_with fail;go_ret2;exact ⟨_,l,0,rfl,O4.out,HG.out⟩
   ·have q1:(er !=0)=true:=by rw[bne_iff_ne];exact he0
    clear he0;go_wp2_with fail;go_ret2;exact ⟨_,[],4,rfl,ay.nil _ _ _ _ O4.out.nx,by first|exact Nat.zero_le _|exact ⟨Nat.zero_le _,fun z hz=>by cases hz⟩⟩
  ·have q1:(bg xs.length p2 e2 !=0)=true:=by rw[bne_iff_ne];exact hE
   clear hE;generalize bg xs.length p2 e2=E at *;have NN:=ah n2;go_wp2_with fail;refine jc.out.mono ?_;rintro e w3 ⟨rfl,d3⟩;have N3:=ah (NN.out.tr d3.nx);clear d3;go_wp2_with fail;go_ret2;exact ⟨_,[],4,rfl,ay.nil _ _ _ _ N3.out,by first|exact Nat.zero_le _|exact ⟨Nat.zero_le _,fun z hz=>by cases hz⟩⟩
theorem zL (D:Nat->Prop) (A:Option Addr) (n c:Nat) (b:List Nat) (W:World) (hr:Rd W D 1 A n (bl b)) (iJ:∀k,D k->k<W.heap.size) (ok:okB b) (hl:b.length=n) (hn:n<=1000000) (hc:n<=c):
 Calls Tryz.prog 63 #[.slice A n c] W (z54 9 dM wO W):=by
 have Hr:=ah (tu D A n c b W hr iJ ok hl hn hc);clear hr iJ ok hl hn hc;go_enter Tryz.func63,Tryz.ntmps63;go_wp2_with fail;refine Hr.out.mono ?_;rintro e w1 ⟨v,l,er,rfl,h⟩;go_wp2_with fail;go_ret2;exact ⟨v,l,er,rfl,h⟩
theorem B_ (D:Nat->Prop) (A:Option Addr) (c:Nat) (l:List Int) (w:World) (h:Rd w D 1 A l.length (il l)) (g:TG l) (hc:l.length<=c):Calls Tryz.prog 97 #[.slice A l.length c] w (Vd w):=by
 by_cases he:aS l=0
 ·exact (z3U D A l.length c l w h rfl he).mono fun _ _ h=>.chunk h
 ·refine (z6j D A l.length c l w h rfl (by have:=g.1;omega) he _ rfl).mono ?_
  rintro e w' ⟨rfl,rfl⟩;exact .nil (Ch.refl _ _)
theorem yG (D:Nat->Prop) (A:Option Addr) (n c:Nat) (b:List Nat) (W:World) (hr:Rd W D 1 A n (bl b)) (iJ:∀k,D k->k<W.heap.size) (ok:okB b) (hl:b.length=n) (hn:n<=1000000) (hc:n<=c):
 Calls Tryz.prog 133 #[.int .u8 1,.slice A n c,.func (.func 134) #[] #[],.func (.func 97) #[] #[]] W (z54 2 il TG W):=by
 have Hc:=ah (z2S D A n c 1 b W hr iJ ok hl hn hc (by decide));have AL:=ah (fun (D:Nat->Prop) (g:Nat) (A:Option Addr) (c:Nat) (xs:List Nat) (w:World) (h:aH w D g A c xs 0 0)=>NJ D g A c xs w h);have lD:=ah (fun (D:Nat->Prop) (A:Option Addr) (c:Nat) (l:List _) (w:World) h g hc=>B_ D A c l w h g hc);have hstr:=fun (D:Nat->Prop) (A:Option Addr) (n c:Nat) (t:List Nat) (w:World) (h:Rd w D 1 A n (bl t))=>rX (P:=Tryz.prog) w 26 9 5 Tryz.underlying26 Tryz.underlying5 Tryz.underlying9 D A n c _ h;have gK:=ah hstr;have HR:=ah hr;clear hstr hr iJ ok hl;go_enter Tryz.func133,Tryz.ntmps133;go_wp2_with fail;refine Hc.out.mono ?_;intro e w1 hca;rcases hca with ⟨er,her,rfl,n1⟩|⟨xs, -,g,A1,c1,D1,rfl,cu1,n1,hg,hD1⟩
 ·have q1:(er !=0)=true:=by rw[bne_iff_ne];exact her
  clear her;go_wp2_with fail;go_ret2;exact ⟨_,[],er,rfl,ay.nil _ _ _ _ n1,by first|exact Nat.zero_le _|exact ⟨Nat.zero_le _,fun z hz=>by cases hz⟩⟩
 ·have hs1:=n1.size
  go_wp2_with fail;refine (AL.out _ _ _ _ _ _ cu1).mono ?_;rintro e w2 ⟨l,v2,p2,e2,rfl,hgd,o2,cu2,c2⟩;have n2:Nx W w2:=n1.trans c2 fun i hi e=>by omega
  have yP:ay W w2 2 1 v2 l.length (il l):=⟨kX o2 hs1,n2⟩;obtain ⟨A2,cc2,rfl,hcc,_⟩:=z04 o2;have jc:=ah (su cu2);have HG:=ah hgd;clear o2 c2 cu1 cu2 hgd;by_cases hE:bg xs.length p2 e2=0
  ·rw[hE]at jc
   clear hE;go_wp2_with fail;refine jc.out.mono ?_;rintro e w3 ⟨rfl,d3⟩;have o3:=yP.tr d3.nx;clear d3 jc yP;have HP:=ah (lD.out _ A2 cc2 l w3 o3.rd HG.out hcc);go_wp2_with fail;refine HP.out.mono ?_;rintro e w4 ⟨D4,A4,c4,ys,er,rfl,r4,n4⟩;have o4:=o3.tr n4;have s1:=gK.out _ _ _ c4 _ w4 r4;have s2:=gK.out D A n c b w4 (HR.out.nx (by decide) o4.nx);have O4:=ah o4;generalize aX ys=sx at *;generalize aX b=sb at *;clear HP o3 o4 n4 r4;by_cases he0:er=0
   ·subst he0
    obtain ⟨bb,hbb⟩:∃bb,(sx.toList==sb.toList)=bb:=⟨_,rfl⟩;cases bb
    ·have hb2:(sx.toList !=sb.toList)=true:=by simp[bne,hbb]
     go_wp2_with fail;go_ret2;exact ⟨_,[],4,rfl,ay.nil _ _ _ _ O4.out.nx,by first|exact Nat.zero_le _|exact ⟨Nat.zero_le _,fun z hz=>by cases hz⟩⟩
    ·have hb2:(sx.toList !=sb.toList)=false:=by simp[bne,hbb]
     go_wp2_with fail;go_ret2;exact ⟨_,l,0,rfl,O4.out,HG.out⟩
   ·have q1:(er !=0)=true:=by rw[bne_iff_ne];exact he0
    clear he0;go_wp2_with fail;go_ret2;exact ⟨_,[],4,rfl,ay.nil _ _ _ _ O4.out.nx,by first|exact Nat.zero_le _|exact ⟨Nat.zero_le _,fun z hz=>by cases hz⟩⟩
  ·have q1:(bg xs.length p2 e2 !=0)=true:=by rw[bne_iff_ne];exact hE
   clear hE;generalize bg xs.length p2 e2=E at *;have NN:=ah n2;go_wp2_with fail;refine jc.out.mono ?_;rintro e w3 ⟨rfl,d3⟩;have N3:=ah (NN.out.tr d3.nx);clear d3;go_wp2_with fail;go_ret2;exact ⟨_,[],4,rfl,ay.nil _ _ _ _ N3.out,by first|exact Nat.zero_le _|exact ⟨Nat.zero_le _,fun z hz=>by cases hz⟩⟩
theorem Em (D:Nat->Prop) (A:Option Addr) (n c:Nat) (b:List Nat) (W:World) (hr:Rd W D 1 A n (bl b)) (iJ:∀k,D k->k<W.heap.size) (ok:okB b) (hl:b.length=n) (hn:n<=1000000) (hc:n<=c):
 Calls Tryz.prog 61 #[.slice A n c] W (z54 2 il TG W):=by
 have Hr:=ah (yG D A n c b W hr iJ ok hl hn hc);clear hr iJ ok hl hn hc;go_enter Tryz.func61,Tryz.ntmps61;go_wp2_with fail;refine Hr.out.mono ?_;rintro e w1 ⟨v,l,er,rfl,h⟩;go_wp2_with fail;go_ret2;exact ⟨v,l,er,rfl,h⟩
end Go.Proofs.YtpakjclpjcngmaaGreat
