/- Contracts and plain laws that the last text rests on. Conditions: each theorem states its own. -/
import Derived.Test.YtpakjclpjcngmaaGreatKdQ28
import Derived.Test.YtpakjclpjcngmaaGreatKdQ8
set_option maxRecDepth 100000
set_option maxHeartbeats 8000000
set_option linter.unusedVariables false
namespace Go.Proofs.YtpakjclpjcngmaaGreat
open Go.RowKit
theorem oW (l:List Int) (fr j:Nat) (h:j<l.length):(uK l fr).getD j 0=if fr<=j then l.getD j 0-l.getD (j-1) 0 else l.getD j 0:=by
 unfold uK;simp[List.getD,h]
theorem z5v (l:List Int) (j:Nat) (h:j<l.length):(aQ l 1).getD j 0=if 1<=j then l.getD j 0-l.getD (j-1) 0 else l.getD j 0:=oW l 1 j h
theorem LZ (l:List Int) (j:Nat) (h:j<l.length):(aQ l 2).getD j 0=if 2<=j then (l.getD j 0-l.getD (j-1) 0)-(l.getD (j-1) 0-l.getD (j-2) 0) else if 1<=j then l.getD j 0-l.getD (j-1) 0 else l.getD j 0:=by
 have h1:(aQ l 2).getD j 0=if 2<=j then (aQ l 1).getD j 0-(aQ l 1).getD (j-1) 0 else (aQ l 1).getD j 0:=oW (aQ l 1) 2 j (by rw[Qa];exact h)
 rw[h1,z5v l j h];by_cases h2:2<=j
 ·rw[if_pos h2,if_pos h2,z5v l (j-1) (by omega),if_pos (by omega),if_pos (by omega),show j-1-1=j-2 by omega]
 ·rw[if_neg h2,if_neg h2]
theorem z3i {l:List Int} {k:Nat} (h:k<l.length):jR (l.drop k)=ak (zig (l.getD k 0))++jR (l.drop (k+1)):=by
 have e0:l.getD k 0=l[k]:=by rw[List.getD,List.getElem?_eq_getElem h];rfl
 rw[List.drop_eq_getElem_cons h,e0];unfold jR;rw[List.flatMap_cons]
def Zi (l:List Int) (k:Nat):Int:=if k=0 then 0 else l.getD (k-1) 0
theorem z29 (l:List Int) (k:Nat):Zi l (k+1)=l.getD k 0:=by simp[Zi]
theorem z61 (l:List Int) {k:Nat} (h:0<k):Zi l k=l.getD (k-1) 0:=by unfold Zi;rw[if_neg (by omega)]
theorem zo {l:List Int} {k:Nat} (h:k<l.length):il (l.take (k+1))=il (l.take k)++[.int .i64 (l.getD k 0)]:=by
 have e0:l.getD k 0=l[k]:=by rw[List.getD,List.getElem?_eq_getElem h];rfl
 rw[List.take_succ_eq_append_getElem h,e0];unfold il;rw[List.map_append];rfl
def EO (W:World) (l:List Int) (e:Ending) (w':World):Prop:=∃v,e=.returned (.tuple #[v,.int .i64 0])/\ay W w' 2 1 v l.length (il l)
def xJ (W wr:World) (l:List Int) (w:Nat) (b:List Nat) (k p:Nat) (s:Int) (v:Value):Prop:=
 p<=b.length/\ -4611686018427387904<=s/\s<=4611686018427387904/\(w=2->2<=k->s=l.getD (k-1) 0-l.getD (k-2) 0)/\b.drop p=jR ((aQ l w).drop k)/\ay W wr 2 1 v k (il (l.take k))
theorem t_ (D:Nat->Prop) (A:Option Addr) (n c:Nat) (l:List Int) (W:World) (hr:Rd W D 1 A n (bl (bP l 0))) (hl:(bP l 0).length=n) (hc:n<=c) (he:aS l=0):
 Calls Tryz.prog 135 #[.slice A n c,.int .i64 0] W (EO W l):=by
 obtain ⟨i0,hi0,hz0,hz1,hz2⟩:=info_parts Tryz.kC;obtain ⟨hll,hin⟩:=JX he;have hok:=nZ hin (by omega) (show 0<=2 by omega);have hle:=(z3A hin (by omega) (show 0<=2 by omega)).2;have hE:bP l 0=ak l.length++jR (aQ l 0):=rfl;have htb:=Yq hin 0 (by omega);have hT:∀k, -4611686018427387904<=(aQ l 0).getD k 0/\(aQ l 0).getD k 0<=4611686018427387904:=fun k=>JV htb (by omega) k;have hL:∀k, -1152921504606846976<=l.getD k 0/\l.getD k 0<=1152921504606846976:=fun k=>JV (B:=1152921504606846976) (fun x hx=>hin x hx) (by omega) k;have htl:=Qa l 0;have hd0:(bP l 0).drop 0=ak l.length++jR ((aQ l 0).drop 0):=by rw[hE,List.drop_zero,List.drop_zero]
 have hr0:=Vh (v:=l.length) (by omega) (by omega) hd0;have hd1:=z15 hd0;rw[Nat.zero_add]at hd1;have hu:=lZ D A n c (bP l 0) 0 W hr hok hl (by omega) hc (by omega);rw[hr0]at hu;have hi:=fun (p:Nat) (w':World) (nx:Nx W w') (hp:p<=(bP l 0).length)=>yQ D A n c (bP l 0) p w' (hr.nx (by decide) nx) hok hl (by omega) hc (by omega);have hp0:(ak l.length).length<=(bP l 0).length:=by rw[hE,List.length_append];omega
 have HT:=ah hT;have HL:=ah hL;have Hu:=ah hu;have Hi:=ah hi;have zY:=ah htl;have HB:=ah htb;have hD0:∀v w',ay W w' 2 1 v 0 (il (l.take 0))->xJ W w' l 0 (bP l 0) 0 (ak l.length).length 0 v:=fun v w' o=>⟨hp0,by omega,by omega,fun _ h=>by omega,hd1,o⟩;have HD0:=ah hD0;have HX:=ah (show ∀b,b=bP l 0->b.length=n from fun b h=>by rw[h];exact hl);obtain ⟨b,hb⟩:∃b,bP l 0=b:=⟨_,rfl⟩;rw[hb]at HD0 Hi hle hl;clear hT hL hu hi htl htb hd0 hr0 hd1 hE hr hok hp0 hD0 hin he hb HX;unfold XY at Hu;obtain ⟨m,hm⟩:∃m,l.length=m:=⟨_,rfl⟩;have Hm:=ah hm;rw[hm]at Hu hll hle HD0;have kw0:IntKind.i64.wrap (m:Int)=(m:Int):=IntWalk.i64_in _ (by omega);have H0:=ah (HD0.out (.slice none 0 0) W (ay.nil _ _ _ _ (Ch.refl _ W)));clear hm HD0;generalize (ak m).length=p0 at *;go_enter Tryz.func135,Tryz.ntmps135;go_wp2_with fail;refine Hu.out.mono ?_;rintro e w1 ⟨rfl,rfl⟩;simp only[];go_wp2_with fail;go_loopw [7,9,10,11,37] (fun a v la st i wr=>∃(k p:Nat) (s:Int),k<=m/\i=.int .i64 (k:Int)/\a=.int .i64 (p:Int)/\la=.int .i64 (Zi l k)/\st=.int .i64 s/\xJ W wr l 0 b k p s v) (fun _ _ _ _ i _=>m-(intOf i).toNat)
 case atStart=>exact ⟨0,_,0,Nat.zero_le _,rfl,rfl,rfl,rfl,H0.out⟩
 case round=>
  clear H0;obtain ⟨w4,rfl⟩:∃w4:World,w4=wr:=⟨_,rfl⟩;obtain ⟨k,p,s,hk,rfl,rfl,rfl,rfl,hp,hs1,hs2,hs3,hd,o4⟩:=hrel;by_cases hlt:k<m
  ·have e1:=z3i (l:=aQ l 0) (k:=k) (by rw[zY.out,Hm.out];exact hlt)
   rw[e1]at hd;have hTk:=HT.out k;have hzl:zig ((aQ l 0).getD k 0)<18446744073709551616:=Ym (by omega) (by omega);have hrd:=Vh hzl hp hd;have hnd:=z15 hd;have hpl:=congrArg List.length hd;rw[List.length_drop,List.length_append]at hpl;have hcall:=Hi.out p w4 o4.nx hp;unfold ITo at hcall;rw[hrd]at hcall;simp only[if_true,z5s]at hcall;have jP:=ah hcall;have HS:=ah (zo (l:=l) (k:=k) (by rw[Hm.out];exact hlt));have hTe:(aQ l 0).getD k 0=l.getD k 0:=rfl;have hLk:=HL.out k;have aex:=HL.out (k-1);have Hnd:=ah hnd;have hpq:p+(ak (zig ((aQ l 0).getD k 0))).length<=b.length:=(by omega);clear hrd hnd hd e1 hcall hzl hpl;generalize (ak (zig ((aQ l 0).getD k 0))).length=q at *;generalize (aQ l 0).getD k 0=T at *;have K_:l.getD k 0=T:=hTe.symm;have hnew:((0:Nat)=2->2<=k+1->T=l.getD (k+1-1) 0-l.getD (k+1-2) 0):=fun h=>absurd h (by omega);have rM:=ah hnew;have EN:=ah K_;rw[EN.out]at HS hLk;clear hnew hTe hs3;go_wp2_with fail;with_reducible refine jP.out.mono ?_
   rintro e w5 ⟨rfl,rfl⟩;go_wp2_with (at_builtin;refine z08 rfl (.tmp 85) (.tmp 87) _ rfl 2 i0 _ 8 Tryz.underlying114 hi0 hz0 hz1 hz2 rfl (.int .i64 (T)) rfl rfl o4 rfl (by simp only[maxLen];omega) (by omega) ?_;intro v6 w6 o6 m6)
   go_roundw
   case rel=>exact ⟨k+1,p+q,T,by omega,by go_num,by simp,by rw[z29,EN.out],rfl,hpq,by omega,by omega,rM.out,Hnd.out,by rw[HS.out];exact o6⟩
   case measure=>simp[intOf];omega
  ·obtain rfl:m=k:=by omega
   have hp2:p=b.length:=by
    have h2:=congrArg List.length hd;rw[List.drop_of_length_le (show (aQ l 0).length<=m by rw[zY.out,Hm.out];omega),List.length_drop]at h2;simp[jR]at h2;omega
   rw[List.take_of_length_le (by rw[Hm.out];omega)]at o4;subst hp2;clear hd hs3;have q1:¬((b.length:Int)<(n:Int)):=(by omega);go_wp2_with fail;go_ret2;exact ⟨_,rfl,by rw[Hm.out];exact o4⟩
theorem tZ (D:Nat->Prop) (A:Option Addr) (n c:Nat) (l:List Int) (W:World) (hr:Rd W D 1 A n (bl (bP l 1))) (hl:(bP l 1).length=n) (hc:n<=c) (he:aS l=0):
 Calls Tryz.prog 135 #[.slice A n c,.int .i64 1] W (EO W l):=by
 obtain ⟨i0,hi0,hz0,hz1,hz2⟩:=info_parts Tryz.kC;obtain ⟨hll,hin⟩:=JX he;have hok:=nZ hin (by omega) (show 1<=2 by omega);have hle:=(z3A hin (by omega) (show 1<=2 by omega)).2;have hE:bP l 1=ak l.length++jR (aQ l 1):=rfl;have htb:=Yq hin 1 (by omega);have hT:∀k, -4611686018427387904<=(aQ l 1).getD k 0/\(aQ l 1).getD k 0<=4611686018427387904:=fun k=>JV htb (by omega) k;have hL:∀k, -1152921504606846976<=l.getD k 0/\l.getD k 0<=1152921504606846976:=fun k=>JV (B:=1152921504606846976) (fun x hx=>hin x hx) (by omega) k;have htl:=Qa l 1;have hd0:(bP l 1).drop 0=ak l.length++jR ((aQ l 1).drop 0):=by rw[hE,List.drop_zero,List.drop_zero]
 have hr0:=Vh (v:=l.length) (by omega) (by omega) hd0;have hd1:=z15 hd0;rw[Nat.zero_add]at hd1;have hu:=lZ D A n c (bP l 1) 0 W hr hok hl (by omega) hc (by omega);rw[hr0]at hu;have hi:=fun (p:Nat) (w':World) (nx:Nx W w') (hp:p<=(bP l 1).length)=>yQ D A n c (bP l 1) p w' (hr.nx (by decide) nx) hok hl (by omega) hc (by omega);have hp0:(ak l.length).length<=(bP l 1).length:=by rw[hE,List.length_append];omega
 have HT:=ah hT;have HL:=ah hL;have Hu:=ah hu;have Hi:=ah hi;have zY:=ah htl;have HB:=ah htb;have hD0:∀v w',ay W w' 2 1 v 0 (il (l.take 0))->xJ W w' l 1 (bP l 1) 0 (ak l.length).length 0 v:=fun v w' o=>⟨hp0,by omega,by omega,fun _ h=>by omega,hd1,o⟩;have HD0:=ah hD0;have HX:=ah (show ∀b,b=bP l 1->b.length=n from fun b h=>by rw[h];exact hl);obtain ⟨b,hb⟩:∃b,bP l 1=b:=⟨_,rfl⟩;rw[hb]at HD0 Hi hle hl;clear hT hL hu hi htl htb hd0 hr0 hd1 hE hr hok hp0 hD0 hin he hb HX;unfold XY at Hu;obtain ⟨m,hm⟩:∃m,l.length=m:=⟨_,rfl⟩;have Hm:=ah hm;rw[hm]at Hu hll hle HD0;have kw0:IntKind.i64.wrap (m:Int)=(m:Int):=IntWalk.i64_in _ (by omega);have H0:=ah (HD0.out (.slice none 0 0) W (ay.nil _ _ _ _ (Ch.refl _ W)));clear hm HD0;generalize (ak m).length=p0 at *;go_enter Tryz.func135,Tryz.ntmps135;go_wp2_with fail;refine Hu.out.mono ?_;rintro e w1 ⟨rfl,rfl⟩;simp only[];go_wp2_with fail;go_loopw [7,9,10,11,37] (fun a v la st i wr=>∃(k p:Nat) (s:Int),k<=m/\i=.int .i64 (k:Int)/\a=.int .i64 (p:Int)/\la=.int .i64 (Zi l k)/\st=.int .i64 s/\xJ W wr l 1 b k p s v) (fun _ _ _ _ i _=>m-(intOf i).toNat)
 case atStart=>exact ⟨0,_,0,Nat.zero_le _,rfl,rfl,rfl,rfl,H0.out⟩
 case round=>
  clear H0;obtain ⟨w4,rfl⟩:∃w4:World,w4=wr:=⟨_,rfl⟩;obtain ⟨k,p,s,hk,rfl,rfl,rfl,rfl,hp,hs1,hs2,hs3,hd,o4⟩:=hrel;by_cases hlt:k<m
  ·have e1:=z3i (l:=aQ l 1) (k:=k) (by rw[zY.out,Hm.out];exact hlt)
   rw[e1]at hd;have hTk:=HT.out k;have hzl:zig ((aQ l 1).getD k 0)<18446744073709551616:=Ym (by omega) (by omega);have hrd:=Vh hzl hp hd;have hnd:=z15 hd;have hpl:=congrArg List.length hd;rw[List.length_drop,List.length_append]at hpl;have hcall:=Hi.out p w4 o4.nx hp;unfold ITo at hcall;rw[hrd]at hcall;simp only[if_true,z5s]at hcall;have jP:=ah hcall;have HS:=ah (zo (l:=l) (k:=k) (by rw[Hm.out];exact hlt));have hTe:=z5v l k (by rw[Hm.out];exact hlt);have hLk:=HL.out k;have aex:=HL.out (k-1);have Hnd:=ah hnd;have hpq:p+(ak (zig ((aQ l 1).getD k 0))).length<=b.length:=(by omega);clear hrd hnd hd e1 hcall hzl hpl;generalize (ak (zig ((aQ l 1).getD k 0))).length=q at *;generalize (aQ l 1).getD k 0=T at *;by_cases hk0:k=0
   ·subst hk0
    have K_:l.getD 0 0=T:=(by rw[hTe,if_neg (by omega)]);have hnew:((1:Nat)=2->2<=0+1->T=l.getD (0+1-1) 0-l.getD (0+1-2) 0):=fun _ h=>absurd h (by omega);have rM:=ah hnew;have EN:=ah K_;rw[EN.out]at HS hLk;clear hnew hTe hs3;go_wp2_with fail;with_reducible refine jP.out.mono ?_
    rintro e w5 ⟨rfl,rfl⟩;go_wp2_with (at_builtin;refine z08 rfl (.tmp 85) (.tmp 87) _ rfl 2 i0 _ 8 Tryz.underlying114 hi0 hz0 hz1 hz2 rfl (.int .i64 (T)) rfl rfl o4 rfl (by simp only[maxLen];omega) (by omega) ?_;intro v6 w6 o6 m6)
    go_roundw
    case rel=>exact ⟨0+1,p+q,T,by omega,by go_num,by simp,by rw[z29,EN.out],rfl,hpq,by omega,by omega,rM.out,Hnd.out,by rw[HS.out];exact o6⟩
    case measure=>simp[intOf];omega
   ·rw[if_pos (show 1<=k by omega)]at hTe
    rw[z61 l (show 0<k by omega)];have K_:l.getD k 0=T+l.getD (k-1) 0:=(by omega);have kw1:IntKind.i64.wrap (T+l.getD (k-1) 0)=T+l.getD (k-1) 0:=IntWalk.i64_in _ (by omega);have hnew:((1:Nat)=2->2<=k+1->T=l.getD (k+1-1) 0-l.getD (k+1-2) 0):=fun h=>absurd h (by omega);have hg1:(0:Int)<(k:Int):=(by omega);have rM:=ah hnew;have EN:=ah K_;rw[EN.out]at HS hLk;clear hnew hTe hs3;clear K_;generalize hla:l.getD (k-1) 0=la at *;have Hla:=ah hla;clear hla;go_wp2_with fail;with_reducible refine jP.out.mono ?_
    rintro e w5 ⟨rfl,rfl⟩;go_wp2_with (at_builtin;refine z08 rfl (.tmp 85) (.tmp 87) _ rfl 2 i0 _ 8 Tryz.underlying114 hi0 hz0 hz1 hz2 rfl (.int .i64 (T+la)) rfl rfl o4 rfl (by simp only[maxLen];omega) (by omega) ?_;intro v6 w6 o6 m6)
    go_roundw
    case rel=>exact ⟨k+1,p+q,T,by omega,by go_num,by simp,by rw[z29,EN.out],rfl,hpq,by omega,by omega,rM.out,Hnd.out,by rw[HS.out];exact o6⟩
    case measure=>simp[intOf];omega
  ·obtain rfl:m=k:=by omega
   have hp2:p=b.length:=by
    have h2:=congrArg List.length hd;rw[List.drop_of_length_le (show (aQ l 1).length<=m by rw[zY.out,Hm.out];omega),List.length_drop]at h2;simp[jR]at h2;omega
   rw[List.take_of_length_le (by rw[Hm.out];omega)]at o4;subst hp2;clear hd hs3;have q1:¬((b.length:Int)<(n:Int)):=(by omega);go_wp2_with fail;go_ret2;exact ⟨_,rfl,by rw[Hm.out];exact o4⟩
theorem tY (D:Nat->Prop) (A:Option Addr) (n c:Nat) (l:List Int) (W:World) (hr:Rd W D 1 A n (bl (bP l 2))) (hl:(bP l 2).length=n) (hc:n<=c) (he:aS l=0):
 Calls Tryz.prog 135 #[.slice A n c,.int .i64 2] W (EO W l):=by
 obtain ⟨i0,hi0,hz0,hz1,hz2⟩:=info_parts Tryz.kC;obtain ⟨hll,hin⟩:=JX he;have hok:=nZ hin (by omega) (show 2<=2 by omega);have hle:=(z3A hin (by omega) (show 2<=2 by omega)).2;have hE:bP l 2=ak l.length++jR (aQ l 2):=rfl;have htb:=Yq hin 2 (by omega);have hT:∀k, -4611686018427387904<=(aQ l 2).getD k 0/\(aQ l 2).getD k 0<=4611686018427387904:=fun k=>JV htb (by omega) k;have hL:∀k, -1152921504606846976<=l.getD k 0/\l.getD k 0<=1152921504606846976:=fun k=>JV (B:=1152921504606846976) (fun x hx=>hin x hx) (by omega) k;have htl:=Qa l 2;have hd0:(bP l 2).drop 0=ak l.length++jR ((aQ l 2).drop 0):=by rw[hE,List.drop_zero,List.drop_zero]
 have hr0:=Vh (v:=l.length) (by omega) (by omega) hd0;have hd1:=z15 hd0;rw[Nat.zero_add]at hd1;have hu:=lZ D A n c (bP l 2) 0 W hr hok hl (by omega) hc (by omega);rw[hr0]at hu;have hi:=fun (p:Nat) (w':World) (nx:Nx W w') (hp:p<=(bP l 2).length)=>yQ D A n c (bP l 2) p w' (hr.nx (by decide) nx) hok hl (by omega) hc (by omega);have hp0:(ak l.length).length<=(bP l 2).length:=by rw[hE,List.length_append];omega
 have HT:=ah hT;have HL:=ah hL;have Hu:=ah hu;have Hi:=ah hi;have zY:=ah htl;have HB:=ah htb;have hD0:∀v w',ay W w' 2 1 v 0 (il (l.take 0))->xJ W w' l 2 (bP l 2) 0 (ak l.length).length 0 v:=fun v w' o=>⟨hp0,by omega,by omega,fun _ h=>by omega,hd1,o⟩;have HD0:=ah hD0;have HX:=ah (show ∀b,b=bP l 2->b.length=n from fun b h=>by rw[h];exact hl);obtain ⟨b,hb⟩:∃b,bP l 2=b:=⟨_,rfl⟩;rw[hb]at HD0 Hi hle hl;clear hT hL hu hi htl htb hd0 hr0 hd1 hE hr hok hp0 hD0 hin he hb HX;unfold XY at Hu;obtain ⟨m,hm⟩:∃m,l.length=m:=⟨_,rfl⟩;have Hm:=ah hm;rw[hm]at Hu hll hle HD0;have kw0:IntKind.i64.wrap (m:Int)=(m:Int):=IntWalk.i64_in _ (by omega);have H0:=ah (HD0.out (.slice none 0 0) W (ay.nil _ _ _ _ (Ch.refl _ W)));clear hm HD0;generalize (ak m).length=p0 at *;go_enter Tryz.func135,Tryz.ntmps135;go_wp2_with fail;refine Hu.out.mono ?_;rintro e w1 ⟨rfl,rfl⟩;simp only[];go_wp2_with fail;go_loopw [7,9,10,11,37] (fun a v la st i wr=>∃(k p:Nat) (s:Int),k<=m/\i=.int .i64 (k:Int)/\a=.int .i64 (p:Int)/\la=.int .i64 (Zi l k)/\st=.int .i64 s/\xJ W wr l 2 b k p s v) (fun _ _ _ _ i _=>m-(intOf i).toNat)
 case atStart=>exact ⟨0,_,0,Nat.zero_le _,rfl,rfl,rfl,rfl,H0.out⟩
 case round=>
  clear H0;obtain ⟨w4,rfl⟩:∃w4:World,w4=wr:=⟨_,rfl⟩;obtain ⟨k,p,s,hk,rfl,rfl,rfl,rfl,hp,hs1,hs2,hs3,hd,o4⟩:=hrel;by_cases hlt:k<m
  ·have e1:=z3i (l:=aQ l 2) (k:=k) (by rw[zY.out,Hm.out];exact hlt)
   rw[e1]at hd;have hTk:=HT.out k;have hzl:zig ((aQ l 2).getD k 0)<18446744073709551616:=Ym (by omega) (by omega);have hrd:=Vh hzl hp hd;have hnd:=z15 hd;have hpl:=congrArg List.length hd;rw[List.length_drop,List.length_append]at hpl;have hcall:=Hi.out p w4 o4.nx hp;unfold ITo at hcall;rw[hrd]at hcall;simp only[if_true,z5s]at hcall;have jP:=ah hcall;have HS:=ah (zo (l:=l) (k:=k) (by rw[Hm.out];exact hlt));have hTe:=LZ l k (by rw[Hm.out];exact hlt);have hLk:=HL.out k;have aex:=HL.out (k-1);have Hnd:=ah hnd;have hpq:p+(ak (zig ((aQ l 2).getD k 0))).length<=b.length:=(by omega);clear hrd hnd hd e1 hcall hzl hpl;generalize (ak (zig ((aQ l 2).getD k 0))).length=q at *;generalize (aQ l 2).getD k 0=T at *;by_cases hk0:k=0
   ·subst hk0
    have K_:l.getD 0 0=T:=(by rw[hTe,if_neg (by omega),if_neg (by omega)]);have hnew:((2:Nat)=2->2<=0+1->T=l.getD (0+1-1) 0-l.getD (0+1-2) 0):=fun _ h=>absurd h (by omega);have rM:=ah hnew;have EN:=ah K_;rw[EN.out]at HS hLk;clear hnew hTe hs3;go_wp2_with fail;with_reducible refine jP.out.mono ?_
    rintro e w5 ⟨rfl,rfl⟩;go_wp2_with (at_builtin;refine z08 rfl (.tmp 85) (.tmp 87) _ rfl 2 i0 _ 8 Tryz.underlying114 hi0 hz0 hz1 hz2 rfl (.int .i64 (T)) rfl rfl o4 rfl (by simp only[maxLen];omega) (by omega) ?_;intro v6 w6 o6 m6)
    go_roundw
    case rel=>exact ⟨0+1,p+q,T,by omega,by go_num,by simp,by rw[z29,EN.out],rfl,hpq,by omega,by omega,fun _=>rM.out trivial,Hnd.out,by rw[HS.out];exact o6⟩
    case measure=>simp[intOf];omega
   ·by_cases hk1:k=1
    ·rw[if_neg (show ¬2<=k by omega),if_pos (show 1<=k by omega)]at hTe
     rw[z61 l (show 0<k by omega)];have K_:l.getD k 0=T+l.getD (k-1) 0:=(by omega);have kw1:IntKind.i64.wrap (T+l.getD (k-1) 0)=T+l.getD (k-1) 0:=IntWalk.i64_in _ (by omega);obtain rfl:k=1:=(by omega);have hnew:((2:Nat)=2->2<=1+1->T=l.getD (1+1-1) 0-l.getD (1+1-2) 0):=fun _ _=>hTe;have rM:=ah hnew;have EN:=ah K_;rw[EN.out]at HS hLk;clear hnew hTe hs3;clear K_;generalize hla:l.getD (1-1) 0=la at *;have Hla:=ah hla;clear hla;go_wp2_with fail;with_reducible refine jP.out.mono ?_
     rintro e w5 ⟨rfl,rfl⟩;go_wp2_with (at_builtin;refine z08 rfl (.tmp 85) (.tmp 87) _ rfl 2 i0 _ 8 Tryz.underlying114 hi0 hz0 hz1 hz2 rfl (.int .i64 (T+la)) rfl rfl o4 rfl (by simp only[maxLen];omega) (by omega) ?_;intro v6 w6 o6 m6)
     go_roundw
     case rel=>exact ⟨1+1,p+q,T,by omega,by go_num,by simp,by rw[z29,EN.out],rfl,hpq,by omega,by omega,(fun _ h2=>(rM.out trivial h2).trans (by rw[←Hla.out])),Hnd.out,by rw[HS.out];exact o6⟩
     case measure=>simp[intOf];omega
    ·rw[if_pos (show 2<=k by omega)]at hTe
     have hs:=hs3 rfl (by omega);rw[z61 l (show 0<k by omega)];have hLk2:=HL.out (k-2);have hU:T+s=l.getD k 0-l.getD (k-1) 0:=(by omega);have K_:l.getD k 0=T+s+l.getD (k-1) 0:=(by omega);have kw1:IntKind.i64.wrap (T+s)=T+s:=IntWalk.i64_in _ (by omega);have kw2:IntKind.i64.wrap (T+s+l.getD (k-1) 0)=T+s+l.getD (k-1) 0:=IntWalk.i64_in _ (by omega);have hnew:((2:Nat)=2->2<=k+1->T+s=l.getD (k+1-1) 0-l.getD (k+1-2) 0):=fun _ _=>by rw[hU,Nat.add_sub_cancel,show k+1-2=k-1 by omega]
     have hg1:(1:Int)<(k:Int):=(by omega);have hg2:(0:Int)<(k:Int):=(by omega);have hsb1: -4611686018427387904<=T+s:=(by omega);have hsb2:T+s<=4611686018427387904:=(by omega);have rM:=ah hnew;have EN:=ah K_;rw[EN.out]at HS hLk;clear hnew hTe hs3;clear K_
     try clear hU hs
     generalize hla:l.getD (k-1) 0=la at *;have Hla:=ah hla;clear hla;go_wp2_with fail;with_reducible refine jP.out.mono ?_
     rintro e w5 ⟨rfl,rfl⟩;go_wp2_with (at_builtin;refine z08 rfl (.tmp 85) (.tmp 87) _ rfl 2 i0 _ 8 Tryz.underlying114 hi0 hz0 hz1 hz2 rfl (.int .i64 (T+s+la)) rfl rfl o4 rfl (by simp only[maxLen];omega) (by omega) ?_;intro v6 w6 o6 m6)
     go_roundw
     case rel=>exact ⟨k+1,p+q,T+s,by omega,by go_num,by simp,by rw[z29,EN.out],rfl,hpq,by omega,by omega,fun _=>rM.out trivial,Hnd.out,by rw[HS.out];exact o6⟩
     case measure=>simp[intOf];omega
  ·obtain rfl:m=k:=by omega
   have hp2:p=b.length:=by
    have h2:=congrArg List.length hd;rw[List.drop_of_length_le (show (aQ l 2).length<=m by rw[zY.out,Hm.out];omega),List.length_drop]at h2;simp[jR]at h2;omega
   rw[List.take_of_length_le (by rw[Hm.out];omega)]at o4;subst hp2;clear hd hs3;have q1:¬((b.length:Int)<(n:Int)):=(by omega);go_wp2_with fail;go_ret2;exact ⟨_,rfl,by rw[Hm.out];exact o4⟩
end Go.Proofs.YtpakjclpjcngmaaGreat
