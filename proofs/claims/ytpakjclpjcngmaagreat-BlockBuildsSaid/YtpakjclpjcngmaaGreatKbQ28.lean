/- Contracts and plain laws that the last text rests on. Conditions: each theorem states its own. -/
import Derived.Test.YtpakjclpjcngmaaGreatKbQ22
import Derived.Test.YtpakjclpjcngmaaGreatKbQ8
import Derived.Test.YtpakjclpjcngmaaGreatKbQ13
set_option maxRecDepth 100000
set_option maxHeartbeats 8000000
set_option linter.unusedVariables false
namespace Go.Proofs.YtpakjclpjcngmaaGreat
open Go.RowKit
theorem nP (l:List Int) (fr j:Nat) (h:j<l.length):(La l fr).getD j 0=if fr<=j then l.getD j 0-l.getD (j-1) 0 else l.getD j 0:=by
 unfold La;simp[List.getD,h]
theorem z32 (l:List Int) (j:Nat) (h:j<l.length):(aH l 1).getD j 0=if 1<=j then l.getD j 0-l.getD (j-1) 0 else l.getD j 0:=nP l 1 j h
theorem sO (l:List Int) (j:Nat) (h:j<l.length):(aH l 2).getD j 0=if 2<=j then (l.getD j 0-l.getD (j-1) 0)-(l.getD (j-1) 0-l.getD (j-2) 0) else if 1<=j then l.getD j 0-l.getD (j-1) 0 else l.getD j 0:=by
 have h1:(aH l 2).getD j 0=if 2<=j then (aH l 1).getD j 0-(aH l 1).getD (j-1) 0 else (aH l 1).getD j 0:=nP (aH l 1) 2 j (by rw[Lu];exact h)
 rw[h1,z32 l j h];by_cases h2:2<=j
 ·rw[if_pos h2,if_pos h2,z32 l (j-1) (by omega),if_pos (by omega),if_pos (by omega),show j-1-1=j-2 by omega]
 ·rw[if_neg h2,if_neg h2]
theorem z1Q {l:List Int} {k:Nat} (h:k<l.length):jh (l.drop k)=aj (zig (l.getD k 0))++jh (l.drop (k+1)):=by
 have e0:l.getD k 0=l[k]:=by rw[List.getD,List.getElem?_eq_getElem h];rfl
 rw[List.drop_eq_getElem_cons h,e0];unfold jh;rw[List.flatMap_cons]
def VL (l:List Int) (k:Nat):Int:=if k=0 then 0 else l.getD (k-1) 0
theorem YM (l:List Int) (k:Nat):VL l (k+1)=l.getD k 0:=by simp[VL]
theorem z4R (l:List Int) {k:Nat} (h:0<k):VL l k=l.getD (k-1) 0:=by unfold VL;rw[if_neg (by omega)]
theorem YB {l:List Int} {k:Nat} (h:k<l.length):il (l.take (k+1))=il (l.take k)++[.int .i64 (l.getD k 0)]:=by
 have e0:l.getD k 0=l[k]:=by rw[List.getD,List.getElem?_eq_getElem h];rfl
 rw[List.take_succ_eq_append_getElem h,e0];unfold il;rw[List.map_append];rfl
def Ci (W:World) (l:List Int) (e:Ending) (w':World):Prop:=∃v,e=.returned (.tuple #[v,.int .i64 0])/\ak W w' 2 1 v l.length (il l)
def vG (W wr:World) (l:List Int) (w:Nat) (b:List Nat) (k p:Nat) (s:Int) (v:Value):Prop:=
 p<=b.length/\ -4611686018427387904<=s/\s<=4611686018427387904/\(w=2->2<=k->s=l.getD (k-1) 0-l.getD (k-2) 0)/\b.drop p=jh ((aH l w).drop k)/\ak W wr 2 1 v k (il (l.take k))
theorem rQ (D:Nat->Prop) (A:Option Addr) (n c:Nat) (l:List Int) (W:World) (hr:Rd W D 1 A n (bl (bC l 0))) (hl:(bC l 0).length=n) (hc:n<=c) (he:aJ l=0):
 Calls Tryz.prog 135 #[.slice A n c,.int .i64 0] W (Ci W l):=by
 obtain ⟨i0,hi0,hz0,hz1,hz2⟩:=info_parts Tryz.iT;obtain ⟨hll,hin⟩:=xQ he;have hok:=m_ hin (by omega) (show 0<=2 by omega);have hle:=(Vb hin (by omega) (show 0<=2 by omega)).2;have hE:bC l 0=aj l.length++jh (aH l 0):=rfl;have htb:=VW hin 0 (by omega);have hT:∀k, -4611686018427387904<=(aH l 0).getD k 0/\(aH l 0).getD k 0<=4611686018427387904:=fun k=>xO htb (by omega) k;have hL:∀k, -1152921504606846976<=l.getD k 0/\l.getD k 0<=1152921504606846976:=fun k=>xO (B:=1152921504606846976) (fun x hx=>hin x hx) (by omega) k;have htl:=Lu l 0;have hd0:(bC l 0).drop 0=aj l.length++jh ((aH l 0).drop 0):=by rw[hE,List.drop_zero,List.drop_zero]
 have hr0:=QI (v:=l.length) (by omega) (by omega) hd0;have hd1:=vJ hd0;rw[Nat.zero_add]at hd1;have hu:=oU D A n c (bC l 0) 0 W hr hok hl (by omega) hc (by omega);rw[hr0]at hu;have hi:=fun (p:Nat) (w':World) (nx:Nx W w') (hp:p<=(bC l 0).length)=>Ej D A n c (bC l 0) p w' (hr.nx (by decide) nx) hok hl (by omega) hc (by omega);have hp0:(aj l.length).length<=(bC l 0).length:=by rw[hE,List.length_append];omega
 have HT:=ah hT;have HL:=ah hL;have Hu:=ah hu;have Hi:=ah hi;have kT:=ah htl;have HB:=ah htb;have hD0:∀v w',ak W w' 2 1 v 0 (il (l.take 0))->vG W w' l 0 (bC l 0) 0 (aj l.length).length 0 v:=fun v w' o=>⟨hp0,by omega,by omega,fun _ h=>by omega,hd1,o⟩;have HD0:=ah hD0;have HX:=ah (show ∀b,b=bC l 0->b.length=n from fun b h=>by rw[h];exact hl);obtain ⟨b,hb⟩:∃b,bC l 0=b:=⟨_,rfl⟩;rw[hb]at HD0 Hi hle hl;clear hT hL hu hi htl htb hd0 hr0 hd1 hE hr hok hp0 hD0 hin he hb HX;unfold Vy at Hu;obtain ⟨m,hm⟩:∃m,l.length=m:=⟨_,rfl⟩;have Hm:=ah hm;rw[hm]at Hu hll hle HD0;have kw0:IntKind.i64.wrap (m:Int)=(m:Int):=IntWalk.i64_in _ (by omega);have H0:=ah (HD0.out (.slice none 0 0) W (ak.nil _ _ _ _ (Ch.refl _ W)));clear hm HD0;generalize (aj m).length=p0 at *;go_enter Tryz.func135,Tryz.ntmps135;go_wp2_with fail;refine Hu.out.mono ?_;rintro e w1 ⟨rfl,rfl⟩;simp only[];go_wp2_with fail;go_loopw [7,9,10,11,37] (fun a v la st i wr=>∃(k p:Nat) (s:Int),k<=m/\i=.int .i64 (k:Int)/\a=.int .i64 (p:Int)/\la=.int .i64 (VL l k)/\st=.int .i64 s/\vG W wr l 0 b k p s v) (fun _ _ _ _ i _=>m-(intOf i).toNat)
 case atStart=>exact ⟨0,_,0,Nat.zero_le _,rfl,rfl,rfl,rfl,H0.out⟩
 case round=>
  clear H0;obtain ⟨w4,rfl⟩:∃w4:World,w4=wr:=⟨_,rfl⟩;obtain ⟨k,p,s,hk,rfl,rfl,rfl,rfl,hp,hs1,hs2,hs3,hd,o4⟩:=hrel;by_cases hlt:k<m
  ·have e1:=z1Q (l:=aH l 0) (k:=k) (by rw[kT.out,Hm.out];exact hlt)
   rw[e1]at hd;have hTk:=HT.out k;have hzl:zig ((aH l 0).getD k 0)<18446744073709551616:=VK (by omega) (by omega);have hrd:=QI hzl hp hd;have hnd:=vJ hd;have hpl:=congrArg List.length hd;rw[List.length_drop,List.length_append]at hpl;have hcall:=Hi.out p w4 o4.nx hp;unfold ITo at hcall;rw[hrd]at hcall;simp only[if_true,vH]at hcall;have eP:=ah hcall;have HS:=ah (YB (l:=l) (k:=k) (by rw[Hm.out];exact hlt));have hTe:(aH l 0).getD k 0=l.getD k 0:=rfl;have hLk:=HL.out k;have aaJ:=HL.out (k-1);have Hnd:=ah hnd;have hpq:p+(aj (zig ((aH l 0).getD k 0))).length<=b.length:=(by omega);clear hrd hnd hd e1 hcall hzl hpl;generalize (aj (zig ((aH l 0).getD k 0))).length=q at *;generalize (aH l 0).getD k 0=T at *;have G_:l.getD k 0=T:=hTe.symm;have hnew:((0:Nat)=2->2<=k+1->T=l.getD (k+1-1) 0-l.getD (k+1-2) 0):=fun h=>absurd h (by omega);have qM:=ah hnew;have B_:=ah G_;rw[B_.out]at HS hLk;clear hnew hTe hs3;go_wp2_with fail;with_reducible refine eP.out.mono ?_
   rintro e w5 ⟨rfl,rfl⟩;go_wp2_with (at_builtin;refine z06 rfl (.tmp 85) (.tmp 87) _ rfl 2 i0 _ 8 Tryz.underlying114 hi0 hz0 hz1 hz2 rfl (.int .i64 (T)) rfl rfl o4 rfl (by simp only[maxLen];omega) (by omega) ?_;intro v6 w6 o6 m6)
   go_roundw
   case rel=>exact ⟨k+1,p+q,T,by omega,by go_num,by simp,by rw[YM,B_.out],rfl,hpq,by omega,by omega,qM.out,Hnd.out,by rw[HS.out];exact o6⟩
   case measure=>simp[intOf];omega
  ·obtain rfl:m=k:=by omega
   have hp2:p=b.length:=by
    have h2:=congrArg List.length hd;rw[List.drop_of_length_le (show (aH l 0).length<=m by rw[kT.out,Hm.out];omega),List.length_drop]at h2;simp[jh]at h2;omega
   rw[List.take_of_length_le (by rw[Hm.out];omega)]at o4;subst hp2;clear hd hs3;have q1:¬((b.length:Int)<(n:Int)):=(by omega);go_wp2_with fail;go_ret2;exact ⟨_,rfl,by rw[Hm.out];exact o4⟩
theorem rP (D:Nat->Prop) (A:Option Addr) (n c:Nat) (l:List Int) (W:World) (hr:Rd W D 1 A n (bl (bC l 1))) (hl:(bC l 1).length=n) (hc:n<=c) (he:aJ l=0):
 Calls Tryz.prog 135 #[.slice A n c,.int .i64 1] W (Ci W l):=by
 obtain ⟨i0,hi0,hz0,hz1,hz2⟩:=info_parts Tryz.iT;obtain ⟨hll,hin⟩:=xQ he;have hok:=m_ hin (by omega) (show 1<=2 by omega);have hle:=(Vb hin (by omega) (show 1<=2 by omega)).2;have hE:bC l 1=aj l.length++jh (aH l 1):=rfl;have htb:=VW hin 1 (by omega);have hT:∀k, -4611686018427387904<=(aH l 1).getD k 0/\(aH l 1).getD k 0<=4611686018427387904:=fun k=>xO htb (by omega) k;have hL:∀k, -1152921504606846976<=l.getD k 0/\l.getD k 0<=1152921504606846976:=fun k=>xO (B:=1152921504606846976) (fun x hx=>hin x hx) (by omega) k;have htl:=Lu l 1;have hd0:(bC l 1).drop 0=aj l.length++jh ((aH l 1).drop 0):=by rw[hE,List.drop_zero,List.drop_zero]
 have hr0:=QI (v:=l.length) (by omega) (by omega) hd0;have hd1:=vJ hd0;rw[Nat.zero_add]at hd1;have hu:=oU D A n c (bC l 1) 0 W hr hok hl (by omega) hc (by omega);rw[hr0]at hu;have hi:=fun (p:Nat) (w':World) (nx:Nx W w') (hp:p<=(bC l 1).length)=>Ej D A n c (bC l 1) p w' (hr.nx (by decide) nx) hok hl (by omega) hc (by omega);have hp0:(aj l.length).length<=(bC l 1).length:=by rw[hE,List.length_append];omega
 have HT:=ah hT;have HL:=ah hL;have Hu:=ah hu;have Hi:=ah hi;have kT:=ah htl;have HB:=ah htb;have hD0:∀v w',ak W w' 2 1 v 0 (il (l.take 0))->vG W w' l 1 (bC l 1) 0 (aj l.length).length 0 v:=fun v w' o=>⟨hp0,by omega,by omega,fun _ h=>by omega,hd1,o⟩;have HD0:=ah hD0;have HX:=ah (show ∀b,b=bC l 1->b.length=n from fun b h=>by rw[h];exact hl);obtain ⟨b,hb⟩:∃b,bC l 1=b:=⟨_,rfl⟩;rw[hb]at HD0 Hi hle hl;clear hT hL hu hi htl htb hd0 hr0 hd1 hE hr hok hp0 hD0 hin he hb HX;unfold Vy at Hu;obtain ⟨m,hm⟩:∃m,l.length=m:=⟨_,rfl⟩;have Hm:=ah hm;rw[hm]at Hu hll hle HD0;have kw0:IntKind.i64.wrap (m:Int)=(m:Int):=IntWalk.i64_in _ (by omega);have H0:=ah (HD0.out (.slice none 0 0) W (ak.nil _ _ _ _ (Ch.refl _ W)));clear hm HD0;generalize (aj m).length=p0 at *;go_enter Tryz.func135,Tryz.ntmps135;go_wp2_with fail;refine Hu.out.mono ?_;rintro e w1 ⟨rfl,rfl⟩;simp only[];go_wp2_with fail;go_loopw [7,9,10,11,37] (fun a v la st i wr=>∃(k p:Nat) (s:Int),k<=m/\i=.int .i64 (k:Int)/\a=.int .i64 (p:Int)/\la=.int .i64 (VL l k)/\st=.int .i64 s/\vG W wr l 1 b k p s v) (fun _ _ _ _ i _=>m-(intOf i).toNat)
 case atStart=>exact ⟨0,_,0,Nat.zero_le _,rfl,rfl,rfl,rfl,H0.out⟩
 case round=>
  clear H0;obtain ⟨w4,rfl⟩:∃w4:World,w4=wr:=⟨_,rfl⟩;obtain ⟨k,p,s,hk,rfl,rfl,rfl,rfl,hp,hs1,hs2,hs3,hd,o4⟩:=hrel;by_cases hlt:k<m
  ·have e1:=z1Q (l:=aH l 1) (k:=k) (by rw[kT.out,Hm.out];exact hlt)
   rw[e1]at hd;have hTk:=HT.out k;have hzl:zig ((aH l 1).getD k 0)<18446744073709551616:=VK (by omega) (by omega);have hrd:=QI hzl hp hd;have hnd:=vJ hd;have hpl:=congrArg List.length hd;rw[List.length_drop,List.length_append]at hpl;have hcall:=Hi.out p w4 o4.nx hp;unfold ITo at hcall;rw[hrd]at hcall;simp only[if_true,vH]at hcall;have eP:=ah hcall;have HS:=ah (YB (l:=l) (k:=k) (by rw[Hm.out];exact hlt));have hTe:=z32 l k (by rw[Hm.out];exact hlt);have hLk:=HL.out k;have aaJ:=HL.out (k-1);have Hnd:=ah hnd;have hpq:p+(aj (zig ((aH l 1).getD k 0))).length<=b.length:=(by omega);clear hrd hnd hd e1 hcall hzl hpl;generalize (aj (zig ((aH l 1).getD k 0))).length=q at *;generalize (aH l 1).getD k 0=T at *;by_cases hk0:k=0
   ·subst hk0
    have G_:l.getD 0 0=T:=(by rw[hTe,if_neg (by omega)]);have hnew:((1:Nat)=2->2<=0+1->T=l.getD (0+1-1) 0-l.getD (0+1-2) 0):=fun _ h=>absurd h (by omega);have qM:=ah hnew;have B_:=ah G_;rw[B_.out]at HS hLk;clear hnew hTe hs3;go_wp2_with fail;with_reducible refine eP.out.mono ?_
    rintro e w5 ⟨rfl,rfl⟩;go_wp2_with (at_builtin;refine z06 rfl (.tmp 85) (.tmp 87) _ rfl 2 i0 _ 8 Tryz.underlying114 hi0 hz0 hz1 hz2 rfl (.int .i64 (T)) rfl rfl o4 rfl (by simp only[maxLen];omega) (by omega) ?_;intro v6 w6 o6 m6)
    go_roundw
    case rel=>exact ⟨0+1,p+q,T,by omega,by go_num,by simp,by rw[YM,B_.out],rfl,hpq,by omega,by omega,qM.out,Hnd.out,by rw[HS.out];exact o6⟩
    case measure=>simp[intOf];omega
   ·rw[if_pos (show 1<=k by omega)]at hTe
    rw[z4R l (show 0<k by omega)];have G_:l.getD k 0=T+l.getD (k-1) 0:=(by omega);have kw1:IntKind.i64.wrap (T+l.getD (k-1) 0)=T+l.getD (k-1) 0:=IntWalk.i64_in _ (by omega);have hnew:((1:Nat)=2->2<=k+1->T=l.getD (k+1-1) 0-l.getD (k+1-2) 0):=fun h=>absurd h (by omega);have hg1:(0:Int)<(k:Int):=(by omega);have qM:=ah hnew;have B_:=ah G_;rw[B_.out]at HS hLk;clear hnew hTe hs3;clear G_;generalize hla:l.getD (k-1) 0=la at *;have Hla:=ah hla;clear hla;go_wp2_with fail;with_reducible refine eP.out.mono ?_
    rintro e w5 ⟨rfl,rfl⟩;go_wp2_with (at_builtin;refine z06 rfl (.tmp 85) (.tmp 87) _ rfl 2 i0 _ 8 Tryz.underlying114 hi0 hz0 hz1 hz2 rfl (.int .i64 (T+la)) rfl rfl o4 rfl (by simp only[maxLen];omega) (by omega) ?_;intro v6 w6 o6 m6)
    go_roundw
    case rel=>exact ⟨k+1,p+q,T,by omega,by go_num,by simp,by rw[YM,B_.out],rfl,hpq,by omega,by omega,qM.out,Hnd.out,by rw[HS.out];exact o6⟩
    case measure=>simp[intOf];omega
  ·obtain rfl:m=k:=by omega
   have hp2:p=b.length:=by
    have h2:=congrArg List.length hd;rw[List.drop_of_length_le (show (aH l 1).length<=m by rw[kT.out,Hm.out];omega),List.length_drop]at h2;simp[jh]at h2;omega
   rw[List.take_of_length_le (by rw[Hm.out];omega)]at o4;subst hp2;clear hd hs3;have q1:¬((b.length:Int)<(n:Int)):=(by omega);go_wp2_with fail;go_ret2;exact ⟨_,rfl,by rw[Hm.out];exact o4⟩
theorem rO (D:Nat->Prop) (A:Option Addr) (n c:Nat) (l:List Int) (W:World) (hr:Rd W D 1 A n (bl (bC l 2))) (hl:(bC l 2).length=n) (hc:n<=c) (he:aJ l=0):
 Calls Tryz.prog 135 #[.slice A n c,.int .i64 2] W (Ci W l):=by
 obtain ⟨i0,hi0,hz0,hz1,hz2⟩:=info_parts Tryz.iT;obtain ⟨hll,hin⟩:=xQ he;have hok:=m_ hin (by omega) (show 2<=2 by omega);have hle:=(Vb hin (by omega) (show 2<=2 by omega)).2;have hE:bC l 2=aj l.length++jh (aH l 2):=rfl;have htb:=VW hin 2 (by omega);have hT:∀k, -4611686018427387904<=(aH l 2).getD k 0/\(aH l 2).getD k 0<=4611686018427387904:=fun k=>xO htb (by omega) k;have hL:∀k, -1152921504606846976<=l.getD k 0/\l.getD k 0<=1152921504606846976:=fun k=>xO (B:=1152921504606846976) (fun x hx=>hin x hx) (by omega) k;have htl:=Lu l 2;have hd0:(bC l 2).drop 0=aj l.length++jh ((aH l 2).drop 0):=by rw[hE,List.drop_zero,List.drop_zero]
 have hr0:=QI (v:=l.length) (by omega) (by omega) hd0;have hd1:=vJ hd0;rw[Nat.zero_add]at hd1;have hu:=oU D A n c (bC l 2) 0 W hr hok hl (by omega) hc (by omega);rw[hr0]at hu;have hi:=fun (p:Nat) (w':World) (nx:Nx W w') (hp:p<=(bC l 2).length)=>Ej D A n c (bC l 2) p w' (hr.nx (by decide) nx) hok hl (by omega) hc (by omega);have hp0:(aj l.length).length<=(bC l 2).length:=by rw[hE,List.length_append];omega
 have HT:=ah hT;have HL:=ah hL;have Hu:=ah hu;have Hi:=ah hi;have kT:=ah htl;have HB:=ah htb;have hD0:∀v w',ak W w' 2 1 v 0 (il (l.take 0))->vG W w' l 2 (bC l 2) 0 (aj l.length).length 0 v:=fun v w' o=>⟨hp0,by omega,by omega,fun _ h=>by omega,hd1,o⟩;have HD0:=ah hD0;have HX:=ah (show ∀b,b=bC l 2->b.length=n from fun b h=>by rw[h];exact hl);obtain ⟨b,hb⟩:∃b,bC l 2=b:=⟨_,rfl⟩;rw[hb]at HD0 Hi hle hl;clear hT hL hu hi htl htb hd0 hr0 hd1 hE hr hok hp0 hD0 hin he hb HX;unfold Vy at Hu;obtain ⟨m,hm⟩:∃m,l.length=m:=⟨_,rfl⟩;have Hm:=ah hm;rw[hm]at Hu hll hle HD0;have kw0:IntKind.i64.wrap (m:Int)=(m:Int):=IntWalk.i64_in _ (by omega);have H0:=ah (HD0.out (.slice none 0 0) W (ak.nil _ _ _ _ (Ch.refl _ W)));clear hm HD0;generalize (aj m).length=p0 at *;go_enter Tryz.func135,Tryz.ntmps135;go_wp2_with fail;refine Hu.out.mono ?_;rintro e w1 ⟨rfl,rfl⟩;simp only[];go_wp2_with fail;go_loopw [7,9,10,11,37] (fun a v la st i wr=>∃(k p:Nat) (s:Int),k<=m/\i=.int .i64 (k:Int)/\a=.int .i64 (p:Int)/\la=.int .i64 (VL l k)/\st=.int .i64 s/\vG W wr l 2 b k p s v) (fun _ _ _ _ i _=>m-(intOf i).toNat)
 case atStart=>exact ⟨0,_,0,Nat.zero_le _,rfl,rfl,rfl,rfl,H0.out⟩
 case round=>
  clear H0;obtain ⟨w4,rfl⟩:∃w4:World,w4=wr:=⟨_,rfl⟩;obtain ⟨k,p,s,hk,rfl,rfl,rfl,rfl,hp,hs1,hs2,hs3,hd,o4⟩:=hrel;by_cases hlt:k<m
  ·have e1:=z1Q (l:=aH l 2) (k:=k) (by rw[kT.out,Hm.out];exact hlt)
   rw[e1]at hd;have hTk:=HT.out k;have hzl:zig ((aH l 2).getD k 0)<18446744073709551616:=VK (by omega) (by omega);have hrd:=QI hzl hp hd;have hnd:=vJ hd;have hpl:=congrArg List.length hd;rw[List.length_drop,List.length_append]at hpl;have hcall:=Hi.out p w4 o4.nx hp;unfold ITo at hcall;rw[hrd]at hcall;simp only[if_true,vH]at hcall;have eP:=ah hcall;have HS:=ah (YB (l:=l) (k:=k) (by rw[Hm.out];exact hlt));have hTe:=sO l k (by rw[Hm.out];exact hlt);have hLk:=HL.out k;have aaJ:=HL.out (k-1);have Hnd:=ah hnd;have hpq:p+(aj (zig ((aH l 2).getD k 0))).length<=b.length:=(by omega);clear hrd hnd hd e1 hcall hzl hpl;generalize (aj (zig ((aH l 2).getD k 0))).length=q at *;generalize (aH l 2).getD k 0=T at *;by_cases hk0:k=0
   ·subst hk0
    have G_:l.getD 0 0=T:=(by rw[hTe,if_neg (by omega),if_neg (by omega)]);have hnew:((2:Nat)=2->2<=0+1->T=l.getD (0+1-1) 0-l.getD (0+1-2) 0):=fun _ h=>absurd h (by omega);have qM:=ah hnew;have B_:=ah G_;rw[B_.out]at HS hLk;clear hnew hTe hs3;go_wp2_with fail;with_reducible refine eP.out.mono ?_
    rintro e w5 ⟨rfl,rfl⟩;go_wp2_with (at_builtin;refine z06 rfl (.tmp 85) (.tmp 87) _ rfl 2 i0 _ 8 Tryz.underlying114 hi0 hz0 hz1 hz2 rfl (.int .i64 (T)) rfl rfl o4 rfl (by simp only[maxLen];omega) (by omega) ?_;intro v6 w6 o6 m6)
    go_roundw
    case rel=>exact ⟨0+1,p+q,T,by omega,by go_num,by simp,by rw[YM,B_.out],rfl,hpq,by omega,by omega,fun _=>qM.out trivial,Hnd.out,by rw[HS.out];exact o6⟩
    case measure=>simp[intOf];omega
   ·by_cases hk1:k=1
    ·rw[if_neg (show ¬2<=k by omega),if_pos (show 1<=k by omega)]at hTe
     rw[z4R l (show 0<k by omega)];have G_:l.getD k 0=T+l.getD (k-1) 0:=(by omega);have kw1:IntKind.i64.wrap (T+l.getD (k-1) 0)=T+l.getD (k-1) 0:=IntWalk.i64_in _ (by omega);obtain rfl:k=1:=(by omega);have hnew:((2:Nat)=2->2<=1+1->T=l.getD (1+1-1) 0-l.getD (1+1-2) 0):=fun _ _=>hTe;have qM:=ah hnew;have B_:=ah G_;rw[B_.out]at HS hLk;clear hnew hTe hs3;clear G_;generalize hla:l.getD (1-1) 0=la at *;have Hla:=ah hla;clear hla;go_wp2_with fail;with_reducible refine eP.out.mono ?_
     rintro e w5 ⟨rfl,rfl⟩;go_wp2_with (at_builtin;refine z06 rfl (.tmp 85) (.tmp 87) _ rfl 2 i0 _ 8 Tryz.underlying114 hi0 hz0 hz1 hz2 rfl (.int .i64 (T+la)) rfl rfl o4 rfl (by simp only[maxLen];omega) (by omega) ?_;intro v6 w6 o6 m6)
     go_roundw
     case rel=>exact ⟨1+1,p+q,T,by omega,by go_num,by simp,by rw[YM,B_.out],rfl,hpq,by omega,by omega,(fun _ h2=>(qM.out trivial h2).trans (by rw[←Hla.out])),Hnd.out,by rw[HS.out];exact o6⟩
     case measure=>simp[intOf];omega
    ·rw[if_pos (show 2<=k by omega)]at hTe
     have hs:=hs3 rfl (by omega);rw[z4R l (show 0<k by omega)];have hLk2:=HL.out (k-2);have hU:T+s=l.getD k 0-l.getD (k-1) 0:=(by omega);have G_:l.getD k 0=T+s+l.getD (k-1) 0:=(by omega);have kw1:IntKind.i64.wrap (T+s)=T+s:=IntWalk.i64_in _ (by omega);have kw2:IntKind.i64.wrap (T+s+l.getD (k-1) 0)=T+s+l.getD (k-1) 0:=IntWalk.i64_in _ (by omega);have hnew:((2:Nat)=2->2<=k+1->T+s=l.getD (k+1-1) 0-l.getD (k+1-2) 0):=fun _ _=>by rw[hU,Nat.add_sub_cancel,show k+1-2=k-1 by omega]
     have hg1:(1:Int)<(k:Int):=(by omega);have hg2:(0:Int)<(k:Int):=(by omega);have hsb1: -4611686018427387904<=T+s:=(by omega);have hsb2:T+s<=4611686018427387904:=(by omega);have qM:=ah hnew;have B_:=ah G_;rw[B_.out]at HS hLk;clear hnew hTe hs3;clear G_
     try clear hU hs
     generalize hla:l.getD (k-1) 0=la at *;have Hla:=ah hla;clear hla;go_wp2_with fail;with_reducible refine eP.out.mono ?_
     rintro e w5 ⟨rfl,rfl⟩;go_wp2_with (at_builtin;refine z06 rfl (.tmp 85) (.tmp 87) _ rfl 2 i0 _ 8 Tryz.underlying114 hi0 hz0 hz1 hz2 rfl (.int .i64 (T+s+la)) rfl rfl o4 rfl (by simp only[maxLen];omega) (by omega) ?_;intro v6 w6 o6 m6)
     go_roundw
     case rel=>exact ⟨k+1,p+q,T+s,by omega,by go_num,by simp,by rw[YM,B_.out],rfl,hpq,by omega,by omega,fun _=>qM.out trivial,Hnd.out,by rw[HS.out];exact o6⟩
     case measure=>simp[intOf];omega
  ·obtain rfl:m=k:=by omega
   have hp2:p=b.length:=by
    have h2:=congrArg List.length hd;rw[List.drop_of_length_le (show (aH l 2).length<=m by rw[kT.out,Hm.out];omega),List.length_drop]at h2;simp[jh]at h2;omega
   rw[List.take_of_length_le (by rw[Hm.out];omega)]at o4;subst hp2;clear hd hs3;have q1:¬((b.length:Int)<(n:Int)):=(by omega);go_wp2_with fail;go_ret2;exact ⟨_,rfl,by rw[Hm.out];exact o4⟩
theorem MP (x:Int) (W:World):Calls Tryz.prog 277 #[.int .i64 x] W fun e w'=>e=.returned (.bool (decide (jO x)))/\W=w':=by
 by_cases h1: -1152921504606846976<=x
 ·by_cases h2:x<=1152921504606846976
  ·have hd:decide (jO x)=true:=decide_eq_true ⟨h1,h2⟩
   have Hd:=ah hd;clear hd;go_enter Tryz.func277,Tryz.ntmps277;go_wp2_with fail;go_ret;rw[Hd.out];exact ⟨by simp[],rfl⟩
  ·have hd:decide (jO x)=false:=decide_eq_false fun h=>h2 h.2
   have Hd:=ah hd;clear hd;go_enter Tryz.func277,Tryz.ntmps277;go_wp2_with fail;go_ret;rw[Hd.out];exact ⟨by simp;try omega,rfl⟩
 ·have hd:decide (jO x)=false:=decide_eq_false fun h=>h1 h.1
  have Hd:=ah hd;clear hd;go_enter Tryz.func277,Tryz.ntmps277;go_wp2_with fail;go_ret;rw[Hd.out];exact ⟨by simp;try omega,rfl⟩
theorem Jk (D:Nat->Prop) (A:Option Addr) (n c:Nat) (zs:List Int) (W:World) (hr:Rd W D 1 A n (il zs)) (hl:zs.length=n) (hn:n<=2048):
 Calls Tryz.prog 236 #[.slice A n c,.int .i64 0] W fun e w'=>e=.returned (.int .i64 (aJ zs))/\W=w':=by
 subst hl;have hq:¬((2048:Int)<(zs.length:Int)):=by omega
 have H2:Hid ((¬∀x∈zs,jO x)->aJ zs=2):=ah fun h=>by unfold aJ;rw[if_neg (by omega),if_neg h]
 have H0:Hid ((∀x∈zs,jO x)->aJ zs=0):=ah fun h=>by unfold aJ;rw[if_neg (by omega),if_pos h]
 go_enter Tryz.func236,Tryz.ntmps236;go_wp2_with fail;go_loop [22] (fun i=>∃k:Nat,k<=zs.length/\i=.int .i64 (k:Int)/\Hid (∀j,j<k->jO (zs.getD j 0))) (fun i=>zs.length-(intOf i).toNat)
 case atStart=>exact ⟨0,Nat.zero_le _,rfl,ah fun j hj=>by omega⟩
 case round=>
  obtain ⟨k,hk,rfl,Hk⟩:=hrel;by_cases hlt:k<zs.length
  ·obtain ⟨ad,rfl,_,hcell⟩:=hr.2 (by omega)
   have hc0:=hcell k _ (Rh hlt);have hin:=fun h=>H2.out h;have mF:=ah (show zs.getD k 0∈zs by rw[List.getD,List.getElem?_eq_getElem hlt];exact List.getElem_mem hlt);by_cases hx:jO (zs.getD k 0)
   ·have hnx:Hid (∀j,j<k+1->jO (zs.getD j 0)):=ah fun j hj=>by
     by_cases e:j=k
     ·subst e;exact hx
     ·exact Hk.out j (by omega)
    have hcall:=MP (zs.getD k 0) W;rw[decide_eq_true hx]at hcall;have eP:=ah hcall;clear hcall hcell hin hx Hk mF;generalize zs.getD k 0=x at *;go_wp2_with fail;with_reducible refine eP.out.mono ?_
    rintro e w1 ⟨rfl,rfl⟩;go_wp2_with fail;go_round
    case rel=>exact ⟨k+1,by omega,by go_num,hnx⟩
    case measure=>simp[intOf];omega
   ·have hfin:=ah (H2.out fun h=>hx (h _ mF.out))
    have hcall:=MP (zs.getD k 0) W;rw[decide_eq_false hx]at hcall;have eP:=ah hcall;clear hcall hcell hin hx Hk mF;generalize zs.getD k 0=x at *;go_wp2_with fail;with_reducible refine eP.out.mono ?_
    rintro e w1 ⟨rfl,rfl⟩;go_wp2_with fail;go_ret;rw[hfin.out];exact ⟨rfl,rfl⟩
  ·obtain rfl:zs.length=k:=by omega
   have hfin:=ah (H0.out fun x hx=>by
    obtain ⟨j,hj,rfl⟩:=List.mem_iff_getElem.1 hx;have:=Hk.out j hj;rw[List.getD,List.getElem?_eq_getElem hj]at this;exact this)
   clear Hk;go_wp2_with fail;go_ret;rw[hfin.out];exact ⟨rfl,rfl⟩
theorem Jj (D:Nat->Prop) (A:Option Addr) (n c:Nat) (l:List Int) (W:World) (hr:Rd W D 1 A n (il l)) (hl:l.length=n) (he:aJ l=0):
 Calls Tryz.prog 237 #[.slice A n c,.int .i64 0] W fun e w'=>∃v,e=.returned v/\ak W w' 2 1 v n (il (aH l 0)):=by
 obtain ⟨i0,hi0,hz0,hz1,hz2⟩:=info_parts Tryz.iT;obtain ⟨hll,hin⟩:=xQ he;have hL:∀k, -1152921504606846976<=l.getD k 0/\l.getD k 0<=1152921504606846976:=fun k=>xO (B:=1152921504606846976) (fun x hx=>hin x hx) (by omega) k;have HL:=ah hL;have Hl:=ah hl;have kT:=ah (Lu l 0);rw[hl]at hll;clear hL hl hin he;have h0:=ak.lit W W 2 (Ch.refl _ W) 1;go_enter Tryz.func237,Tryz.ntmps237;go_wp2_with fail;go_loopw [5,12] (fun v i wr=>∃k:Nat,k<=n/\i=.int .i64 (k:Int)/\ak W wr 2 1 v k (il ((aH l 0).take k))) (fun _ i _=>n-(intOf i).toNat)
 case atStart=>exact ⟨0,Nat.zero_le _,rfl,h0⟩
 case round=>
  clear h0;obtain ⟨w4,rfl⟩:∃w4:World,w4=wr:=⟨_,rfl⟩;obtain ⟨k,hk,rfl,o4⟩:=hrel;by_cases hlt:k<n
  ·obtain ⟨ad,rfl,_,hcell⟩:=(hr.nx (by decide) o4.nx).2 (by omega)
   have kM:=ah (fun j (hj:j<n)=>hcell j _ (Rh (by rw[Hl.out];exact hj)));have c0:=kM.out k hlt;have HS:=ah (YB (l:=aH l 0) (k:=k) (by rw[kT.out,Hl.out];exact hlt));have hTe:(aH l 0).getD k 0=l.getD k 0:=rfl;have hx0:=HL.out k;have hx1:=HL.out (k-1);have hx2:=HL.out (k-2);clear hcell;rw[hTe]at HS;clear hTe hx1 hx2;generalize l.getD k 0=x at *;go_wp2_with (at_builtin;refine z06 rfl (.tmp 51) (.tmp 53) _ rfl 2 i0 _ 8 Tryz.underlying114 hi0 hz0 hz1 hz2 rfl (.int .i64 (x)) rfl rfl o4 rfl (by simp only[maxLen];omega) (by omega) ?_;intro v6 w6 o6 m6)
   go_roundw
   case rel=>exact ⟨k+1,by omega,by go_num,by rw[HS.out];exact o6⟩
   case measure=>simp[intOf];omega
  ·obtain rfl:n=k:=by omega
   rw[List.take_of_length_le (by rw[kT.out,Hl.out];omega)]at o4;go_wp2_with fail;go_ret;exact ⟨_,rfl,o4⟩
theorem Ji (D:Nat->Prop) (A:Option Addr) (n c:Nat) (l:List Int) (W:World) (hr:Rd W D 1 A n (il l)) (hl:l.length=n) (he:aJ l=0):
 Calls Tryz.prog 237 #[.slice A n c,.int .i64 1] W fun e w'=>∃v,e=.returned v/\ak W w' 2 1 v n (il (aH l 1)):=by
 obtain ⟨i0,hi0,hz0,hz1,hz2⟩:=info_parts Tryz.iT;obtain ⟨hll,hin⟩:=xQ he;have hL:∀k, -1152921504606846976<=l.getD k 0/\l.getD k 0<=1152921504606846976:=fun k=>xO (B:=1152921504606846976) (fun x hx=>hin x hx) (by omega) k;have HL:=ah hL;have Hl:=ah hl;have kT:=ah (Lu l 1);rw[hl]at hll;clear hL hl hin he;have h0:=ak.lit W W 2 (Ch.refl _ W) 1;go_enter Tryz.func237,Tryz.ntmps237;go_wp2_with fail;go_loopw [5,12] (fun v i wr=>∃k:Nat,k<=n/\i=.int .i64 (k:Int)/\ak W wr 2 1 v k (il ((aH l 1).take k))) (fun _ i _=>n-(intOf i).toNat)
 case atStart=>exact ⟨0,Nat.zero_le _,rfl,h0⟩
 case round=>
  clear h0;obtain ⟨w4,rfl⟩:∃w4:World,w4=wr:=⟨_,rfl⟩;obtain ⟨k,hk,rfl,o4⟩:=hrel;by_cases hlt:k<n
  ·obtain ⟨ad,rfl,_,hcell⟩:=(hr.nx (by decide) o4.nx).2 (by omega)
   have kM:=ah (fun j (hj:j<n)=>hcell j _ (Rh (by rw[Hl.out];exact hj)));have c0:=kM.out k hlt;have HS:=ah (YB (l:=aH l 1) (k:=k) (by rw[kT.out,Hl.out];exact hlt));have hTe:=z32 l k (by rw[Hl.out];exact hlt);have hx0:=HL.out k;have hx1:=HL.out (k-1);have hx2:=HL.out (k-2);clear hcell;by_cases hk0:k=0
   ·subst hk0
    have ha0:ad.add 0=ad:=(by simp[Addr.add]);rw[ha0]at c0;rw[hTe,if_neg (by omega)]at HS;clear hTe hx1 hx2;generalize l.getD 0 0=x at *;go_wp2_with (at_builtin;refine z06 rfl (.tmp 51) (.tmp 53) _ rfl 2 i0 _ 8 Tryz.underlying114 hi0 hz0 hz1 hz2 rfl (.int .i64 (x)) rfl rfl o4 rfl (by simp only[maxLen];omega) (by omega) ?_;intro v6 w6 o6 m6)
    go_roundw
    case rel=>exact ⟨0+1,by omega,by go_num,by rw[HS.out];exact o6⟩
    case measure=>simp[intOf];omega
   ·have c1:=kM.out (k-1) (by omega)
    rw[hTe,if_pos (show 1<=k by omega)]at HS;clear hTe hx2;have b1:IntKind.i64.wrap ((k:Int)-1)=(((k-1:Nat)):Int):=by rw[IntWalk.i64_in _ (by omega)];omega
    have b2:(k:Int)-1=((k-1:Nat):Int):=(by omega);have hg1:(1:Int)<=(k:Int):=(by omega);generalize l.getD k 0=x at *;generalize l.getD (k-1) 0=y at *;have kw:IntKind.i64.wrap (x-y)=x-y:=IntWalk.i64_in _ (by omega);go_wp2_with (at_builtin;refine z06 rfl (.tmp 51) (.tmp 53) _ rfl 2 i0 _ 8 Tryz.underlying114 hi0 hz0 hz1 hz2 rfl (.int .i64 (x-y)) rfl rfl o4 rfl (by simp only[maxLen];omega) (by omega) ?_;intro v6 w6 o6 m6)
    go_roundw
    case rel=>exact ⟨k+1,by omega,by go_num,by rw[HS.out];exact o6⟩
    case measure=>simp[intOf];omega
  ·obtain rfl:n=k:=by omega
   rw[List.take_of_length_le (by rw[kT.out,Hl.out];omega)]at o4;go_wp2_with fail;go_ret;exact ⟨_,rfl,o4⟩
theorem Jh (D:Nat->Prop) (A:Option Addr) (n c:Nat) (l:List Int) (W:World) (hr:Rd W D 1 A n (il l)) (hl:l.length=n) (he:aJ l=0):
 Calls Tryz.prog 237 #[.slice A n c,.int .i64 2] W fun e w'=>∃v,e=.returned v/\ak W w' 2 1 v n (il (aH l 2)):=by
 obtain ⟨i0,hi0,hz0,hz1,hz2⟩:=info_parts Tryz.iT;obtain ⟨hll,hin⟩:=xQ he;have hL:∀k, -1152921504606846976<=l.getD k 0/\l.getD k 0<=1152921504606846976:=fun k=>xO (B:=1152921504606846976) (fun x hx=>hin x hx) (by omega) k;have HL:=ah hL;have Hl:=ah hl;have kT:=ah (Lu l 2);rw[hl]at hll;clear hL hl hin he;have h0:=ak.lit W W 2 (Ch.refl _ W) 1;go_enter Tryz.func237,Tryz.ntmps237;go_wp2_with fail;go_loopw [5,12] (fun v i wr=>∃k:Nat,k<=n/\i=.int .i64 (k:Int)/\ak W wr 2 1 v k (il ((aH l 2).take k))) (fun _ i _=>n-(intOf i).toNat)
 case atStart=>exact ⟨0,Nat.zero_le _,rfl,h0⟩
 case round=>
  clear h0;obtain ⟨w4,rfl⟩:∃w4:World,w4=wr:=⟨_,rfl⟩;obtain ⟨k,hk,rfl,o4⟩:=hrel;by_cases hlt:k<n
  ·obtain ⟨ad,rfl,_,hcell⟩:=(hr.nx (by decide) o4.nx).2 (by omega)
   have kM:=ah (fun j (hj:j<n)=>hcell j _ (Rh (by rw[Hl.out];exact hj)));have c0:=kM.out k hlt;have HS:=ah (YB (l:=aH l 2) (k:=k) (by rw[kT.out,Hl.out];exact hlt));have hTe:=sO l k (by rw[Hl.out];exact hlt);have hx0:=HL.out k;have hx1:=HL.out (k-1);have hx2:=HL.out (k-2);clear hcell;by_cases hk0:k=0
   ·subst hk0
    have ha0:ad.add 0=ad:=(by simp[Addr.add]);rw[ha0]at c0;rw[hTe,if_neg (by omega),if_neg (by omega)]at HS;clear hTe hx1 hx2;generalize l.getD 0 0=x at *;go_wp2_with (at_builtin;refine z06 rfl (.tmp 51) (.tmp 53) _ rfl 2 i0 _ 8 Tryz.underlying114 hi0 hz0 hz1 hz2 rfl (.int .i64 (x)) rfl rfl o4 rfl (by simp only[maxLen];omega) (by omega) ?_;intro v6 w6 o6 m6)
    go_roundw
    case rel=>exact ⟨0+1,by omega,by go_num,by rw[HS.out];exact o6⟩
    case measure=>simp[intOf];omega
   ·by_cases hk1:k=1
    ·have hk2:¬(2:Int)<=(k:Int):=by omega
     have c1:=kM.out (k-1) (by omega);rw[hTe,if_neg (by omega),if_pos (by omega)]at HS;clear hTe hx2;have b1:IntKind.i64.wrap ((k:Int)-1)=(((k-1:Nat)):Int):=by rw[IntWalk.i64_in _ (by omega)];omega
     have hk3:1<=k:=(by omega);clear hk1 hk0;generalize l.getD k 0=x at *;generalize l.getD (k-1) 0=y at *;have kw:IntKind.i64.wrap (x-y)=x-y:=IntWalk.i64_in _ (by omega);go_wp2_with (at_builtin;refine z06 rfl (.tmp 51) (.tmp 53) _ rfl 2 i0 _ 8 Tryz.underlying114 hi0 hz0 hz1 hz2 rfl (.int .i64 (x-y)) rfl rfl o4 rfl (by simp only[maxLen];omega) (by omega) ?_;intro v6 w6 o6 m6)
     go_roundw
     case rel=>exact ⟨k+1,by omega,by go_num,by rw[HS.out];exact o6⟩
     case measure=>simp[intOf];omega
    ·have c1:=kM.out (k-1) (by omega)
     have c2:=kM.out (k-2) (by omega);rw[hTe,if_pos (show 2<=k by omega)]at HS;clear hTe;have b1:IntKind.i64.wrap ((k:Int)-1)=((k-1:Nat):Int):=by rw[IntWalk.i64_in _ (by omega)];omega
     have b3:IntKind.i64.wrap ((k:Int)-2)=((k-2:Nat):Int):=by rw[IntWalk.i64_in _ (by omega)];omega
     have b2:(k:Int)-1=((k-1:Nat):Int):=(by omega);have b4:(k:Int)-2=((k-2:Nat):Int):=(by omega);have hg1:(1:Int)<=(k:Int):=(by omega);have hg2:(2:Int)<=(k:Int):=(by omega);generalize l.getD k 0=x at *;generalize l.getD (k-1) 0=y at *;generalize l.getD (k-2) 0=z at *;have kw:IntKind.i64.wrap (x-y)=x-y:=IntWalk.i64_in _ (by omega);have kw2:IntKind.i64.wrap (2 * y)=2 * y:=IntWalk.i64_in _ (by omega);have kw3:IntKind.i64.wrap (x-2 * y)=x-2 * y:=IntWalk.i64_in _ (by omega);have kw4:IntKind.i64.wrap (x-2 * y+z)=x-2 * y+z:=IntWalk.i64_in _ (by omega);rw[show x-y-(y-z)=x-2 * y+z by omega]at HS;go_wp2_with fail;go_quiet (fail)
     have o4:=o4.drewN nq;go_wp2_with (at_builtin;refine z06 rfl (.tmp 51) (.tmp 53) _ rfl 2 i0 _ 8 Tryz.underlying114 hi0 hz0 hz1 hz2 rfl (.int .i64 (x-2 * y+z)) rfl rfl o4 rfl (by simp only[maxLen];omega) (by omega) ?_;intro v6 w6 o6 m6)
     go_roundw
     case rel=>exact ⟨k+1,by omega,by go_num,by rw[HS.out];exact o6⟩
     case measure=>simp[intOf];omega
  ·obtain rfl:n=k:=by omega
   rw[List.take_of_length_le (by rw[kT.out,Hl.out];omega)]at o4;go_wp2_with fail;go_ret;exact ⟨_,rfl,o4⟩
theorem ML (D:Nat->Prop) (A:Option Addr) (n c:Nat) (l:List Int) (w:Nat) (hw:w<=2) (W:World) (hr:Rd W D 1 A n (il l)) (hl:l.length=n) (he:aJ l=0):
 Calls Tryz.prog 237 #[.slice A n c,.int .i64 (w:Int)] W fun e w'=>∃v,e=.returned v/\ak W w' 2 1 v n (il (aH l w)):=by
 match w,hw with
 |0,_=>exact Jj D A n c l W hr hl he
 |1,_=>exact Ji D A n c l W hr hl he
 |2,_=>exact Jh D A n c l W hr hl he
theorem oI (D:Nat->Prop) (A:Option Addr) (n c:Nat) (l:List Int) (w:Nat) (hw:w<=2) (W:World) (hr:Rd W D 1 A n (il l)) (hl:l.length=n) (he:aJ l=0):
 Calls Tryz.prog 191 #[.slice A n c,.int .i64 (w:Int)] W (gQ W 5 1 (bC l w).length (bl (bC l w))):=by
 obtain ⟨i0,hi0,hz0,hz1,hz2⟩:=info_parts Tryz.info5;obtain ⟨hll,hin⟩:=xQ he;have hlen:=(Vb hin (by omega) hw).2;have hpos:=(Vb hin (by omega) hw).1;have htb:=VW hin w hw;have HB:=ah (fun k=>xO htb (by omega) k);have HE:Hid (bC l w=aj l.length++jh ((aH l w).drop 0)):=ah rfl;have kT:=ah (Lu l w);have htn:=fun w' (nx:Nx W w')=>ML D A n c l w hw w' (hr.nx (by decide) nx) hl he;have Htn:=ah htn;have mD:=ah (fun (v:Nat) (w:World) (hv:v<18446744073709551616)=>oD v w hv);have Hpl:=ah (fun v (hv:v<18446744073709551616)=>z04 (n:=v) hv);have Hl:=ah hl;rw[hl]at HE hll hlen;have kw:IntKind.u64.wrap (n:Int)=(n:Int):=by rw[IntKind.wrap_u64];omega
 clear hl hin he htb htn hr;generalize bC l w=T at *;generalize aH l w=t at *;go_enter Tryz.func191,Tryz.ntmps191;go_wp2_with fail;with_reducible refine (mD.out n W (by omega)).mono ?_
 rintro e w1 ⟨k1,cap1,rfl,o1,_,_,_,_⟩;go_wp2_with fail;with_reducible refine (Htn.out w1 o1.nx).mono ?_
 rintro e w2 ⟨v2,rfl,o2⟩;obtain ⟨A2,c2,rfl,_,_⟩:=o2.form;have r2:=o2.rd.more (D':=fun k=>w1.heap.size<=k/\k<w2.heap.size) fun k hk=>hk.2;have hk1:=(o1.lt k1 rfl).2;have hb0:∀j,(Value.slice (some ⟨k1,0,none⟩) (aj n).length cap1).ownBlock=some j->j<w1.heap.size∨w2.heap.size<=j:=fun j hj=>.inl (by have:k1=j:=(by simpa [Value.ownBlock]using hj);omega);have h0:∃X,ak W w2 5 1 (.slice (some ⟨k1,0,none⟩) (aj n).length cap1) X.length (bl X)/\X++jh (t.drop 0)=T:=⟨aj n,o1.tr o2.nx,HE.out.symm⟩;have H0:=ah h0;clear h0 o1 o2 Htn;go_wp2_with fail;go_loopw [5,16] (fun v i wr=>∃k:Nat,k<=n/\i=.int .i64 (k:Int)/\w2.heap.size<=wr.heap.size/\Rd wr (fun k=>w1.heap.size<=k/\k<w2.heap.size) 1 A2 n (il t)/\Hid (∀j,v.ownBlock=some j->j<w1.heap.size∨w2.heap.size<=j)/\Hid (∃X,ak W wr 5 1 v X.length (bl X)/\X++jh (t.drop k)=T)) (fun _ i _=>n-(intOf i).toNat)
 case atStart=>exact ⟨0,Nat.zero_le _,rfl,Nat.le_refl _,r2,ah hb0,H0⟩
 case round=>
  clear H0 r2 hb0;obtain ⟨w4,rfl⟩:∃w4:World,w4=wr:=⟨_,rfl⟩;obtain ⟨k,hk,rfl,hw4,r4,hob,hout⟩:=hrel;obtain ⟨X,oX,eX⟩:=hout.out;by_cases hlt:k<n
  ·have e1:=z1Q (l:=t) (k:=k) (by rw[kT.out,Hl.out];exact hlt)
   rw[e1]at eX;obtain ⟨ad,rfl,_,hcell⟩:=r4.2 (by omega);have hc0:=hcell k _ (Rh (by rw[kT.out,Hl.out];exact hlt));have hx:=HB.out k;have hlb:=congrArg List.length eX;simp only[List.length_append]at hlb;have E:=ah eX;clear hcell e1 eX hout;generalize t.getD k 0=x at *;have hzl:zig x<18446744073709551616:=VK (by omega) (by omega);have hpz:=Hpl.out (zig x) hzl;have Hzg:=ah (fun w=>Sl x w (by omega) (by omega));have hxb:X.length+(aj (zig x)).length<=1000000:=(by omega);clear hlb;go_wp2_with fail;with_reducible refine (Hzg.out _).mono ?_
   rintro e w5 ⟨rfl,rfl⟩;go_wp2_with fail;with_reducible refine (mD.out (zig x) w4 hzl).mono ?_
   rintro e w5 ⟨k5,cap5,rfl,o5,_,_,_,_⟩;have oX5:=oX.tr o5.nx;have r5:=o5.iy;have r45:=r4.nx (by decide) o5.nx;have hw5:=o5.nx.size;have fin:∀v w,ak W w 5 1 v (X.length+(aj (zig x)).length) (bl X++bl (aj (zig x)))->∃X,ak W w 5 1 v X.length (bl X)/\X++jh (t.drop (k+1))=T:=fun v w o=>⟨X++aj (zig x),by rw[List.length_append,show bl (X++aj (zig x))=bl X++bl (aj (zig x)) by simp[bl]];exact o,by rw[←E.out];simp only[List.append_assoc]⟩;have Fin:=ah fin
   have kY:∀v7 w7,Moved w5 w7 u5 v7->w2.heap.size<=w7.heap.size/\Rd w7 (fun k=>w1.heap.size<=k/\k<w2.heap.size) 1 (some ad) n (il t)/\∀j,v7.ownBlock=some j->j<w1.heap.size∨w2.heap.size<=j:=fun v7 w7 m=>by
    have hs:=m.ch.size;refine ⟨by omega,r45.ch (by decide) m.ch (fun k hk hd e=>?_),fun j hj=>?_⟩
    ·rcases hob.out k e with h|h<;>omega
    ·rcases m.at_ with h|⟨k,h,h2⟩
     ·exact hob.out j (by rw[←h];exact hj)
     ·rw[h]at hj
      injection hj with hj;exact .inr (by omega)
   have Nxt:=ah kY;clear kY;clear fin o5 oX;go_wp2_with (at_builtin;(refine z05 rfl (.tmp 20) (.tmp 23) _ rfl 5 i0 _ 1 1 Tryz.underlying26 hi0 hz0 hz1 hz2 rfl (by omega) rfl oX5 _ (some ⟨k5,0,none⟩) (aj (zig x)).length cap5 (bl (aj (zig x))) rfl r5 (iL _) (by simp only[maxLen];omega) (by omega) ?_;intro v7 w7 o7 m7;have Ho7:=ah (Fin.out v7 w7 o7)))
   go_roundw
   case rel=>
    obtain ⟨q1,q2,q3⟩:=Nxt.out _ _ m7;exact ⟨k+1,by omega,by go_num,q1,q2,ah q3,Ho7⟩
   case measure=>simp[intOf];omega
  ·obtain rfl:n=k:=by omega
   have e1:jh (t.drop n)=[]:=by
    rw[List.drop_of_length_le (by rw[kT.out,Hl.out];omega)];rfl
   rw[e1,List.append_nil]at eX;subst eX;clear hout e1;go_wp2_with fail;go_ret;exact gQ.ji oX hpos
theorem Ug (l:List Int):∀k,0<k->(bst l k).2=((bC l (bst l k).1).length:Int):=by
 intro k;induction k with
 |zero=>intro h;omega
 |succ k ih=>
  intro _;by_cases h:(bst l k).2<0∨((bC l k).length:Int)<(bst l k).2
  ·have e:bst l (k+1)=(k,((bC l k).length:Int)):=by rw[bst,if_pos h]
   rw[e]
  ·have e:bst l (k+1)=bst l k:=by rw[bst,if_neg h]
   rw[e];rcases Nat.eq_zero_or_pos k with rfl|hk
   ·exact absurd (.inl (by simp[bst])) h
   ·exact ih hk
theorem PU (l:List Int) (k:Nat) (hk:0<k):(bst l (k+1)).1=if (bC l k).length<(bC l (bst l k).1).length then k else (bst l k).1:=by
 have h:=Ug l k hk;rw[bst,h];by_cases hlt:(bC l k).length<(bC l (bst l k).1).length
 ·rw[if_pos (.inr (by omega)),if_pos hlt]
 ·rw[if_neg (by omega),if_neg hlt]
theorem Jg (D:Nat->Prop) (A:Option Addr) (n c:Nat) (l:List Int) (W:World) (hr:Rd W D 1 A n (il l)) (hl:l.length=n) (he:aJ l=0):
 Calls Tryz.prog 190 #[.slice A n c] W fun e w'=>e=.returned (.int .i64 (bD l:Int))/\Nx W w':=by
 have hll:=(xQ he).1;have hck:=Jk D A n c l W hr hl (by omega);rw[he]at hck;have hen:=fun (w:Nat) (hw:w<=2) w' (nx:Nx W w')=>oI D A n c l w hw w' (hr.nx (by decide) nx) hl he;have HD:Hid (bD l=(bst l 3).1):=ah (by unfold bD;rw[if_neg (by simpa using he)]);have Hn:=ah (fun k hk=>PU l k hk);have Hle:=ah (PW l);have H1:=ah (show (bst l 1).1=0 by simp[bst]);have Yd:=ah hck;have lS:=ah hen;clear hck hen he hr hl;generalize hb:(fun k=>(bst l k).1)=B at *;have HB:=ah (fun k=>congrFun hb k);clear hb;go_enter Tryz.func190,Tryz.ntmps190;go_wp2_with fail;with_reducible refine Yd.out.mono ?_
 rintro e w1 ⟨rfl,rfl⟩;go_wp2_with fail;go_loopw [3,4] (fun s3 s4 wr=>∃k:Nat,1<=k/\k<=3/\s4=.int .i64 (k:Int)/\s3=.int .i64 (B k:Int)/\Nx W wr) (fun _ s4 _=>3-(intOf s4).toNat)
 case atStart=>exact ⟨1,by omega,by omega,rfl,by rw[←HB.out 1,H1.out];rfl,Ch.refl _ _⟩
 case round=>
  obtain ⟨w4,rfl⟩:∃w4:World,w4=wr:=⟨_,rfl⟩;obtain ⟨k,hk1,hk3,rfl,rfl,n4⟩:=hrel;by_cases hk:k<=2
  ·have hnx:=Hn.out k (by omega)
   have hbl:=Hle.out k;rw[HB.out k,HB.out (k+1)]at hnx;have hbl2:B k<=2:=by rw[←HB.out k];omega
   have hcall:=lS.out k hk w4 n4;generalize B k=b at *;have HX:=ah hnx;clear hnx;obtain ⟨L1,hL1⟩:∃L1,(bC l k).length=L1:=⟨_,rfl⟩;obtain ⟨L2,hL2⟩:∃L2,(bC l b).length=L2:=⟨_,rfl⟩;have lg:=fun w (nx:Nx W w)=>lS.out b hbl2 w nx;rw[hL1]at hcall HX;rw[hL2]at lg HX;have eP:=ah hcall;have Ye:=ah lg;clear hcall lg hL1 hL2;go_wp2_with fail;with_reducible refine eP.out.mono ?_
   rintro e w5 ⟨k5,cap5,rfl,o5,_,_,_,_⟩;have n5:=n4.tr o5.nx;clear o5;go_wp2_with fail;with_reducible refine (Ye.out _ n5).mono ?_
   rintro e w6 ⟨k6,cap6,rfl,o6,_,_,_,_⟩;have n6:=n5.tr o6.nx;clear o6;by_cases hlt:L1<L2
   ·have hq:(L1:Int)<(L2:Int):=by omega
    have hB:B (k+1)=k:=(by rw[HX.out,if_pos hlt]);have HB1:=ah hB;clear hB;go_wp2_with fail;go_roundw
    case rel=>exact ⟨k+1,by omega,by omega,by go_num,by rw[HB1.out],n6⟩
    case measure=>simp[intOf];omega
   ·have hq:¬((L1:Int)<(L2:Int)):=by omega
    have hB:B (k+1)=b:=(by rw[HX.out,if_neg hlt]);have HB1:=ah hB;clear hB;go_wp2_with fail;go_roundw
    case rel=>exact ⟨k+1,by omega,by omega,by go_num,by rw[HB1.out],n6⟩
    case measure=>simp[intOf];omega
  ·obtain rfl:k=3:=by omega
   have HF:Hid (bD l=B 3):=ah (by rw[HD.out];exact HB.out 3);go_wp2_with fail;go_ret;exact ⟨by rw[HF.out];rfl,n4⟩
theorem oH (D:Nat->Prop) (A:Option Addr) (n c:Nat) (l:List Int) (W:World) (hr:Rd W D 1 A n (il l)) (hl:l.length=n) (he:aJ l=0):
 Calls Tryz.prog 121 #[.slice A n c] W (gQ W 5 1 (aX l).length (bl (aX l))):=by
 obtain ⟨i0,hi0,hz0,hz1,hz2⟩:=info_parts Tryz.info5;have hd2:=UZ l;have hil:=z14 he;have hll:=(xQ he).1;have hbe:=Jg D A n c l W hr hl he;have hen:=fun w' (nx:Nx W w')=>oI D A n c l (bD l) hd2 w' (hr.nx (by decide) nx) hl he;have HE:Hid (aX l=[bD l]++bC l (bD l)):=ah rfl;have Hbe:=ah hbe;have lS:=ah hen;have hel:(aX l).length=1+(bC l (bD l)).length:=by rw[HE.out,List.length_append];rfl
 have hel2:(bC l (bD l)).length<=100000:=by omega
 have HEL:=ah hel;clear hbe hen he hr hl hel hil;generalize aX l=T at *;generalize bC l (bD l)=E at *;generalize bD l=d at *
 have kd:IntKind.u8.wrap (d:Int)=(d:Int):=by
  have:IntKind.u8.wrap (d:Int)=(d:Int) % 256:=by simp[IntKind.wrap,IntKind.bits,IntKind.signed]
  omega
 go_enter Tryz.func121,Tryz.ntmps121;go_wp2_with fail;with_reducible refine Hbe.out.mono ?_
 rintro e w1 ⟨rfl,n1⟩;have o0:ak W (w1.alloc (.cells #[.int .u8 (d:Int)] 5)) 5 1 (.slice (some ⟨w1.heap.size,0,none⟩) 1 1) 1 (bl [d]):=⟨YS w1 _ _ 1 _ 1 n1.size (by simp[maxLen]) (by simp),n1.alloc _⟩;go_wp2_with fail;with_reducible refine (lS.out _ o0.nx).mono ?_
 rintro e w2 ⟨k2,cap2,rfl,o2,_,_,_,_⟩;have oX:=o0.tr o2.nx;have r2:=o2.iy;clear o0 o2 Hbe lS;go_wp2_with (at_builtin;refine z05 rfl (.tmp 8) (.tmp 11) _ rfl 5 i0 _ 1 1 Tryz.underlying26 hi0 hz0 hz1 hz2 rfl (by omega) rfl oX _ (some ⟨k2,0,none⟩) E.length cap2 (bl E) rfl r2 (iL _) (by simp only[maxLen];omega) (by omega) ?_;intro v3 w3 o3 m3)
 go_ret;rw[HEL.out,HE.out,show bl ([d]++E)=bl [d]++bl E by simp[bl]];exact gQ.ji o3 (by omega)
end Go.Proofs.YtpakjclpjcngmaaGreat
