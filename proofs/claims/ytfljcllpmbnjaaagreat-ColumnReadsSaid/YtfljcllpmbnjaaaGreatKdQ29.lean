/- Contracts and plain laws that the last text rests on. Conditions: each theorem states its own. -/
import Derived.Test.YtfljcllpmbnjaaaGreatKdQ26
import Derived.Test.YtfljcllpmbnjaaaGreatKdPdPlainWd
import Derived.Test.YtfljcllpmbnjaaaGreatKdQ8
set_option maxRecDepth 100000
set_option maxHeartbeats 8000000
set_option linter.unusedVariables false
namespace Go.Proofs.YtfljcllpmbnjaaaGreat
open Go.RowKit
theorem mF (l:List Int) (fr j:Nat) (h:j<l.length):(rC l fr).getD j 0=if fr<=j then l.getD j 0-l.getD (j-1) 0 else l.getD j 0:=by
 unfold rC;simp[List.getD,h]
theorem Vp (l:List Int) (j:Nat) (h:j<l.length):(aG l 1).getD j 0=if 1<=j then l.getD j 0-l.getD (j-1) 0 else l.getD j 0:=mF l 1 j h
theorem Zr (l:List Int) (j:Nat) (h:j<l.length):(aG l 2).getD j 0=if 2<=j then (l.getD j 0-l.getD (j-1) 0)-(l.getD (j-1) 0-l.getD (j-2) 0) else if 1<=j then l.getD j 0-l.getD (j-1) 0 else l.getD j 0:=by
 have h1:(aG l 2).getD j 0=if 2<=j then (aG l 1).getD j 0-(aG l 1).getD (j-1) 0 else (aG l 1).getD j 0:=mF (aG l 1) 2 j (by rw[z08];exact h)
 rw[h1,Vp l j h];by_cases h2:2<=j
 ·rw[if_pos h2,if_pos h2,Vp l (j-1) (by omega),if_pos (by omega),if_pos (by omega),show j-1-1=j-2 by omega]
 ·rw[if_neg h2,if_neg h2]
theorem Uj {l:List Int} {k:Nat} (h:k<l.length):gU (l.drop k)=aj (zig (l.getD k 0))++gU (l.drop (k+1)):=by
 have e0:l.getD k 0=l[k]:=by rw[List.getD,List.getElem?_eq_getElem h];rfl
 rw[List.drop_eq_getElem_cons h,e0];unfold gU;rw[List.flatMap_cons]
def Rw (l:List Int) (k:Nat):Int:=if k=0 then 0 else l.getD (k-1) 0
theorem Um (l:List Int) (k:Nat):Rw l (k+1)=l.getD k 0:=by simp[Rw]
theorem z58 (l:List Int) {k:Nat} (h:0<k):Rw l k=l.getD (k-1) 0:=by unfold Rw;rw[if_neg (by omega)]
theorem z48 {l:List Int} {k:Nat} (h:k<l.length):il (l.take (k+1))=il (l.take k)++[.int .i64 (l.getD k 0)]:=by
 have e0:l.getD k 0=l[k]:=by rw[List.getD,List.getElem?_eq_getElem h];rfl
 rw[List.take_succ_eq_append_getElem h,e0];unfold il;rw[List.map_append];rfl
def Ar (W:World) (l:List Int) (e:Ending) (w':World):Prop:=∃v,e=.returned (.tuple #[v,.int .i64 0])/\au W w' 2 1 v l.length (il l)
def tK (W wr:World) (l:List Int) (w:Nat) (b:List Nat) (k p:Nat) (s:Int) (v:Value):Prop:=
 p<=b.length/\ -4611686018427387904<=s/\s<=4611686018427387904/\(w=2->2<=k->s=l.getD (k-1) 0-l.getD (k-2) 0)/\b.drop p=gU ((aG l w).drop k)/\au W wr 2 1 v k (il (l.take k))
theorem qO (D:Nat->Prop) (A:Option Addr) (n c:Nat) (l:List Int) (W:World) (hr:Rd W D 1 A n (bl (bf l 0))) (hl:(bf l 0).length=n) (hc:n<=c) (he:aO l=0):
 Calls Tryz.prog 55 #[.slice A n c,.int .i64 0] W (Ar W l):=by
 obtain ⟨i0,hi0,hz0,hz1,hz2⟩:=info_parts Tryz.g_;obtain ⟨hll,hin⟩:=jH he;have hok:=lH hin (by omega) (show 0<=2 by omega);have hle:=(z26 hin (by omega) (show 0<=2 by omega)).2;have hE:bf l 0=aj l.length++gU (aG l 0):=rfl;have htb:=z13 hin 0 (by omega);have hT:∀k, -4611686018427387904<=(aG l 0).getD k 0/\(aG l 0).getD k 0<=4611686018427387904:=fun k=>wZ htb (by omega) k;have hL:∀k, -1152921504606846976<=l.getD k 0/\l.getD k 0<=1152921504606846976:=fun k=>wZ (B:=1152921504606846976) (fun x hx=>hin x hx) (by omega) k;have htl:=z08 l 0;have hd0:(bf l 0).drop 0=aj l.length++gU ((aG l 0).drop 0):=by rw[hE,List.drop_zero,List.drop_zero]
 have hr0:=Jk (v:=l.length) (by omega) (by omega) hd0;have hd1:=Aw hd0;rw[Nat.zero_add]at hd1;have hu:=jO D A n c (bf l 0) 0 W hr hok hl (by omega) hc (by omega);rw[hr0]at hu;have hi:=fun (p:Nat) (w':World) (nx:Nx W w') (hp:p<=(bf l 0).length)=>vH D A n c (bf l 0) p w' (hr.nx (by decide) nx) hok hl (by omega) hc (by omega);have hp0:(aj l.length).length<=(bf l 0).length:=by rw[hE,List.length_append];omega
 have HT:=ah hT;have HL:=ah hL;have Hu:=ah hu;have Hi:=ah hi;have jk:=ah htl;have HB:=ah htb;have hD0:∀v w',au W w' 2 1 v 0 (il (l.take 0))->tK W w' l 0 (bf l 0) 0 (aj l.length).length 0 v:=fun v w' o=>⟨hp0,by omega,by omega,fun _ h=>by omega,hd1,o⟩;have HD0:=ah hD0;have HX:=ah (show ∀b,b=bf l 0->b.length=n from fun b h=>by rw[h];exact hl);obtain ⟨b,hb⟩:∃b,bf l 0=b:=⟨_,rfl⟩;rw[hb]at HD0 Hi hle hl;clear hT hL hu hi htl htb hd0 hr0 hd1 hE hr hok hp0 hD0 hin he hb HX;unfold Ai at Hu;obtain ⟨m,hm⟩:∃m,l.length=m:=⟨_,rfl⟩;have Hm:=ah hm;rw[hm]at Hu hll hle HD0;have kw0:IntKind.i64.wrap (m:Int)=(m:Int):=IntWalk.i64_in _ (by omega);have H0:=ah (HD0.out (.slice none 0 0) W (au.nil _ _ _ _ (Ch.refl _ W)));clear hm HD0;generalize (aj m).length=p0 at *;go_enter Tryz.func55,Tryz.ntmps55;go_wp2_with fail;refine Hu.out.mono ?_;rintro e w1 ⟨rfl,rfl⟩;simp only[];go_wp2_with fail;go_loopw [7,9,10,11,37] (fun a v la st i wr=>∃(k p:Nat) (s:Int),k<=m/\i=.int .i64 (k:Int)/\a=.int .i64 (p:Int)/\la=.int .i64 (Rw l k)/\st=.int .i64 s/\tK W wr l 0 b k p s v) (fun _ _ _ _ i _=>m-(intOf i).toNat)
 case atStart=>exact ⟨0,_,0,Nat.zero_le _,rfl,rfl,rfl,rfl,H0.out⟩
 case round=>
  clear H0;obtain ⟨w4,rfl⟩:∃w4:World,w4=wr:=⟨_,rfl⟩;obtain ⟨k,p,s,hk,rfl,rfl,rfl,rfl,hp,hs1,hs2,hs3,hd,o4⟩:=hrel;by_cases hlt:k<m
  ·have e1:=Uj (l:=aG l 0) (k:=k) (by rw[jk.out,Hm.out];exact hlt)
   rw[e1]at hd;have WH:=HT.out k;have hzl:zig ((aG l 0).getD k 0)<18446744073709551616:=OG (by omega) (by omega);have hrd:=Jk hzl hp hd;have hnd:=Aw hd;have hpl:=congrArg List.length hd;rw[List.length_drop,List.length_append]at hpl;have hcall:=Hi.out p w4 o4.nx hp;unfold UK at hcall;rw[hrd]at hcall;simp only[if_true,RD]at hcall;have dS:=ah hcall;have HS:=ah (z48 (l:=l) (k:=k) (by rw[Hm.out];exact hlt));have hTe:(aG l 0).getD k 0=l.getD k 0:=rfl;have hLk:=HL.out k;have WI:=HL.out (k-1);have Hnd:=ah hnd;have hpq:p+(aj (zig ((aG l 0).getD k 0))).length<=b.length:=(by omega);clear hrd hnd hd e1 hcall hzl hpl;generalize (aj (zig ((aG l 0).getD k 0))).length=q at *;generalize (aG l 0).getD k 0=T at *;have Fp:l.getD k 0=T:=hTe.symm;have hnew:((0:Nat)=2->2<=k+1->T=l.getD (k+1-1) 0-l.getD (k+1-2) 0):=fun h=>absurd h (by omega);have pG:=ah hnew;have Aq:=ah Fp;rw[Aq.out]at HS hLk;clear hnew hTe hs3;go_wp2_with fail;with_reducible refine dS.out.mono ?_
   rintro e w5 ⟨rfl,rfl⟩;go_wp2_with (at_builtin;refine z02 rfl (.tmp 85) (.tmp 87) _ rfl 2 i0 _ 8 Tryz.underlying22 hi0 hz0 hz1 hz2 rfl (.int .i64 (T)) rfl rfl o4 rfl (by simp only[maxLen];omega) (by omega) ?_;intro v6 w6 o6 m6)
   go_roundw
   case rel=>exact ⟨k+1,p+q,T,by omega,by go_num,by simp,by rw[Um,Aq.out],rfl,hpq,by omega,by omega,pG.out,Hnd.out,by rw[HS.out];exact o6⟩
   case measure=>simp[intOf];omega
  ·obtain rfl:m=k:=by omega
   have hp2:p=b.length:=by
    have h2:=congrArg List.length hd;rw[List.drop_of_length_le (show (aG l 0).length<=m by rw[jk.out,Hm.out];omega),List.length_drop]at h2;simp[gU]at h2;omega
   rw[List.take_of_length_le (by rw[Hm.out];omega)]at o4;subst hp2;clear hd hs3;have q1:¬((b.length:Int)<(n:Int)):=(by omega);go_wp2_with fail;go_ret2;exact ⟨_,rfl,by rw[Hm.out];exact o4⟩
theorem qN (D:Nat->Prop) (A:Option Addr) (n c:Nat) (l:List Int) (W:World) (hr:Rd W D 1 A n (bl (bf l 1))) (hl:(bf l 1).length=n) (hc:n<=c) (he:aO l=0):
 Calls Tryz.prog 55 #[.slice A n c,.int .i64 1] W (Ar W l):=by
 obtain ⟨i0,hi0,hz0,hz1,hz2⟩:=info_parts Tryz.g_;obtain ⟨hll,hin⟩:=jH he;have hok:=lH hin (by omega) (show 1<=2 by omega);have hle:=(z26 hin (by omega) (show 1<=2 by omega)).2;have hE:bf l 1=aj l.length++gU (aG l 1):=rfl;have htb:=z13 hin 1 (by omega);have hT:∀k, -4611686018427387904<=(aG l 1).getD k 0/\(aG l 1).getD k 0<=4611686018427387904:=fun k=>wZ htb (by omega) k;have hL:∀k, -1152921504606846976<=l.getD k 0/\l.getD k 0<=1152921504606846976:=fun k=>wZ (B:=1152921504606846976) (fun x hx=>hin x hx) (by omega) k;have htl:=z08 l 1;have hd0:(bf l 1).drop 0=aj l.length++gU ((aG l 1).drop 0):=by rw[hE,List.drop_zero,List.drop_zero]
 have hr0:=Jk (v:=l.length) (by omega) (by omega) hd0;have hd1:=Aw hd0;rw[Nat.zero_add]at hd1;have hu:=jO D A n c (bf l 1) 0 W hr hok hl (by omega) hc (by omega);rw[hr0]at hu;have hi:=fun (p:Nat) (w':World) (nx:Nx W w') (hp:p<=(bf l 1).length)=>vH D A n c (bf l 1) p w' (hr.nx (by decide) nx) hok hl (by omega) hc (by omega);have hp0:(aj l.length).length<=(bf l 1).length:=by rw[hE,List.length_append];omega
 have HT:=ah hT;have HL:=ah hL;have Hu:=ah hu;have Hi:=ah hi;have jk:=ah htl;have HB:=ah htb;have hD0:∀v w',au W w' 2 1 v 0 (il (l.take 0))->tK W w' l 1 (bf l 1) 0 (aj l.length).length 0 v:=fun v w' o=>⟨hp0,by omega,by omega,fun _ h=>by omega,hd1,o⟩;have HD0:=ah hD0;have HX:=ah (show ∀b,b=bf l 1->b.length=n from fun b h=>by rw[h];exact hl);obtain ⟨b,hb⟩:∃b,bf l 1=b:=⟨_,rfl⟩;rw[hb]at HD0 Hi hle hl;clear hT hL hu hi htl htb hd0 hr0 hd1 hE hr hok hp0 hD0 hin he hb HX;unfold Ai at Hu;obtain ⟨m,hm⟩:∃m,l.length=m:=⟨_,rfl⟩;have Hm:=ah hm;rw[hm]at Hu hll hle HD0;have kw0:IntKind.i64.wrap (m:Int)=(m:Int):=IntWalk.i64_in _ (by omega);have H0:=ah (HD0.out (.slice none 0 0) W (au.nil _ _ _ _ (Ch.refl _ W)));clear hm HD0;generalize (aj m).length=p0 at *;go_enter Tryz.func55,Tryz.ntmps55;go_wp2_with fail;refine Hu.out.mono ?_;rintro e w1 ⟨rfl,rfl⟩;simp only[];go_wp2_with fail;go_loopw [7,9,10,11,37] (fun a v la st i wr=>∃(k p:Nat) (s:Int),k<=m/\i=.int .i64 (k:Int)/\a=.int .i64 (p:Int)/\la=.int .i64 (Rw l k)/\st=.int .i64 s/\tK W wr l 1 b k p s v) (fun _ _ _ _ i _=>m-(intOf i).toNat)
 case atStart=>exact ⟨0,_,0,Nat.zero_le _,rfl,rfl,rfl,rfl,H0.out⟩
 case round=>
  clear H0;obtain ⟨w4,rfl⟩:∃w4:World,w4=wr:=⟨_,rfl⟩;obtain ⟨k,p,s,hk,rfl,rfl,rfl,rfl,hp,hs1,hs2,hs3,hd,o4⟩:=hrel;by_cases hlt:k<m
  ·have e1:=Uj (l:=aG l 1) (k:=k) (by rw[jk.out,Hm.out];exact hlt)
   rw[e1]at hd;have WH:=HT.out k;have hzl:zig ((aG l 1).getD k 0)<18446744073709551616:=OG (by omega) (by omega);have hrd:=Jk hzl hp hd;have hnd:=Aw hd;have hpl:=congrArg List.length hd;rw[List.length_drop,List.length_append]at hpl;have hcall:=Hi.out p w4 o4.nx hp;unfold UK at hcall;rw[hrd]at hcall;simp only[if_true,RD]at hcall;have dS:=ah hcall;have HS:=ah (z48 (l:=l) (k:=k) (by rw[Hm.out];exact hlt));have hTe:=Vp l k (by rw[Hm.out];exact hlt);have hLk:=HL.out k;have WI:=HL.out (k-1);have Hnd:=ah hnd;have hpq:p+(aj (zig ((aG l 1).getD k 0))).length<=b.length:=(by omega);clear hrd hnd hd e1 hcall hzl hpl;generalize (aj (zig ((aG l 1).getD k 0))).length=q at *;generalize (aG l 1).getD k 0=T at *;by_cases hk0:k=0
   ·subst hk0
    have Fp:l.getD 0 0=T:=(by rw[hTe,if_neg (by omega)]);have hnew:((1:Nat)=2->2<=0+1->T=l.getD (0+1-1) 0-l.getD (0+1-2) 0):=fun _ h=>absurd h (by omega);have pG:=ah hnew;have Aq:=ah Fp;rw[Aq.out]at HS hLk;clear hnew hTe hs3;go_wp2_with fail;with_reducible refine dS.out.mono ?_
    rintro e w5 ⟨rfl,rfl⟩;go_wp2_with (at_builtin;refine z02 rfl (.tmp 85) (.tmp 87) _ rfl 2 i0 _ 8 Tryz.underlying22 hi0 hz0 hz1 hz2 rfl (.int .i64 (T)) rfl rfl o4 rfl (by simp only[maxLen];omega) (by omega) ?_;intro v6 w6 o6 m6)
    go_roundw
    case rel=>exact ⟨0+1,p+q,T,by omega,by go_num,by simp,by rw[Um,Aq.out],rfl,hpq,by omega,by omega,pG.out,Hnd.out,by rw[HS.out];exact o6⟩
    case measure=>simp[intOf];omega
   ·rw[if_pos (show 1<=k by omega)]at hTe
    rw[z58 l (show 0<k by omega)];have Fp:l.getD k 0=T+l.getD (k-1) 0:=(by omega);have kw1:IntKind.i64.wrap (T+l.getD (k-1) 0)=T+l.getD (k-1) 0:=IntWalk.i64_in _ (by omega);have hnew:((1:Nat)=2->2<=k+1->T=l.getD (k+1-1) 0-l.getD (k+1-2) 0):=fun h=>absurd h (by omega);have hg1:(0:Int)<(k:Int):=(by omega);have pG:=ah hnew;have Aq:=ah Fp;rw[Aq.out]at HS hLk;clear hnew hTe hs3;clear Fp;generalize hla:l.getD (k-1) 0=la at *;have Hla:=ah hla;clear hla;go_wp2_with fail;with_reducible refine dS.out.mono ?_
    rintro e w5 ⟨rfl,rfl⟩;go_wp2_with (at_builtin;refine z02 rfl (.tmp 85) (.tmp 87) _ rfl 2 i0 _ 8 Tryz.underlying22 hi0 hz0 hz1 hz2 rfl (.int .i64 (T+la)) rfl rfl o4 rfl (by simp only[maxLen];omega) (by omega) ?_;intro v6 w6 o6 m6)
    go_roundw
    case rel=>exact ⟨k+1,p+q,T,by omega,by go_num,by simp,by rw[Um,Aq.out],rfl,hpq,by omega,by omega,pG.out,Hnd.out,by rw[HS.out];exact o6⟩
    case measure=>simp[intOf];omega
  ·obtain rfl:m=k:=by omega
   have hp2:p=b.length:=by
    have h2:=congrArg List.length hd;rw[List.drop_of_length_le (show (aG l 1).length<=m by rw[jk.out,Hm.out];omega),List.length_drop]at h2;simp[gU]at h2;omega
   rw[List.take_of_length_le (by rw[Hm.out];omega)]at o4;subst hp2;clear hd hs3;have q1:¬((b.length:Int)<(n:Int)):=(by omega);go_wp2_with fail;go_ret2;exact ⟨_,rfl,by rw[Hm.out];exact o4⟩
theorem qM (D:Nat->Prop) (A:Option Addr) (n c:Nat) (l:List Int) (W:World) (hr:Rd W D 1 A n (bl (bf l 2))) (hl:(bf l 2).length=n) (hc:n<=c) (he:aO l=0):
 Calls Tryz.prog 55 #[.slice A n c,.int .i64 2] W (Ar W l):=by
 obtain ⟨i0,hi0,hz0,hz1,hz2⟩:=info_parts Tryz.g_;obtain ⟨hll,hin⟩:=jH he;have hok:=lH hin (by omega) (show 2<=2 by omega);have hle:=(z26 hin (by omega) (show 2<=2 by omega)).2;have hE:bf l 2=aj l.length++gU (aG l 2):=rfl;have htb:=z13 hin 2 (by omega);have hT:∀k, -4611686018427387904<=(aG l 2).getD k 0/\(aG l 2).getD k 0<=4611686018427387904:=fun k=>wZ htb (by omega) k;have hL:∀k, -1152921504606846976<=l.getD k 0/\l.getD k 0<=1152921504606846976:=fun k=>wZ (B:=1152921504606846976) (fun x hx=>hin x hx) (by omega) k;have htl:=z08 l 2;have hd0:(bf l 2).drop 0=aj l.length++gU ((aG l 2).drop 0):=by rw[hE,List.drop_zero,List.drop_zero]
 have hr0:=Jk (v:=l.length) (by omega) (by omega) hd0;have hd1:=Aw hd0;rw[Nat.zero_add]at hd1;have hu:=jO D A n c (bf l 2) 0 W hr hok hl (by omega) hc (by omega);rw[hr0]at hu;have hi:=fun (p:Nat) (w':World) (nx:Nx W w') (hp:p<=(bf l 2).length)=>vH D A n c (bf l 2) p w' (hr.nx (by decide) nx) hok hl (by omega) hc (by omega);have hp0:(aj l.length).length<=(bf l 2).length:=by rw[hE,List.length_append];omega
 have HT:=ah hT;have HL:=ah hL;have Hu:=ah hu;have Hi:=ah hi;have jk:=ah htl;have HB:=ah htb;have hD0:∀v w',au W w' 2 1 v 0 (il (l.take 0))->tK W w' l 2 (bf l 2) 0 (aj l.length).length 0 v:=fun v w' o=>⟨hp0,by omega,by omega,fun _ h=>by omega,hd1,o⟩;have HD0:=ah hD0;have HX:=ah (show ∀b,b=bf l 2->b.length=n from fun b h=>by rw[h];exact hl);obtain ⟨b,hb⟩:∃b,bf l 2=b:=⟨_,rfl⟩;rw[hb]at HD0 Hi hle hl;clear hT hL hu hi htl htb hd0 hr0 hd1 hE hr hok hp0 hD0 hin he hb HX;unfold Ai at Hu;obtain ⟨m,hm⟩:∃m,l.length=m:=⟨_,rfl⟩;have Hm:=ah hm;rw[hm]at Hu hll hle HD0;have kw0:IntKind.i64.wrap (m:Int)=(m:Int):=IntWalk.i64_in _ (by omega);have H0:=ah (HD0.out (.slice none 0 0) W (au.nil _ _ _ _ (Ch.refl _ W)));clear hm HD0;generalize (aj m).length=p0 at *;go_enter Tryz.func55,Tryz.ntmps55;go_wp2_with fail;refine Hu.out.mono ?_;rintro e w1 ⟨rfl,rfl⟩;simp only[];go_wp2_with fail;go_loopw [7,9,10,11,37] (fun a v la st i wr=>∃(k p:Nat) (s:Int),k<=m/\i=.int .i64 (k:Int)/\a=.int .i64 (p:Int)/\la=.int .i64 (Rw l k)/\st=.int .i64 s/\tK W wr l 2 b k p s v) (fun _ _ _ _ i _=>m-(intOf i).toNat)
 case atStart=>exact ⟨0,_,0,Nat.zero_le _,rfl,rfl,rfl,rfl,H0.out⟩
 case round=>
  clear H0;obtain ⟨w4,rfl⟩:∃w4:World,w4=wr:=⟨_,rfl⟩;obtain ⟨k,p,s,hk,rfl,rfl,rfl,rfl,hp,hs1,hs2,hs3,hd,o4⟩:=hrel;by_cases hlt:k<m
  ·have e1:=Uj (l:=aG l 2) (k:=k) (by rw[jk.out,Hm.out];exact hlt)
   rw[e1]at hd;have WH:=HT.out k;have hzl:zig ((aG l 2).getD k 0)<18446744073709551616:=OG (by omega) (by omega);have hrd:=Jk hzl hp hd;have hnd:=Aw hd;have hpl:=congrArg List.length hd;rw[List.length_drop,List.length_append]at hpl;have hcall:=Hi.out p w4 o4.nx hp;unfold UK at hcall;rw[hrd]at hcall;simp only[if_true,RD]at hcall;have dS:=ah hcall;have HS:=ah (z48 (l:=l) (k:=k) (by rw[Hm.out];exact hlt));have hTe:=Zr l k (by rw[Hm.out];exact hlt);have hLk:=HL.out k;have WI:=HL.out (k-1);have Hnd:=ah hnd;have hpq:p+(aj (zig ((aG l 2).getD k 0))).length<=b.length:=(by omega);clear hrd hnd hd e1 hcall hzl hpl;generalize (aj (zig ((aG l 2).getD k 0))).length=q at *;generalize (aG l 2).getD k 0=T at *;by_cases hk0:k=0
   ·subst hk0
    have Fp:l.getD 0 0=T:=(by rw[hTe,if_neg (by omega),if_neg (by omega)]);have hnew:((2:Nat)=2->2<=0+1->T=l.getD (0+1-1) 0-l.getD (0+1-2) 0):=fun _ h=>absurd h (by omega);have pG:=ah hnew;have Aq:=ah Fp;rw[Aq.out]at HS hLk;clear hnew hTe hs3;go_wp2_with fail;with_reducible refine dS.out.mono ?_
    rintro e w5 ⟨rfl,rfl⟩;go_wp2_with (at_builtin;refine z02 rfl (.tmp 85) (.tmp 87) _ rfl 2 i0 _ 8 Tryz.underlying22 hi0 hz0 hz1 hz2 rfl (.int .i64 (T)) rfl rfl o4 rfl (by simp only[maxLen];omega) (by omega) ?_;intro v6 w6 o6 m6)
    go_roundw
    case rel=>exact ⟨0+1,p+q,T,by omega,by go_num,by simp,by rw[Um,Aq.out],rfl,hpq,by omega,by omega,fun _=>pG.out trivial,Hnd.out,by rw[HS.out];exact o6⟩
    case measure=>simp[intOf];omega
   ·by_cases hk1:k=1
    ·rw[if_neg (show ¬2<=k by omega),if_pos (show 1<=k by omega)]at hTe
     rw[z58 l (show 0<k by omega)];have Fp:l.getD k 0=T+l.getD (k-1) 0:=(by omega);have kw1:IntKind.i64.wrap (T+l.getD (k-1) 0)=T+l.getD (k-1) 0:=IntWalk.i64_in _ (by omega);obtain rfl:k=1:=(by omega);have hnew:((2:Nat)=2->2<=1+1->T=l.getD (1+1-1) 0-l.getD (1+1-2) 0):=fun _ _=>hTe;have pG:=ah hnew;have Aq:=ah Fp;rw[Aq.out]at HS hLk;clear hnew hTe hs3;clear Fp;generalize hla:l.getD (1-1) 0=la at *;have Hla:=ah hla;clear hla;go_wp2_with fail;with_reducible refine dS.out.mono ?_
     rintro e w5 ⟨rfl,rfl⟩;go_wp2_with (at_builtin;refine z02 rfl (.tmp 85) (.tmp 87) _ rfl 2 i0 _ 8 Tryz.underlying22 hi0 hz0 hz1 hz2 rfl (.int .i64 (T+la)) rfl rfl o4 rfl (by simp only[maxLen];omega) (by omega) ?_;intro v6 w6 o6 m6)
     go_roundw
     case rel=>exact ⟨1+1,p+q,T,by omega,by go_num,by simp,by rw[Um,Aq.out],rfl,hpq,by omega,by omega,(fun _ h2=>(pG.out trivial h2).trans (by rw[←Hla.out])),Hnd.out,by rw[HS.out];exact o6⟩
     case measure=>simp[intOf];omega
    ·rw[if_pos (show 2<=k by omega)]at hTe
     have hs:=hs3 rfl (by omega);rw[z58 l (show 0<k by omega)];have hLk2:=HL.out (k-2);have hU:T+s=l.getD k 0-l.getD (k-1) 0:=(by omega);have Fp:l.getD k 0=T+s+l.getD (k-1) 0:=(by omega);have kw1:IntKind.i64.wrap (T+s)=T+s:=IntWalk.i64_in _ (by omega);have kw2:IntKind.i64.wrap (T+s+l.getD (k-1) 0)=T+s+l.getD (k-1) 0:=IntWalk.i64_in _ (by omega);have hnew:((2:Nat)=2->2<=k+1->T+s=l.getD (k+1-1) 0-l.getD (k+1-2) 0):=fun _ _=>by rw[hU,Nat.add_sub_cancel,show k+1-2=k-1 by omega]
     have hg1:(1:Int)<(k:Int):=(by omega);have hg2:(0:Int)<(k:Int):=(by omega);have hsb1: -4611686018427387904<=T+s:=(by omega);have hsb2:T+s<=4611686018427387904:=(by omega);have pG:=ah hnew;have Aq:=ah Fp;rw[Aq.out]at HS hLk;clear hnew hTe hs3;clear Fp
     try clear hU hs
     generalize hla:l.getD (k-1) 0=la at *;have Hla:=ah hla;clear hla;go_wp2_with fail;with_reducible refine dS.out.mono ?_
     rintro e w5 ⟨rfl,rfl⟩;go_wp2_with (at_builtin;refine z02 rfl (.tmp 85) (.tmp 87) _ rfl 2 i0 _ 8 Tryz.underlying22 hi0 hz0 hz1 hz2 rfl (.int .i64 (T+s+la)) rfl rfl o4 rfl (by simp only[maxLen];omega) (by omega) ?_;intro v6 w6 o6 m6)
     go_roundw
     case rel=>exact ⟨k+1,p+q,T+s,by omega,by go_num,by simp,by rw[Um,Aq.out],rfl,hpq,by omega,by omega,fun _=>pG.out trivial,Hnd.out,by rw[HS.out];exact o6⟩
     case measure=>simp[intOf];omega
  ·obtain rfl:m=k:=by omega
   have hp2:p=b.length:=by
    have h2:=congrArg List.length hd;rw[List.drop_of_length_le (show (aG l 2).length<=m by rw[jk.out,Hm.out];omega),List.length_drop]at h2;simp[gU]at h2;omega
   rw[List.take_of_length_le (by rw[Hm.out];omega)]at o4;subst hp2;clear hd hs3;have q1:¬((b.length:Int)<(n:Int)):=(by omega);go_wp2_with fail;go_ret2;exact ⟨_,rfl,by rw[Hm.out];exact o4⟩
theorem KN (x:Int) (W:World):Calls Tryz.prog 34 #[.int .i64 x] W fun e w'=>e=.returned (.bool (decide (jP x)))/\W=w':=by
 by_cases h1: -1152921504606846976<=x
 ·by_cases h2:x<=1152921504606846976
  ·have hd:decide (jP x)=true:=decide_eq_true ⟨h1,h2⟩
   have Hd:=ah hd;clear hd;go_enter Tryz.func34,Tryz.ntmps34;go_wp2_with fail;go_ret;rw[Hd.out];exact ⟨by simp[],rfl⟩
  ·have hd:decide (jP x)=false:=decide_eq_false fun h=>h2 h.2
   have Hd:=ah hd;clear hd;go_enter Tryz.func34,Tryz.ntmps34;go_wp2_with fail;go_ret;rw[Hd.out];exact ⟨by simp;try omega,rfl⟩
 ·have hd:decide (jP x)=false:=decide_eq_false fun h=>h1 h.1
  have Hd:=ah hd;clear hd;go_enter Tryz.func34,Tryz.ntmps34;go_wp2_with fail;go_ret;rw[Hd.out];exact ⟨by simp;try omega,rfl⟩
theorem GN (D:Nat->Prop) (A:Option Addr) (n c:Nat) (zs:List Int) (W:World) (hr:Rd W D 1 A n (il zs)) (hl:zs.length=n) (hn:n<=2048):
 Calls Tryz.prog 8 #[.slice A n c,.int .i64 0] W fun e w'=>e=.returned (.int .i64 (aO zs))/\W=w':=by
 subst hl;have hq:¬((2048:Int)<(zs.length:Int)):=by omega
 have H2:Hid ((¬∀x∈zs,jP x)->aO zs=2):=ah fun h=>by unfold aO;rw[if_neg (by omega),if_neg h]
 have H0:Hid ((∀x∈zs,jP x)->aO zs=0):=ah fun h=>by unfold aO;rw[if_neg (by omega),if_pos h]
 go_enter Tryz.func8,Tryz.ntmps8;go_wp2_with fail;go_loop [22] (fun i=>∃k:Nat,k<=zs.length/\i=.int .i64 (k:Int)/\Hid (∀j,j<k->jP (zs.getD j 0))) (fun i=>zs.length-(intOf i).toNat)
 case atStart=>exact ⟨0,Nat.zero_le _,rfl,ah fun j hj=>by omega⟩
 case round=>
  obtain ⟨k,hk,rfl,Hk⟩:=hrel;by_cases hlt:k<zs.length
  ·obtain ⟨ad,rfl,_,hcell⟩:=hr.2 (by omega)
   have hc0:=hcell k _ (Jy hlt);have hin:=fun h=>H2.out h;have jC:=ah (show zs.getD k 0∈zs by rw[List.getD,List.getElem?_eq_getElem hlt];exact List.getElem_mem hlt);by_cases hx:jP (zs.getD k 0)
   ·have hnx:Hid (∀j,j<k+1->jP (zs.getD j 0)):=ah fun j hj=>by
     by_cases e:j=k
     ·subst e;exact hx
     ·exact Hk.out j (by omega)
    have hcall:=KN (zs.getD k 0) W;rw[decide_eq_true hx]at hcall;have dS:=ah hcall;clear hcall hcell hin hx Hk jC;generalize zs.getD k 0=x at *;go_wp2_with fail;with_reducible refine dS.out.mono ?_
    rintro e w1 ⟨rfl,rfl⟩;go_wp2_with fail;go_round
    case rel=>exact ⟨k+1,by omega,by go_num,hnx⟩
    case measure=>simp[intOf];omega
   ·have hfin:=ah (H2.out fun h=>hx (h _ jC.out))
    have hcall:=KN (zs.getD k 0) W;rw[decide_eq_false hx]at hcall;have dS:=ah hcall;clear hcall hcell hin hx Hk jC;generalize zs.getD k 0=x at *;go_wp2_with fail;with_reducible refine dS.out.mono ?_
    rintro e w1 ⟨rfl,rfl⟩;go_wp2_with fail;go_ret;rw[hfin.out];exact ⟨rfl,rfl⟩
  ·obtain rfl:zs.length=k:=by omega
   have hfin:=ah (H0.out fun x hx=>by
    obtain ⟨j,hj,rfl⟩:=List.mem_iff_getElem.1 hx;have:=Hk.out j hj;rw[List.getD,List.getElem?_eq_getElem hj]at this;exact this)
   clear Hk;go_wp2_with fail;go_ret;rw[hfin.out];exact ⟨rfl,rfl⟩
theorem GK (D:Nat->Prop) (A:Option Addr) (n c:Nat) (l:List Int) (W:World) (hr:Rd W D 1 A n (il l)) (hl:l.length=n) (he:aO l=0):
 Calls Tryz.prog 81 #[.slice A n c,.int .i64 0] W fun e w'=>∃v,e=.returned v/\au W w' 2 1 v n (il (aG l 0)):=by
 obtain ⟨i0,hi0,hz0,hz1,hz2⟩:=info_parts Tryz.g_;obtain ⟨hll,hin⟩:=jH he;have hL:∀k, -1152921504606846976<=l.getD k 0/\l.getD k 0<=1152921504606846976:=fun k=>wZ (B:=1152921504606846976) (fun x hx=>hin x hx) (by omega) k;have HL:=ah hL;have Hl:=ah hl;have jk:=ah (z08 l 0);rw[hl]at hll;clear hL hl hin he;have h0:=au.lit W W 2 (Ch.refl _ W) 1;go_enter Tryz.func81,Tryz.ntmps81;go_wp2_with fail;go_loopw [5,12] (fun v i wr=>∃k:Nat,k<=n/\i=.int .i64 (k:Int)/\au W wr 2 1 v k (il ((aG l 0).take k))) (fun _ i _=>n-(intOf i).toNat)
 case atStart=>exact ⟨0,Nat.zero_le _,rfl,h0⟩
 case round=>
  clear h0;obtain ⟨w4,rfl⟩:∃w4:World,w4=wr:=⟨_,rfl⟩;obtain ⟨k,hk,rfl,o4⟩:=hrel;by_cases hlt:k<n
  ·obtain ⟨ad,rfl,_,hcell⟩:=(hr.nx (by decide) o4.nx).2 (by omega)
   have jD:=ah (fun j (hj:j<n)=>hcell j _ (Jy (by rw[Hl.out];exact hj)));have c0:=jD.out k hlt;have HS:=ah (z48 (l:=aG l 0) (k:=k) (by rw[jk.out,Hl.out];exact hlt));have hTe:(aG l 0).getD k 0=l.getD k 0:=rfl;have hx0:=HL.out k;have hx1:=HL.out (k-1);have hx2:=HL.out (k-2);clear hcell;rw[hTe]at HS;clear hTe hx1 hx2;generalize l.getD k 0=x at *;go_wp2_with (at_builtin;refine z02 rfl (.tmp 51) (.tmp 53) _ rfl 2 i0 _ 8 Tryz.underlying22 hi0 hz0 hz1 hz2 rfl (.int .i64 (x)) rfl rfl o4 rfl (by simp only[maxLen];omega) (by omega) ?_;intro v6 w6 o6 m6)
   go_roundw
   case rel=>exact ⟨k+1,by omega,by go_num,by rw[HS.out];exact o6⟩
   case measure=>simp[intOf];omega
  ·obtain rfl:n=k:=by omega
   rw[List.take_of_length_le (by rw[jk.out,Hl.out];omega)]at o4;go_wp2_with fail;go_ret;exact ⟨_,rfl,o4⟩
theorem GI (D:Nat->Prop) (A:Option Addr) (n c:Nat) (l:List Int) (W:World) (hr:Rd W D 1 A n (il l)) (hl:l.length=n) (he:aO l=0):
 Calls Tryz.prog 81 #[.slice A n c,.int .i64 1] W fun e w'=>∃v,e=.returned v/\au W w' 2 1 v n (il (aG l 1)):=by
 obtain ⟨i0,hi0,hz0,hz1,hz2⟩:=info_parts Tryz.g_;obtain ⟨hll,hin⟩:=jH he;have hL:∀k, -1152921504606846976<=l.getD k 0/\l.getD k 0<=1152921504606846976:=fun k=>wZ (B:=1152921504606846976) (fun x hx=>hin x hx) (by omega) k;have HL:=ah hL;have Hl:=ah hl;have jk:=ah (z08 l 1);rw[hl]at hll;clear hL hl hin he;have h0:=au.lit W W 2 (Ch.refl _ W) 1;go_enter Tryz.func81,Tryz.ntmps81;go_wp2_with fail;go_loopw [5,12] (fun v i wr=>∃k:Nat,k<=n/\i=.int .i64 (k:Int)/\au W wr 2 1 v k (il ((aG l 1).take k))) (fun _ i _=>n-(intOf i).toNat)
 case atStart=>exact ⟨0,Nat.zero_le _,rfl,h0⟩
 case round=>
  clear h0;obtain ⟨w4,rfl⟩:∃w4:World,w4=wr:=⟨_,rfl⟩;obtain ⟨k,hk,rfl,o4⟩:=hrel;by_cases hlt:k<n
  ·obtain ⟨ad,rfl,_,hcell⟩:=(hr.nx (by decide) o4.nx).2 (by omega)
   have jD:=ah (fun j (hj:j<n)=>hcell j _ (Jy (by rw[Hl.out];exact hj)));have c0:=jD.out k hlt;have HS:=ah (z48 (l:=aG l 1) (k:=k) (by rw[jk.out,Hl.out];exact hlt));have hTe:=Vp l k (by rw[Hl.out];exact hlt);have hx0:=HL.out k;have hx1:=HL.out (k-1);have hx2:=HL.out (k-2);clear hcell;by_cases hk0:k=0
   ·subst hk0
    have ha0:ad.add 0=ad:=(by simp[Addr.add]);rw[ha0]at c0;rw[hTe,if_neg (by omega)]at HS;clear hTe hx1 hx2;generalize l.getD 0 0=x at *;go_wp2_with (at_builtin;refine z02 rfl (.tmp 51) (.tmp 53) _ rfl 2 i0 _ 8 Tryz.underlying22 hi0 hz0 hz1 hz2 rfl (.int .i64 (x)) rfl rfl o4 rfl (by simp only[maxLen];omega) (by omega) ?_;intro v6 w6 o6 m6)
    go_roundw
    case rel=>exact ⟨0+1,by omega,by go_num,by rw[HS.out];exact o6⟩
    case measure=>simp[intOf];omega
   ·have c1:=jD.out (k-1) (by omega)
    rw[hTe,if_pos (show 1<=k by omega)]at HS;clear hTe hx2;have b1:IntKind.i64.wrap ((k:Int)-1)=(((k-1:Nat)):Int):=by rw[IntWalk.i64_in _ (by omega)];omega
    have b2:(k:Int)-1=((k-1:Nat):Int):=(by omega);have hg1:(1:Int)<=(k:Int):=(by omega);generalize l.getD k 0=x at *;generalize l.getD (k-1) 0=y at *;have kw:IntKind.i64.wrap (x-y)=x-y:=IntWalk.i64_in _ (by omega);go_wp2_with (at_builtin;refine z02 rfl (.tmp 51) (.tmp 53) _ rfl 2 i0 _ 8 Tryz.underlying22 hi0 hz0 hz1 hz2 rfl (.int .i64 (x-y)) rfl rfl o4 rfl (by simp only[maxLen];omega) (by omega) ?_;intro v6 w6 o6 m6)
    go_roundw
    case rel=>exact ⟨k+1,by omega,by go_num,by rw[HS.out];exact o6⟩
    case measure=>simp[intOf];omega
  ·obtain rfl:n=k:=by omega
   rw[List.take_of_length_le (by rw[jk.out,Hl.out];omega)]at o4;go_wp2_with fail;go_ret;exact ⟨_,rfl,o4⟩
theorem GH (D:Nat->Prop) (A:Option Addr) (n c:Nat) (l:List Int) (W:World) (hr:Rd W D 1 A n (il l)) (hl:l.length=n) (he:aO l=0):
 Calls Tryz.prog 81 #[.slice A n c,.int .i64 2] W fun e w'=>∃v,e=.returned v/\au W w' 2 1 v n (il (aG l 2)):=by
 obtain ⟨i0,hi0,hz0,hz1,hz2⟩:=info_parts Tryz.g_;obtain ⟨hll,hin⟩:=jH he;have hL:∀k, -1152921504606846976<=l.getD k 0/\l.getD k 0<=1152921504606846976:=fun k=>wZ (B:=1152921504606846976) (fun x hx=>hin x hx) (by omega) k;have HL:=ah hL;have Hl:=ah hl;have jk:=ah (z08 l 2);rw[hl]at hll;clear hL hl hin he;have h0:=au.lit W W 2 (Ch.refl _ W) 1;go_enter Tryz.func81,Tryz.ntmps81;go_wp2_with fail;go_loopw [5,12] (fun v i wr=>∃k:Nat,k<=n/\i=.int .i64 (k:Int)/\au W wr 2 1 v k (il ((aG l 2).take k))) (fun _ i _=>n-(intOf i).toNat)
 case atStart=>exact ⟨0,Nat.zero_le _,rfl,h0⟩
 case round=>
  clear h0;obtain ⟨w4,rfl⟩:∃w4:World,w4=wr:=⟨_,rfl⟩;obtain ⟨k,hk,rfl,o4⟩:=hrel;by_cases hlt:k<n
  ·obtain ⟨ad,rfl,_,hcell⟩:=(hr.nx (by decide) o4.nx).2 (by omega)
   have jD:=ah (fun j (hj:j<n)=>hcell j _ (Jy (by rw[Hl.out];exact hj)));have c0:=jD.out k hlt;have HS:=ah (z48 (l:=aG l 2) (k:=k) (by rw[jk.out,Hl.out];exact hlt));have hTe:=Zr l k (by rw[Hl.out];exact hlt);have hx0:=HL.out k;have hx1:=HL.out (k-1);have hx2:=HL.out (k-2);clear hcell;by_cases hk0:k=0
   ·subst hk0
    have ha0:ad.add 0=ad:=(by simp[Addr.add]);rw[ha0]at c0;rw[hTe,if_neg (by omega),if_neg (by omega)]at HS;clear hTe hx1 hx2;generalize l.getD 0 0=x at *;go_wp2_with (at_builtin;refine z02 rfl (.tmp 51) (.tmp 53) _ rfl 2 i0 _ 8 Tryz.underlying22 hi0 hz0 hz1 hz2 rfl (.int .i64 (x)) rfl rfl o4 rfl (by simp only[maxLen];omega) (by omega) ?_;intro v6 w6 o6 m6)
    go_roundw
    case rel=>exact ⟨0+1,by omega,by go_num,by rw[HS.out];exact o6⟩
    case measure=>simp[intOf];omega
   ·by_cases hk1:k=1
    ·have hk2:¬(2:Int)<=(k:Int):=by omega
     have c1:=jD.out (k-1) (by omega);rw[hTe,if_neg (by omega),if_pos (by omega)]at HS;clear hTe hx2;have b1:IntKind.i64.wrap ((k:Int)-1)=(((k-1:Nat)):Int):=by rw[IntWalk.i64_in _ (by omega)];omega
     have hk3:1<=k:=(by omega);clear hk1 hk0;generalize l.getD k 0=x at *;generalize l.getD (k-1) 0=y at *;have kw:IntKind.i64.wrap (x-y)=x-y:=IntWalk.i64_in _ (by omega);go_wp2_with (at_builtin;refine z02 rfl (.tmp 51) (.tmp 53) _ rfl 2 i0 _ 8 Tryz.underlying22 hi0 hz0 hz1 hz2 rfl (.int .i64 (x-y)) rfl rfl o4 rfl (by simp only[maxLen];omega) (by omega) ?_;intro v6 w6 o6 m6)
     go_roundw
     case rel=>exact ⟨k+1,by omega,by go_num,by rw[HS.out];exact o6⟩
     case measure=>simp[intOf];omega
    ·have c1:=jD.out (k-1) (by omega)
     have c2:=jD.out (k-2) (by omega);rw[hTe,if_pos (show 2<=k by omega)]at HS;clear hTe;have b1:IntKind.i64.wrap ((k:Int)-1)=((k-1:Nat):Int):=by rw[IntWalk.i64_in _ (by omega)];omega
     have b3:IntKind.i64.wrap ((k:Int)-2)=((k-2:Nat):Int):=by rw[IntWalk.i64_in _ (by omega)];omega
     have b2:(k:Int)-1=((k-1:Nat):Int):=(by omega);have b4:(k:Int)-2=((k-2:Nat):Int):=(by omega);have hg1:(1:Int)<=(k:Int):=(by omega);have hg2:(2:Int)<=(k:Int):=(by omega);generalize l.getD k 0=x at *;generalize l.getD (k-1) 0=y at *;generalize l.getD (k-2) 0=z at *;have kw:IntKind.i64.wrap (x-y)=x-y:=IntWalk.i64_in _ (by omega);have kw2:IntKind.i64.wrap (2 * y)=2 * y:=IntWalk.i64_in _ (by omega);have kw3:IntKind.i64.wrap (x-2 * y)=x-2 * y:=IntWalk.i64_in _ (by omega);have kw4:IntKind.i64.wrap (x-2 * y+z)=x-2 * y+z:=IntWalk.i64_in _ (by omega);rw[show x-y-(y-z)=x-2 * y+z by omega]at HS;go_wp2_with fail;go_quiet (fail)
     have o4:=o4.drewN nq;go_wp2_with (at_builtin;refine z02 rfl (.tmp 51) (.tmp 53) _ rfl 2 i0 _ 8 Tryz.underlying22 hi0 hz0 hz1 hz2 rfl (.int .i64 (x-2 * y+z)) rfl rfl o4 rfl (by simp only[maxLen];omega) (by omega) ?_;intro v6 w6 o6 m6)
     go_roundw
     case rel=>exact ⟨k+1,by omega,by go_num,by rw[HS.out];exact o6⟩
     case measure=>simp[intOf];omega
  ·obtain rfl:n=k:=by omega
   rw[List.take_of_length_le (by rw[jk.out,Hl.out];omega)]at o4;go_wp2_with fail;go_ret;exact ⟨_,rfl,o4⟩
theorem KI (D:Nat->Prop) (A:Option Addr) (n c:Nat) (l:List Int) (w:Nat) (hw:w<=2) (W:World) (hr:Rd W D 1 A n (il l)) (hl:l.length=n) (he:aO l=0):
 Calls Tryz.prog 81 #[.slice A n c,.int .i64 (w:Int)] W fun e w'=>∃v,e=.returned v/\au W w' 2 1 v n (il (aG l w)):=by
 match w,hw with
 |0,_=>exact GK D A n c l W hr hl he
 |1,_=>exact GI D A n c l W hr hl he
 |2,_=>exact GH D A n c l W hr hl he
theorem m_ (D:Nat->Prop) (A:Option Addr) (n c:Nat) (l:List Int) (w:Nat) (hw:w<=2) (W:World) (hr:Rd W D 1 A n (il l)) (hl:l.length=n) (he:aO l=0):
 Calls Tryz.prog 39 #[.slice A n c,.int .i64 (w:Int)] W (fZ W 5 1 (bf l w).length (bl (bf l w))):=by
 obtain ⟨i0,hi0,hz0,hz1,hz2⟩:=info_parts Tryz.info5;obtain ⟨hll,hin⟩:=jH he;have hlen:=(z26 hin (by omega) hw).2;have hpos:=(z26 hin (by omega) hw).1;have htb:=z13 hin w hw;have HB:=ah (fun k=>wZ htb (by omega) k);have HE:Hid (bf l w=aj l.length++gU ((aG l w).drop 0)):=ah rfl;have jk:=ah (z08 l w);have htn:=fun w' (nx:Nx W w')=>KI D A n c l w hw w' (hr.nx (by decide) nx) hl he;have YG:=ah htn;have pR:=ah (fun (v:Nat) (w:World) (hv:v<18446744073709551616)=>yH v w hv);have Hpl:=ah (fun v (hv:v<18446744073709551616)=>z07 (n:=v) hv);have Hl:=ah hl;rw[hl]at HE hll hlen;have kw:IntKind.u64.wrap (n:Int)=(n:Int):=by rw[IntKind.wrap_u64];omega
 clear hl hin he htb htn hr;generalize bf l w=T at *;generalize aG l w=t at *;go_enter Tryz.func39,Tryz.ntmps39;go_wp2_with fail;with_reducible refine (pR.out n W (by omega)).mono ?_
 rintro e w1 ⟨k1,cap1,rfl,o1,_,_,_,_⟩;go_wp2_with fail;with_reducible refine (YG.out w1 o1.nx).mono ?_
 rintro e w2 ⟨v2,rfl,o2⟩;obtain ⟨A2,c2,rfl,_,_⟩:=o2.form;have r2:=o2.rd.more (D':=fun k=>w1.heap.size<=k/\k<w2.heap.size) fun k hk=>hk.2;have hk1:=(o1.lt k1 rfl).2;have hb0:∀j,(Value.slice (some ⟨k1,0,none⟩) (aj n).length cap1).ownBlock=some j->j<w1.heap.size∨w2.heap.size<=j:=fun j hj=>.inl (by have:k1=j:=(by simpa [Value.ownBlock]using hj);omega);have h0:∃X,au W w2 5 1 (.slice (some ⟨k1,0,none⟩) (aj n).length cap1) X.length (bl X)/\X++gU (t.drop 0)=T:=⟨aj n,o1.tr o2.nx,HE.out.symm⟩;have H0:=ah h0;clear h0 o1 o2 YG;go_wp2_with fail;go_loopw [5,16] (fun v i wr=>∃k:Nat,k<=n/\i=.int .i64 (k:Int)/\w2.heap.size<=wr.heap.size/\Rd wr (fun k=>w1.heap.size<=k/\k<w2.heap.size) 1 A2 n (il t)/\Hid (∀j,v.ownBlock=some j->j<w1.heap.size∨w2.heap.size<=j)/\Hid (∃X,au W wr 5 1 v X.length (bl X)/\X++gU (t.drop k)=T)) (fun _ i _=>n-(intOf i).toNat)
 case atStart=>exact ⟨0,Nat.zero_le _,rfl,Nat.le_refl _,r2,ah hb0,H0⟩
 case round=>
  clear H0 r2 hb0;obtain ⟨w4,rfl⟩:∃w4:World,w4=wr:=⟨_,rfl⟩;obtain ⟨k,hk,rfl,hw4,r4,hob,hout⟩:=hrel;obtain ⟨X,oX,eX⟩:=hout.out;by_cases hlt:k<n
  ·have e1:=Uj (l:=t) (k:=k) (by rw[jk.out,Hl.out];exact hlt)
   rw[e1]at eX;obtain ⟨ad,rfl,_,hcell⟩:=r4.2 (by omega);have hc0:=hcell k _ (Jy (by rw[jk.out,Hl.out];exact hlt));have hx:=HB.out k;have hlb:=congrArg List.length eX;simp only[List.length_append]at hlb;have E:=ah eX;clear hcell e1 eX hout;generalize t.getD k 0=x at *;have hzl:zig x<18446744073709551616:=OG (by omega) (by omega);have hpz:=Hpl.out (zig x) hzl;have Hzg:=ah (fun w=>Pv x w (by omega) (by omega));have hxb:X.length+(aj (zig x)).length<=1000000:=(by omega);clear hlb;go_wp2_with fail;with_reducible refine (Hzg.out _).mono ?_
   rintro e w5 ⟨rfl,rfl⟩;go_wp2_with fail;with_reducible refine (pR.out (zig x) w4 hzl).mono ?_
   rintro e w5 ⟨k5,cap5,rfl,o5,_,_,_,_⟩;have oX5:=oX.tr o5.nx;have r5:=o5.fM;have r45:=r4.nx (by decide) o5.nx;have hw5:=o5.nx.size;have fin:∀v w,au W w 5 1 v (X.length+(aj (zig x)).length) (bl X++bl (aj (zig x)))->∃X,au W w 5 1 v X.length (bl X)/\X++gU (t.drop (k+1))=T:=fun v w o=>⟨X++aj (zig x),by rw[List.length_append,show bl (X++aj (zig x))=bl X++bl (aj (zig x)) by simp[bl]];exact o,by rw[←E.out];simp only[List.append_assoc]⟩;have Fin:=ah fin
   have nxt:∀v7 w7,Moved w5 w7 u5 v7->w2.heap.size<=w7.heap.size/\Rd w7 (fun k=>w1.heap.size<=k/\k<w2.heap.size) 1 (some ad) n (il t)/\∀j,v7.ownBlock=some j->j<w1.heap.size∨w2.heap.size<=j:=fun v7 w7 m=>by
    have hs:=m.ch.size;refine ⟨by omega,r45.ch (by decide) m.ch (fun k hk hd e=>?_),fun j hj=>?_⟩
    ·rcases hob.out k e with h|h<;>omega
    ·rcases m.at_ with h|⟨k,h,h2⟩
     ·exact hob.out j (by rw[←h];exact hj)
     ·rw[h]at hj
      injection hj with hj;exact .inr (by omega)
   have Nxt:=ah nxt;clear nxt;clear fin o5 oX;go_wp2_with (at_builtin;(refine z01 rfl (.tmp 20) (.tmp 23) _ rfl 5 i0 _ 1 1 Tryz.underlying27 hi0 hz0 hz1 hz2 rfl (by omega) rfl oX5 _ (some ⟨k5,0,none⟩) (aj (zig x)).length cap5 (bl (aj (zig x))) rfl r5 (iP _) (by simp only[maxLen];omega) (by omega) ?_;intro v7 w7 o7 m7;have Ho7:=ah (Fin.out v7 w7 o7)))
   go_roundw
   case rel=>
    obtain ⟨q1,q2,q3⟩:=Nxt.out _ _ m7;exact ⟨k+1,by omega,by go_num,q1,q2,ah q3,Ho7⟩
   case measure=>simp[intOf];omega
  ·obtain rfl:n=k:=by omega
   have e1:gU (t.drop n)=[]:=by
    rw[List.drop_of_length_le (by rw[jk.out,Hl.out];omega)];rfl
   rw[e1,List.append_nil]at eX;subst eX;clear hout e1;go_wp2_with fail;go_ret;exact fZ.iK oX hpos
theorem Qh (l:List Int):∀k,0<k->(bst l k).2=((bf l (bst l k).1).length:Int):=by
 intro k;induction k with
 |zero=>intro h;omega
 |succ k ih=>
  intro _;by_cases h:(bst l k).2<0∨((bf l k).length:Int)<(bst l k).2
  ·have e:bst l (k+1)=(k,((bf l k).length:Int)):=by rw[bst,if_pos h]
   rw[e]
  ·have e:bst l (k+1)=bst l k:=by rw[bst,if_neg h]
   rw[e];rcases Nat.eq_zero_or_pos k with rfl|hk
   ·exact absurd (.inl (by simp[bst])) h
   ·exact ih hk
theorem Nz (l:List Int) (k:Nat) (hk:0<k):(bst l (k+1)).1=if (bf l k).length<(bf l (bst l k).1).length then k else (bst l k).1:=by
 have h:=Qh l k hk;rw[bst,h];by_cases hlt:(bf l k).length<(bf l (bst l k).1).length
 ·rw[if_pos (.inr (by omega)),if_pos hlt]
 ·rw[if_neg (by omega),if_neg hlt]
theorem Gy (D:Nat->Prop) (A:Option Addr) (n c:Nat) (l:List Int) (W:World) (hr:Rd W D 1 A n (il l)) (hl:l.length=n) (he:aO l=0):
 Calls Tryz.prog 38 #[.slice A n c] W fun e w'=>e=.returned (.int .i64 (aY l:Int))/\Nx W w':=by
 have hll:=(jH he).1;have hck:=GN D A n c l W hr hl (by omega);rw[he]at hck;have hen:=fun (w:Nat) (hw:w<=2) w' (nx:Nx W w')=>m_ D A n c l w hw w' (hr.nx (by decide) nx) hl he;have HD:Hid (aY l=(bst l 3).1):=ah (by unfold aY;rw[if_neg (by simpa using he)]);have Hn:=ah (fun k hk=>Nz l k hk);have TK:=ah (NC l);have H1:=ah (show (bst l 1).1=0 by simp[bst]);have Qw:=ah hck;have fV:=ah hen;clear hck hen he hr hl;generalize hb:(fun k=>(bst l k).1)=B at *;have HB:=ah (fun k=>congrFun hb k);clear hb;go_enter Tryz.func38,Tryz.ntmps38;go_wp2_with fail;with_reducible refine Qw.out.mono ?_
 rintro e w1 ⟨rfl,rfl⟩;go_wp2_with fail;go_loopw [3,4] (fun s3 s4 wr=>∃k:Nat,1<=k/\k<=3/\s4=.int .i64 (k:Int)/\s3=.int .i64 (B k:Int)/\Nx W wr) (fun _ s4 _=>3-(intOf s4).toNat)
 case atStart=>exact ⟨1,by omega,by omega,rfl,by rw[←HB.out 1,H1.out];rfl,Ch.refl _ _⟩
 case round=>
  obtain ⟨w4,rfl⟩:∃w4:World,w4=wr:=⟨_,rfl⟩;obtain ⟨k,hk1,hk3,rfl,rfl,n4⟩:=hrel;by_cases hk:k<=2
  ·have hnx:=Hn.out k (by omega)
   have hbl:=TK.out k;rw[HB.out k,HB.out (k+1)]at hnx;have hbl2:B k<=2:=by rw[←HB.out k];omega
   have hcall:=fV.out k hk w4 n4;generalize B k=b at *;have HX:=ah hnx;clear hnx;obtain ⟨L1,hL1⟩:∃L1,(bf l k).length=L1:=⟨_,rfl⟩;obtain ⟨L2,hL2⟩:∃L2,(bf l b).length=L2:=⟨_,rfl⟩;have Dz:=fun w (nx:Nx W w)=>fV.out b hbl2 w nx;rw[hL1]at hcall HX;rw[hL2]at Dz HX;have dS:=ah hcall;have TR:=ah Dz;clear hcall Dz hL1 hL2;go_wp2_with fail;with_reducible refine dS.out.mono ?_
   rintro e w5 ⟨k5,cap5,rfl,o5,_,_,_,_⟩;have n5:=n4.tr o5.nx;clear o5;go_wp2_with fail;with_reducible refine (TR.out _ n5).mono ?_
   rintro e w6 ⟨k6,cap6,rfl,o6,_,_,_,_⟩;have n6:=n5.tr o6.nx;clear o6;by_cases hlt:L1<L2
   ·have hq:(L1:Int)<(L2:Int):=by omega
    have hB:B (k+1)=k:=(by rw[HX.out,if_pos hlt]);have HB1:=ah hB;clear hB;go_wp2_with fail;go_roundw
    case rel=>exact ⟨k+1,by omega,by omega,by go_num,by rw[HB1.out],n6⟩
    case measure=>simp[intOf];omega
   ·have hq:¬((L1:Int)<(L2:Int)):=by omega
    have hB:B (k+1)=b:=(by rw[HX.out,if_neg hlt]);have HB1:=ah hB;clear hB;go_wp2_with fail;go_roundw
    case rel=>exact ⟨k+1,by omega,by omega,by go_num,by rw[HB1.out],n6⟩
    case measure=>simp[intOf];omega
  ·obtain rfl:k=3:=by omega
   have HF:Hid (aY l=B 3):=ah (by rw[HD.out];exact HB.out 3);go_wp2_with fail;go_ret;exact ⟨by rw[HF.out];rfl,n4⟩
theorem CV (D:Nat->Prop) (A:Option Addr) (n c:Nat) (l:List Int) (W:World) (hr:Rd W D 1 A n (il l)) (hl:l.length=n) (he:aO l=0):
 Calls Tryz.prog 11 #[.slice A n c] W (fZ W 5 1 (bT l).length (bl (bT l))):=by
 obtain ⟨i0,hi0,hz0,hz1,hz2⟩:=info_parts Tryz.info5;have hd2:=z19 l;have hil:=Oi he;have hll:=(jH he).1;have hbe:=Gy D A n c l W hr hl he;have hen:=fun w' (nx:Nx W w')=>m_ D A n c l (aY l) hd2 w' (hr.nx (by decide) nx) hl he;have HE:Hid (bT l=[aY l]++bf l (aY l)):=ah rfl;have Hbe:=ah hbe;have fV:=ah hen;have hel:(bT l).length=1+(bf l (aY l)).length:=by rw[HE.out,List.length_append];rfl
 have hel2:(bf l (aY l)).length<=100000:=by omega
 have HEL:=ah hel;clear hbe hen he hr hl hel hil;generalize bT l=T at *;generalize bf l (aY l)=E at *;generalize aY l=d at *
 have kd:IntKind.u8.wrap (d:Int)=(d:Int):=by
  have:IntKind.u8.wrap (d:Int)=(d:Int) % 256:=by simp[IntKind.wrap,IntKind.bits,IntKind.signed]
  omega
 go_enter Tryz.func11,Tryz.ntmps11;go_wp2_with fail;with_reducible refine Hbe.out.mono ?_
 rintro e w1 ⟨rfl,n1⟩;have o0:au W (w1.alloc (.cells #[.int .u8 (d:Int)] 5)) 5 1 (.slice (some ⟨w1.heap.size,0,none⟩) 1 1) 1 (bl [d]):=⟨Uk w1 _ _ 1 _ 1 n1.size (by simp[maxLen]) (by simp),n1.alloc _⟩;go_wp2_with fail;with_reducible refine (fV.out _ o0.nx).mono ?_
 rintro e w2 ⟨k2,cap2,rfl,o2,_,_,_,_⟩;have oX:=o0.tr o2.nx;have r2:=o2.fM;clear o0 o2 Hbe fV;go_wp2_with (at_builtin;refine z01 rfl (.tmp 8) (.tmp 11) _ rfl 5 i0 _ 1 1 Tryz.underlying27 hi0 hz0 hz1 hz2 rfl (by omega) rfl oX _ (some ⟨k2,0,none⟩) E.length cap2 (bl E) rfl r2 (iP _) (by simp only[maxLen];omega) (by omega) ?_;intro v3 w3 o3 m3)
 go_ret;rw[HEL.out,HE.out,show bl ([d]++E)=bl [d]++bl E by simp[bl]];exact fZ.iK o3 (by omega)
end Go.Proofs.YtfljcllpmbnjaaaGreat
