/- Contracts and plain laws that the last text rests on. Conditions: each theorem states its own. -/
import Derived.Test.YtpakjclpjcngmaaGreatKdQ22
import Derived.Test.YtpakjclpjcngmaaGreatKdQ14
import Derived.Test.YtpakjclpjcngmaaGreatKdQ26
import Derived.Test.YtpakjclpjcngmaaGreatKdQ25
import Derived.Test.YtpakjclpjcngmaaGreatKdQ13
import Derived.Test.YtpakjclpjcngmaaGreatKdQ27
set_option maxRecDepth 100000
set_option maxHeartbeats 32000000
set_option linter.unusedVariables false
namespace Go.Proofs.YtpakjclpjcngmaaGreat
open Go.RowKit
theorem z2X (D:Nat->Prop) (A:Option Addr) (n c:Nat) (zs:List Int) (w:Nat) (W:World) (hr:Rd W D 1 A n (il zs)) (hl:zs.length=n) (hn:n<=9223372036854775807) (hw:w<=2) (he:aS zs≠0):
 Calls Tryz.prog 164 #[.slice A n c,.int .i64 (w:Int)] W fun e w'=>e=.returned (.tuple #[.slice none 0 0,.int .i64 (aS zs)])/\W=w':=by
 have hck:=qM D A n c zs w W hr hl hn hw he;generalize aS zs=er at *;have hne:(er !=0)=true:=by rw[bne_iff_ne];exact he
 have Hck:=ah hck;clear hck hl hr he;go_enter Tryz.func164,Tryz.ntmps164;go_wp2_with fail;with_reducible refine Hck.out.mono ?_
 rintro e w1 ⟨rfl,rfl⟩;go_wp2_with fail;go_ret2;exact ⟨rfl,rfl⟩
theorem qN (D:Nat->Prop) (A:Option Addr) (n c:Nat) (zs:List Int) (W:World) (hr:Rd W D 1 A n (il zs)) (hl:zs.length=n) (hn:n<=9223372036854775807) (he:aS zs≠0):
 Calls Tryz.prog 163 #[.slice A n c] W fun e w'=>e=.returned (.int .i64 0)/\W=w':=by
 have hck:=z2X D A n c zs 0 W hr hl hn (by omega) he;generalize aS zs=er at *;have hne:(er !=0)=true:=by rw[bne_iff_ne];exact he
 have Hck:=ah hck;clear hck hl hr he;go_enter Tryz.func163,Tryz.ntmps163;go_wp2_with fail;refine wp_loop_rounds 1 ?_;rw[rounds_succ];go_wp2_with fail;refine Hck.out.mono ?_;rintro e w1 ⟨rfl,rfl⟩;go_wp2_with fail;go_ret;exact ⟨rfl,rfl⟩
theorem I_ (D:Nat->Prop) (A:Option Addr) (n c:Nat) (zs:List Int) (W:World) (hr:Rd W D 1 A n (il zs)) (hl:zs.length=n) (he:aS zs=0):
 Calls Tryz.prog 163 #[.slice A n c] W fun e w'=>e=.returned (.int .i64 (bQ zs:Int))/\Nx W w':=by
 have henc:=fun (w:World) (nx:Nx W w) (k:Nat) (hk:k<=2)=>z4W D A n c zs k w (hr.nx (by decide) nx) hl hk he
 have hlen:∀k,k<=2->(bP zs k).length<=100000:=fun k hk=>by
  obtain ⟨h1,h2⟩:=JX he;have:=(z3A h2 (by omega) hk).2;omega
 have Hd:Hid (bQ zs=(bst zs 3).1):=ah (by unfold bQ;rw[if_neg (by simpa using he)]);have abg:=ah henc;have Hlen:=ah hlen;clear henc hlen hr he;go_enter Tryz.func163,Tryz.ntmps163;go_wp2_with fail;go_loopw [3,4,5] (fun s3 s4 i wr=>∃k:Nat,k<=3/\i=.int .i64 (k:Int)/\s3=.int .i64 ((bst zs k).1:Int)/\s4=.int .i64 (bst zs k).2/\Nx W wr) (fun _ _ i _=>3-(intOf i).toNat)
 case atStart=>exact ⟨0,by omega,rfl,rfl,rfl,Ch.refl _ _⟩
 case round=>
  obtain ⟨w1,rfl⟩:∃w1:World,w1=wr:=⟨_,rfl⟩;obtain ⟨k,hk,rfl,rfl,rfl,nx⟩:=hrel;by_cases hlt:k<3
  ·have hs:bst zs (k+1)=if (bst zs k).2<0∨((bP zs k).length:Int)<(bst zs k).2 then (k,((bP zs k).length:Int)) else bst zs k:=rfl
   have hen:=abg.out w1 nx k (by omega);have hll:=Hlen.out k (by omega);unfold LM at hen;generalize bP zs k=ec at *;generalize bst zs k=t at *;obtain ⟨tb,tl⟩:=t;simp only at hs ⊢;have jc:=ah hen;clear hen;by_cases h1:tl<0∨(ec.length:Int)<tl
   ·rw[if_pos h1]at hs
    have Hs:=ah hs;clear hs;go_wp2_with fail;with_reducible refine jc.out.mono ?_
    rintro e w2 ⟨k2,cap2,rfl,o2,_⟩;have nx2:=nx.tr o2.nx;rcases Classical.em (tl<0) with h2|h2
    ·go_wp2_with fail
     go_roundw
     case rel=>exact ⟨k+1,by omega,by go_num,by rw[Hs.out],by rw[Hs.out],nx2⟩
     case measure=>simp[intOf];omega
    ·have h3:=h1.resolve_left h2
     go_wp2_with fail;go_roundw
     case rel=>exact ⟨k+1,by omega,by go_num,by rw[Hs.out],by rw[Hs.out],nx2⟩
     case measure=>simp[intOf];omega
   ·rw[if_neg h1]at hs
    have Hs:=ah hs;have h2:¬tl<0:=fun h=>h1 (.inl h);have h3:¬(ec.length:Int)<tl:=fun h=>h1 (.inr h);clear hs h1;go_wp2_with fail;with_reducible refine jc.out.mono ?_
    rintro e w2 ⟨k2,cap2,rfl,o2,_⟩;have nx2:=nx.tr o2.nx;go_wp2_with fail;go_roundw
    case rel=>exact ⟨k+1,by omega,by go_num,by rw[Hs.out],by rw[Hs.out],nx2⟩
    case measure=>simp[intOf];omega
  ·obtain rfl:k=3:=by omega
   go_wp2_with fail;go_ret;exact ⟨by rw[Hd.out];rfl,nx⟩
def bI (l:List Int):List Nat:=[bQ l]++bP l (bQ l)
theorem z3y {l:List Int} (he:aS l=0):okB (bI l):=fun x hx=>by
 obtain ⟨h1,h2⟩:=JX he;rcases List.mem_append.1 hx with h|h
 ·have:=VJ l
  simp at h;omega
 ·exact nZ h2 (by omega) (VJ l) x h
theorem Yu {l:List Int} (he:aS l=0):2<=(bI l).length/\(bI l).length<=11+10 * l.length:=by
 obtain ⟨h1,h2⟩:=JX he;have:=z3A h2 (by omega) (VJ l);unfold bI;rw[List.length_append];simp only[List.length_cons,List.length_nil];omega
theorem z3U (D:Nat->Prop) (A:Option Addr) (n c:Nat) (zs:List Int) (W:World) (hr:Rd W D 1 A n (il zs)) (hl:zs.length=n) (he:aS zs=0):
 Calls Tryz.prog 97 #[.slice A n c] W (VB W (aA 1 (bI zs))):=by
 obtain ⟨i0,hi0,hz0,hz1,hz2⟩:=info_parts Tryz.info5;obtain ⟨hle,hin⟩:=JX he;have DF:=I_ D A n c zs W hr hl he;have henc:=fun (w:World) (nx:Nx W w)=>z4W D A n c zs (bQ zs) w (hr.nx (by decide) nx) hl (VJ zs) he;have hok:=z3y he;have hcl:=Yu he;have hb2:=VJ zs;have HC:Hid (bI zs=[bQ zs]++bP zs (bQ zs)):=ah rfl;have hel:=(z3A hin (by omega) (VJ zs)).2;unfold LM at henc;generalize bI zs=ic at *;generalize bP zs (bQ zs)=ec at *;generalize bQ zs=d at *;have EK:=ah DF;have abg:=ah henc;clear DF henc hr he hin
 have ku:IntKind.u8.wrap (d:Int)=(d:Int):=by
  have:IntKind.u8.wrap (d:Int)=(d:Int) % 256:=by simp[IntKind.wrap,IntKind.bits,IntKind.signed]
  omega
 go_enter Tryz.func97,Tryz.ntmps97;go_wp2_with fail;with_reducible refine EK.out.mono ?_
 rintro e w1 ⟨rfl,n1⟩;go_wp2_with fail;with_reducible refine (abg.out _ n1).mono ?_
 rintro e w2 ⟨k2,cap2,rfl,o2,hc2⟩;have n2:=n1.tr o2.nx
 have fin:∀(w5:World) (v5:Value),ay W w5 5 1 v5 ic.length (bl ic)->v5.ownBlock≠none->∃k cap,v5=.slice (some ⟨k,0,none⟩) ic.length cap/\
  Calls Tryz.prog 165 #[.int .u8 1,.slice (some ⟨k,0,none⟩) ic.length cap] w5 (VB W (aA 1 ic)):=fun w5 v5 o hb=>by
  obtain ⟨k,cap,hv,o4,hk1,hk2,hcp,_⟩:=rQ.CP o hb;injection hv with hv;subst hv;refine ⟨k,cap,rfl,(z6i (fun j=>j=k) (some ⟨k,0,none⟩) _ cap 1 ic w5 o4.jZ (fun j e=>by omega) hok rfl hcp (by omega) (by omega)).mono ?_⟩;rintro e w6 ⟨k6,cap6,rfl,o6,h6⟩;exact ⟨k6,cap6,rfl,⟨kX o6.own o4.nx.size,o4.nx.tr o6.nx⟩,h6⟩
 have Fin:=ah fin;have o3:ay W (w2.alloc (.cells #[.int .u8 (d:Int)] 5)) 5 1 (.slice (some ⟨w2.heap.size,0,none⟩) 1 1) 1 (bl [d]):=⟨z4a w2 _ _ 1 _ 1 n2.size (by simp[maxLen]) (by simp),n2.alloc _⟩;have r2:=o2.jZ.nx (by decide) ((Ch.refl (fun _=>False) w2).alloc (.cells #[.int .u8 (d:Int)] 5));clear fin o2;go_wp2_with (at_builtin;refine z07 rfl (.tmp 20) (.tmp 21) _ rfl 5 i0 _ 1 1 Tryz.underlying26 hi0 hz0 hz1 hz2 rfl (by omega) rfl o3 _ (some ⟨k2,0,none⟩) ec.length cap2 (bl ec) rfl r2 (kR _) (by simp only[maxLen];omega) (by omega) ?_;intro v5 w5 o5 m5;obtain ⟨k5,cap5,hv5,hcall⟩:=Fin.out w5 v5 (by rw[HC.out,List.length_append,show bl ([d]++ec)=bl [d]++bl ec by simp[bl]];exact o5) (Moved.some_ (v:=.slice (some ⟨w2.heap.size,0,none⟩) 1 1) m5 (by simp[Value.ownBlock]));rw[hv5])
 with_reducible refine hcall.mono ?_
 rintro e w6 ⟨k6,cap6,rfl,o6,h6⟩;go_wp2_with fail;go_ret2;exact ⟨k6,cap6,rfl,o6,h6⟩
theorem z6j (D:Nat->Prop) (A:Option Addr) (n c:Nat) (zs:List Int) (W:World) (hr:Rd W D 1 A n (il zs)) (hl:zs.length=n) (hn:n<=9223372036854775807) (he:aS zs≠0) (er:Int) (her:aS zs=er):
 Calls Tryz.prog 97 #[.slice A n c] W fun e w'=>e=.returned (.tuple #[.slice none 0 0,.int .i64 er])/\W=w':=by
 have h1:=qN D A n c zs W hr hl hn he;have h2:=z2X D A n c zs 0 W hr hl hn (by omega) he;rw[her]at h2 he;have hne:(er !=0)=true:=by rw[bne_iff_ne];exact he
 have H1:=ah h1;have H2:=ah h2;clear h1 h2 hl hr he her;go_enter Tryz.func97,Tryz.ntmps97;go_wp2_with fail;with_reducible refine H1.out.mono ?_
 rintro e w1 ⟨rfl,rfl⟩;go_wp2_with fail;refine H2.out.mono ?_;rintro e w1 ⟨rfl,rfl⟩;go_wp2_with fail;go_ret2;exact ⟨rfl,rfl⟩
end Go.Proofs.YtpakjclpjcngmaaGreat
namespace Go.Proofs.YtpakjclpjcngmaaGreat.Fix
theorem take_snoc {xs:List Nat} {p:Nat} (h:p<xs.length):xs.take p++[xs.getD p 0]=xs.take (p+1):=by
 rw[List.take_succ_eq_append_getElem h];simp[List.getD,List.getElem?_eq_getElem h]
theorem Jf {xs:List Nat} {d:Nat} (hd:1<=d):∀n p,d<=p->p+n<=xs.length->(∀j,j<n->xs.getD (p-d+j) 0=xs.getD (p+j) 0)->iL n d (xs.take p)=xs.take (p+n):=by
 intro n;induction n with
 |zero=>intro p _ _ _;rfl
 |succ n ih=>
  intro p hdp hl h;have hlen:(xs.take p).length=p:=by rw[List.length_take];omega
  have h0:=h 0 (by omega);simp only[Nat.add_zero]at h0
  have hget:(xs.take p).getD (p-d) 0=xs.getD p 0:=by
   rw[←h0];simp only[List.getD_eq_getElem?_getD];rw[List.getElem?_take,if_pos (by omega)]
  rw[iL,hlen,hget,take_snoc (by omega),ih (p+1) (by omega) (by omega) (fun j hj=>by
   have:=h (j+1) (by omega);rw[show p+1-d+j=p-d+(j+1) by omega,this,show p+1+j=p+(j+1) by omega])]
  congr 1
  omega
theorem Qx {xs:List Nat} {L a c:List Bool} {p P:Nat} {t2:Nat×Nat} {most:Int} (ok:okB xs) (hg:Good xs p t2) (hp:p<xs.length) (hL:L=a++kW (tokF xs p t2)++c) (hP:P=a.length) (hm:(xs.length:Int)<=most):
 EU (pack L) most z12 rU ⟨P,xs.take p,0⟩=(true,⟨P+(kW (tokF xs p t2)).length,xs.take (p+max t2.1 1),0⟩):=by
 have hlen:(xs.take p).length=p:=by rw[List.length_take];omega
 rcases hg with rfl|⟨g1,g2,g3,g4,g5,g6,g7⟩
 ·have hb:kW (tokF xs p (0,0))=jh (xs.getD p 0):=rfl
  have hx:=z19 ok p;rw[hb]at hL ⊢;unfold EU;rw[z5A (by omega) hL hP];unfold Fe;generalize hxx:xs.getD p 0=x at *;have hc1:¬((⟨P+(jh x).length,xs.take p,0⟩:Inf).e≠0∨(x:Int)=256):=by simp;omega
  have hc2:(x:Int)<256:=by omega
  rw[if_neg hc1,if_pos hc2];have hr:=z4y (most:=most) (n:=1) (s:=⟨P+(jh x).length,xs.take p,0⟩) rfl (by simp only[hlen];omega);rw[hr];simp only[if_true,Int.toNat_natCast];rw[←hxx,take_snoc hp];rfl
 ·have hn0:¬(tokF xs p t2).len=0:=by show ¬t2.1=0;omega
  have hb:kW (tokF xs p t2)=nM t2.1++A_ (t2.2-1):=by unfold kW;rw[if_neg hn0];rfl
  rw[hb]at hL ⊢;obtain ⟨k,s1,hk,h1,he1,h2⟩:=WY (out:=xs.take p) (L:=L) (a:=a) (c:=A_ (t2.2-1)++c) (P:=P) g1 g2 (by rw[hL];simp only[List.append_assoc]) hP;obtain ⟨k2,s3,hk2,h3,he3,h4⟩:=TR (out:=xs.take p) (L:=L) (a:=a++nM t2.1) (c:=c) (P:=P+(nM t2.1).length) (e:=t2.2-1) (by omega) (by rw[hL];simp only[List.append_assoc]) (by rw[List.length_append,hP]);unfold EU;rw[h1];unfold Fe;simp only;rw[if_neg (by simp[he1];omega),if_neg (by omega),if_neg (by omega),show (((257+k:Nat):Int)-257).toNat=k by omega,h2];simp only;rw[h3];simp only;rw[yg he3 (by omega),h4];simp only;have hd:t2.2-1+1=t2.2:=by omega
  rw[hd];have hr:=z4y (most:=most) (n:=(t2.1:Int)) (s:=⟨P+(nM t2.1).length+(A_ (t2.2-1)).length,xs.take p,0⟩) rfl (by simp only[hlen];omega);rw[QH rfl (by simp only[hlen];omega) (by rw[hr])];simp only;rw[Jf g3 t2.1 p g5 g6 g7,List.length_append,show max t2.1 1=t2.1 by omega,Nat.add_assoc]
theorem Lj {L a:List Bool} {P:Nat} {out:List Nat} {most:Int} (hL:L=a++jh 256) (hP:P=a.length):
 EU (pack L) most z12 rU ⟨P,out,0⟩=(false,⟨L.length,out,0⟩):=by
 unfold EU;rw[z5A (s:=256) (a:=a) (c:=[]) (by omega) (by rw[hL,List.append_nil]) hP];unfold Fe;rw[if_pos (.inr rfl),hL,List.length_append,hP]
theorem Jm {xs:List Nat} {most:Int} (ok:okB xs) (hm:(xs.length:Int)<=most):∀f p (a:List Bool) fu,xs.length-p<=f->p<=xs.length->(aI xs f p).length<fu->
 ∀L,L=a++(aI xs f p).flatMap kW++jh 256->bH (pack L) most z12 rU fu ⟨a.length,xs.take p,0⟩=⟨L.length,xs,0⟩:=by
 intro f;induction f with
 |zero=>
  intro p a fu h1 h2 h3 L hL;obtain ⟨fu,rfl⟩:∃f',fu=f'+1:=⟨fu-1,by omega⟩;rw[bH,if_neg (by simp),Lj (L:=L) (a:=a) (by rw[hL];simp[aI]) rfl];simp only[Bool.false_eq_true,if_false];rw[List.take_of_length_le (by omega)]
 |succ f ih=>
  intro p a fu h1 h2 h3 L hL;obtain ⟨fu,rfl⟩:∃f',fu=f'+1:=⟨fu-1,by omega⟩;rw[aI]at h3 hL;by_cases hp:xs.length<=p
  ·rw[if_pos hp]at h3 hL
   rw[bH,if_neg (by simp),Lj (L:=L) (a:=a) (by rw[hL];simp) rfl];simp only[Bool.false_eq_true,if_false];rw[List.take_of_length_le (by omega)]
  ·rw[if_neg hp]at h3 hL
   have hg:=z4K xs p
   have hmx:p+max (gV xs p).1 1<=xs.length:=by
    rcases hg with e|e
    ·rw[e];simp;omega
    ·have:=e.2.2.2.2.2.1;omega
   generalize gV xs p=t2 at *;rw[List.flatMap_cons]at hL;rw[bH,if_neg (by simp),Qx (L:=L) (a:=a) (c:=(aI xs f (p+max t2.1 1)).flatMap kW++jh 256) ok hg (by omega) (by rw[hL];simp only[List.append_assoc]) rfl hm];simp only[if_true];rw[←List.length_append];refine ih (p+max t2.1 1) (a++kW (tokF xs p t2)) fu (by omega) hmx (by simp only[List.length_cons]at h3;omega) L (by rw[hL];simp only[List.append_assoc])
theorem Bh (t:Tok):1<=(kW t).length:=by
 have hl:∀s,7<=(jh s).length:=fun s=>by
  unfold jh tJ;rw[PE];split
  ·omega
  ·split
   ·omega
   ·split<;>omega
 unfold kW;split
 ·have:=hl t.byte;omega
 ·rw[List.length_append]
  have:7<=(nM t.len).length:=by
   unfold nM;split
   ·exact hl _
   ·split
    ·exact hl _
    ·rw[List.length_append];have:=hl (257+4 * jG (t.len-3)+(t.len-3) / 2 ^ jG (t.len-3));omega
  omega
theorem Xi (l:List Tok):l.length<=(l.flatMap kW).length:=by
 induction l with
 |nil=>simp
 |cons t l ih=>have:=Bh t;rw[List.flatMap_cons,List.length_append,List.length_cons];omega
theorem jI {xs:List Nat} {most:Int} (ok:okB xs) (hm:(xs.length:Int)<=most) (hm2:most<=65536):rW (pack (aK (aI xs xs.length 0))) most=(xs,(pack (aK (aI xs xs.length 0))).length,0):=by
 have hc:=Jm ok hm xs.length 0 (lV 3 3);generalize hT:aI xs xs.length 0=l at *;have hfl:=Xi l;have hL:aK l=lV 3 3++l.flatMap kW++jh 256:=rfl
 have hle:10<=(aK l).length/\l.length<=(aK l).length:=by
  have h7:(jh 256).length=7:=rfl;rw[hL];simp only[List.length_append,Vj,h7];omega
 have hbit:∀i,i<3->(aK l).getD i false=(3:Nat).testBit i:=by
  intro i hi;have e:aK l=[true,true,false]++(l.flatMap kW++jh 256):=by rw[hL,List.append_assoc];rfl
  rw[e];match i,hi with
  |0,_=>rfl
  |1,_=>rfl
  |2,_=>rfl
 have hpl:=Fb (aK l);have hc2:=hc (8 * (pack (aK l)).length+1) (by omega) (by omega) (by omega) (aK l) hL;rw[Vj,List.take_zero]at hc2;generalize aK l=L at *;have b1:dS (pack L) 0 1=1:=by rw[z6p _ 0 1 3 (fun i hi=>by rw[Nat.zero_add];exact hbit i (by omega))]
 have b2:dS (pack L) 1 2=1:=by
  rw[z6p _ 1 2 1 (fun i hi=>by
   rw[hbit _ (by omega)];match i,hi with
   |0,_=>rfl
   |1,_=>rfl)]
 have hb:VA (pack L) most ⟨0,[],0⟩=⟨L.length,xs,0⟩/\(aC (pack L) 1 ⟨0,[],0⟩).1=1:=by
  have n1:=qp (bs:=pack L) (n:=1) (p:=0) (out:=[]) (by omega) b1;have n2:=qp (bs:=pack L) (n:=2) (p:=1) (out:=[]) (by omega) b2;refine ⟨?_,by rw[n1]⟩;unfold VA;rw[n1];simp only[Nat.zero_add];rw[n2];simp only[ne_eq,not_true_eq_false,if_false];unfold g_;rw[if_neg (by decide),if_pos rfl,z5z rfl z68 z69];exact hc2
 have hx:mQ (pack L) most (8 * (pack L).length+1) ⟨0,[],0⟩=⟨L.length,xs,0⟩:=by rw[mQ,hb.1,hb.2,if_neg (by simp)]
 unfold rW;rw[if_neg (by omega)];simp only[hx];rw[if_neg (by simp),hpl]
theorem Dj {xs:List Nat} {most:Int} (ok:okB xs) (hl:xs.length<=65535) (hm:(xs.length:Int)<=most) (hm2:most<=65536):rW (bM xs) most=(xs,(bM xs).length,0):=by
 obtain ⟨n,hn⟩:∃n,xs.length=n:=⟨_,rfl⟩;have hlen:(bM xs).length=5+n:=by simp[bM,z35,hn];omega
 have h0:(bM xs).getD 0 0=1:=rfl;have h1:(bM xs).getD 1 0=n % 256:=by rw[←hn];rfl
 have h2:(bM xs).getD 2 0=n / 256:=by rw[←hn];rfl
 have h3:(bM xs).getD 3 0=255-n % 256:=by rw[←hn];rfl
 have h4:(bM xs).getD 4 0=255-n / 256:=by rw[←hn];rfl
 have h5:∀j,(bM xs).getD (5+j) 0=xs.getD j 0:=fun j=>by rw[show 5+j=j+5 by omega];simp[bM,z35]
 generalize bM xs=bs at *
 have b1:dS bs 0 1=1:=by
  have:=z6q bs 0 1 0 (by omega);simp only[Nat.mul_zero,Nat.add_zero,Nat.pow_zero,Nat.div_one,Nat.pow_one]at this;rw[this,h0]
 have b2:dS bs 1 2=0:=by
  have:=z6q bs 0 2 1 (by omega);simp only[Nat.mul_zero,Nat.zero_add]at this;rw[this,h0]
 have b3:dS bs 8 16=n:=by
  have:=EC bs 1 (by rw[h1];omega) (by rw[h2];omega);rw[h1,h2]at this;rw[show (8:Nat)=8 * 1 from rfl,this];omega
 have b4:dS bs 24 16=65535-n:=by
  have:=EC bs 3 (by rw[h3];omega) (by rw[h4];omega);rw[h3,h4]at this;rw[show (24:Nat)=8 * 3 from rfl,this];omega
 have n1:aC bs 1 ⟨0,[],0⟩=(1,⟨1,[],0⟩):=by rw[z3c (by omega),b1]
 have n2:aC bs 2 ⟨1,[],0⟩=(0,⟨3,[],0⟩):=by rw[z3c (by omega),b2]
 have hb:VA bs most ⟨0,[],0⟩=⟨8 * (5+n),xs,0⟩:=by
  unfold VA;rw[n1,n2];simp only[ne_eq,not_true_eq_false,if_false];unfold g_;rw[if_pos rfl];unfold VD;simp only;rw[show (3+7) / 8 * 8=8 by omega,z3c (by omega),b3];simp only;rw[show 8+16=24 by omega,z3c (by omega),b4];simp only;unfold JY;have e1:65535-(65535-n)=n:=by omega
  simp only[e1,ne_eq,not_true_eq_false,and_false,if_false];rw[z4y (most:=most) (by rfl) (by simp only[List.length_nil];omega)];simp only[not_true_eq_false,if_false];have hs:=z5E (bs:=bs) ok n 5 [] (by omega) (by omega) (fun j hj=>by rw[h5 j,hn,Nat.sub_self,Nat.zero_add]);rw[show 24+16=8 * 5 by omega,hs,hn,Nat.sub_self];simp
 have hx:mQ bs most (8 * bs.length+1) ⟨0,[],0⟩=⟨8 * (5+n),xs,0⟩:=by rw[mQ,hb,n1,if_neg (by simp)]
 unfold rW;rw[if_neg (by omega)];simp only[hx];rw[if_neg (by simp),hlen];congr 2
 omega
theorem wV {xs:List Nat} (ok:okB xs) (hl:xs.length<=65535):rW (bF xs) xs.length=(xs,(bF xs).length,0)/\(bF xs).length<=xs.length+5/\okB (bF xs):=by
 have hs:(bM xs).length=5+xs.length:=by simp[bM,z35];omega
 unfold bF;split
 ·next h=>exact ⟨jI ok (by omega) (by omega),by omega,WH _⟩
 ·refine ⟨Dj ok hl (by omega) (by omega),by omega,?_⟩
  intro z hz;simp only[bM,z35,List.cons_append,List.nil_append,List.mem_cons]at hz;rcases hz with h|h|h|h|h|h
  ·omega
  ·omega
  ·omega
  ·omega
  ·omega
  ·exact ok z h
end Go.Proofs.YtpakjclpjcngmaaGreat.Fix
namespace Go.Proofs.YtpakjclpjcngmaaGreat
open Go.RowKit
theorem qU (D:Nat->Prop) (A:Option Addr) (n c:Nat) (kind:Nat) (xs ds b:List Nat) (W:World) (hb:b=fC ([kind,1]++ak xs.length++ds)) (hr:Rd W D 1 A n (bl b)) (iJ:∀k,D k->k<W.heap.size) (PK:okB xs) (hk:kind<256) (hl:b.length=n) (hc:n<=c) (hx:xs.length<=65536) (hd0:0<ds.length) (hd1:ds.length<=100000) (KL:okB ds) (aeb:rW ds xs.length=(xs,ds.length,0)):
 Calls Tryz.prog 197 #[.int .u8 (kind:Int),.slice A n c] W (Pm W xs):=by
 obtain ⟨pl,hpl⟩:∃pl,(ak xs.length).length=pl:=⟨_,rfl⟩;have kE:=z05 (n:=xs.length) (by omega);rw[hpl]at kE;obtain ⟨t,ht⟩:∃t,[kind,1]++ak xs.length++ds=t:=⟨_,rfl⟩;have htl:t.length=2+pl+ds.length:=by rw[←ht,List.length_append,List.length_append,hpl];rfl
 have Vl:okB t:=by
  rw[←ht];intro x h;rcases List.mem_append.1 h with h|h
  ·rcases List.mem_append.1 h with h|h
   ·simp only[List.mem_cons,List.not_mem_nil,or_false]at h
    rcases h with rfl|rfl<;>omega
   ·exact jW (by omega) x h
  ·exact KL x h
 have hnum:aF t 2 0 65536=(xs.length,2+pl,0):=by
  have h1:aO t (2:Nat)=(xs.length,pl,0):=by
   have:=z2y (v:=xs.length) (by omega) [kind,1] ds;rw[hpl,ht]at this;exact this
  unfold aF;rw[if_neg (by simp),h1,if_neg (by simp),if_neg (by simp only;omega)]
 have hdrop:t.drop (2+pl)=ds:=by
  rw[←ht];have e:([kind,1]++ak xs.length).length=2+pl:=by rw[List.length_append,hpl];rfl
  rw[←e,List.drop_left]
 have hhead:(t.drop 0).take 2=[kind,1]:=by rw[←ht];rfl
 rw[ht]at hb;have hbl:b.length-4=t.length:=by rw[hb,PD];omega
 have hbt:b.take (b.length-4)=t:=by rw[hbl,hb];unfold fC;rw[List.take_left]
 have okb:okB b:=by rw[hb];exact z5d Vl
 have hopen:xK b:=by rw[hb];exact z3S t
 have hbn:b.length=t.length+4:=by rw[hb,PD]
 have hop:=z4l D A n c b W hr iJ okb hl (by omega) hc;unfold rH at hop;rw[hbt,hbl]at hop;have Hop:=ah hop;have iZ:=ah hopen;have JH:=ah hnum;have EJ:=ah hdrop;have Hinf:=ah aeb;clear aeb;have mZ:=ah hhead;have htl1:2+pl+ds.length<=t.length:=by omega
 have htl2:t.length<=2+pl+ds.length:=by omega
 clear htl;clear hop hopen hnum hdrop hhead hbt hbl hb ht hpl hbn hl hr okb;go_enter Tryz.func197,Tryz.ntmps197;go_wp2_with fail;with_reducible refine Hop.out.mono ?_
 rintro e w1 ⟨h1, -⟩;obtain ⟨k1,cap1,rfl,o1,hcap1⟩:=h1 iZ.out;have n1:=o1.nx;have r1:=o1.jZ;go_wp2_with fail;with_reducible refine (z21 _ _ _ _ t w1 r1 Vl rfl (by omega)).mono ?_
 rintro e w2 ⟨g,A2,c2,rfl,cu2,n2,hg⟩;have r2:=r1.nx (by decide) n2;go_wp2_with fail;refine (z16 cu2 2 (by omega)).mono ?_;rintro e w3 ⟨k3,cap3,rfl,t3,o3,hc3,hk3⟩;rw[mZ.out]at o3;rw[Nat.zero_add]at t3;have Dz:k1≠g:=by have:=(o1.lt k1 rfl).2;omega
 have r3:=r2.ch (by decide) t3.gW (fun k _ e1 e2=>Dz (by rw[←e1,←e2]));have n3:Nx W w3:=(n1.tr n2).trans t3.gW fun i hi e=>by have:=n1.size;omega
 go_wp2_with fail;have hnm:=z17 t3.cur 65536 (by omega) (by omega);rw[JH.out]at hnm;with_reducible refine hnm.mono ?_
 rintro e w4 ⟨rfl,t4⟩;have t4:cO w3 _ g A2 c2 t (2+pl) 0 w4:=t4;clear hnm;have aea:k3≠g:=by have:=cu2.blk.lt;omega
 have o4:=z09 o3 t4.gW (fun k hk e=>by simp[Value.ownBlock]at hk;omega);have r4:=r3.ch (by decide) t4.gW (fun k _ e1 e2=>Dz (by rw[←e1,←e2]));have n4:Nx W w4:=n3.trans t4.gW fun i hi e=>by have:=n1.size;omega
 have cu4:=t4.cur
 have tail:∀w6,Nx w4 w6->w6.cell? ⟨k3,0,none⟩=some (.int .u8 (kind:Int))/\w6.cell? ⟨k3,1,none⟩=some (.int .u8 1)/\aH w6 _ g A2 c2 t (2+pl) 0/\Rd w6 (fun k=>k=k1) 1 (some ⟨k1,0,none⟩) t.length (bl t)/\Nx W w6:=fun w6 n6=>
  ⟨(z09 o4 n6 (fun _ _ hf=>hf)).cellAt 0 (by omega),(z09 o4 n6 (fun _ _ hf=>hf)).cellAt 1 (by omega),cu4.nx n6,r4.nx (by decide) n6,n4.tr n6⟩
 have Tail:=ah tail;have hend:=fun w6 (n6:Nx w4 w6)=>su (cu4.nx n6);have kQ:=ah hend;have aaA:k3<w4.heap.size:=(o4.lt k3 rfl).2;clear tail hend o4 r4 n4 cu4 t4 t3 o3 r3 n3 n1 n2 r1 r2 o1 cu2 Hop iZ JH mZ;have ne1:(5:Int)≠0:=by decide
 ·have hE:bg t.length (2+pl) 0=5:=by unfold bg;rw[if_neg (by simp),if_pos (by omega)]
  have hcc:¬cap1=2+pl:=by omega
  go_wp2_with fail;have he1:=kQ.out _ (Ch.refl _ w4);rw[hE]at he1;with_reducible refine he1.mono ?_
  rintro e w5 ⟨rfl,d5⟩;have n5:=d5.nx;clear he1 d5;go_wp2_with fail;have he2:=kQ.out _ n5;rw[hE]at he2;with_reducible refine he2.mono ?_
  rintro e w6 ⟨rfl,d6⟩;obtain ⟨c0,c1,cu6,r6,n6⟩:=Tail.out w6 (n5.tr d6.nx);clear he2 d6 n5;go_wp2_with fail;with_reducible refine (Je cu6).mono ?_
  rintro e w7 ⟨rfl,rfl⟩;have b1:(0:Int)<=((2+pl:Nat):Int):=by omega
  have b2:((2+pl:Nat):Int)<=(t.length:Int):=by omega
  have hct:=r6.cut (k:=2+pl) (cap:=cap1) (by omega) hcap1;rw[Nat.mul_one,show (bl t).drop (2+pl)=bl (t.drop (2+pl)) by simp[bl,List.map_drop],EJ.out,if_neg hcc,show t.length-(2+pl)=ds.length by omega]at hct;have hle:t.length-(2+pl)=ds.length:=by omega
  have ha:Option.map (fun x=>Addr.add x (2+pl)) (some ⟨k1,0,none⟩)=some ⟨k1,2+pl,none⟩:=by
   simp only[Option.map_some,Option.some.injEq];unfold Addr.add;rw[if_neg (by omega)];simp
  rw[ha]at hct;clear ha h1;have hif:=wH (W:=w6) (bs:=ds) (most:=(xs.length:Int)) _ _ (cap1-(2+pl)) hct KL (by omega) (by omega);unfold xH at hif;rw[Hinf.out]at hif;have Hif:=ah hif;clear hif hct;go_wp2_with fail;with_reducible refine Hif.out.mono ?_
  rintro e w7 ⟨v7,rfl,o7,c7, -⟩;have n7:Nx w6 w7:=c7.nx fun i hi hs=>by omega
  obtain ⟨A7,cc7,rfl,_,_⟩:=z04 o7;have r7:=Rd.dh o7;go_wp2_with fail;with_reducible refine (z21 _ _ _ _ xs w7 r7 PK rfl (by omega)).mono ?_
  rintro e w8 ⟨g8,A8,c8,rfl,cu8,n8,hg8⟩;go_wp2_with fail;go_ret2;have hs6:=n6.size;have hs7:=n7.size;exact ⟨g8,A8,c8,_,rfl,cu8,(n6.tr n7).tr n8,by omega,fun k hk=>by omega⟩
theorem z2U (D:Nat->Prop) (A:Option Addr) (n c:Nat) (kind:Nat) (xs:List Nat) (W:World) (hr:Rd W D 1 A n (bl (aA kind xs))) (iJ:∀k,D k->k<W.heap.size) (PK:okB xs) (hk:kind<256) (hl:(aA kind xs).length=n) (hc:n<=c) (hx:xs.length<=65536) (hx0:0<xs.length):
 Calls Tryz.prog 197 #[.int .u8 (kind:Int),.slice A n c] W (Pm W xs):=by
 by_cases hlt:(bF xs).length<xs.length
 ·obtain ⟨h1,h2,h3⟩:rW (bF xs) xs.length=(xs,(bF xs).length,0)/\(bF xs).length<=xs.length+5/\okB (bF xs):=by
   by_cases h5:xs.length<=65535
   ·exact Fix.wV PK h5
   ·have hs:=z3m xs
    have e1:bF xs=pack (aK (aI xs xs.length 0)):=by
     unfold bF at hlt ⊢;split at hlt
     ·next h2=>rw[if_pos h2]
     ·omega
    rw[e1]at hlt ⊢;exact ⟨Fix.jI PK (by omega) (by omega),by omega,z4b _⟩
  have h0:0<(bF xs).length:=by
   unfold bF;split
   ·rw[Fb]
    have:3<=(aK (aI xs xs.length 0)).length:=by
     generalize aI xs xs.length 0=l;have hL:aK l=lV 3 3++l.flatMap kW++jh 256:=rfl;rw[hL,List.length_append,List.length_append,show (lV 3 3).length=3 from rfl];omega
    omega
   ·unfold bM
    rw[List.length_append];omega
  refine qU D A n c kind xs (bF xs) _ W ?_ hr iJ PK hk hl hc hx h0 (by omega) h3 h1;unfold aA AX kT iW;rw[if_pos hlt,if_pos hlt]
 ·refine z6g D A n c kind xs _ W ?_ hr iJ PK hk hl hc hx hx0
  unfold aA AX kT iW;rw[if_neg hlt,if_neg hlt]
def Pv (W:World) (e:Ending) (w':World):Prop:=
 (∃er:Int,er≠0/\e=.returned (.tuple #[.pointer none,.int .i64 er])/\Nx W w')∨∃xs,xs.length<=65536/\Pm W xs e w'
theorem Pv.bad {W w':World} {er:Int} (h:er≠0) (n:Nx W w'):Pv W (.returned (.tuple #[.pointer none,.int .i64 er])) w':=.inl ⟨er,h,rfl,n⟩
theorem Jp (xs:List Nat) (p:Nat) (m:Int):(aF xs p 0 m).2.2=0∨(aF xs p 0 m).2.2=2∨(aF xs p 0 m).2.2=3∨(aF xs p 0 m).2.2=4:=by
 unfold aF;rw[if_neg (by simp)];split
 ·rcases z5P xs p with h|⟨-, -,h|h⟩
  ·exact .inl h
  ·exact .inr (.inr (.inl h))
  ·exact .inr (.inr (.inr h))
 ·split
  ·exact .inr (.inl rfl)
  ·exact .inl rfl
theorem Jo (xs:List Nat) (p:Nat):(aF xs p 0 65536).1<=65536:=by
 unfold aF;rw[if_neg (by simp)];split
 ·exact Nat.zero_le _
 ·split
  ·exact Nat.zero_le _
  ·simp only
   omega
theorem Uh (xs:List Nat) (p:Nat) (m:Int):p<=(aF xs p 0 m).2.1:=by
 unfold aF;rw[if_neg (by simp)];split
 ·exact Nat.le_refl _
 ·split
  ·exact Nat.le_refl _
  ·exact Nat.le_add_right _ _
theorem len2 {t:List Nat} (h:2<=t.length):∃a b,(t.drop 0).take 2=[a,b]:=by
 match t,h with
 |a::b::r,_=>exact ⟨a,b,rfl⟩
theorem z2S (D:Nat->Prop) (A:Option Addr) (n c:Nat) (kind:Nat) (b:List Nat) (W:World) (hr:Rd W D 1 A n (bl b)) (iJ:∀k,D k->k<W.heap.size) (ok:okB b) (hl:b.length=n) (hn:n<=1000000) (hc:n<=c) (hk:kind<256):
 Calls Tryz.prog 197 #[.int .u8 (kind:Int),.slice A n c] W (Pv W):=by
 by_cases hopen:xK b
 ·obtain ⟨t,ht⟩:∃t,b.take (b.length-4)=t:=⟨_,rfl⟩
  have Vl:okB t:=by rw[←ht];exact fun x hx=>ok x (List.mem_of_mem_take hx)
  have hop:=z4l D A n c b W hr iJ ok hl (by omega) hc;have htl:b.length-4=t.length:=by rw[←ht,List.length_take];omega
  have htm:t.length<=1000000:=by omega
  unfold rH at hop;rw[ht,htl]at hop;have Hop:=ah hop;have iZ:=ah hopen;clear hop hopen htl ht hl hr ok;go_enter Tryz.func197,Tryz.ntmps197;go_wp2_with fail;with_reducible refine Hop.out.mono ?_
  rintro e w1 ⟨h1, -⟩;obtain ⟨k1,cap1,rfl,o1,hcap1⟩:=h1 iZ.out;have n1:=o1.nx;have r1:=o1.jZ;clear h1;go_wp2_with fail;with_reducible refine (z21 _ _ _ _ t w1 r1 Vl rfl (by omega)).mono ?_
  rintro e w2 ⟨g,A2,c2,rfl,cu2,n2,hg⟩;have r2:=r1.nx (by decide) n2;have Dz:k1≠g:=by have:=(o1.lt k1 rfl).2;omega
  have hgW:W.heap.size<=g:=by have:=n1.size;omega
  by_cases h2:2<=t.length
  ·obtain ⟨x0,x1,hx01⟩:=len2 h2
   have hx0:x0<256:=Vl x0 (by have:x0∈(t.drop 0).take 2:=by rw[hx01];simp
                              exact List.mem_of_mem_drop (List.mem_of_mem_take this))
   have hx1:x1<256:=Vl x1 (by have:x1∈(t.drop 0).take 2:=by rw[hx01];simp
                              exact List.mem_of_mem_drop (List.mem_of_mem_take this))
   have mZ:=ah hx01;clear hx01;go_wp2_with fail;refine (z16 cu2 2 (by omega)).mono ?_;rintro e w3 ⟨k3,cap3,rfl,t3,o3,hc3,hk3⟩;rw[mZ.out]at o3;rw[Nat.zero_add]at t3;have r3:=r2.ch (by decide) t3.gW (fun k _ e1 e2=>Dz (by rw[←e1,←e2]));have n3:Nx W w3:=(n1.tr n2).trans t3.gW fun i hi e=>by omega
   go_wp2_with fail;have hnm:=z17 t3.cur 65536 (by omega) (by omega);obtain ⟨p,hp⟩:∃p,p=(aF t 2 0 65536).2.1:=⟨_,rfl⟩;obtain ⟨v,hv⟩:∃v,v=(aF t 2 0 65536).1:=⟨_,rfl⟩;obtain ⟨q,hq⟩:∃q,q=(aF t 2 0 65536).2.2:=⟨_,rfl⟩;have hqe:=Jp t 2 65536;have hv65:=Jo t 2;have hp2:=Uh t 2 65536;rw[←hp,←hv,←hq]at hnm;rw[←hq]at hqe;rw[←hp]at hp2;rw[←hv]at hv65;clear hp hv hq;with_reducible refine hnm.mono ?_
   rintro e w4 ⟨rfl,t4⟩;clear hnm;have hpl:p<=t.length:=t4.cur.pos;have aea:k3≠g:=by have:=cu2.blk.lt;omega
   have o4:=z09 o3 t4.gW (fun k hk e=>by simp[Value.ownBlock]at hk;omega);have r4:=r3.ch (by decide) t4.gW (fun k _ e1 e2=>Dz (by rw[←e1,←e2]));have n4:Nx W w4:=n3.trans t4.gW fun i hi e=>by omega
   have cu4:=t4.cur
   have tail:∀w6,Nx w4 w6->w6.cell? ⟨k3,0,none⟩=some (.int .u8 (x0:Int))/\w6.cell? ⟨k3,1,none⟩=some (.int .u8 (x1:Int))/\aH w6 _ g A2 c2 t p q/\Rd w6 (fun k=>k=k1) 1 (some ⟨k1,0,none⟩) t.length (bl t)/\Nx W w6:=fun w6 n6=>
    ⟨(z09 o4 n6 (fun _ _ hf=>hf)).cellAt 0 (by omega),(z09 o4 n6 (fun _ _ hf=>hf)).cellAt 1 (by omega),cu4.nx n6,r4.nx (by decide) n6,n4.tr n6⟩
   have Tail:=ah tail;have hend:=fun w6 (n6:Nx w4 w6)=>su (cu4.nx n6);have kQ:=ah hend;have aaA:k3<w4.heap.size:=(o4.lt k3 rfl).2;clear tail hend o4 r4 n4 cu4 t4 t3 o3 r3 n3 n1 n2 r1 r2 o1 cu2 Hop iZ mZ;obtain ⟨E,hE⟩:∃E,E=bg t.length p q:=⟨_,rfl⟩
   have hEE:(E≠0/\E≠5)∨(E=0/\q=0)∨(E=5/\q=0):=by
    rw[hE];unfold bg;rcases hqe with rfl|rfl|rfl|rfl
    ·rw[if_neg (by simp)]
     split
     ·exact .inr (.inr ⟨rfl,rfl⟩)
     ·exact .inr (.inl ⟨rfl,rfl⟩)
    ·exact .inl (by rw[if_pos (by decide)];decide)
    ·exact .inl (by rw[if_pos (by decide)];decide)
    ·exact .inl (by rw[if_pos (by decide)];decide)
   rw[←hE]at kQ;clear hE hqe;go_wp2_with fail;rcases hEE with ⟨ea,eb⟩|⟨rfl,rfl⟩|⟨rfl,rfl⟩
   rotate_left;refine (kQ.out _ (Ch.refl _ w4)).mono ?_;rintro e w6 ⟨rfl,d6⟩;obtain ⟨c0,c1,cu6,r6,n6⟩:=Tail.out w6 d6.nx;clear d6;rotate_left;refine (kQ.out _ (Ch.refl _ w4)).mono ?_;rintro e w5 ⟨rfl,d5⟩;focus (go_wp2_with fail)
   refine (kQ.out w5 d5.nx).mono ?_;rintro e w6 ⟨rfl,d6⟩;obtain ⟨c0,c1,cu6,r6,n6⟩:=Tail.out w6 (d5.nx.tr d6.nx);clear d5 d6;rotate_left
   ·have e1:(E !=0)=true:=by rw[bne_iff_ne];exact ea
    have e2:(E !=5)=true:=by rw[bne_iff_ne];exact eb
    clear ea eb;refine (kQ.out _ (Ch.refl _ w4)).mono ?_;rintro e w5 ⟨rfl,d5⟩;have n5:=d5.nx;clear d5;go_wp2_with fail;refine (kQ.out w5 n5).mono ?_;rintro e w6 ⟨rfl,d6⟩;obtain ⟨c0,c1,cu6,r6,n6⟩:=Tail.out w6 (n5.tr d6.nx);clear d6;go_wp2_with fail;go_ret2;exact Pv.bad (by decide) n6
   all_goals
    by_cases hk0:x0=kind
    ·subst hk0
     by_cases hx:1<x1
     ·have e1:(1:Int)<(x1:Int):=by omega
      go_wp2_with fail;go_ret2;exact Pv.bad (by decide) n6
     ·have e1:¬(1:Int)<(x1:Int):=by omega
      go_wp2_with fail;with_reducible refine (Je cu6).mono ?_
      rintro e w7 ⟨rfl,rfl⟩;have hct:=r6.cut (k:=p) (cap:=cap1) hpl hcap1;rw[Nat.mul_one,show (bl t).drop p=bl (t.drop p) by simp[bl,List.map_drop]]at hct;have KL:okB (t.drop p):=fun x hx=>Vl x (List.mem_of_mem_drop hx);have hle:t.length-p=(t.drop p).length:=List.length_drop.symm;rw[hle]at hct;have hs6:=n6.size;have b2:(p:Int)<=(t.length:Int):=(by omega);generalize t.drop p=ds at *;have hdl:ds.length<=1000000:=by omega
      have hX:∃X,(if cap1=p then (some ⟨k1,0,none⟩:Option Addr) else (some ⟨k1,0,none⟩:Option Addr).map (·.add p))=some ⟨k1,X,none⟩/\(cap1=p->X=0)/\(¬cap1=p->X=p):=by
       by_cases hcc:cap1=p
       ·exact ⟨0,by rw[if_pos hcc],fun _=>rfl,fun h=>absurd hcc h⟩
       ·refine ⟨p,?_,fun h=>absurd h hcc,fun _=>rfl⟩
        rw[if_neg hcc];simp only[Option.map_some,Option.some.injEq];unfold Addr.add;rw[if_neg (by omega)];simp
      obtain ⟨X,hXe,hX0,Vp⟩:=hX;rw[hXe]at hct;clear hXe r6 cu6 kQ Tail;by_cases hcc:cap1=p
      all_goals
       first|(rw[hX0 hcc]at hct)|(rw[Vp hcc]at hct)
       clear hX0 Vp X;by_cases h11:x1=1
       ·subst h11
        have hif:=fun cc=>wH (W:=w6) (bs:=ds) (most:=(v:Int)) _ _ cc hct KL (by omega) (by omega);unfold xH at hif;obtain ⟨ys,hys⟩:∃ys,ys=(rW ds (v:Int)).1:=⟨_,rfl⟩;obtain ⟨us,hus⟩:∃us,us=(rW ds (v:Int)).2.1:=⟨_,rfl⟩;obtain ⟨er,her⟩:∃er,er=(rW ds (v:Int)).2.2:=⟨_,rfl⟩;rw[←hys,←hus,←her]at hif;have Hif:=ah hif;clear hif hct hys hus her;go_wp2_with fail;with_reducible refine (Hif.out _).mono ?_
        rintro e w7 ⟨v7,rfl,o7,ch7,ok7⟩;have n7:Nx w6 w7:=ch7.nx fun i hi hs=>by omega
        have hs7:=n7.size;obtain ⟨A7,c7,rfl, -, -⟩:=z04 o7;have r7:=Rd.dh o7;have M7:=ah (n6.tr n7);clear Hif ch7 o7 n7;by_cases h0:er=0
        ·subst h0
         by_cases h1:us=ds.length
         ·have f1:((us:Int) !=(ds.length:Int))=false:=by rw[h1];simp
          by_cases h3:ys.length=v
          ·have f2:((v:Int) !=(ys.length:Int))=false:=by rw[h3];simp
           have f3:((ys.length:Int) !=(v:Int))=false:=by rw[h3];simp
           have hy:ys.length<=65536:=(by omega);have HN:=ah (fun cc=>z21 _ _ _ cc ys w7 r7 ok7 rfl (by omega));clear h1 h3;go_wp2_with fail;with_reducible refine (HN.out _).mono ?_
           rintro e w8 ⟨g8,A8,c8,rfl,cu8,n8,hg8⟩;go_wp2_with fail;go_ret2;exact .inr ⟨ys,hy,g8,A8,c8,_,rfl,cu8,M7.out.tr n8,by omega,fun k hk=>by omega⟩
          ·have f2:((v:Int) !=(ys.length:Int))=true:=by rw[bne_iff_ne];omega
           have f3:((ys.length:Int) !=(v:Int))=true:=by rw[bne_iff_ne];omega
           clear h1;go_wp2_with fail;go_ret2;exact Pv.bad (by decide) M7.out
         ·have f1:((us:Int) !=(ds.length:Int))=true:=by rw[bne_iff_ne];omega
          go_wp2_with fail;go_ret2;exact Pv.bad (by decide) M7.out
        ·have f1:(er !=0)=true:=by rw[bne_iff_ne];exact h0
         go_wp2_with fail;go_ret2;exact Pv.bad (by decide) M7.out
       ·obtain rfl:x1=0:=by omega
        by_cases h3:ds.length=v
        ·have f2:((v:Int) !=(ds.length:Int))=false:=by rw[h3];simp
         have f3:((ds.length:Int) !=(v:Int))=false:=by rw[h3];simp
         have hy:ds.length<=65536:=(by omega);have HN:=ah (fun cc=>z21 _ _ _ cc ds w6 hct KL rfl (by omega));clear h3 hct;go_wp2_with fail;with_reducible refine (HN.out _).mono ?_
         rintro e w8 ⟨g8,A8,c8,rfl,cu8,n8,hg8⟩;go_wp2_with fail;go_ret2;exact .inr ⟨ds,hy,g8,A8,c8,_,rfl,cu8,n6.tr n8,by omega,fun k hk=>by omega⟩
        ·have f2:((v:Int) !=(ds.length:Int))=true:=by rw[bne_iff_ne];omega
         have f3:((ds.length:Int) !=(v:Int))=true:=by rw[bne_iff_ne];omega
         clear hct;go_wp2_with fail;go_ret2;exact Pv.bad (by decide) n6
    ·have e1:((x0:Int) !=(kind:Int))=true:=by rw[bne_iff_ne];omega
     go_wp2_with fail;go_ret2;exact Pv.bad (by decide) n6
  ·go_wp2_with fail
   refine (z2R cu2 2 (.inr (by omega))).mono ?_;rintro e w3 ⟨rfl,t3⟩;have n3:Nx W w3:=(n1.tr n2).trans t3.gW fun i hi e=>by omega
   go_wp2_with fail;have hnm:=z17 t3.cur 65536 (by omega) (by omega);rw[show aF t 0 3 65536=(0,0,3) from if_pos (by decide)]at hnm;with_reducible refine hnm.mono ?_
   rintro e w4 ⟨rfl,t4⟩;have t4:cO w3 _ g A2 c2 t 0 3 w4:=t4;have n4:Nx W w4:=n3.trans t4.gW fun i hi e=>by omega
   have hend:=fun w6 (n6:Nx w4 w6)=>su (t4.cur.nx n6);rw[show bg t.length 0 3=3 from rfl]at hend;have kQ:=ah hend;have N4:=ah n4;clear hend hnm t4 n4 t3 n3 n1 n2 r1 r2 o1 cu2 Hop iZ;go_wp2_with fail;refine (kQ.out _ (Ch.refl _ w4)).mono ?_;rintro e w5 ⟨rfl,d5⟩;go_wp2_with fail;refine (kQ.out w5 d5.nx).mono ?_;rintro e w6 ⟨rfl,d6⟩;have M6:=ah (N4.out.tr (d5.nx.tr d6.nx));clear d5 d6;go_wp2_with fail;go_ret2;exact Pv.bad (by decide) M6.out
 ·exact (z6h D A n c kind b W hr iJ ok hl (by omega) hc hopen _ rfl).mono fun e w' ⟨h1,h2⟩=>by
   rw[h1];exact Pv.bad (by split<;>decide) h2
end Go.Proofs.YtpakjclpjcngmaaGreat
