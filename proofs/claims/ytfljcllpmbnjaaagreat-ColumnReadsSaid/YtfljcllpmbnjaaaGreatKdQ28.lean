/- Contracts and plain laws that the last text rests on. Conditions: each theorem states its own. -/
import Derived.Test.YtfljcllpmbnjaaaGreatKdQ8
import Derived.Test.YtfljcllpmbnjaaaGreatKdQ24
import Derived.Test.YtfljcllpmbnjaaaGreatKdQ27
import Derived.Test.YtfljcllpmbnjaaaGreatKdQ20
import Derived.Test.YtfljcllpmbnjaaaGreatKdQ21
import Derived.Test.YtfljcllpmbnjaaaGreatKdQ22
set_option maxRecDepth 100000
set_option maxHeartbeats 16000000
set_option linter.unusedVariables false
namespace Go.Proofs.YtfljcllpmbnjaaaGreat
open Go.RowKit
theorem KH (W0 w:World) (v:Value) (X:List Nat) (n L:Nat) (z:Int) (hL:X.length=L) (hz:(n:Int)=z) (o:au W0 w 5 1 v L (bl X)) (hX:L<=100000000) (hn:n<=9223372036854775807):
 Calls Tryz.prog 36 #[v,.int .i64 z] w (fZ W0 5 1 (L+(aj n).length) (bl (X++aj n))):=by
 subst hL hz;have h:=rQ W0 w v X n o hX hn;rw[List.length_append]at h;exact h
theorem QJ (D:Nat->Prop) (A:Option Addr) (n c:Nat) (l:List ByteArray) (W:World) (hr:Rd W D 1 A n (bW l)) (hl:l.length=n) (hn:n<=2048) (hs:∀s∈l,s.size<=1024):
 Calls Tryz.prog 17 #[.slice A n c] W (fZ W 5 1 (bC l).length (bl (bC l))):=by
 obtain ⟨i0,hi0,hz0,hz1,hz2⟩:=info_parts Tryz.info5;obtain ⟨Vw,hC,hpos⟩:=QI (by omega) hs;have xg:bC l=aj l.length++eG l++dF l:=rfl
 have hsz:∀k,k<l.length->(l.getD k ByteArray.empty).size<=1024:=fun k hk=>by
  rw[List.getD,List.getElem?_eq_getElem hk];exact hs _ (List.getElem_mem hk)
 have HC:=ah xg;have wW:=ah hsz;have Hu:=ah (fun (w:World) (v:Value) (X:List Nat) (m:Nat) (o:au W w 5 1 v X.length (bl X)) (h1:X.length<=100000000) (h2:m<=9223372036854775807)=>rQ W w v X m o h1 h2);have h0:=au.lit W W 5 (Ch.refl _ W) 1;have Hl:=ah hl;rw[hl]at HC wW;clear xg hsz hs hl Vw;generalize bC l=T at *;go_enter Tryz.func17,Tryz.ntmps17;go_wp2_with fail;with_reducible refine (Hu.out _ _ [] n h0 (by simp) (by omega)).mono ?_
 rintro e w1 ⟨k1,cap1,rfl,o1,_,_,_,_⟩;have HO:Hid (dJ W w1 (.slice (some ⟨k1,0,none⟩) ([]++aj n).length cap1) T (eG (l.drop 0)++dF l)):=ah ⟨[]++aj n,o1,by rw[HC.out,List.drop_zero];simp only[List.append_assoc,List.nil_append]⟩;clear o1 h0;go_wp2_with fail;go_loopw [3,14] (fun v i wr=>∃k:Nat,k<=n/\i=.int .i64 (k:Int)/\dJ W wr v T (eG (l.drop k)++dF l)) (fun _ i _=>n-(intOf i).toNat)
 case atStart=>exact ⟨0,Nat.zero_le _,rfl,HO.out⟩
 case round=>
  clear HO;obtain ⟨w4,rfl⟩:∃w4:World,w4=wr:=⟨_,rfl⟩;obtain ⟨k,hk,rfl,hout⟩:=hrel;obtain ⟨X,oX,eX,lX⟩:=hout.len;by_cases hlt:k<n
  ·have e1:=Ye (l:=l) (k:=k) (by rw[Hl.out];exact hlt)
   have hs1:=wW.out k hlt;obtain ⟨ad,rfl,_,hcell⟩:=(hr.nx (by decide) oX.nx).2 (by omega);have hc0:=hcell k _ (yj (by rw[Hl.out];exact hlt));rw[e1]at eX;have E:=ah eX;clear hcell e1 eX hout;generalize l.getD k ByteArray.empty=s at *;have hcall:=Hu.out w4 u3 X s.size oX (by omega) (by omega);have fin:∀v w,au W w 5 1 v (X++aj s.size).length (bl (X++aj s.size))->dJ W w v T (eG (l.drop (k+1))++dF l):=fun v w o=>⟨X++aj s.size,o,by rw[←E.out];simp only[List.append_assoc]⟩;have Fin:=ah fin;clear fin E lX oX;go_wp2_with fail;with_reducible refine hcall.mono ?_
   rintro e w5 ⟨k5,cap5,rfl,o5,_,_,_,_⟩;have Ho5:=ah (Fin.out _ w5 o5);rw[List.length_append]at Ho5;clear o5 hcall Fin;go_wp2_with fail;go_roundw
   case rel=>exact ⟨k+1,by omega,by go_num,Ho5.out⟩
   case measure=>simp[intOf];omega
  ·obtain rfl:n=k:=by omega
   have e1:eG (l.drop n)=[]:=by
    rw[List.drop_of_length_le (by rw[Hl.out];omega)];rfl
   have hO2:dJ W w4 u3 T (dF (l.drop 0)):=⟨X,oX,by rw[List.drop_zero,←eX,e1];rfl⟩;have HO2:=ah hO2;clear e1 eX hout lX hO2 oX;go_wp2_with fail;go_loopw [3,25] (fun v i wr=>∃k:Nat,k<=n/\i=.int .i64 (k:Int)/\dJ W wr v T (dF (l.drop k))) (fun _ i _=>n-(intOf i).toNat)
   case atStart=>exact ⟨0,Nat.zero_le _,rfl,HO2.out⟩
   case round=>
    clear HO2;obtain ⟨w8,rfl⟩:∃w8:World,w8=wr:=⟨_,rfl⟩;obtain ⟨k,hk,rfl,hout⟩:=hrel;obtain ⟨Y,oY,eY,lY⟩:=hout.len;by_cases hlt:k<n
    ·have e1:=Vk (l:=l) (k:=k) (by rw[Hl.out];exact hlt)
     have hs1:=wW.out k hlt;obtain ⟨ad,rfl,_,hcell⟩:=(hr.nx (by decide) oY.nx).2 (by omega);have hc0:=hcell k _ (yj (by rw[Hl.out];exact hlt));rw[e1]at eY;have E:=ah eY;have hlen:=congrArg List.length eY;simp only[List.length_append,kJ]at hlen;clear hcell e1 eY hout lY;generalize l.getD k ByteArray.empty=s at *;have hlb:Y.length+s.size<=100000000:=(by omega);clear hlen;have fin:∀v w,au W w 5 1 v (Y.length+s.size) (bl (Y++iU s))->dJ W w v T (dF (l.drop (k+1))):=fun v w o=>⟨Y++iU s,by rw[List.length_append,kJ];exact o,by rw[←E.out];simp only[List.append_assoc]⟩;have Fin:=ah fin;clear fin E;go_wp2_with (at_builtin;(refine Yn rfl (.tmp 29) (.tmp 30) _ 9 rfl 5 i0 Tryz.underlying27 Tryz.underlying9 hi0 hz0 hz1 hz2 rfl oY s rfl (by simp only[maxLen];omega) (by omega) ?_;intro v8 w8 o8;have Ho8:=ah (Fin.out v8 w8 o8);clear o8))
     go_roundw
     case rel=>exact ⟨k+1,by omega,by go_num,Ho8.out⟩
     case measure=>simp[intOf];omega
    ·obtain rfl:n=k:=by omega
     have e1:dF (l.drop n)=[]:=by
      rw[List.drop_of_length_le (by rw[Hl.out];omega)];rfl
     rw[e1,List.append_nil]at eY;subst eY;clear hout e1;go_wp2_with fail;go_ret;exact fZ.iK oY hpos
theorem yE (D:Nat->Prop) (A:Option Addr) (n c:Nat) (l:List ByteArray) (W:World) (hr:Rd W D 1 A n (bW l)) (hl:l.length=n) (hn:n<=2048) (hs:∀s∈l,s.size<=1024):
 Calls Tryz.prog 16 #[.slice A n c] W (fZ W 5 1 (aV l).length (bl (aV l))):=by
 obtain ⟨i0,hi0,hz0,hz1,hz2⟩:=info_parts Tryz.info5;have hC:=lV (by omega) hs;have xg:aV l=aj (bP l).length++je (bP l)++aj l.length++bK (bP l) l:=rfl
 have hsz:∀k,k<(bP l).length->((bP l).getD k ByteArray.empty).size<=1024:=fun k hk=>by
  rw[List.getD,List.getElem?_eq_getElem hk];exact hs _ (AZ.1 (List.getElem_mem hk))
 have kC:=z11 l
 have hmem:∀k,k<n->l.getD k ByteArray.empty∈bP l:=fun k hk=>by
  rw[List.getD,List.getElem?_eq_getElem (by omega)];exact AZ.2 (List.getElem_mem _)
 have hdi:=KQ D A n c l W hr hl hn
 have hpos:0<(aV l).length:=by
  have h1:=(z07 (n:=l.length) (by omega)).1;rw[xg];simp only[List.length_append];omega
 have HC:=ah xg;have wW:=ah hsz;have jC:=ah hmem;have Hdi:=ah hdi;have Hl:=ah hl;rw[hl]at HC kC;have hidx:∀x,x∈bP l->dw (bP l) x<(bP l).length:=fun x hx=>Oh hx;have Jf:=ah hidx;clear xg hsz hmem hdi hs hl hidx;generalize aV l=T at *;generalize bP l=all at *;obtain ⟨m,hm⟩:∃m,all.length=m:=⟨_,rfl⟩;have Hm:=ah hm;rw[hm]at HC wW Hdi kC Jf;clear hm;go_enter Tryz.func16,Tryz.ntmps16;go_wp2_with fail;with_reducible refine Hdi.out.mono ?_
 rintro e w0 ⟨v0,rfl,o0⟩;obtain ⟨Aa,ca,rfl,hca,_⟩:=o0.form;have ra:=o0.rd;have n0:=o0.nx;have hl0:=au.lit w0 w0 5 (Ch.refl _ w0) 1;have Hu:=ah (fun (w:World) (v:Value) (X:List Nat) (m:Nat) (o:au w0 w 5 1 v X.length (bl X)) (h1:X.length<=100000000) (h2:m<=9223372036854775807)=>rQ w0 w v X m o h1 h2);clear Hdi o0;go_wp2_with fail;with_reducible refine (Hu.out _ _ [] m hl0 (by simp) (by omega)).mono ?_
 rintro e w1 ⟨k1,cap1,rfl,o1,_,_,_,_⟩;have HO:Hid (dJ w0 w1 (.slice (some ⟨k1,0,none⟩) ([]++aj m).length cap1) T (je (all.drop 0)++(aj n++bK all l))):=ah ⟨[]++aj m,o1,by rw[HC.out,List.drop_zero];simp only[List.append_assoc,List.nil_append]⟩;clear o1 hl0;go_wp2_with fail;go_loopw [4,17] (fun v i wr=>∃k:Nat,k<=m/\i=.int .i64 (k:Int)/\dJ w0 wr v T (je (all.drop k)++(aj n++bK all l))) (fun _ i _=>m-(intOf i).toNat)
 case atStart=>exact ⟨0,Nat.zero_le _,rfl,HO.out⟩
 case round=>
  clear HO;obtain ⟨w4,rfl⟩:∃w4:World,w4=wr:=⟨_,rfl⟩;obtain ⟨k,hk,rfl,hout⟩:=hrel;obtain ⟨X,oX,eX,lX⟩:=hout.len;by_cases hlt:k<m
  ·have e1:=Ym (all:=all) (k:=k) (by rw[Hm.out];exact hlt)
   have hs1:=wW.out k hlt;obtain ⟨ad,rfl,_,hcell⟩:=(ra.nx (by decide) oX.nx).2 (by omega);have hc0:=hcell k _ (yj (by rw[Hm.out];exact hlt));rw[e1]at eX;have E:=ah eX;have hlen:=congrArg List.length eX;simp only[List.length_append,kJ]at hlen;clear hcell e1 eX hout;generalize all.getD k ByteArray.empty=s at *;have hcall:=Hu.out w4 u4 X s.size oX (by omega) (by omega);have fin:∀v w,au w0 w 5 1 v ((X++aj s.size).length+s.size) (bl (X++aj s.size++iU s))->dJ w0 w v T (je (all.drop (k+1))++(aj n++bK all l)):=fun v w o=>⟨X++aj s.size++iU s,by rw[List.length_append,kJ];exact o,by rw[←E.out];simp only[List.append_assoc]⟩;have Fin:=ah fin;have hlb:(X++aj s.size).length+s.size<=100000000:=by rw[List.length_append];omega
   clear fin E lX oX hlen;go_wp2_with fail;with_reducible refine hcall.mono ?_
   rintro e w5 ⟨k5,cap5,rfl,o5,_,_,_,_⟩;clear hcall;generalize X++aj s.size=X2 at *;go_wp2_with (at_builtin;(refine Yn rfl (.tmp 24) (.tmp 25) _ 9 rfl 5 i0 Tryz.underlying27 Tryz.underlying9 hi0 hz0 hz1 hz2 rfl o5 s rfl (by simp only[maxLen];omega) (by omega) ?_;intro v8 w8 o8;have Ho8:=ah (Fin.out v8 w8 o8);clear o8))
   go_roundw
   case rel=>exact ⟨k+1,by omega,by go_num,Ho8.out⟩
   case measure=>simp[intOf];omega
  ·obtain rfl:m=k:=by omega
   have e1:je (all.drop m)=[]:=by
    rw[List.drop_of_length_le (by rw[Hm.out];omega)];rfl
   rw[e1,List.nil_append]at eX;have E:=ah eX;have hlen:=congrArg List.length eX;simp only[List.length_append]at hlen;have hcall:=Hu.out w4 u4 X n oX (by omega) (by omega);have fin:∀v w,au w0 w 5 1 v (X++aj n).length (bl (X++aj n))->dJ w0 w v T (bK all (l.drop 0)):=fun v w o=>⟨X++aj n,o,by rw[←E.out,List.drop_zero];simp only[List.append_assoc]⟩;have Fin:=ah fin;clear fin E e1 eX hout lX oX hlen;go_wp2_with fail;with_reducible refine hcall.mono ?_
   rintro e w5 ⟨k5,cap5,rfl,o5,_,_,_,_⟩;have Ho5:=ah (Fin.out _ w5 o5);rw[List.length_append]at Ho5;clear hcall o5 Fin;go_wp2_with fail;go_loopw [4,7,34] (fun v r i wr=>∃k q:Nat,k<=n/\q<=k/\i=.int .i64 (k:Int)/\r=.int .i64 (q:Int)/\dJ w0 wr v T (bK all (l.drop (k-q)))/\Hid (∀j,j<q->l.getD (k-q+j) ByteArray.empty=l.getD (k-q) ByteArray.empty)/\Hid (0<q->k<n/\l.getD k ByteArray.empty=l.getD (k-q) ByteArray.empty)) (fun _ _ i _=>n-(intOf i).toNat)
   case atStart=>exact ⟨0,0,Nat.zero_le _,Nat.le_refl _,rfl,rfl,Ho5.out,ah fun j hj=>by omega,ah fun h=>by omega⟩
   case round=>
    clear Ho5;obtain ⟨w8,rfl⟩:∃w8:World,w8=wr:=⟨_,rfl⟩;obtain ⟨k,q,hk,hqk,rfl,rfl,hout,H1,H2⟩:=hrel;obtain ⟨Y,oY,eY,lY⟩:=hout.len;by_cases hlt:k<n
    ·have hyx:l.getD k ByteArray.empty=l.getD (k-q) ByteArray.empty:=by
      rcases Nat.eq_zero_or_pos q with h|h
      ·rw[h,Nat.sub_zero]
      ·exact (H2.out h).2
     have hall:∀j,j<q+1->l.getD (k-q+j) ByteArray.empty=l.getD (k-q) ByteArray.empty:=fun j hj=>by
      by_cases e:j=q
      ·rw[e,show k-q+q=k by omega];exact hyx
      ·exact H1.out j (by omega)
     obtain ⟨ad,rfl,_,hcell⟩:=((hr.nx (by decide) n0).nx (by decide) oY.nx).2 (by omega);have TL:=ah (fun j (hj:j<n)=>hcell j _ (yj (by rw[Hl.out];exact hj)));have ck:=TL.out k hlt;have kw:IntKind.i64.wrap ((n:Int)-1)=(n:Int)-1:=IntWalk.i64_in _ (by omega);have kw2:IntKind.i64.wrap ((k:Int)+1)=(k:Int)+1:=IntWalk.i64_in _ (by omega);have kw3:IntKind.i64.wrap ((q:Int)+1)=(q:Int)+1:=IntWalk.i64_in _ (by omega)
     have key:(k+1<n/\l.getD (k+1) ByteArray.empty=l.getD (k-q) ByteArray.empty)∨(k+1<n/\l.getD (k+1) ByteArray.empty≠l.getD (k-q) ByteArray.empty)∨k+1=n:=by
      by_cases h1:k+1<n
      ·by_cases h2:l.getD (k+1) ByteArray.empty=l.getD (k-q) ByteArray.empty
       ·exact .inl ⟨h1,h2⟩
       ·exact .inr (.inl ⟨h1,h2⟩)
      ·exact .inr (.inr (by omega))
     clear hcell;rcases key with ⟨h1,h2⟩|⟨h1,h2⟩|h1
     ·have ck1:=TL.out (k+1) h1
      rw[h2]at ck1;rw[hyx]at ck;have q1:((k:Int)==(n:Int)-1)=false:=by rw[beq_eq_false_iff_ne];omega
      have q2:((k:Int)+1).toNat=k+1:=by omega
      have hA:ad.add (k+1)=⟨ad.block,ad.off+(k+1),none⟩:=by
       unfold Addr.add;rw[if_neg (by omega)]
      rw[hA]at ck1;clear hA;have q3:(0:Int)<=(k:Int)+1:=(by omega);have q4:(k:Int)+1<(n:Int):=(by omega);have hq:((l.getD (k-q) ByteArray.empty).toList==(l.getD (k-q) ByteArray.empty).toList)=true:=(by simp);have HA:Hid (∀j,j<q+1->l.getD (k+1-(q+1)+j) ByteArray.empty=l.getD (k+1-(q+1)) ByteArray.empty):=ah fun j hj=>by rw[show k+1-(q+1)=k-q by omega];exact hall j hj
      have HB:Hid (0<q+1->k+1<n/\l.getD (k+1) ByteArray.empty=l.getD (k+1-(q+1)) ByteArray.empty):=ah fun _=>⟨h1,by rw[show k+1-(q+1)=k-q by omega];exact h2⟩;have hO:∀z,dJ w0 (w8.drewN z) u4 T (bK all (l.drop (k+1-(q+1)))):=fun z=>⟨Y,oY.drewN z,by rw[show k+1-(q+1)=k-q by omega];exact eY⟩;have HO:=ah hO;clear h2 hyx hall hO eY hout lY H1 H2;generalize l.getD (k-q) ByteArray.empty=x at *;go_wp2_with fail;go_quiet (fail)
      go_wp2_with fail;go_roundw
      case rel=>exact ⟨k+1,q+1,by omega,by omega,by go_num,by go_num,HO.out _,HA,HB⟩
      case measure=>simp[intOf];omega
     ·have hor:k-q+(q+1)=l.length∨l.getD (k-q+(q+1)) ByteArray.empty≠l.getD (k-q) ByteArray.empty:=.inr (by rw[show k-q+(q+1)=k+1 by omega];exact h2)
      have step:=Un (all:=all) (l:=l) (at_:=k-q) (n:=q+1) (by omega) (by rw[Hl.out];omega) hall hor;rw[step]at eY;have hlen:=congrArg List.length eY;simp only[List.length_append]at hlen;have E:=ah eY;have hx:=jC.out (k-q) (by omega);have hix:=Jf.out _ hx;rw[show k-q+(q+1)=k+1 by omega]at E;have hpl:=fun (w:World) (nx:Nx w0 w)=>rU _ Aa m ca all (l.getD (k-q) ByteArray.empty) w (ra.nx (by decide) nx) Hm.out (by omega) hx;have Hpl:=ah hpl;have fin:∀v w,au w0 w 5 1 v (Y++aj (dw all (l.getD (k-q) ByteArray.empty))++aj (q+1)).length (bl (Y++aj (dw all (l.getD (k-q) ByteArray.empty))++aj (q+1)))->dJ w0 w v T (bK all (l.drop (k+1-0))):=fun v w o=>⟨_,o,by rw[←E.out,Nat.sub_zero];simp only[List.append_assoc]⟩;have Fin:=ah fin;have nY:=oY.nx;have hYb:Y.length+(aj (dw all (l.getD (k-q) ByteArray.empty))).length<=100000000:=(by omega);clear fin hpl E step eY hx hlen hall lY hout H1 H2;generalize dw all (l.getD (k-q) ByteArray.empty)=ix at *;have ck1:=TL.out (k+1) h1;have hq:((l.getD (k+1) ByteArray.empty).toList==(l.getD (k-q) ByteArray.empty).toList)=false:=by rw[Ud];exact decide_eq_false h2
      have q1:((k:Int)==(n:Int)-1)=false:=by rw[beq_eq_false_iff_ne];omega
      have q2:((k:Int)+1).toNat=k+1:=by omega
      have hA:ad.add (k+1)=⟨ad.block,ad.off+(k+1),none⟩:=by
       unfold Addr.add;rw[if_neg (by omega)]
      rw[hA]at ck1;clear hA;have q3:(0:Int)<=(k:Int)+1:=(by omega);have q4:(k:Int)+1<(n:Int):=(by omega);clear h2 hor;generalize l.getD (k+1) ByteArray.empty=y at *;rw[hyx]at ck;generalize l.getD (k-q) ByteArray.empty=x at *;go_wp2_with fail;go_quiet (fail)
      go_wp2_with fail;with_reducible refine (Hpl.out _ (nY.drewN _)).mono ?_
      rintro e w9 ⟨rfl,rfl⟩;go_wp2_with fail;with_reducible refine (Hu.out _ _ Y ix (oY.drewN _) (by omega) (by omega)).mono ?_
      rintro e w10 ⟨k10,zZ,rfl,o10,_,_,_,_⟩;go_wp2_with fail;rw[List.length_append]at o10;with_reducible refine (KH w0 _ _ (Y++aj ix) (q+1) _ ((q:Int)+1) List.length_append (by omega) o10 (by omega) (by omega)).mono ?_
      rintro e w11 ⟨k11,QZ,rfl,o11,_,_,_,_⟩;have Ho11:=ah (Fin.out _ w11 (by rw[List.length_append,List.length_append];exact o11));clear o10 o11 Fin Hpl;go_wp2_with fail;go_roundw
      case rel=>exact ⟨k+1,0,by omega,by omega,by go_num,rfl,Ho11.out,ah fun j hj=>by omega,ah fun h=>by omega⟩
      case measure=>simp[intOf];omega
     ·have hor:k-q+(q+1)=l.length∨l.getD (k-q+(q+1)) ByteArray.empty≠l.getD (k-q) ByteArray.empty:=.inl (by rw[Hl.out];omega)
      have step:=Un (all:=all) (l:=l) (at_:=k-q) (n:=q+1) (by omega) (by rw[Hl.out];omega) hall hor;rw[step]at eY;have hlen:=congrArg List.length eY;simp only[List.length_append]at hlen;have E:=ah eY;have hx:=jC.out (k-q) (by omega);have hix:=Jf.out _ hx;rw[show k-q+(q+1)=k+1 by omega]at E;have hpl:=fun (w:World) (nx:Nx w0 w)=>rU _ Aa m ca all (l.getD (k-q) ByteArray.empty) w (ra.nx (by decide) nx) Hm.out (by omega) hx;have Hpl:=ah hpl;have fin:∀v w,au w0 w 5 1 v (Y++aj (dw all (l.getD (k-q) ByteArray.empty))++aj (q+1)).length (bl (Y++aj (dw all (l.getD (k-q) ByteArray.empty))++aj (q+1)))->dJ w0 w v T (bK all (l.drop (k+1-0))):=fun v w o=>⟨_,o,by rw[←E.out,Nat.sub_zero];simp only[List.append_assoc]⟩;have Fin:=ah fin;have nY:=oY.nx;have hYb:Y.length+(aj (dw all (l.getD (k-q) ByteArray.empty))).length<=100000000:=(by omega);clear fin hpl E step eY hx hlen hall lY hout H1 H2;generalize dw all (l.getD (k-q) ByteArray.empty)=ix at *;have q1:((k:Int)==(n:Int)-1)=true:=by rw[beq_iff_eq];omega
      clear hor;rw[hyx]at ck;generalize l.getD (k-q) ByteArray.empty=x at *;go_wp2_with fail;go_quiet (fail)
      go_wp2_with fail;with_reducible refine (Hpl.out _ (nY.drewN _)).mono ?_
      rintro e w9 ⟨rfl,rfl⟩;go_wp2_with fail;with_reducible refine (Hu.out _ _ Y ix (oY.drewN _) (by omega) (by omega)).mono ?_
      rintro e w10 ⟨k10,zZ,rfl,o10,_,_,_,_⟩;go_wp2_with fail;rw[List.length_append]at o10;with_reducible refine (KH w0 _ _ (Y++aj ix) (q+1) _ ((q:Int)+1) List.length_append (by omega) o10 (by omega) (by omega)).mono ?_
      rintro e w11 ⟨k11,QZ,rfl,o11,_,_,_,_⟩;have Ho11:=ah (Fin.out _ w11 (by rw[List.length_append,List.length_append];exact o11));clear o10 o11 Fin Hpl;go_wp2_with fail;go_roundw
      case rel=>exact ⟨k+1,0,by omega,by omega,by go_num,rfl,Ho11.out,ah fun j hj=>by omega,ah fun h=>by omega⟩
      case measure=>simp[intOf];omega
    ·obtain rfl:n=k:=by omega
     have hq0:q=0:=by
      rcases Nat.eq_zero_or_pos q with h|h
      ·exact h
      ·exact absurd (H2.out h).1 (by omega)
     subst hq0;have e1:bK all (l.drop (n-0))=[]:=(by rw[List.drop_of_length_le (by rw[Hl.out];omega),QH]);rw[e1,List.append_nil]at eY;subst eY;clear hout e1;go_wp2_with fail;go_ret;have hf:=fZ.iK oY hpos;obtain ⟨k9,Em,he9,o9,h1,h2,h3,h4⟩:=hf;exact ⟨k9,Em,he9,⟨iT o9.own n0.size,n0.tr o9.nx⟩,Nat.le_trans n0.size h1,h2,h3,h4⟩
theorem Jp (xs:List Nat) (p:Nat) (e:Int) (m:Nat):(aB xs p e (m:Int)).1<=m:=by
 unfold aB;split
 ·exact Nat.zero_le _
 ·split
  ·exact Nat.zero_le _
  ·split
   ·exact Nat.zero_le _
   ·simp only
    omega
def Ob (w:World) (D:Nat->Prop) (g:Nat) (A:Option Addr) (c:Nat) (xs:List Nat) (en:Ending) (w':World):Prop:=
 ∃(A1:Option Addr) (c1:Nat) (ys:List Nat) (p':Nat) (e':Int),en=.returned (.slice A1 ys.length c1)/\ys.length<=c1/\ys.length<=xs.length/\Rd w' (fun k=>w.heap.size<=k/\k<w'.heap.size) 1 A1 ys.length (bl ys)/\okB ys/\dA w D g A c xs p' e' w'
theorem z3P {w:World} {D:Nat->Prop} {g:Nat} {A:Option Addr} {c:Nat} {xs:List Nat} {p:Nat} {e:Int} (h:aJ w D g A c xs p e) (n:Int):Calls Tryz.prog 53 #[.pointer (some ⟨g,0,none⟩),.int .i64 n] w (Ob w D g A c xs):=by
 by_cases he:e=0
 ·subst he
  by_cases hn:n<0∨(xs.length:Int)-p<n
  ·refine (ZE h n hn).mono ?_
   rintro en w' ⟨rfl,t⟩;exact ⟨none,0,[],_,_,rfl,Nat.le_refl _,Nat.zero_le _,Rd.none_ _ _ _ _,(fun x hx=>by cases hx),t⟩
  ·obtain ⟨m,rfl⟩:=Int.eq_ofNat_of_zero_le (show 0<=n by omega)
   have hpm:p+m<=xs.length:=(by omega);refine (z12 h m hpm).mono ?_;rintro en w' ⟨k,cap,rfl,t,o,hc,hk⟩;have hl:((xs.drop p).take m).length=m:=by rw[List.length_take,List.length_drop];omega
   refine ⟨some ⟨k,0,none⟩,cap,(xs.drop p).take m,_,_,by rw[hl],by omega,by omega,?_,fun x hx=>h.ok x (List.mem_of_mem_drop (List.mem_of_mem_take hx)),t⟩;rw[hl];exact (Rd.bY o).more fun j hj=>⟨hj.2.1,hj.2.2⟩
 ·refine (qP h he n).mono ?_
  rintro en w' ⟨rfl,rfl⟩;exact ⟨none,0,[],_,_,rfl,Nat.le_refl _,Nat.zero_le _,Rd.none_ _ _ _ _,(fun x hx=>by cases hx),dA.refl h⟩
theorem yN (g h:Nat) (bs:List Nat) (p:Nat) (w:World) (r:cZ w g h bs p):
 Calls Tryz.prog 70 #[.pointer (some ⟨g,0,none⟩),.int .i64 1] w fun e w'=>∃(b:Nat) (er:Int) (p':Nat),e=.returned (.tuple #[.int .u32 (b:Int),.int .i64 er])/\cZ w' g h bs p'/\Ch (· =g) w w':=by
 by_cases hp:p<8 * bs.length
 ·exact (nC g h bs p w r hp).mono fun e w' ⟨h1,h2,h3⟩=>⟨_,_,_,h1,h2,h3⟩
 ·refine (z29 g h bs p 1 w r (by decide) (by decide) (by omega)).mono ?_
  rintro e w' ⟨rfl,d⟩;obtain ⟨k,rfl⟩:=d;have n:Nx w (w.drewN k):=(Ch.refl _ w).drewN k;exact ⟨0,3,p,rfl,r.ch n (fun hf=>hf) (fun hf=>hf),n.mono fun _ _ hf=>hf.elim⟩
theorem z39 {W w5 w6:World} {D:Nat->Prop} {g:Nat} {A:Option Addr} {c:Nat} {T:List Nat} {p:Nat} {e:Int} {u:Value} {X:Obj} (cu:aJ w5 D g A c T p e) (hgl:g<W.heap.size) (fK:∀k,D k->k<W.heap.size) (c5:Ch (· =g) W w5)
 (hg:(w5.alloc X).grownBy w6 u.ownBlock) (hu:∀j,u.ownBlock=some j->W.heap.size<=j):aJ w6 D g A c T p e/\Ch (· =g) W w6:=by
 have c6:Ch (fun j=>u.ownBlock=some j) w5 w6:=((Ch.refl _ w5).alloc X).grown hg fun j hj _=>hj;exact ⟨cu.ch c6 (fun e=>by have:=hu _ e;omega) (fun j hj e=>by have:=hu _ e;have:=fK j hj;omega),c5.trans c6 fun i hi e=>by have:=hu _ e;omega⟩
def lQ (w:World) (D:Nat->Prop) (g:Nat) (A:Option Addr) (c:Nat) (xs:List Nat) {α:Type} (t:TypeId) (cells:List α->List Value) (good:List α->Prop) (e:Ending) (w':World):Prop:=
 ∃(l:List α) (v:Value) (p':Nat) (e':Int),e=.returned v/\good l/\w'.ownsRow w.heap.size t 1 v l.length (cells l)/\aJ w' D g A c xs p' e'/\Ch (· =g) w w'
theorem DF (D:Nat->Prop) (g:Nat) (A:Option Addr) (c:Nat) (xs:List Nat) (W:World) (h:aJ W D g A c xs 0 0):
 Calls Tryz.prog 68 #[.pointer (some ⟨g,0,none⟩)] W (lQ W D g A c xs 4 ji fun l=>l.length<=2048):=by
 obtain ⟨i0,hi0,hz0,hz1,hz2⟩:=info_parts Tryz.LP;have hnm:=FT h 2048 (by omega) (by omega);have fK:=h.bnd;have hxl:=h.len;have hv:(aB xs 0 0 2048).1<=2048:=Jp xs 0 0 2048;obtain ⟨n,hn⟩:∃n,n=(aB xs 0 0 2048).1:=⟨_,rfl⟩;obtain ⟨p1,hp1⟩:∃p,p=(aB xs 0 0 2048).2.1:=⟨_,rfl⟩;obtain ⟨q1,hq1⟩:∃p,p=(aB xs 0 0 2048).2.2:=⟨_,rfl⟩;rw[←hn,←hp1,←hq1]at hnm;rw[←hn]at hv;have kD:=ah hnm;clear hnm hn hp1 hq1 h;go_enter Tryz.func68,Tryz.ntmps68;go_wp2_with fail;with_reducible refine kD.out.mono ?_
 rintro e w1 ⟨rfl,t1⟩;have kd:((n:Int)+7) / 8=(((n+7) / 8:Nat):Int):=by omega
 obtain ⟨m,hm⟩:∃m,(n+7) / 8=m:=⟨_,rfl⟩;rw[hm]at kd;clear hm;go_wp2_with fail;with_reducible refine (z3P t1.cur (m:Int)).mono ?_
 rintro e w2 ⟨A2,c2,ys,p2,e2,rfl,hyc,hyl,r2,YB,t2⟩;go_wp2_with fail;with_reducible refine (ZG _ _ ys.length c2 ys w2 r2 (by omega) YB).mono ?_
 rintro e w3 ⟨rg,rh,rfl,rd3,hrg,hrh,hrg',hrh',n3⟩;have t3:dA W D g A c xs p2 e2 w3:=⟨(t1.trans t2).cur.nx n3,(t1.trans t2).dN.tr n3⟩;have hsz:=(t1.trans t2).dN.size;have hgw:g<w2.heap.size:=(t1.trans t2).cur.blk.lt;have hs3:=n3.size;clear t1 t2 r2;go_wp2_with fail;go_loopw [5,17] (fun v i wr=>∃(k p:Nat) (l:List Bool),k<=n/\l.length=k/\i=.int .i64 (k:Int)/\cZ wr rg rh ys p/\wr.ownsRow w3.heap.size 4 1 v k (ji l)/\Ch (· =rg) w3 wr) (fun _ i _=>n-(intOf i).toNat)
 case atStart=>exact ⟨0,0,[],Nat.zero_le _,rfl,rfl,rd3,World.ownsRow_nil _ _ _ _,Ch.refl _ _⟩
 case round=>
  obtain ⟨w4,rfl⟩:∃w4:World,w4=wr:=⟨_,rfl⟩;obtain ⟨k,p,l,hk,hlk,rfl,rd4,o4,c4⟩:=hrel;have AQ:=ah hlk;clear hlk;by_cases hlt:k<n
  ·have Hrb:=ah (yN rg rh ys p w4 rd4)
   have one:∀(w5:World) (u5:Value) (p':Nat),Ch (· =rg) w4 w5->cZ w5 rg rh ys p'->∀(v':Value) (w6:World) (X:Obj),(w5.alloc X).grownBy w6 u5.ownBlock->(∀j,u5.ownBlock=some j->w3.heap.size<=j)->cZ w6 rg rh ys p'/\Ch (· =rg) w3 w6:=fun w5 u5 p' c5 rd5 v' w6 X hg hu=>by
    have c6:Ch (fun j=>u5.ownBlock=some j) w5 w6:=((Ch.refl _ w5).alloc X).grown hg fun j hj _=>hj;exact ⟨rd5.ch c6 (fun e=>by have:=hu _ e;omega) (fun e=>by have:=hu _ e;omega),(c4.trans c5 fun _ _ e=>e).trans c6 fun i hi e=>by have:=hu _ e;omega⟩
   have One:=ah one;clear one;go_wp2_with fail;refine Hrb.out.mono ?_;rintro e w5 ⟨b,er,p',rfl,rd5,c5⟩;have o5:=z06 o4 c5 (fun j hj e=>by have:=(o4.lt j hj).1;omega);have hu5:∀j,u5.ownBlock=some j->w3.heap.size<=j:=fun j hj=>(o4.lt j hj).1;have hw5:=(c4.trans c5 fun _ _ e=>e).size;obtain ⟨x,hx⟩:∃x,x=((b:Int)==1):=⟨_,rfl⟩;have hx2:((b:Int)==1)=x:=hx.symm;clear hx;cases x
   all_goals
    go_wp2_with (at_builtin;refine z00 _ rfl (.tmp 24) (.tmp 27) _ rfl w3.heap.size 4 i0 _ 1 1 Tryz.underlying24 hi0 hz0 hz1 hz2 rfl (by omega) _ k (ji l) rfl (z06 o5 ((Ch.refl (fun _=>False) w5).alloc _) (fun _ _ hf=>hf)) (fun _=>True) _ 1 1 [_] rfl ⟨rfl,fun _=>⟨⟨w5.heap.size,0,none⟩,rfl,trivial,cell_one_new _ _ _⟩⟩ (by intro u hu;simp at hu;subst hu;rfl) (by simp only[maxLen];omega) (by omega) (by simp;omega) ?_;intro v' w6 h2 h3 h4)
    go_roundw
    case rel=>
     obtain ⟨q1,q2⟩:=One.out w5 u5 p' c5 rd5 v' w6 _ h3 hu5;have hz:∀z,ji (l++[z])=ji l++[.bool z]:=fun z=>by simp[ji]
     have hy:∀z,(l++[z]).length=k+1:=fun z=>by rw[List.length_append,AQ.out];rfl
     first
      |exact ⟨k+1,p',l++[false],by omega,hy _,by go_num,q1,by rw[hz];exact h2,q2⟩
      |exact ⟨k+1,p',l++[true],by omega,hy _,by go_num,q1,by rw[hz];exact h2,q2⟩
    case measure=>simp[intOf];omega
  ·have hgr:g≠rg:=by omega
   have hkn:k=n:=(by omega);go_wp2_with fail;go_ret;have hl:=AQ.out;refine ⟨l,_,_,_,rfl,by omega,by rw[hl];exact iT o4 (by omega),t3.cur.ch c4 hgr (fun j hj e=>by have:=fK j hj;omega),t3.dN.trans c4 fun i hi e=>by omega⟩
def kM (L:List Nat):List Value:=L.map fun (z:Nat)=>Value.int .i64 (z:Int)
theorem BH (D:Nat->Prop) (g:Nat) (A:Option Addr) (c:Nat) (T:List Nat) (W:World) (h:aJ W D g A c T 0 0):
 Calls Tryz.prog 65 #[.pointer (some ⟨g,0,none⟩)] W (lQ W D g A c T 9 bW fun l=>l.length<=2048/\∀s∈l,s.size<=1000000000):=by
 obtain ⟨i0,hi0,hz0,hz1,hz2⟩:=info_parts Tryz.gW;obtain ⟨i1,hi1,hy0,hy1,hy2⟩:=info_parts Tryz.vO;have hgl:=h.blk.lt;have fK:=h.bnd;have hTl:=h.len;have hstr:=fun (D:Nat->Prop) (A:Option Addr) (n c:Nat) (t:List Nat) (w:World) (h:Rd w D 1 A n (bl t))=>xB (P:=Tryz.prog) w 27 9 5 Tryz.underlying27 Tryz.underlying5 Tryz.underlying9 D A n c _ h;have eU:=ah hstr;have hnm:=FT h 2048 (by omega) (by omega);have hv:(aB T 0 0 2048).1<=2048:=Jp T 0 0 2048;obtain ⟨n,hn⟩:∃n,n=(aB T 0 0 2048).1:=⟨_,rfl⟩;obtain ⟨p1,hp1⟩:∃p,p=(aB T 0 0 2048).2.1:=⟨_,rfl⟩;obtain ⟨q1,hq1⟩:∃p,p=(aB T 0 0 2048).2.2:=⟨_,rfl⟩;rw[←hn,←hp1,←hq1]at hnm;rw[←hn]at hv;have kD:=ah hnm;clear hnm hn hp1 hq1 h hstr;go_enter Tryz.func65,Tryz.ntmps65;go_wp2_with fail;refine kD.out.mono ?_;rintro e w1 ⟨rfl,t1⟩;clear kD;go_wp2_with fail;go_loopw [3,9] (fun v i wr=>∃(k p:Nat) (q:Int) (L:List Nat),k<=n/\L.length=k/\(∀z∈L,z<=1024)/\i=.int .i64 (k:Int)/\aJ wr D g A c T p q/\wr.ownsRow W.heap.size 3 1 v k (kM L)/\Ch (· =g) W wr) (fun _ i _=>n-(intOf i).toNat)
 case atStart=>exact ⟨0,_,_,[],Nat.zero_le _,rfl,(fun z hz=>by cases hz),rfl,t1.cur,World.ownsRow_nil _ _ _ _,t1.dN⟩
 case round=>
  clear t1;obtain ⟨w4,rfl⟩:∃w4:World,w4=wr:=⟨_,rfl⟩;obtain ⟨k,p,q,L,hk,hlk,hz,rfl,cu4,o4,c4⟩:=hrel;have AQ:=ah hlk;have HLZ:=ah hz;clear hlk hz;by_cases hlt:k<n
  ·have hnm:=FT cu4 1024 (by omega) (by omega)
   have hv:(aB T p q 1024).1<=1024:=Jp T p q 1024;obtain ⟨z,hn⟩:∃n,n=(aB T p q 1024).1:=⟨_,rfl⟩;obtain ⟨p2,hp1⟩:∃p',p'=(aB T p q 1024).2.1:=⟨_,rfl⟩;obtain ⟨q2,hq1⟩:∃p',p'=(aB T p q 1024).2.2:=⟨_,rfl⟩;rw[←hn,←hp1,←hq1]at hnm;rw[←hn]at hv;have kD:=ah hnm;have hw4:=c4.size;clear hnm hn hp1 hq1;go_wp2_with fail;refine kD.out.mono ?_;rintro e w5 ⟨rfl,t5⟩;have hu:∀j,u3.ownBlock=some j->W.heap.size<=j:=fun j hj=>(o4.lt j hj).1;have o5:=z06 o4 t5.dN (fun j hj e=>by have:=hu j hj;omega);have c5:Ch (· =g) W w5:=c4.trans t5.dN fun _ _ e=>e;have hw5:=c5.size;have one:∀(v':Value) (w6:World) (X:Obj),(w5.alloc X).grownBy w6 u3.ownBlock->aJ w6 D g A c T p2 q2/\Ch (· =g) W w6:=fun v' w6 X hg=>z39 t5.cur hgl fK c5 hg hu;have One:=ah one;clear one cu4 o4 c4 kD;go_wp2_with (at_builtin;refine z00 _ rfl (.tmp 11) (.tmp 14) _ rfl W.heap.size 3 i1 _ 1 8 Tryz.underlying88 hi1 hy0 hy1 hy2 rfl (by omega) _ k (kM L) rfl (z06 o5 ((Ch.refl (fun _=>False) w5).alloc _) (fun _ _ hf=>hf)) (fun _=>True) _ 1 1 [_] rfl ⟨rfl,fun _=>⟨⟨w5.heap.size,0,none⟩,rfl,trivial,cell_one_new _ _ _⟩⟩ (by intro u hu;simp at hu;subst hu;rfl) (by simp only[maxLen];omega) (by omega) (by simp;omega) ?_;intro v' w6 h2 h3 h4)
   go_roundw
   case rel=>
    obtain ⟨q1,q2⟩:=One.out v' w6 _ h3;refine ⟨k+1,_,_,L++[z],by omega,by rw[List.length_append,AQ.out];rfl,fun y hy=>?_,by go_num,q1,?_,q2⟩
    ·rcases List.mem_append.1 hy with hy|hy
     ·exact HLZ.out y hy
     ·rw[List.mem_singleton.1 hy];exact hv
    ·rw[show kM (L++[z])=kM L++[.int .i64 (z:Int)] by simp[kM]]
     exact h2
   case measure=>simp[intOf];omega
  ·obtain rfl:n=k:=by omega
   obtain ⟨Al,cl,rfl,hcl,_⟩:=z05 o4;have r4:=Rd.bY o4;have hw4:=c4.size;have SN:g<w4.heap.size:=(by omega);have MB:∀k,D k->k<w4.heap.size:=fun k hk=>by have:=fK k hk;omega
   clear o4;go_wp2_with fail;go_loopw [4,19] (fun v i wr=>∃(k p:Nat) (q:Int) (l:List ByteArray),k<=n/\l.length=k/\(∀s∈l,s.size<=1000000000)/\i=.int .i64 (k:Int)/\aJ wr D g A c T p q/\wr.ownsRow w4.heap.size 9 1 v k (bW l)/\Ch (· =g) w4 wr) (fun _ i _=>n-(intOf i).toNat)
   case atStart=>exact ⟨0,p,q,[],Nat.zero_le _,rfl,(fun z hz=>by cases hz),rfl,cu4,World.ownsRow_nil _ _ _ _,Ch.refl _ _⟩
   case round=>
    clear cu4;obtain ⟨w6,rfl⟩:∃w6:World,w6=wr:=⟨_,rfl⟩;obtain ⟨k,p,q,l,hk,hlk,hz,rfl,cu6,o6,c6⟩:=hrel;have HL2:=ah hlk;have HZ2:=ah hz;clear hlk hz;by_cases hlt:k<n
    ·have r6:=r4.ch (by decide) c6 (fun k hk hd e=>by have:=hd.2.1;omega)
     obtain ⟨ad,u,rfl,_,hu,hc0⟩:=r6.at_ hlt;have hkL:k<L.length:=by rw[AQ.out];exact hlt
     rw[kM,List.getElem?_map,List.getElem?_eq_getElem hkL]at hu;have ZW:=HLZ.out _ (List.getElem_mem hkL);generalize L[k]=z at hu ZW;simp only[Option.map_some]at hu;injection hu with hu;subst hu;have hw6:=c6.size;have hu6:∀j,u4.ownBlock=some j->w4.heap.size<=j:=fun j hj=>(o6.lt j hj).1;have kG:=ah (z3P cu6 (z:Int));clear r6 cu6;go_wp2_with fail;with_reducible refine kG.out.mono ?_
     rintro e w7 ⟨A7,c7',ys,p7,q7,rfl,hyc,hyl,r7,YB,t7⟩;have o67:=z06 o6 t7.dN (fun j hj e=>by have:=hu6 j hj;omega);have c7:Ch (· =g) w4 w7:=c6.trans t7.dN fun _ _ e=>e;have e7:=eU.out _ _ ys.length c7' ys w7 r7;have hsz:Hid ((b_ ys).size<=1000000000):=ah (by rw[Yd];omega);generalize b_ ys=sx at *;have hw7:=c7.size;have one:∀(v':Value) (w8:World) (X:Obj),(w7.alloc X).grownBy w8 u4.ownBlock->aJ w8 D g A c T p7 q7/\Ch (· =g) w4 w8:=fun v' w8 X hg=>z39 t7.cur SN MB c7 hg hu6;have One:=ah one;clear one t7 r7 o6 c6 c7 kG hu6;go_wp2_with (at_builtin;refine z00 _ rfl (.tmp 23) (.tmp 28) _ rfl w4.heap.size 9 i0 _ 1 16 Tryz.underlying23 hi0 hz0 hz1 hz2 rfl (by omega) _ k (bW l) rfl (z06 o67 ((Ch.refl (fun _=>False) w7).alloc _) (fun _ _ hf=>hf)) (fun _=>True) _ 1 1 [_] rfl ⟨rfl,fun _=>⟨⟨w7.heap.size,0,none⟩,rfl,trivial,cell_one_new _ _ _⟩⟩ (by intro u hu;simp at hu;subst hu;rfl) (by simp only[maxLen];omega) (by omega) (by simp;omega) ?_;intro v' w8 h2 h3 h4)
     go_roundw
     case rel=>
      obtain ⟨q1,q2⟩:=One.out v' w8 _ h3;refine ⟨k+1,_,_,l++[sx],by omega,by rw[List.length_append,HL2.out];rfl,fun y hy=>?_,by go_num,q1,?_,q2⟩
      ·rcases List.mem_append.1 hy with hy|hy
       ·exact HZ2.out y hy
       ·rw[List.mem_singleton.1 hy];exact hsz.out
      ·rw[show bW (l++[sx])=bW l++[.string sx] by simp[bW]]
       exact h2
     case measure=>simp[intOf];omega
    ·have hkn:k=n:=by omega
     go_wp2_with fail;go_ret;have hl:=HL2.out;exact ⟨l,_,_,_,rfl,⟨by omega,HZ2.out⟩,by rw[hl];exact iT o6 (by omega),cu6,c4.trans c6 fun i hi e=>e⟩
end Go.Proofs.YtfljcllpmbnjaaaGreat
