/- Contracts and plain laws that the last text rests on. Conditions: each theorem states its own. -/
import Derived.Test.YtpakjclpjcngmaaGreatKbQ13
import Derived.Test.YtpakjclpjcngmaaGreatKbQ25
import Derived.Test.YtpakjclpjcngmaaGreatKbQ29
import Derived.Test.YtpakjclpjcngmaaGreatKbQ22
import Derived.Test.YtpakjclpjcngmaaGreatKbQ28
set_option maxRecDepth 100000
set_option maxHeartbeats 16000000
set_option linter.unusedVariables false
namespace Go.Proofs.YtpakjclpjcngmaaGreat
open Go.RowKit
theorem MK (W0 w:World) (v:Value) (X:List Nat) (n L:Nat) (z:Int) (hL:X.length=L) (hz:(n:Int)=z) (o:ak W0 w 5 1 v L (bl X)) (hX:L<=100000000) (hn:n<=9223372036854775807):
 Calls Tryz.prog 189 #[v,.int .i64 z] w (gQ W0 5 1 (L+(aj n).length) (bl (X++aj n))):=by
 subst hL hz;have h:=tV W0 w v X n o hX hn;rw[List.length_append]at h;exact h
theorem yN (D:Nat->Prop) (A:Option Addr) (n c:Nat) (l:List ByteArray) (W:World) (hr:Rd W D 1 A n (b_ l)) (hl:l.length=n) (hn:n<=2048) (hs:∀s∈l,s.size<=1024):
 Calls Tryz.prog 123 #[.slice A n c] W (gQ W 5 1 (aU l).length (bl (aU l))):=by
 obtain ⟨i0,hi0,hz0,hz1,hz2⟩:=info_parts Tryz.info5;obtain ⟨okC,hC,hpos⟩:=YP (by omega) hs;have xU:aU l=aj l.length++fZ l++fB l:=rfl
 have hsz:∀k,k<l.length->(l.getD k ByteArray.empty).size<=1024:=fun k hk=>by
  rw[List.getD,List.getElem?_eq_getElem hk];exact hs _ (List.getElem_mem hk)
 have HC:=ah xU;have xJ:=ah hsz;have Hu:=ah (fun (w:World) (v:Value) (X:List Nat) (m:Nat) (o:ak W w 5 1 v X.length (bl X)) (h1:X.length<=100000000) (h2:m<=9223372036854775807)=>tV W w v X m o h1 h2);have h0:=ak.lit W W 5 (Ch.refl _ W) 1;have Hl:=ah hl;rw[hl]at HC xJ;clear xU hsz hs hl okC;generalize aU l=T at *;go_enter Tryz.func123,Tryz.ntmps123;go_wp2_with fail;with_reducible refine (Hu.out _ _ [] n h0 (by simp) (by omega)).mono ?_
 rintro e w1 ⟨k1,cap1,rfl,o1,_,_,_,_⟩;have HO:Hid (bJ W w1 (.slice (some ⟨k1,0,none⟩) ([]++aj n).length cap1) T (fZ (l.drop 0)++fB l)):=ah ⟨[]++aj n,o1,by rw[HC.out,List.drop_zero];simp only[List.append_assoc,List.nil_append]⟩;clear o1 h0;go_wp2_with fail;go_loopw [3,14] (fun v i wr=>∃k:Nat,k<=n/\i=.int .i64 (k:Int)/\bJ W wr v T (fZ (l.drop k)++fB l)) (fun _ i _=>n-(intOf i).toNat)
 case atStart=>exact ⟨0,Nat.zero_le _,rfl,HO.out⟩
 case round=>
  clear HO;obtain ⟨w4,rfl⟩:∃w4:World,w4=wr:=⟨_,rfl⟩;obtain ⟨k,hk,rfl,hout⟩:=hrel;obtain ⟨X,oX,eX,lX⟩:=hout.len;by_cases hlt:k<n
  ·have e1:=z4u (l:=l) (k:=k) (by rw[Hl.out];exact hlt)
   have hs1:=xJ.out k hlt;obtain ⟨ad,rfl,_,hcell⟩:=(hr.nx (by decide) oX.nx).2 (by omega);have hc0:=hcell k _ (Dy (by rw[Hl.out];exact hlt));rw[e1]at eX;have E:=ah eX;clear hcell e1 eX hout;generalize l.getD k ByteArray.empty=s at *;have hcall:=Hu.out w4 u3 X s.size oX (by omega) (by omega);have fin:∀v w,ak W w 5 1 v (X++aj s.size).length (bl (X++aj s.size))->bJ W w v T (fZ (l.drop (k+1))++fB l):=fun v w o=>⟨X++aj s.size,o,by rw[←E.out];simp only[List.append_assoc]⟩;have Fin:=ah fin;clear fin E lX oX;go_wp2_with fail;with_reducible refine hcall.mono ?_
   rintro e w5 ⟨k5,cap5,rfl,o5,_,_,_,_⟩;have Ho5:=ah (Fin.out _ w5 o5);rw[List.length_append]at Ho5;clear o5 hcall Fin;go_wp2_with fail;go_roundw
   case rel=>exact ⟨k+1,by omega,by go_num,Ho5.out⟩
   case measure=>simp[intOf];omega
  ·obtain rfl:n=k:=by omega
   have e1:fZ (l.drop n)=[]:=by
    rw[List.drop_of_length_le (by rw[Hl.out];omega)];rfl
   have hO2:bJ W w4 u3 T (fB (l.drop 0)):=⟨X,oX,by rw[List.drop_zero,←eX,e1];rfl⟩;have HO2:=ah hO2;clear e1 eX hout lX hO2 oX;go_wp2_with fail;go_loopw [3,25] (fun v i wr=>∃k:Nat,k<=n/\i=.int .i64 (k:Int)/\bJ W wr v T (fB (l.drop k))) (fun _ i _=>n-(intOf i).toNat)
   case atStart=>exact ⟨0,Nat.zero_le _,rfl,HO2.out⟩
   case round=>
    clear HO2;obtain ⟨w8,rfl⟩:∃w8:World,w8=wr:=⟨_,rfl⟩;obtain ⟨k,hk,rfl,hout⟩:=hrel;obtain ⟨Y,oY,eY,lY⟩:=hout.len;by_cases hlt:k<n
    ·have e1:=z5c (l:=l) (k:=k) (by rw[Hl.out];exact hlt)
     have hs1:=xJ.out k hlt;obtain ⟨ad,rfl,_,hcell⟩:=(hr.nx (by decide) oY.nx).2 (by omega);have hc0:=hcell k _ (Dy (by rw[Hl.out];exact hlt));rw[e1]at eY;have E:=ah eY;have hlen:=congrArg List.length eY;simp only[List.length_append,z09]at hlen;clear hcell e1 eY hout lY;generalize l.getD k ByteArray.empty=s at *;have hlb:Y.length+s.size<=100000000:=(by omega);clear hlen;have fin:∀v w,ak W w 5 1 v (Y.length+s.size) (bl (Y++jg s))->bJ W w v T (fB (l.drop (k+1))):=fun v w o=>⟨Y++jg s,by rw[List.length_append,z09];exact o,by rw[←E.out];simp only[List.append_assoc]⟩;have Fin:=ah fin;clear fin E;go_wp2_with (at_builtin;(refine ZO rfl (.tmp 29) (.tmp 30) _ 9 rfl 5 i0 Tryz.underlying26 Tryz.underlying9 hi0 hz0 hz1 hz2 rfl oY s rfl (by simp only[maxLen];omega) (by omega) ?_;intro v8 w8 o8;have Ho8:=ah (Fin.out v8 w8 o8);clear o8))
     go_roundw
     case rel=>exact ⟨k+1,by omega,by go_num,Ho8.out⟩
     case measure=>simp[intOf];omega
    ·obtain rfl:n=k:=by omega
     have e1:fB (l.drop n)=[]:=by
      rw[List.drop_of_length_le (by rw[Hl.out];omega)];rfl
     rw[e1,List.append_nil]at eY;subst eY;clear hout e1;go_wp2_with fail;go_ret;exact gQ.ji oY hpos
theorem yM (D:Nat->Prop) (A:Option Addr) (n c:Nat) (l:List ByteArray) (W:World) (hr:Rd W D 1 A n (b_ l)) (hl:l.length=n) (hn:n<=2048) (hs:∀s∈l,s.size<=1024):
 Calls Tryz.prog 122 #[.slice A n c] W (gQ W 5 1 (aQ l).length (bl (aQ l))):=by
 obtain ⟨i0,hi0,hz0,hz1,hz2⟩:=info_parts Tryz.info5;have hC:=Dc (by omega) hs;have xU:aQ l=aj (bM l).length++kW (bM l)++aj l.length++bW (bM l) l:=rfl
 have hsz:∀k,k<(bM l).length->((bM l).getD k ByteArray.empty).size<=1024:=fun k hk=>by
  rw[List.getD,List.getElem?_eq_getElem hk];exact hs _ (yt.1 (List.getElem_mem hk))
 have lK:=Iw l
 have hmem:∀k,k<n->l.getD k ByteArray.empty∈bM l:=fun k hk=>by
  rw[List.getD,List.getElem?_eq_getElem (by omega)];exact yt.2 (List.getElem_mem _)
 have hdi:=yV D A n c l W hr hl hn
 have hpos:0<(aQ l).length:=by
  have h1:=(z04 (n:=l.length) (by omega)).1;rw[xU];simp only[List.length_append];omega
 have HC:=ah xU;have xJ:=ah hsz;have mF:=ah hmem;have Hdi:=ah hdi;have Hl:=ah hl;rw[hl]at HC lK;have hidx:∀x,x∈bM l->dB (bM l) x<(bM l).length:=fun x hx=>VP hx;have KZ:=ah hidx;clear xU hsz hmem hdi hs hl hidx;generalize aQ l=T at *;generalize bM l=all at *;obtain ⟨m,hm⟩:∃m,all.length=m:=⟨_,rfl⟩;have Hm:=ah hm;rw[hm]at HC xJ Hdi lK KZ;clear hm;go_enter Tryz.func122,Tryz.ntmps122;go_wp2_with fail;with_reducible refine Hdi.out.mono ?_
 rintro e w0 ⟨v0,rfl,o0⟩;obtain ⟨Aa,ca,rfl,hca,_⟩:=o0.form;have ra:=o0.rd;have n0:=o0.nx;have hl0:=ak.lit w0 w0 5 (Ch.refl _ w0) 1;have Hu:=ah (fun (w:World) (v:Value) (X:List Nat) (m:Nat) (o:ak w0 w 5 1 v X.length (bl X)) (h1:X.length<=100000000) (h2:m<=9223372036854775807)=>tV w0 w v X m o h1 h2);clear Hdi o0;go_wp2_with fail;with_reducible refine (Hu.out _ _ [] m hl0 (by simp) (by omega)).mono ?_
 rintro e w1 ⟨k1,cap1,rfl,o1,_,_,_,_⟩;have HO:Hid (bJ w0 w1 (.slice (some ⟨k1,0,none⟩) ([]++aj m).length cap1) T (kW (all.drop 0)++(aj n++bW all l))):=ah ⟨[]++aj m,o1,by rw[HC.out,List.drop_zero];simp only[List.append_assoc,List.nil_append]⟩;clear o1 hl0;go_wp2_with fail;go_loopw [4,17] (fun v i wr=>∃k:Nat,k<=m/\i=.int .i64 (k:Int)/\bJ w0 wr v T (kW (all.drop k)++(aj n++bW all l))) (fun _ i _=>m-(intOf i).toNat)
 case atStart=>exact ⟨0,Nat.zero_le _,rfl,HO.out⟩
 case round=>
  clear HO;obtain ⟨w4,rfl⟩:∃w4:World,w4=wr:=⟨_,rfl⟩;obtain ⟨k,hk,rfl,hout⟩:=hrel;obtain ⟨X,oX,eX,lX⟩:=hout.len;by_cases hlt:k<m
  ·have e1:=z2R (all:=all) (k:=k) (by rw[Hm.out];exact hlt)
   have hs1:=xJ.out k hlt;obtain ⟨ad,rfl,_,hcell⟩:=(ra.nx (by decide) oX.nx).2 (by omega);have hc0:=hcell k _ (Dy (by rw[Hm.out];exact hlt));rw[e1]at eX;have E:=ah eX;have hlen:=congrArg List.length eX;simp only[List.length_append,z09]at hlen;clear hcell e1 eX hout;generalize all.getD k ByteArray.empty=s at *;have hcall:=Hu.out w4 u4 X s.size oX (by omega) (by omega);have fin:∀v w,ak w0 w 5 1 v ((X++aj s.size).length+s.size) (bl (X++aj s.size++jg s))->bJ w0 w v T (kW (all.drop (k+1))++(aj n++bW all l)):=fun v w o=>⟨X++aj s.size++jg s,by rw[List.length_append,z09];exact o,by rw[←E.out];simp only[List.append_assoc]⟩;have Fin:=ah fin;have hlb:(X++aj s.size).length+s.size<=100000000:=by rw[List.length_append];omega
   clear fin E lX oX hlen;go_wp2_with fail;with_reducible refine hcall.mono ?_
   rintro e w5 ⟨k5,cap5,rfl,o5,_,_,_,_⟩;clear hcall;generalize X++aj s.size=X2 at *;go_wp2_with (at_builtin;(refine ZO rfl (.tmp 24) (.tmp 25) _ 9 rfl 5 i0 Tryz.underlying26 Tryz.underlying9 hi0 hz0 hz1 hz2 rfl o5 s rfl (by simp only[maxLen];omega) (by omega) ?_;intro v8 w8 o8;have Ho8:=ah (Fin.out v8 w8 o8);clear o8))
   go_roundw
   case rel=>exact ⟨k+1,by omega,by go_num,Ho8.out⟩
   case measure=>simp[intOf];omega
  ·obtain rfl:m=k:=by omega
   have e1:kW (all.drop m)=[]:=by
    rw[List.drop_of_length_le (by rw[Hm.out];omega)];rfl
   rw[e1,List.nil_append]at eX;have E:=ah eX;have hlen:=congrArg List.length eX;simp only[List.length_append]at hlen;have hcall:=Hu.out w4 u4 X n oX (by omega) (by omega);have fin:∀v w,ak w0 w 5 1 v (X++aj n).length (bl (X++aj n))->bJ w0 w v T (bW all (l.drop 0)):=fun v w o=>⟨X++aj n,o,by rw[←E.out,List.drop_zero];simp only[List.append_assoc]⟩;have Fin:=ah fin;clear fin E e1 eX hout lX oX hlen;go_wp2_with fail;with_reducible refine hcall.mono ?_
   rintro e w5 ⟨k5,cap5,rfl,o5,_,_,_,_⟩;have Ho5:=ah (Fin.out _ w5 o5);rw[List.length_append]at Ho5;clear hcall o5 Fin;go_wp2_with fail;go_loopw [4,7,34] (fun v r i wr=>∃k q:Nat,k<=n/\q<=k/\i=.int .i64 (k:Int)/\r=.int .i64 (q:Int)/\bJ w0 wr v T (bW all (l.drop (k-q)))/\Hid (∀j,j<q->l.getD (k-q+j) ByteArray.empty=l.getD (k-q) ByteArray.empty)/\Hid (0<q->k<n/\l.getD k ByteArray.empty=l.getD (k-q) ByteArray.empty)) (fun _ _ i _=>n-(intOf i).toNat)
   case atStart=>exact ⟨0,0,Nat.zero_le _,Nat.le_refl _,rfl,rfl,Ho5.out,ah fun j hj=>by omega,ah fun h=>by omega⟩
   case round=>
    clear Ho5;obtain ⟨w8,rfl⟩:∃w8:World,w8=wr:=⟨_,rfl⟩;obtain ⟨k,q,hk,hqk,rfl,rfl,hout,H1,H2⟩:=hrel;obtain ⟨Y,oY,eY,lY⟩:=hout.len;by_cases hlt:k<n
    ·have hyx:l.getD k ByteArray.empty=l.getD (k-q) ByteArray.empty:=by
      rcases Nat.eq_zero_or_pos q with h|h
      ·rw[h,Nat.sub_zero]
      ·exact (H2.out h).2
     have hall:∀j,j<q+1->l.getD (k-q+j) ByteArray.empty=l.getD (k-q) ByteArray.empty:=fun j hj=>by
      by_cases e:j=q
      ·rw[e,show k-q+q=k by omega];exact hyx
      ·exact H1.out j (by omega)
     obtain ⟨ad,rfl,_,hcell⟩:=((hr.nx (by decide) n0).nx (by decide) oY.nx).2 (by omega);have Yb:=ah (fun j (hj:j<n)=>hcell j _ (Dy (by rw[Hl.out];exact hj)));have ck:=Yb.out k hlt;have kw:IntKind.i64.wrap ((n:Int)-1)=(n:Int)-1:=IntWalk.i64_in _ (by omega);have kw2:IntKind.i64.wrap ((k:Int)+1)=(k:Int)+1:=IntWalk.i64_in _ (by omega);have kw3:IntKind.i64.wrap ((q:Int)+1)=(q:Int)+1:=IntWalk.i64_in _ (by omega)
     have key:(k+1<n/\l.getD (k+1) ByteArray.empty=l.getD (k-q) ByteArray.empty)∨(k+1<n/\l.getD (k+1) ByteArray.empty≠l.getD (k-q) ByteArray.empty)∨k+1=n:=by
      by_cases h1:k+1<n
      ·by_cases h2:l.getD (k+1) ByteArray.empty=l.getD (k-q) ByteArray.empty
       ·exact .inl ⟨h1,h2⟩
       ·exact .inr (.inl ⟨h1,h2⟩)
      ·exact .inr (.inr (by omega))
     clear hcell;rcases key with ⟨h1,h2⟩|⟨h1,h2⟩|h1
     ·have ck1:=Yb.out (k+1) h1
      rw[h2]at ck1;rw[hyx]at ck;have q1:((k:Int)==(n:Int)-1)=false:=by rw[beq_eq_false_iff_ne];omega
      have q2:((k:Int)+1).toNat=k+1:=by omega
      have hA:ad.add (k+1)=⟨ad.block,ad.off+(k+1),none⟩:=by
       unfold Addr.add;rw[if_neg (by omega)]
      rw[hA]at ck1;clear hA;have q3:(0:Int)<=(k:Int)+1:=(by omega);have q4:(k:Int)+1<(n:Int):=(by omega);have hq:((l.getD (k-q) ByteArray.empty).toList==(l.getD (k-q) ByteArray.empty).toList)=true:=(by simp);have HA:Hid (∀j,j<q+1->l.getD (k+1-(q+1)+j) ByteArray.empty=l.getD (k+1-(q+1)) ByteArray.empty):=ah fun j hj=>by rw[show k+1-(q+1)=k-q by omega];exact hall j hj
      have HB:Hid (0<q+1->k+1<n/\l.getD (k+1) ByteArray.empty=l.getD (k+1-(q+1)) ByteArray.empty):=ah fun _=>⟨h1,by rw[show k+1-(q+1)=k-q by omega];exact h2⟩;have hO:∀z,bJ w0 (w8.drewN z) u4 T (bW all (l.drop (k+1-(q+1)))):=fun z=>⟨Y,oY.drewN z,by rw[show k+1-(q+1)=k-q by omega];exact eY⟩;have HO:=ah hO;clear h2 hyx hall hO eY hout lY H1 H2;generalize l.getD (k-q) ByteArray.empty=x at *;go_wp2_with fail;go_quiet (fail)
      go_wp2_with fail;go_roundw
      case rel=>exact ⟨k+1,q+1,by omega,by omega,by go_num,by go_num,HO.out _,HA,HB⟩
      case measure=>simp[intOf];omega
     ·have hor:k-q+(q+1)=l.length∨l.getD (k-q+(q+1)) ByteArray.empty≠l.getD (k-q) ByteArray.empty:=.inr (by rw[show k-q+(q+1)=k+1 by omega];exact h2)
      have step:=ZM (all:=all) (l:=l) (at_:=k-q) (n:=q+1) (by omega) (by rw[Hl.out];omega) hall hor;rw[step]at eY;have hlen:=congrArg List.length eY;simp only[List.length_append]at hlen;have E:=ah eY;have hx:=mF.out (k-q) (by omega);have hix:=KZ.out _ hx;rw[show k-q+(q+1)=k+1 by omega]at E;have hpl:=fun (w:World) (nx:Nx w0 w)=>tX _ Aa m ca all (l.getD (k-q) ByteArray.empty) w (ra.nx (by decide) nx) Hm.out (by omega) hx;have Hpl:=ah hpl;have fin:∀v w,ak w0 w 5 1 v (Y++aj (dB all (l.getD (k-q) ByteArray.empty))++aj (q+1)).length (bl (Y++aj (dB all (l.getD (k-q) ByteArray.empty))++aj (q+1)))->bJ w0 w v T (bW all (l.drop (k+1-0))):=fun v w o=>⟨_,o,by rw[←E.out,Nat.sub_zero];simp only[List.append_assoc]⟩;have Fin:=ah fin;have nY:=oY.nx;have hYb:Y.length+(aj (dB all (l.getD (k-q) ByteArray.empty))).length<=100000000:=(by omega);clear fin hpl E step eY hx hlen hall lY hout H1 H2;generalize dB all (l.getD (k-q) ByteArray.empty)=ix at *;have ck1:=Yb.out (k+1) h1;have hq:((l.getD (k+1) ByteArray.empty).toList==(l.getD (k-q) ByteArray.empty).toList)=false:=by rw[QM];exact decide_eq_false h2
      have q1:((k:Int)==(n:Int)-1)=false:=by rw[beq_eq_false_iff_ne];omega
      have q2:((k:Int)+1).toNat=k+1:=by omega
      have hA:ad.add (k+1)=⟨ad.block,ad.off+(k+1),none⟩:=by
       unfold Addr.add;rw[if_neg (by omega)]
      rw[hA]at ck1;clear hA;have q3:(0:Int)<=(k:Int)+1:=(by omega);have q4:(k:Int)+1<(n:Int):=(by omega);clear h2 hor;generalize l.getD (k+1) ByteArray.empty=y at *;rw[hyx]at ck;generalize l.getD (k-q) ByteArray.empty=x at *;go_wp2_with fail;go_quiet (fail)
      go_wp2_with fail;with_reducible refine (Hpl.out _ (nY.drewN _)).mono ?_
      rintro e w9 ⟨rfl,rfl⟩;go_wp2_with fail;with_reducible refine (Hu.out _ _ Y ix (oY.drewN _) (by omega) (by omega)).mono ?_
      rintro e w10 ⟨k10,BJ,rfl,o10,_,_,_,_⟩;go_wp2_with fail;rw[List.length_append]at o10;with_reducible refine (MK w0 _ _ (Y++aj ix) (q+1) _ ((q:Int)+1) List.length_append (by omega) o10 (by omega) (by omega)).mono ?_
      rintro e w11 ⟨k11,Vw,rfl,o11,_,_,_,_⟩;have Ho11:=ah (Fin.out _ w11 (by rw[List.length_append,List.length_append];exact o11));clear o10 o11 Fin Hpl;go_wp2_with fail;go_roundw
      case rel=>exact ⟨k+1,0,by omega,by omega,by go_num,rfl,Ho11.out,ah fun j hj=>by omega,ah fun h=>by omega⟩
      case measure=>simp[intOf];omega
     ·have hor:k-q+(q+1)=l.length∨l.getD (k-q+(q+1)) ByteArray.empty≠l.getD (k-q) ByteArray.empty:=.inl (by rw[Hl.out];omega)
      have step:=ZM (all:=all) (l:=l) (at_:=k-q) (n:=q+1) (by omega) (by rw[Hl.out];omega) hall hor;rw[step]at eY;have hlen:=congrArg List.length eY;simp only[List.length_append]at hlen;have E:=ah eY;have hx:=mF.out (k-q) (by omega);have hix:=KZ.out _ hx;rw[show k-q+(q+1)=k+1 by omega]at E;have hpl:=fun (w:World) (nx:Nx w0 w)=>tX _ Aa m ca all (l.getD (k-q) ByteArray.empty) w (ra.nx (by decide) nx) Hm.out (by omega) hx;have Hpl:=ah hpl;have fin:∀v w,ak w0 w 5 1 v (Y++aj (dB all (l.getD (k-q) ByteArray.empty))++aj (q+1)).length (bl (Y++aj (dB all (l.getD (k-q) ByteArray.empty))++aj (q+1)))->bJ w0 w v T (bW all (l.drop (k+1-0))):=fun v w o=>⟨_,o,by rw[←E.out,Nat.sub_zero];simp only[List.append_assoc]⟩;have Fin:=ah fin;have nY:=oY.nx;have hYb:Y.length+(aj (dB all (l.getD (k-q) ByteArray.empty))).length<=100000000:=(by omega);clear fin hpl E step eY hx hlen hall lY hout H1 H2;generalize dB all (l.getD (k-q) ByteArray.empty)=ix at *;have q1:((k:Int)==(n:Int)-1)=true:=by rw[beq_iff_eq];omega
      clear hor;rw[hyx]at ck;generalize l.getD (k-q) ByteArray.empty=x at *;go_wp2_with fail;go_quiet (fail)
      go_wp2_with fail;with_reducible refine (Hpl.out _ (nY.drewN _)).mono ?_
      rintro e w9 ⟨rfl,rfl⟩;go_wp2_with fail;with_reducible refine (Hu.out _ _ Y ix (oY.drewN _) (by omega) (by omega)).mono ?_
      rintro e w10 ⟨k10,BJ,rfl,o10,_,_,_,_⟩;go_wp2_with fail;rw[List.length_append]at o10;with_reducible refine (MK w0 _ _ (Y++aj ix) (q+1) _ ((q:Int)+1) List.length_append (by omega) o10 (by omega) (by omega)).mono ?_
      rintro e w11 ⟨k11,Vw,rfl,o11,_,_,_,_⟩;have Ho11:=ah (Fin.out _ w11 (by rw[List.length_append,List.length_append];exact o11));clear o10 o11 Fin Hpl;go_wp2_with fail;go_roundw
      case rel=>exact ⟨k+1,0,by omega,by omega,by go_num,rfl,Ho11.out,ah fun j hj=>by omega,ah fun h=>by omega⟩
      case measure=>simp[intOf];omega
    ·obtain rfl:n=k:=by omega
     have hq0:q=0:=by
      rcases Nat.eq_zero_or_pos q with h|h
      ·exact h
      ·exact absurd (H2.out h).1 (by omega)
     subst hq0;have e1:bW all (l.drop (n-0))=[]:=(by rw[List.drop_of_length_le (by rw[Hl.out];omega),Rq]);rw[e1,List.append_nil]at eY;subst eY;clear hout e1;go_wp2_with fail;go_ret;have hf:=gQ.ji oY hpos;obtain ⟨k9,xC,he9,o9,h1,h2,h3,h4⟩:=hf;exact ⟨k9,xC,he9,⟨jM o9.own n0.size,n0.tr o9.nx⟩,Nat.le_trans n0.size h1,h2,h3,h4⟩
theorem Uw (l:List Bool):R2.kQ l=lu l:=rfl
theorem yT (D:Nat->Prop) (A:Option Addr) (n c:Nat) (l:List Bool) (W:World) (hr:Rd W D 1 A n (lu l)) (hl:l.length=n) (hn:n<=2048) (hc:n<=c) (hcm:c<=9223372036854775807):
 Calls Tryz.prog 124 #[.slice A n c] W (gQ W 5 1 (aP l).length (bl (aP l))):=by
 obtain ⟨i0,hi0,hz0,hz1,hz2⟩:=info_parts Tryz.info5;have hby:=fun w (nx:Nx W w)=>R2.tZ D A n c l w (by rw[Uw];exact hr.nx (by decide) nx) hl (by omega) hc hcm;have CG:=ah hby;have hfl:=VU (l:=l) (by omega);have HE:Hid (aP l=[]++aj l.length++pack l):=ah (by rw[List.nil_append];rfl);have h0:=ak.lit W W 5 (Ch.refl _ W) 1;have Hu:=ah (tV W _ _ [] n h0 (by simp) (by omega));have hlen:=congrArg List.length HE.out;rw[List.length_append]at hlen;rw[hl]at HE hlen;have hpl:=z04 (n:=n) (by omega);have hp2:([]++aj n).length=(aj n).length:=rfl;have hb1:([]++aj n).length+(pack l).length<=400:=by omega
 have hpos:0<([]++aj n).length+(pack l).length:=by omega
 have HL:=ah hlen;clear hby hl hr h0 hlen hfl hp2;generalize aP l=T at *;generalize pack l=pk at *;generalize []++aj n=X at *;go_enter Tryz.func124,Tryz.ntmps124;go_wp2_with fail;with_reducible refine Hu.out.mono ?_
 rintro e w1 ⟨k1,cap1,rfl,o1,_,_,_,_⟩;go_wp2_with fail;with_reducible refine (CG.out _ o1.nx).mono ?_
 rintro e w2 ⟨k2,cap2,rfl,o2,_,_,_,_⟩;have oX:=o1.tr o2.nx;have r2:=o2.iy;clear o1 o2 CG Hu;go_wp2_with (at_builtin;refine z05 rfl (.tmp 6) (.tmp 8) _ rfl 5 i0 _ 1 1 Tryz.underlying26 hi0 hz0 hz1 hz2 rfl (by omega) rfl oX _ (some ⟨k2,0,none⟩) pk.length cap2 (bl pk) rfl r2 (iL _) (by simp only[maxLen];omega) (by omega) ?_;intro v3 w3 o3 m3)
 go_ret;rw[HL.out,HE.out,show bl (X++pk)=bl X++bl pk by simp[bl]];exact gQ.ji o3 hpos
theorem ZK (D:Nat->Prop) (A:Option Addr) (n c kind:Nat) (xs:List Nat) (W:World) (hr:Rd W D 1 A n (bl xs)) (ok:okB xs) (hl:xs.length=n) (hc:n<=c) (hn:n<=65535) (hk:kind<256):
 Calls Tryz.prog 120 #[.int .i64 (kind:Int),.slice A n c] W (gQ W 5 1 (ay kind xs).length (bl (ay kind xs))):=by
 obtain ⟨i0,hi0,hz0,hz1,hz2⟩:=info_parts Tryz.info5;subst hl;have Tn:=z4M hk ok (by omega);have hdl:=uP xs;have hcl:=qx (kind:=kind) (xs:=xs) (by omega);have HI:Hid (lH kind xs=[kind,gU xs]++aj xs.length++gB xs):=ah rfl;have HF:Hid (gU xs=if (cZ xs).length<xs.length then 1 else 0):=ah rfl;have HB:Hid (gB xs=if (cZ xs).length<xs.length then cZ xs else xs):=ah rfl;have hdf:=wI D A c xs W hr ok hc hn;unfold Ir at hdf
 have ku:IntKind.u8.wrap (kind:Int)=(kind:Int):=by
  have:IntKind.u8.wrap (kind:Int)=(kind:Int) % 256:=by simp[IntKind.wrap,IntKind.bits,IntKind.signed]
  omega
 have uI:=fun (w w':World) (A':Option Addr) (c':Nat) (D':Nat->Prop) (h:Rd w' D' 1 A' (lH kind xs).length (bl (lH kind xs)))=>yP D' A' _ c' (lH kind xs) w' h Tn rfl (by
  have:(ay kind xs).length=(lH kind xs).length+4:=by unfold ay;rw[Iz]
  omega)
 have hcf:dR (lH kind xs)=ay kind xs:=rfl;rw[hcf]at uI;have BU:=ah uI;have Zn:=ah hdf
 have fin:∀(w5:World) (v5:Value),ak W w5 5 1 v5 (lH kind xs).length (bl (lH kind xs))->v5.ownBlock≠none->∃k cap,v5=.slice (some ⟨k,0,none⟩) (lH kind xs).length cap/\
  Calls Tryz.prog 126 #[.slice (some ⟨k,0,none⟩) (lH kind xs).length cap] w5 (gQ W 5 1 (ay kind xs).length (bl (ay kind xs))):=fun w5 v5 o hb=>by
  obtain ⟨k,cap,hv,o4,hk1,hk2,_,_⟩:=gQ.rJ o hb;injection hv with hv;subst hv;refine ⟨k,cap,rfl,(BU.out w5 w5 _ cap _ o4.iy).mono ?_⟩;rintro e w6 ⟨k6,cap6,rfl,o6,h1,h2,h3,h4⟩;exact ⟨k6,cap6,rfl,⟨jM o6.own o4.nx.size,o4.nx.tr o6.nx⟩,Nat.le_trans o4.nx.size h1,h2,h3,h4⟩
 have Fin:=ah fin;clear fin uI hdf hcf Tn hcl;have hpl:=z04 (n:=xs.length) (by omega);by_cases hlt:(cZ xs).length<xs.length
 ·have HF1:Hid (gU xs=1):=ah (by rw[HF.out,if_pos hlt])
  have HB1:Hid (gB xs=cZ xs):=ah (by rw[HB.out,if_pos hlt]);rw[HF1.out,HB1.out]at HI;clear HF HB HF1 HB1 BU;generalize cZ xs=ds at *;have hq:¬((xs.length:Int)<=(ds.length:Int)):=by omega
  go_enter Tryz.func120,Tryz.ntmps120;go_wp2_with fail;with_reducible refine Zn.out.mono ?_
  rintro e w1 ⟨A1,c1,rfl,⟨D1,hr1⟩,n1⟩;have o0:ak w1 (w1.alloc (.cells #[.int .u8 (kind:Int),.int .u8 1] 5)) 5 1 (.slice (some ⟨w1.heap.size,0,none⟩) 2 2) [kind,1].length (bl [kind,1]):=⟨YS w1 _ _ 1 _ 2 (Nat.le_refl _) (by simp[maxLen]) (by simp),(Ch.refl _ w1).alloc _⟩;have eP:=ah (tV w1 _ _ [kind,1] xs.length o0 (by simp) (by omega));have Zk:([kind,1]++aj xs.length).length<=100:=by simp only[List.length_append,List.length_cons,List.length_nil];omega
  have hXp:0<([kind,1]++aj xs.length).length:=by simp only[List.length_append,List.length_cons,List.length_nil];omega
  clear o0;generalize [kind,1]++aj xs.length=X at *;go_wp2_with fail;with_reducible refine eP.out.mono ?_
  rintro e w2 ⟨k2,cap2,rfl,o2,_,_,_,_⟩;have Xr:=hr1.nx (by decide) o2.nx;have oW:ak W w2 5 1 (.slice (some ⟨k2,0,none⟩) X.length cap2) X.length (bl X):=⟨jM o2.own n1.size,n1.tr o2.nx⟩;clear eP Zn o2;go_wp2_with (at_builtin;refine z05 rfl (.tmp 24) (.tmp 25) _ rfl 5 i0 _ 1 1 Tryz.underlying26 hi0 hz0 hz1 hz2 rfl (by omega) rfl oW _ A1 ds.length c1 (bl ds) rfl Xr (iL _) (by simp only[maxLen];omega) (by omega) ?_;intro v5 w5 o5 m5;obtain ⟨k5,cap5,hv5,hcall⟩:=Fin.out w5 v5 (by rw[HI.out,List.length_append,show bl (X++ds)=bl X++bl ds by simp[bl]];exact o5) (Moved.some_ (v:=.slice (some ⟨k2,0,none⟩) X.length cap2) m5 (by simp[Value.ownBlock]));rw[hv5])
  with_reducible refine hcall.mono ?_
  rintro e w6 ⟨k6,cap6,rfl,o6,h61,h62,h63,h64⟩;go_wp2_with fail;go_ret;exact ⟨k6,cap6,rfl,o6,h61,h62,h63,h64⟩
 ·have HF1:Hid (gU xs=0):=ah (by rw[HF.out,if_neg hlt])
  have HB1:Hid (gB xs=xs):=ah (by rw[HB.out,if_neg hlt]);rw[HF1.out,HB1.out]at HI;clear HF HB HF1 HB1 BU;generalize cZ xs=ds at *;have hq:((xs.length:Int)<=(ds.length:Int)):=by omega
  go_enter Tryz.func120,Tryz.ntmps120;go_wp2_with fail;with_reducible refine Zn.out.mono ?_
  rintro e w1 ⟨A1,c1,rfl,⟨D1,hr1⟩,n1⟩;have o0:ak w1 (w1.alloc (.cells #[.int .u8 (kind:Int),.int .u8 0] 5)) 5 1 (.slice (some ⟨w1.heap.size,0,none⟩) 2 2) [kind,0].length (bl [kind,0]):=⟨YS w1 _ _ 1 _ 2 (Nat.le_refl _) (by simp[maxLen]) (by simp),(Ch.refl _ w1).alloc _⟩;have eP:=ah (tV w1 _ _ [kind,0] xs.length o0 (by simp) (by omega));have Zk:([kind,0]++aj xs.length).length<=100:=by simp only[List.length_append,List.length_cons,List.length_nil];omega
  have hXp:0<([kind,0]++aj xs.length).length:=by simp only[List.length_append,List.length_cons,List.length_nil];omega
  clear o0;generalize [kind,0]++aj xs.length=X at *;go_wp2_with fail;with_reducible refine eP.out.mono ?_
  rintro e w2 ⟨k2,cap2,rfl,o2,_,_,_,_⟩;have Xr:=hr.nx (by decide) (n1.tr o2.nx);have oW:ak W w2 5 1 (.slice (some ⟨k2,0,none⟩) X.length cap2) X.length (bl X):=⟨jM o2.own n1.size,n1.tr o2.nx⟩;clear eP Zn o2;go_wp2_with (at_builtin;refine z05 rfl (.tmp 24) (.tmp 25) _ rfl 5 i0 _ 1 1 Tryz.underlying26 hi0 hz0 hz1 hz2 rfl (by omega) rfl oW _ A xs.length c (bl xs) rfl Xr (iL _) (by simp only[maxLen];omega) (by omega) ?_;intro v5 w5 o5 m5;obtain ⟨k5,cap5,hv5,hcall⟩:=Fin.out w5 v5 (by rw[HI.out,List.length_append,show bl (X++xs)=bl X++bl xs by simp[bl]];exact o5) (Moved.some_ (v:=.slice (some ⟨k2,0,none⟩) X.length cap2) m5 (by simp[Value.ownBlock]));rw[hv5])
  with_reducible refine hcall.mono ?_
  rintro e w6 ⟨k6,cap6,rfl,o6,h61,h62,h63,h64⟩;go_wp2_with fail;go_ret;exact ⟨k6,cap6,rfl,o6,h61,h62,h63,h64⟩
theorem Kw (D:Nat->Prop) (A:Option Addr) (n c:Nat) (l:List ByteArray) (W:World) (hr:Rd W D 1 A n (bl (ay 3 (aU l)))) (hl:(ay 3 (aU l)).length=n) (hn:l.length<=2048) (hs:∀s∈l,s.size<=1024) (hC:(aU l).length<=65536)
 (hcont:Calls Tryz.prog 197 #[.int .u8 3,.slice A n c] W (QC W (aU l))):
 Calls Tryz.prog 136 #[.int .u8 3,.slice A n c,.func (.func 138) #[] #[],.func (.func 101) #[] #[]] W (nC W l):=by
 have hput:=fun (D:Nat->Prop) (A:Option Addr) (c:Nat) (w:World) (h:Rd w D 1 A l.length (b_ l)) (hc:l.length<=c)=>z3W D A l.length c l w h rfl hn hs hc hC;have hcl:=fun (D:Nat->Prop) (g:Nat) (A:Option Addr) (c:Nat) (w:World) (h:aW w D g A c (aU l) 0 0)=>Fb D g A c l w h hn hs;have hstr:=fun (D:Nat->Prop) (A:Option Addr) (c:Nat) (w:World) (h:Rd w D 1 A n (bl (ay 3 (aU l))))=>vI (P:=Tryz.prog) w 26 9 5 Tryz.underlying26 Tryz.underlying5 Tryz.underlying9 D A n c _ h;have FD:=ah hput;have Ll:=ah hcl;have jA:=ah hstr;have Hc:=ah hcont;clear hput hcl hstr hcont;generalize aU l=fc at *;generalize ay 3 fc=ch at *;subst hl;go_enter Tryz.func136,Tryz.ntmps136;go_wp2_with fail;with_reducible refine Hc.out.mono ?_
 rintro e w1 ⟨g,A1,c1,D1,rfl,cu1,n1,hg,hD1⟩;go_wp2_with fail;with_reducible refine (Ll.out _ _ _ _ _ cu1).mono ?_
 rintro e w2 ⟨v2,rfl,o2,cu2,c2⟩;have n2:Nx W w2:=n1.trans c2 fun i hi e=>by omega
 have hs1:=n1.size;have WR:ak W w2 9 1 v2 l.length (b_ l):=⟨jM o2 hs1,n2⟩;obtain ⟨A2,cc2,rfl,JV,_⟩:=z08 o2;have hen:=Iu cu2;rw[show dh fc.length fc.length 0=0 by unfold dh;rw[if_neg (by simp),if_neg (by omega)]]at hen;have lS:=ah hen;clear hen o2 c2 cu1 cu2;go_wp2_with fail;with_reducible refine lS.out.mono ?_
 rintro e w3 ⟨rfl,d3⟩;have o3:=WR.tr d3.nx;clear d3 lS;go_wp2_with fail;with_reducible refine (FD.out _ _ _ _ o3.rd JV).mono ?_
 rintro e w4 ⟨k4,cap4,rfl,o4,h4⟩;have o5:=o3.tr o4.nx;have n5:=o5.nx;have e1:=jA.out _ _ cap4 w4 o4.iy;have e2:=jA.out D A c w4 (hr.nx (by decide) n5);generalize bf ch=sx at *;go_wp2_with fail;go_ret2;exact ⟨_,rfl,o5⟩
theorem KD (D:Nat->Prop) (A:Option Addr) (n c:Nat) (l:List ByteArray) (W:World) (hr:Rd W D 1 A n (bl (ay 3 (aU l)))) (hl:(ay 3 (aU l)).length=n) (hn:l.length<=2048) (hs:∀s∈l,s.size<=1024) (hC:(aU l).length<=65536)
 (hcont:Calls Tryz.prog 197 #[.int .u8 3,.slice A n c] W (QC W (aU l))):
 Calls Tryz.prog 63 #[.slice A n c] W (nC W l):=by
 have Hr:=ah (Kw D A n c l W hr hl hn hs hC hcont);clear hr hcont hl;go_enter Tryz.func63,Tryz.ntmps63;go_wp2_with fail;with_reducible refine Hr.out.mono ?_
 rintro e w1 ⟨v,rfl,h⟩;go_wp2_with fail;go_ret2;exact ⟨_,rfl,h⟩
theorem xA (D:Nat->Prop) (A:Option Addr) (n c:Nat) (l:List Int) (w:Nat) (hw:w<=2) (W:World) (hr:Rd W D 1 A n (bl (bC l w))) (hl:(bC l w).length=n) (hc:n<=c) (he:aJ l=0):
 Calls Tryz.prog 135 #[.slice A n c,.int .i64 (w:Int)] W (Ci W l):=by
 match w,hw with
 |0,_=>exact rQ D A n c l W hr hl hc he
 |1,_=>exact rP D A n c l W hr hl hc he
 |2,_=>exact rO D A n c l W hr hl hc he
theorem EZ {W w5 w6:World} {D:Nat->Prop} {g:Nat} {A:Option Addr} {c:Nat} {T:List Nat} {p:Nat} {u:Value} (cu:aW w5 D g A c T p 0) (hgl:g<W.heap.size) (lq:∀k,D k->k<W.heap.size) (c5:Ch (· =g) W w5)
 (hg:w5.grownBy w6 u.ownBlock) (hu:∀j,u.ownBlock=some j->W.heap.size<=j):aW w6 D g A c T p 0/\Ch (· =g) W w6:=by
 have c6:Ch (fun j=>u.ownBlock=some j) w5 w6:=(Ch.refl _ w5).grown hg fun j hj _=>hj;exact ⟨cu.ch c6 (fun e=>by have:=hu _ e;omega) (fun k hk e=>by have:=hu _ e;have:=lq k hk;omega),c5.trans c6 fun i hi e=>by have:=hu _ e;omega⟩
def abd (w:World) (D:Nat->Prop) (g:Nat) (A:Option Addr) (c:Nat) (xs:List Nat) (l:List Int) (e:Ending) (w':World):Prop:=
 ∃v,e=.returned v/\w'.ownsRow w.heap.size 2 1 v l.length (il l)/\aW w' D g A c xs xs.length 0/\Ch (· =g) w w'
theorem KE (D:Nat->Prop) (g:Nat) (A:Option Addr) (c:Nat) (l:List Int) (W:World) (h:aW W D g A c (aX l) 0 0) (he:aJ l=0):
 Calls Tryz.prog 134 #[.pointer (some ⟨g,0,none⟩)] W (abd W D g A c (aX l) l):=by
 obtain ⟨i0,hi0,hz0,hz1,hz2⟩:=info_parts Tryz.info5;have hd2:=UZ l;have hok:=YH he;have hTe:aX l=[bD l]++bC l (bD l):=rfl;have hil:=z14 he;have hll:=(xQ he).1;have hdec:=fun (D:Nat->Prop) (A:Option Addr) (c:Nat) (w:World) (h:Rd w D 1 A (bC l (bD l)).length (bl (bC l (bD l)))) (hc:(bC l (bD l)).length<=c)=>xA D A _ c l (bD l) hd2 w h rfl hc he;unfold Ci at hdec;have abj:=ah hdec;have hgl:=h.blk.lt;have lq:=h.bnd;have hb0:=VY h 1 (by omega);unfold Yz at hb0;have h1:((aX l).drop 0).take 1=[bD l]:=by rw[hTe];rfl
 rw[h1,Nat.zero_add]at hb0;have Hb0:=ah hb0;have hTl:(aX l).length=1+(bC l (bD l)).length:=by rw[hTe,List.length_append];rfl
 have hTd:∀k,k<(bC l (bD l)).length->((aX l).drop (1+k)).take 1=[(bC l (bD l)).getD k 0]:=fun k hk=>by
  rw[hTe,Nat.add_comm,show [bD l]++bC l (bD l)=bD l::bC l (bD l) from rfl,List.drop_succ_cons,List.drop_eq_getElem_cons hk,List.getD,List.getElem?_eq_getElem hk];rfl
 have HTd:=ah hTd;have hT1:(aX l).length<=1+(bC l (bD l)).length:=by omega
 have hT2:1+(bC l (bD l)).length<=(aX l).length:=by omega
 clear hdec hb0 h1 hTe hTd h hok he;have hEl:(bC l (bD l)).length<=1000000:=by omega
 clear hil hTl;generalize bC l (bD l)=E at *;generalize aX l=T at *;generalize bD l=d at *;have kd:IntKind.i64.wrap (d:Int)=(d:Int):=IntWalk.i64_in _ (by omega);go_enter Tryz.func134,Tryz.ntmps134;go_wp2_with fail;refine Hb0.out.mono ?_;rintro e w2 ⟨k2,cap2,rfl,t2,o2,hc2,hk2⟩;have hw2:=t2.lC.size;have c20:w2.cell? ⟨k2,0,none⟩=some (.int .u8 (d:Int)):=o2.cellAt 0 (by omega);have hk2l:k2<w2.heap.size:=(o2.lt k2 rfl).2;have Xx:g<w2.heap.size:=by omega
 have aaG:∀k,D k->k<w2.heap.size:=fun k hk=>by have:=lq k hk;omega
 have t2c:=t2.cur;have t2g:=t2.lC;clear Hb0 t2 o2;go_wp2_with fail;go_loopw [4] (fun v wr=>∃k:Nat,k<=E.length/\aW wr D g A c T (1+k) 0/\wr.ownsRow w2.heap.size 5 1 v k (bl (E.take k))/\Ch (· =g) w2 wr) (fun v _=>E.length-Gj v)
 case atStart=>exact ⟨0,Nat.zero_le _,t2c,World.ownsRow_nil _ _ _ _,Ch.refl _ _⟩
 case round=>
  clear t2c;obtain ⟨w4,rfl⟩:∃w4:World,w4=wr:=⟨_,rfl⟩;obtain ⟨k,hk,cu4,o4,c4⟩:=hrel;obtain ⟨A4,c4',rfl,hc4,_⟩:=z08 o4;have hen:=Iu cu4;by_cases hlt:k<E.length
  ·rw[show dh T.length (1+k) 0=5 by unfold dh;rw[if_neg (by simp),if_pos (by omega)]]at hen
   have lS:=ah hen;have HS:=ah (show bl (E.take (k+1))=bl (E.take k)++bl [E.getD k 0] by rw[List.take_succ_eq_append_getElem hlt,List.getD,List.getElem?_eq_getElem hlt];unfold bl;rw[List.map_append];rfl);have hx:=HTd.out k hlt;clear hen;generalize E.getD k 0=x at *;go_wp2_with fail;refine lS.out.mono ?_;rintro e w5 ⟨rfl,d5⟩;have cu5:=cu4.nx d5.nx;have o5:=iq o4 d5.nx (fun _ _ hf=>hf);have c5:=c4.tr d5.nx;have hby:=VY cu5 1 (by omega);unfold Yz at hby;rw[hx]at hby;have CG:=ah hby;have hw5:=c5.size;clear hby hx cu4 o4 c4 d5 lS;go_wp2_with fail;refine CG.out.mono ?_;rintro e w6 ⟨k6,cap6,rfl,t6,o6,hc6,hk6⟩;have hu:∀j,(Value.slice A4 k c4').ownBlock=some j->w2.heap.size<=j:=fun j hj=>(o5.lt j hj).1;have o56:=iq o5 t6.lC (fun j hj e=>by have:=hu j hj;omega);have c6:Ch (· =g) w2 w6:=c5.trans t6.lC fun _ _ e=>e;have hw6:=c6.size;have r6:=Rd.fH o6;have one:∀(v':Value) (w8:World),w6.grownBy w8 (Value.slice A4 k c4').ownBlock->aW w8 D g A c T (1+k+1) 0/\Ch (· =g) w2 w8:=fun v' w8 hg=>EZ t6.cur Xx aaG c6 hg hu;have One:=ah one;clear one t6 o6 o5 c5 c6 CG hu;go_wp2_with (at_builtin;refine z07 _ rfl (.tmp 12) (.tmp 14) _ rfl w2.heap.size 5 i0 _ 1 1 Tryz.underlying26 hi0 hz0 hz1 hz2 rfl (by omega) _ k (bl (E.take k)) rfl o56 _ (some ⟨k6,0,none⟩) 1 cap6 (bl [x]) rfl r6 (iL _) (by simp only[maxLen];omega) (by omega) (by omega) ?_;intro v' w8 h2 h3 h4)
   obtain ⟨A8,c8',rfl,_,_⟩:=z08 h2;go_roundw
   case rel=>
    obtain ⟨q1,q2⟩:=One.out (.slice A8 (k+1) c8') w8 h3;exact ⟨k+1,by omega,q1,by rw[HS.out];exact h2,q2⟩
   case measure=>simp[Gj];omega
  ·obtain rfl:E.length=k:=by omega
   rw[show dh T.length (1+E.length) 0=0 by unfold dh;rw[if_neg (by simp),if_neg (by omega)]]at hen;have lS:=ah hen;rw[List.take_length]at o4;have hTk:1+E.length=T.length:=(by omega);rw[hTk]at cu4;clear hen hTk;go_wp2_with fail;refine lS.out.mono ?_;rintro e w5 ⟨rfl,d5⟩;have cu5:=cu4.nx d5.nx;have o5:=iq o4 d5.nx (fun _ _ hf=>hf);have c5:=c4.tr d5.nx;have hk2g:k2≠g:=(by omega);have c50:w5.cell? ⟨k2,0,none⟩=some (.int .u8 (d:Int)):=(c5.cell hk2l hk2g).trans c20;have hcall:=abj.out _ A4 c4' w5 (Rd.fH o5) hc4;have hw5:=c5.size;clear lS cu4 o4 c4 d5 abj o5;go_wp2_with fail;with_reducible refine hcall.mono ?_
   rintro e w6 ⟨v6,rfl,o6⟩;go_wp2_with fail;go_ret;exact ⟨v6,rfl,jM o6.own (by omega),cu5.nx o6.nx,t2g.trans (c5.tr o6.nx) fun _ _ e=>e⟩
def Qq (W:World) (l:List Int) (e:Ending) (w':World):Prop:=
 ∃v,e=.returned (.tuple #[v,.int .i64 0])/\ak W w' 2 1 v l.length (il l)
theorem Kz (D:Nat->Prop) (A:Option Addr) (n c:Nat) (l:List Int) (W:World) (hr:Rd W D 1 A n (bl (ay 1 (aX l)))) (hl:(ay 1 (aX l)).length=n) (hr0:aJ l=0)
 (hcont:Calls Tryz.prog 197 #[.int .u8 1,.slice A n c] W (QC W (aX l))):
 Calls Tryz.prog 133 #[.int .u8 1,.slice A n c,.func (.func 134) #[] #[],.func (.func 97) #[] #[]] W (Qq W l):=by
 have hput:=fun (D:Nat->Prop) (A:Option Addr) (c:Nat) (w:World) (h:Rd w D 1 A l.length (il l))=>z57 D A l.length c l w h rfl hr0;have hcl:=fun (D:Nat->Prop) (g:Nat) (A:Option Addr) (c:Nat) (w:World) (h:aW w D g A c (aX l) 0 0)=>KE D g A c l w h hr0;have hstr:=fun (D:Nat->Prop) (A:Option Addr) (c:Nat) (w:World) (h:Rd w D 1 A n (bl (ay 1 (aX l))))=>vI (P:=Tryz.prog) w 26 9 5 Tryz.underlying26 Tryz.underlying5 Tryz.underlying9 D A n c _ h;have FD:=ah hput;have Ll:=ah hcl;have jA:=ah hstr;have Hc:=ah hcont;clear hput hcl hstr hcont;generalize aX l=fc at *;generalize ay 1 fc=ch at *;subst hl;go_enter Tryz.func133,Tryz.ntmps133;go_wp2_with fail;with_reducible refine Hc.out.mono ?_
 rintro e w1 ⟨g,A1,c1,D1,rfl,cu1,n1,hg,hD1⟩;go_wp2_with fail;with_reducible refine (Ll.out _ _ _ _ _ cu1).mono ?_
 rintro e w2 ⟨v2,rfl,o2,cu2,c2⟩;have n2:Nx W w2:=n1.trans c2 fun i hi e=>by omega
 have hs1:=n1.size;have WR:ak W w2 2 1 v2 l.length (il l):=⟨jM o2 hs1,n2⟩;obtain ⟨A2,cc2,rfl,JV,_⟩:=z08 o2;have hen:=Iu cu2;rw[show dh fc.length fc.length 0=0 by unfold dh;rw[if_neg (by simp),if_neg (by omega)]]at hen;have lS:=ah hen;clear hen o2 c2 cu1 cu2;go_wp2_with fail;with_reducible refine lS.out.mono ?_
 rintro e w3 ⟨rfl,d3⟩;have o3:=WR.tr d3.nx;clear d3 lS;go_wp2_with fail;with_reducible refine (FD.out _ _ _ _ o3.rd).mono ?_
 rintro e w4 ⟨k4,cap4,rfl,o4,h4⟩;have o5:=o3.tr o4.nx;have n5:=o5.nx;have e1:=jA.out _ _ cap4 w4 o4.iy;have e2:=jA.out D A c w4 (hr.nx (by decide) n5);generalize bf ch=sx at *;go_wp2_with fail;go_ret2;exact ⟨_,rfl,o5⟩
theorem Px (D:Nat->Prop) (A:Option Addr) (n c:Nat) (l:List Int) (W:World) (hr:Rd W D 1 A n (bl (ay 1 (aX l)))) (hl:(ay 1 (aX l)).length=n) (hr0:aJ l=0)
 (hcont:Calls Tryz.prog 197 #[.int .u8 1,.slice A n c] W (QC W (aX l))):
 Calls Tryz.prog 61 #[.slice A n c] W (Qq W l):=by
 have Hr:=ah (Kz D A n c l W hr hl hr0 hcont);clear hr hcont hl;go_enter Tryz.func61,Tryz.ntmps61;go_wp2_with fail;with_reducible refine Hr.out.mono ?_
 rintro e w1 ⟨v,rfl,h⟩;go_wp2_with fail;go_ret2;exact ⟨_,rfl,h⟩
end Go.Proofs.YtpakjclpjcngmaaGreat
