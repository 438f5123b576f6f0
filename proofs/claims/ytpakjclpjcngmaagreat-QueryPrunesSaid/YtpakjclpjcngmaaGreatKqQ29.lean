/- Contracts and plain laws that the last text rests on. Conditions: each theorem states its own. -/
import Derived.Test.YtpakjclpjcngmaaGreatKqQ28
import Derived.Test.YtpakjclpjcngmaaGreatKqQ13
import Derived.Test.YtpakjclpjcngmaaGreatKqQ14
set_option maxRecDepth 100000
set_option maxHeartbeats 16000000
set_option linter.unusedVariables false
namespace Go.Proofs.YtpakjclpjcngmaaGreat.Fix
theorem take_snoc {xs:List Nat} {p:Nat} (h:p<xs.length):xs.take p++[xs.getD p 0]=xs.take (p+1):=by
 rw[List.take_succ_eq_append_getElem h];simp[List.getD,List.getElem?_eq_getElem h]
theorem IL {xs:List Nat} {d:Nat} (hd:1<=d):∀n p,d<=p->p+n<=xs.length->(∀j,j<n->xs.getD (p-d+j) 0=xs.getD (p+j) 0)->iH n d (xs.take p)=xs.take (p+n):=by
 intro n;induction n with
 |zero=>intro p _ _ _;rfl
 |succ n ih=>
  intro p hdp hl h;have hlen:(xs.take p).length=p:=by rw[List.length_take];omega
  have h0:=h 0 (by omega);simp only[Nat.add_zero]at h0
  have hget:(xs.take p).getD (p-d) 0=xs.getD p 0:=by
   rw[←h0];simp only[List.getD_eq_getElem?_getD];rw[List.getElem?_take,if_pos (by omega)]
  rw[iH,hlen,hget,take_snoc (by omega),ih (p+1) (by omega) (by omega) (fun j hj=>by
   have:=h (j+1) (by omega);rw[show p+1-d+j=p-d+(j+1) by omega,this,show p+1+j=p+(j+1) by omega])]
  congr 1
  omega
theorem Qo {xs:List Nat} {L a c:List Bool} {p P:Nat} {t2:Nat×Nat} {most:Int} (ok:okB xs) (hg:Good xs p t2) (hp:p<xs.length) (hL:L=a++kX (tokF xs p t2)++c) (hP:P=a.length) (hm:(xs.length:Int)<=most):
 ET (pack L) most mQ sD ⟨P,xs.take p,0⟩=(true,⟨P+(kX (tokF xs p t2)).length,xs.take (p+max t2.1 1),0⟩):=by
 have hlen:(xs.take p).length=p:=by rw[List.length_take];omega
 rcases hg with rfl|⟨g1,g2,g3,g4,g5,g6,g7⟩
 ·have hb:kX (tokF xs p (0,0))=jc (xs.getD p 0):=rfl
  have hx:=LC ok p;rw[hb]at hL ⊢;unfold ET;rw[z52 (by omega) hL hP];unfold Fa;generalize hxx:xs.getD p 0=x at *;have hc1:¬((⟨P+(jc x).length,xs.take p,0⟩:Inf).e≠0∨(x:Int)=256):=by simp;omega
  have hc2:(x:Int)<256:=by omega
  rw[if_neg hc1,if_pos hc2];have hr:=z44 (most:=most) (n:=1) (s:=⟨P+(jc x).length,xs.take p,0⟩) rfl (by simp only[hlen];omega);rw[hr];simp only[if_true,Int.toNat_natCast];rw[←hxx,take_snoc hp];rfl
 ·have hn0:¬(tokF xs p t2).len=0:=by show ¬t2.1=0;omega
  have hb:kX (tokF xs p t2)=nO t2.1++AP (t2.2-1):=by unfold kX;rw[if_neg hn0];rfl
  rw[hb]at hL ⊢;obtain ⟨k,s1,hk,h1,he1,h2⟩:=Xd (out:=xs.take p) (L:=L) (a:=a) (c:=AP (t2.2-1)++c) (P:=P) g1 g2 (by rw[hL];simp only[List.append_assoc]) hP;obtain ⟨k2,s3,hk2,h3,he3,h4⟩:=TI (out:=xs.take p) (L:=L) (a:=a++nO t2.1) (c:=c) (P:=P+(nO t2.1).length) (e:=t2.2-1) (by omega) (by rw[hL];simp only[List.append_assoc]) (by rw[List.length_append,hP]);unfold ET;rw[h1];unfold Fa;simp only;rw[if_neg (by simp[he1];omega),if_neg (by omega),if_neg (by omega),show (((257+k:Nat):Int)-257).toNat=k by omega,h2];simp only;rw[h3];simp only;rw[yc he3 (by omega),h4];simp only;have hd:t2.2-1+1=t2.2:=by omega
  rw[hd];have hr:=z44 (most:=most) (n:=(t2.1:Int)) (s:=⟨P+(nO t2.1).length+(AP (t2.2-1)).length,xs.take p,0⟩) rfl (by simp only[hlen];omega);rw[Qy rfl (by simp only[hlen];omega) (by rw[hr])];simp only;rw[IL g3 t2.1 p g5 g6 g7,List.length_append,show max t2.1 1=t2.1 by omega,Nat.add_assoc]
theorem KW {L a:List Bool} {P:Nat} {out:List Nat} {most:Int} (hL:L=a++jc 256) (hP:P=a.length):
 ET (pack L) most mQ sD ⟨P,out,0⟩=(false,⟨L.length,out,0⟩):=by
 unfold ET;rw[z52 (s:=256) (a:=a) (c:=[]) (by omega) (by rw[hL,List.append_nil]) hP];unfold Fa;rw[if_pos (.inr rfl),hL,List.length_append,hP]
theorem IY {xs:List Nat} {most:Int} (ok:okB xs) (hm:(xs.length:Int)<=most):∀f p (a:List Bool) fu,xs.length-p<=f->p<=xs.length->(aH xs f p).length<fu->
 ∀L,L=a++(aH xs f p).flatMap kX++jc 256->bD (pack L) most mQ sD fu ⟨a.length,xs.take p,0⟩=⟨L.length,xs,0⟩:=by
 intro f;induction f with
 |zero=>
  intro p a fu h1 h2 h3 L hL;obtain ⟨fu,rfl⟩:∃f',fu=f'+1:=⟨fu-1,by omega⟩;rw[bD,if_neg (by simp),KW (L:=L) (a:=a) (by rw[hL];simp[aH]) rfl];simp only[Bool.false_eq_true,if_false];rw[List.take_of_length_le (by omega)]
 |succ f ih=>
  intro p a fu h1 h2 h3 L hL;obtain ⟨fu,rfl⟩:∃f',fu=f'+1:=⟨fu-1,by omega⟩;rw[aH]at h3 hL;by_cases hp:xs.length<=p
  ·rw[if_pos hp]at h3 hL
   rw[bD,if_neg (by simp),KW (L:=L) (a:=a) (by rw[hL];simp) rfl];simp only[Bool.false_eq_true,if_false];rw[List.take_of_length_le (by omega)]
  ·rw[if_neg hp]at h3 hL
   have hg:=z4g xs p
   have hmx:p+max (gV xs p).1 1<=xs.length:=by
    rcases hg with e|e
    ·rw[e];simp;omega
    ·have:=e.2.2.2.2.2.1;omega
   generalize gV xs p=t2 at *;rw[List.flatMap_cons]at hL;rw[bD,if_neg (by simp),Qo (L:=L) (a:=a) (c:=(aH xs f (p+max t2.1 1)).flatMap kX++jc 256) ok hg (by omega) (by rw[hL];simp only[List.append_assoc]) rfl hm];simp only[if_true];rw[←List.length_append];refine ih (p+max t2.1 1) (a++kX (tokF xs p t2)) fu (by omega) hmx (by simp only[List.length_cons]at h3;omega) L (by rw[hL];simp only[List.append_assoc])
theorem AZ (t:Tok):1<=(kX t).length:=by
 have hl:∀s,7<=(jc s).length:=fun s=>by
  unfold jc tK;rw[Pq];split
  ·omega
  ·split
   ·omega
   ·split<;>omega
 unfold kX;split
 ·have:=hl t.byte;omega
 ·rw[List.length_append]
  have:7<=(nO t.len).length:=by
   unfold nO;split
   ·exact hl _
   ·split
    ·exact hl _
    ·rw[List.length_append];have:=hl (257+4 * jI (t.len-3)+(t.len-3) / 2 ^ jI (t.len-3));omega
  omega
theorem Xv (l:List Tok):l.length<=(l.flatMap kX).length:=by
 induction l with
 |nil=>simp
 |cons t l ih=>have:=AZ t;rw[List.flatMap_cons,List.length_append,List.length_cons];omega
theorem lI {xs:List Nat} {most:Int} (ok:okB xs) (hm:(xs.length:Int)<=most) (hm2:most<=65536):Ah (pack (aI (aH xs xs.length 0))) most=(xs,(pack (aI (aH xs xs.length 0))).length,0):=by
 have hc:=IY ok hm xs.length 0 (lV 3 3);generalize hT:aH xs xs.length 0=l at *;have hfl:=Xv l;have hL:aI l=lV 3 3++l.flatMap kX++jc 256:=rfl
 have hle:10<=(aI l).length/\l.length<=(aI l).length:=by
  have h7:(jc 256).length=7:=rfl;rw[hL];simp only[List.length_append,Vj,h7];omega
 have hbit:∀i,i<3->(aI l).getD i false=(3:Nat).testBit i:=by
  intro i hi;have e:aI l=[true,true,false]++(l.flatMap kX++jc 256):=by rw[hL,List.append_assoc];rfl
  rw[e];match i,hi with
  |0,_=>rfl
  |1,_=>rfl
  |2,_=>rfl
 have hpl:=E_ (aI l);have hc2:=hc (8 * (pack (aI l)).length+1) (by omega) (by omega) (by omega) (aI l) hL;rw[Vj,List.take_zero]at hc2;generalize aI l=L at *;have b1:dS (pack L) 0 1=1:=by rw[z5P _ 0 1 3 (fun i hi=>by rw[Nat.zero_add];exact hbit i (by omega))]
 have b2:dS (pack L) 1 2=1:=by
  rw[z5P _ 1 2 1 (fun i hi=>by
   rw[hbit _ (by omega)];match i,hi with
   |0,_=>rfl
   |1,_=>rfl)]
 have hb:VE (pack L) most ⟨0,[],0⟩=⟨L.length,xs,0⟩/\(aC (pack L) 1 ⟨0,[],0⟩).1=1:=by
  have n1:=qC (bs:=pack L) (n:=1) (p:=0) (out:=[]) (by omega) b1;have n2:=qC (bs:=pack L) (n:=2) (p:=1) (out:=[]) (by omega) b2;refine ⟨?_,by rw[n1]⟩;unfold VE;rw[n1];simp only[Nat.zero_add];rw[n2];simp only[ne_eq,not_true_eq_false,if_false];unfold gY;rw[if_neg (by decide),if_pos rfl,z4Z rfl z5A z5B];exact hc2
 have hx:mV (pack L) most (8 * (pack L).length+1) ⟨0,[],0⟩=⟨L.length,xs,0⟩:=by rw[mV,hb.1,hb.2,if_neg (by simp)]
 unfold Ah;rw[if_neg (by omega)];simp only[hx];rw[if_neg (by simp),hpl]
theorem Df {xs:List Nat} {most:Int} (ok:okB xs) (hl:xs.length<=65535) (hm:(xs.length:Int)<=most) (hm2:most<=65536):Ah (bI xs) most=(xs,(bI xs).length,0):=by
 obtain ⟨n,hn⟩:∃n,xs.length=n:=⟨_,rfl⟩;have hlen:(bI xs).length=5+n:=by simp[bI,PL,hn];omega
 have h0:(bI xs).getD 0 0=1:=rfl;have h1:(bI xs).getD 1 0=n % 256:=by rw[←hn];rfl
 have h2:(bI xs).getD 2 0=n / 256:=by rw[←hn];rfl
 have h3:(bI xs).getD 3 0=255-n % 256:=by rw[←hn];rfl
 have h4:(bI xs).getD 4 0=255-n / 256:=by rw[←hn];rfl
 have h5:∀j,(bI xs).getD (5+j) 0=xs.getD j 0:=fun j=>by rw[show 5+j=j+5 by omega];simp[bI,PL]
 generalize bI xs=bs at *
 have b1:dS bs 0 1=1:=by
  have:=z5Q bs 0 1 0 (by omega);simp only[Nat.mul_zero,Nat.add_zero,Nat.pow_zero,Nat.div_one,Nat.pow_one]at this;rw[this,h0]
 have b2:dS bs 1 2=0:=by
  have:=z5Q bs 0 2 1 (by omega);simp only[Nat.mul_zero,Nat.zero_add]at this;rw[this,h0]
 have b3:dS bs 8 16=n:=by
  have:=Eo bs 1 (by rw[h1];omega) (by rw[h2];omega);rw[h1,h2]at this;rw[show (8:Nat)=8 * 1 from rfl,this];omega
 have b4:dS bs 24 16=65535-n:=by
  have:=Eo bs 3 (by rw[h3];omega) (by rw[h4];omega);rw[h3,h4]at this;rw[show (24:Nat)=8 * 3 from rfl,this];omega
 have n1:aC bs 1 ⟨0,[],0⟩=(1,⟨1,[],0⟩):=by rw[z2P (by omega),b1]
 have n2:aC bs 2 ⟨1,[],0⟩=(0,⟨3,[],0⟩):=by rw[z2P (by omega),b2]
 have hb:VE bs most ⟨0,[],0⟩=⟨8 * (5+n),xs,0⟩:=by
  unfold VE;rw[n1,n2];simp only[ne_eq,not_true_eq_false,if_false];unfold gY;rw[if_pos rfl];unfold VF;simp only;rw[show (3+7) / 8 * 8=8 by omega,z2P (by omega),b3];simp only;rw[show 8+16=24 by omega,z2P (by omega),b4];simp only;unfold JG;have e1:65535-(65535-n)=n:=by omega
  simp only[e1,ne_eq,not_true_eq_false,and_false,if_false];rw[z44 (most:=most) (by rfl) (by simp only[List.length_nil];omega)];simp only[not_true_eq_false,if_false];have hs:=z57 (bs:=bs) ok n 5 [] (by omega) (by omega) (fun j hj=>by rw[h5 j,hn,Nat.sub_self,Nat.zero_add]);rw[show 24+16=8 * 5 by omega,hs,hn,Nat.sub_self];simp
 have hx:mV bs most (8 * bs.length+1) ⟨0,[],0⟩=⟨8 * (5+n),xs,0⟩:=by rw[mV,hb,n1,if_neg (by simp)]
 unfold Ah;rw[if_neg (by omega)];simp only[hx];rw[if_neg (by simp),hlen];congr 2
 omega
theorem Oj {xs:List Nat} (ok:okB xs) (hl:xs.length<=65535):Ah (bP xs) xs.length=(xs,(bP xs).length,0)/\(bP xs).length<=xs.length+5/\okB (bP xs):=by
 have hs:(bI xs).length=5+xs.length:=by simp[bI,PL];omega
 unfold bP;split
 ·next h=>exact ⟨lI ok (by omega) (by omega),by omega,WQ _⟩
 ·refine ⟨Df ok hl (by omega) (by omega),by omega,?_⟩
  intro z hz;simp only[bI,PL,List.cons_append,List.nil_append,List.mem_cons]at hz;rcases hz with h|h|h|h|h|h
  ·omega
  ·omega
  ·omega
  ·omega
  ·omega
  ·exact ok z h
end Go.Proofs.YtpakjclpjcngmaaGreat.Fix
namespace Go.Proofs.YtpakjclpjcngmaaGreat
open Go.RowKit
theorem ru (D:Nat->Prop) (A:Option Addr) (n c:Nat) (kind:Nat) (xs ds b:List Nat) (W:World) (hb:b=f_ ([kind,1]++ak xs.length++ds)) (hr:Rd W D 1 A n (bl b)) (tX:∀k,D k->k<W.heap.size) (WT:okB xs) (hk:kind<256) (hl:b.length=n) (hc:n<=c) (hx:xs.length<=65536) (hd0:0<ds.length) (hd1:ds.length<=100000) (Q_:okB ds) (adT:Ah ds xs.length=(xs,ds.length,0)):
 Calls Tryz.prog 197 #[.int .u8 (kind:Int),.slice A n c] W (PK W xs):=by
 obtain ⟨pl,hpl⟩:∃pl,(ak xs.length).length=pl:=⟨_,rfl⟩;have kC:=z06 (n:=xs.length) (by omega);rw[hpl]at kC;obtain ⟨t,ht⟩:∃t,[kind,1]++ak xs.length++ds=t:=⟨_,rfl⟩;have htl:t.length=2+pl+ds.length:=by rw[←ht,List.length_append,List.length_append,hpl];rfl
 have okt:okB t:=by
  rw[←ht];intro x h;rcases List.mem_append.1 h with h|h
  ·rcases List.mem_append.1 h with h|h
   ·simp only[List.mem_cons,List.not_mem_nil,or_false]at h
    rcases h with rfl|rfl<;>omega
   ·exact jV (by omega) x h
  ·exact Q_ x h
 have hnum:aX t 2 0 65536=(xs.length,2+pl,0):=by
  have h1:aO t (2:Nat)=(xs.length,pl,0):=by
   have:=z3C (v:=xs.length) (by omega) [kind,1] ds;rw[hpl,ht]at this;exact this
  unfold aX;rw[if_neg (by simp),h1,if_neg (by simp),if_neg (by simp only;omega)]
 have hdrop:t.drop (2+pl)=ds:=by
  rw[←ht];have e:([kind,1]++ak xs.length).length=2+pl:=by rw[List.length_append,hpl];rfl
  rw[←e,List.drop_left]
 have hhead:(t.drop 0).take 2=[kind,1]:=by rw[←ht];rfl
 rw[ht]at hb;have hbl:b.length-4=t.length:=by rw[hb,Vm];omega
 have hbt:b.take (b.length-4)=t:=by rw[hbl,hb];unfold f_;rw[List.take_left]
 have okb:okB b:=by rw[hb];exact z4D okt
 have hopen:AB b:=by rw[hb];exact z3r t
 have hbn:b.length=t.length+4:=by rw[hb,Vm]
 have hop:=qY D A n c b W hr tX okb hl (by omega) hc;unfold zN at hop;rw[hbt,hbl]at hop;have Hop:=ah hop;have kF:=ah hopen;have Jv:=ah hnum;have EF:=ah hdrop;have Hinf:=ah adT;clear adT;have ED:=ah hhead;have htl1:2+pl+ds.length<=t.length:=by omega
 have htl2:t.length<=2+pl+ds.length:=by omega
 clear htl;clear hop hopen hnum hdrop hhead hbt hbl hb ht hpl hbn hl hr okb;go_enter Tryz.func197,Tryz.ntmps197;go_wp2_with fail;with_reducible refine Hop.out.mono ?_
 rintro e w1 ⟨h1, -⟩;obtain ⟨k1,cap1,rfl,o1,hcap1⟩:=h1 kF.out;have n1:=o1.nx;have r1:=o1.lC;go_wp2_with fail;with_reducible refine (z34 _ _ _ _ t w1 r1 okt rfl (by omega)).mono ?_
 rintro e w2 ⟨g,A2,c2,rfl,cu2,n2,hg⟩;have r2:=r1.nx (by decide) n2;go_wp2_with fail;refine (YD cu2 2 (by omega)).mono ?_;rintro e w3 ⟨k3,cap3,rfl,t3,o3,hc3,hk3⟩;rw[ED.out]at o3;rw[Nat.zero_add]at t3;have SK:k1≠g:=by have:=(o1.lt k1 rfl).2;omega
 have r3:=r2.ch (by decide) t3.kR (fun k _ e1 e2=>SK (by rw[←e1,←e2]));have n3:Nx W w3:=(n1.tr n2).trans t3.kR fun i hi e=>by have:=n1.size;omega
 go_wp2_with fail;have hnm:=VH t3.cur 65536 (by omega) (by omega);rw[Jv.out]at hnm;with_reducible refine hnm.mono ?_
 rintro e w4 ⟨rfl,t4⟩;have t4:dM w3 _ g A2 c2 t (2+pl) 0 w4:=t4;clear hnm;have hk3g:k3≠g:=by have:=cu2.blk.lt;omega
 have o4:=iw o3 t4.kR (fun k hk e=>by simp[Value.ownBlock]at hk;omega);have r4:=r3.ch (by decide) t4.kR (fun k _ e1 e2=>SK (by rw[←e1,←e2]));have n4:Nx W w4:=n3.trans t4.kR fun i hi e=>by have:=n1.size;omega
 have cu4:=t4.cur
 have tail:∀w6,Nx w4 w6->w6.cell? ⟨k3,0,none⟩=some (.int .u8 (kind:Int))/\w6.cell? ⟨k3,1,none⟩=some (.int .u8 1)/\aQ w6 _ g A2 c2 t (2+pl) 0/\Rd w6 (fun k=>k=k1) 1 (some ⟨k1,0,none⟩) t.length (bl t)/\Nx W w6:=fun w6 n6=>
  ⟨(iw o4 n6 (fun _ _ hf=>hf)).cellAt 0 (by omega),(iw o4 n6 (fun _ _ hf=>hf)).cellAt 1 (by omega),cu4.nx n6,r4.nx (by decide) n6,n4.tr n6⟩
 have Tail:=ah tail;have hend:=fun w6 (n6:Nx w4 w6)=>JC (cu4.nx n6);have UK:=ah hend;have adS:k3<w4.heap.size:=(o4.lt k3 rfl).2;clear tail hend o4 r4 n4 cu4 t4 t3 o3 r3 n3 n1 n2 r1 r2 o1 cu2 Hop kF Jv ED;have ne1:(5:Int)≠0:=by decide
 ·have hE:bW t.length (2+pl) 0=5:=by unfold bW;rw[if_neg (by simp),if_pos (by omega)]
  have hcc:¬cap1=2+pl:=by omega
  go_wp2_with fail;have he1:=UK.out _ (Ch.refl _ w4);rw[hE]at he1;with_reducible refine he1.mono ?_
  rintro e w5 ⟨rfl,d5⟩;have n5:=d5.nx;clear he1 d5;go_wp2_with fail;have he2:=UK.out _ n5;rw[hE]at he2;with_reducible refine he2.mono ?_
  rintro e w6 ⟨rfl,d6⟩;obtain ⟨c0,c1,cu6,r6,n6⟩:=Tail.out w6 (n5.tr d6.nx);clear he2 d6 n5;go_wp2_with fail;with_reducible refine (TP cu6).mono ?_
  rintro e w7 ⟨rfl,rfl⟩;have b1:(0:Int)<=((2+pl:Nat):Int):=by omega
  have b2:((2+pl:Nat):Int)<=(t.length:Int):=by omega
  have hct:=r6.cut (k:=2+pl) (cap:=cap1) (by omega) hcap1;rw[Nat.mul_one,show (bl t).drop (2+pl)=bl (t.drop (2+pl)) by simp[bl,List.map_drop],EF.out,if_neg hcc,show t.length-(2+pl)=ds.length by omega]at hct;have hle:t.length-(2+pl)=ds.length:=by omega
  have ha:Option.map (fun x=>Addr.add x (2+pl)) (some ⟨k1,0,none⟩)=some ⟨k1,2+pl,none⟩:=by
   simp only[Option.map_some,Option.some.injEq];unfold Addr.add;rw[if_neg (by omega)];simp
  rw[ha]at hct;clear ha h1;have hif:=Ns (W:=w6) (bs:=ds) (most:=(xs.length:Int)) _ _ (cap1-(2+pl)) hct Q_ (by omega) (by omega);unfold Ez at hif;rw[Hinf.out]at hif;have Hif:=ah hif;clear hif hct;go_wp2_with fail;with_reducible refine Hif.out.mono ?_
  rintro e w7 ⟨v7,rfl,o7,c7, -⟩;have n7:Nx w6 w7:=c7.nx fun i hi hs=>by omega
  obtain ⟨A7,cc7,rfl,_,_⟩:=z07 o7;have r7:=Rd.eU o7;go_wp2_with fail;with_reducible refine (z34 _ _ _ _ xs w7 r7 WT rfl (by omega)).mono ?_
  rintro e w8 ⟨g8,A8,c8,rfl,cu8,n8,hg8⟩;go_wp2_with fail;go_ret2;have hs6:=n6.size;have hs7:=n7.size;exact ⟨g8,A8,c8,_,rfl,cu8,(n6.tr n7).tr n8,by omega,fun k hk=>by omega⟩
theorem z2G (D:Nat->Prop) (A:Option Addr) (n c:Nat) (kind:Nat) (xs:List Nat) (W:World) (hr:Rd W D 1 A n (bl (aB kind xs))) (tX:∀k,D k->k<W.heap.size) (WT:okB xs) (hk:kind<256) (hl:(aB kind xs).length=n) (hc:n<=c) (hx:xs.length<=65536) (hx0:0<xs.length):
 Calls Tryz.prog 197 #[.int .u8 (kind:Int),.slice A n c] W (PK W xs):=by
 by_cases hlt:(bP xs).length<xs.length
 ·obtain ⟨h1,h2,h3⟩:Ah (bP xs) xs.length=(xs,(bP xs).length,0)/\(bP xs).length<=xs.length+5/\okB (bP xs):=by
   by_cases h5:xs.length<=65535
   ·exact Fix.Oj WT h5
   ·have hs:=z3W xs
    have e1:bP xs=pack (aI (aH xs xs.length 0)):=by
     unfold bP at hlt ⊢;split at hlt
     ·next h2=>rw[if_pos h2]
     ·omega
    rw[e1]at hlt ⊢;exact ⟨Fix.lI WT (by omega) (by omega),by omega,z3J _⟩
  have h0:0<(bP xs).length:=by
   unfold bP;split
   ·rw[E_]
    have:3<=(aI (aH xs xs.length 0)).length:=by
     generalize aH xs xs.length 0=l;have hL:aI l=lV 3 3++l.flatMap kX++jc 256:=rfl;rw[hL,List.length_append,List.length_append,show (lV 3 3).length=3 from rfl];omega
    omega
   ·unfold bI
    rw[List.length_append];omega
  refine ru D A n c kind xs (bP xs) _ W ?_ hr tX WT hk hl hc hx h0 (by omega) h3 h1;unfold aB EN mY jD;rw[if_pos hlt,if_pos hlt]
 ·refine z5H D A n c kind xs _ W ?_ hr tX WT hk hl hc hx hx0
  unfold aB EN mY jD;rw[if_neg hlt,if_neg hlt]
end Go.Proofs.YtpakjclpjcngmaaGreat
