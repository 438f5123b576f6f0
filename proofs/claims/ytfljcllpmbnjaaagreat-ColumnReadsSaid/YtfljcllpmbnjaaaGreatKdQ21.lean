/- Contracts and plain laws that the last text rests on. Conditions: each theorem states its own. -/
import Derived.Test.YtfljcllpmbnjaaaGreatKdQ10
import Derived.Test.YtfljcllpmbnjaaaGreatKdQ18
import Derived.Test.YtfljcllpmbnjaaaGreatKdQ20
set_option maxRecDepth 100000
set_option maxHeartbeats 32000000
set_option linter.unusedVariables false
namespace Go.Proofs.YtfljcllpmbnjaaaGreat
open Go.RowKit
theorem ou (D:Nat->Prop) (A:Option Addr) (n c:Nat) (kind:Nat) (xs ds b:List Nat) (W:World) (hb:b=dL ([kind,1]++aj xs.length++ds)) (hr:Rd W D 1 A n (bl b)) (dX:∀k,D k->k<W.heap.size) (jB:okB xs) (hk:kind<256) (hl:b.length=n) (hc:n<=c) (hx:xs.length<=65536) (hd0:0<ds.length) (hd1:ds.length<=100000) (AO:okB ds) (Wj:jV ds xs.length=(xs,ds.length,0)):
 Calls Tryz.prog 92 #[.int .u8 (kind:Int),.slice A n c] W (Jh W xs):=by
 obtain ⟨pl,hpl⟩:∃pl,(aj xs.length).length=pl:=⟨_,rfl⟩;have iY:=z07 (n:=xs.length) (by omega);rw[hpl]at iY;obtain ⟨t,ht⟩:∃t,[kind,1]++aj xs.length++ds=t:=⟨_,rfl⟩;have htl:t.length=2+pl+ds.length:=by rw[←ht,List.length_append,List.length_append,hpl];rfl
 have Df:okB t:=by
  rw[←ht];intro x h;rcases List.mem_append.1 h with h|h
  ·rcases List.mem_append.1 h with h|h
   ·simp only[List.mem_cons,List.not_mem_nil,or_false]at h
    rcases h with rfl|rfl<;>omega
   ·exact z14 (by omega) x h
  ·exact AO x h
 have hnum:aB t 2 0 65536=(xs.length,2+pl,0):=by
  have h1:ay t (2:Nat)=(xs.length,pl,0):=by
   have:=OQ (v:=xs.length) (by omega) [kind,1] ds;rw[hpl,ht]at this;exact this
  unfold aB;rw[if_neg (by simp),h1,if_neg (by simp),if_neg (by simp only;omega)]
 have hdrop:t.drop (2+pl)=ds:=by
  rw[←ht];have e:([kind,1]++aj xs.length).length=2+pl:=by rw[List.length_append,hpl];rfl
  rw[←e,List.drop_left]
 have hhead:(t.drop 0).take 2=[kind,1]:=by rw[←ht];rfl
 rw[ht]at hb;have hbl:b.length-4=t.length:=by rw[hb,AY];omega
 have hbt:b.take (b.length-4)=t:=by rw[hbl,hb];unfold dL;rw[List.take_left]
 have okb:okB b:=by rw[hb];exact XF Df
 have hopen:z15 b:=by rw[hb];exact Yk t
 have hbn:b.length=t.length+4:=by rw[hb,AY]
 have hop:=XO D A n c b W hr dX okb hl (by omega) hc;unfold OH at hop;rw[hbt,hbl]at hop;have Hop:=ah hop;have fU:=ah hopen;have kQ:=ah hnum;have Ak:=ah hdrop;have Hinf:=ah Wj;clear Wj;have kE:=ah hhead;have htl1:2+pl+ds.length<=t.length:=by omega
 have htl2:t.length<=2+pl+ds.length:=by omega
 clear htl;clear hop hopen hnum hdrop hhead hbt hbl hb ht hpl hbn hl hr okb;go_enter Tryz.func92,Tryz.ntmps92;go_wp2_with fail;with_reducible refine Hop.out.mono ?_
 rintro e w1 ⟨h1, -⟩;obtain ⟨k1,cap1,rfl,o1,hcap1⟩:=h1 fU.out;have n1:=o1.nx;have r1:=o1.fM;go_wp2_with fail;with_reducible refine (RG _ _ _ _ t w1 r1 Df rfl (by omega)).mono ?_
 rintro e w2 ⟨g,A2,c2,rfl,cu2,n2,hg⟩;have r2:=r1.nx (by decide) n2;go_wp2_with fail;refine (z12 cu2 2 (by omega)).mono ?_;rintro e w3 ⟨k3,cap3,rfl,t3,o3,hc3,hk3⟩;rw[kE.out]at o3;rw[Nat.zero_add]at t3;have zy:k1≠g:=by have:=(o1.lt k1 rfl).2;omega
 have r3:=r2.ch (by decide) t3.dN (fun k _ e1 e2=>zy (by rw[←e1,←e2]));have n3:Nx W w3:=(n1.tr n2).trans t3.dN fun i hi e=>by have:=n1.size;omega
 go_wp2_with fail;have hnm:=FT t3.cur 65536 (by omega) (by omega);rw[kQ.out]at hnm;with_reducible refine hnm.mono ?_
 rintro e w4 ⟨rfl,t4⟩;have t4:dA w3 _ g A2 c2 t (2+pl) 0 w4:=t4;clear hnm;have Wi:k3≠g:=by have:=cu2.blk.lt;omega
 have o4:=z06 o3 t4.dN (fun k hk e=>by simp[Value.ownBlock]at hk;omega);have r4:=r3.ch (by decide) t4.dN (fun k _ e1 e2=>zy (by rw[←e1,←e2]));have n4:Nx W w4:=n3.trans t4.dN fun i hi e=>by have:=n1.size;omega
 have cu4:=t4.cur
 have tail:∀w6,Nx w4 w6->w6.cell? ⟨k3,0,none⟩=some (.int .u8 (kind:Int))/\w6.cell? ⟨k3,1,none⟩=some (.int .u8 1)/\aJ w6 _ g A2 c2 t (2+pl) 0/\Rd w6 (fun k=>k=k1) 1 (some ⟨k1,0,none⟩) t.length (bl t)/\Nx W w6:=fun w6 n6=>
  ⟨(z06 o4 n6 (fun _ _ hf=>hf)).cellAt 0 (by omega),(z06 o4 n6 (fun _ _ hf=>hf)).cellAt 1 (by omega),cu4.nx n6,r4.nx (by decide) n6,n4.tr n6⟩
 have Tail:=ah tail;have hend:=fun w6 (n6:Nx w4 w6)=>EG (cu4.nx n6);have jd:=ah hend;have Wh:k3<w4.heap.size:=(o4.lt k3 rfl).2;clear tail hend o4 r4 n4 cu4 t4 t3 o3 r3 n3 n1 n2 r1 r2 o1 cu2 Hop fU kQ kE;have ne1:(5:Int)≠0:=by decide
 ·have hE:bn t.length (2+pl) 0=5:=by unfold bn;rw[if_neg (by simp),if_pos (by omega)]
  have hcc:¬cap1=2+pl:=by omega
  go_wp2_with fail;have he1:=jd.out _ (Ch.refl _ w4);rw[hE]at he1;with_reducible refine he1.mono ?_
  rintro e w5 ⟨rfl,d5⟩;have n5:=d5.nx;clear he1 d5;go_wp2_with fail;have he2:=jd.out _ n5;rw[hE]at he2;with_reducible refine he2.mono ?_
  rintro e w6 ⟨rfl,d6⟩;obtain ⟨c0,c1,cu6,r6,n6⟩:=Tail.out w6 (n5.tr d6.nx);clear he2 d6 n5;go_wp2_with fail;with_reducible refine (DZ cu6).mono ?_
  rintro e w7 ⟨rfl,rfl⟩;have b1:(0:Int)<=((2+pl:Nat):Int):=by omega
  have b2:((2+pl:Nat):Int)<=(t.length:Int):=by omega
  have hct:=r6.cut (k:=2+pl) (cap:=cap1) (by omega) hcap1;rw[Nat.mul_one,show (bl t).drop (2+pl)=bl (t.drop (2+pl)) by simp[bl,List.map_drop],Ak.out,if_neg hcc,show t.length-(2+pl)=ds.length by omega]at hct;have hle:t.length-(2+pl)=ds.length:=by omega
  have ha:Option.map (fun x=>Addr.add x (2+pl)) (some ⟨k1,0,none⟩)=some ⟨k1,2+pl,none⟩:=by
   simp only[Option.map_some,Option.some.injEq];unfold Addr.add;rw[if_neg (by omega)];simp
  rw[ha]at hct;clear ha h1;have hif:=sK (W:=w6) (bs:=ds) (most:=(xs.length:Int)) _ _ (cap1-(2+pl)) hct AO (by omega) (by omega);unfold tH at hif;rw[Hinf.out]at hif;have Rk:=ah hif;clear hif hct;go_wp2_with fail;with_reducible refine Rk.out.mono ?_
  rintro e w7 ⟨v7,rfl,o7,c7, -⟩;have n7:Nx w6 w7:=c7.nx fun i hi hs=>by omega
  obtain ⟨A7,cc7,rfl,_,_⟩:=z05 o7;have r7:=Rd.bY o7;go_wp2_with fail;with_reducible refine (RG _ _ _ _ xs w7 r7 jB rfl (by omega)).mono ?_
  rintro e w8 ⟨g8,A8,c8,rfl,cu8,n8,hg8⟩;go_wp2_with fail;go_ret2;have hs6:=n6.size;have hs7:=n7.size;exact ⟨g8,A8,c8,_,rfl,cu8,(n6.tr n7).tr n8,by omega,fun k hk=>by omega⟩
theorem Yv (D:Nat->Prop) (A:Option Addr) (n c:Nat) (kind:Nat) (xs:List Nat) (W:World) (hr:Rd W D 1 A n (bl (aC kind xs))) (dX:∀k,D k->k<W.heap.size) (jB:okB xs) (hk:kind<256) (hl:(aC kind xs).length=n) (hc:n<=c) (hx:xs.length<=65536) (hx0:0<xs.length):
 Calls Tryz.prog 92 #[.int .u8 (kind:Int),.slice A n c] W (Jh W xs):=by
 by_cases hlt:(aX xs).length<xs.length
 ·obtain ⟨h1,h2,h3⟩:jV (aX xs) xs.length=(xs,(aX xs).length,0)/\(aX xs).length<=xs.length+5/\okB (aX xs):=by
   by_cases h5:xs.length<=65535
   ·exact Fix.sV jB h5
   ·have hs:=Yr xs
    have e1:aX xs=pack (aI (aF xs xs.length 0)):=by
     unfold aX at hlt ⊢;split at hlt
     ·next h2=>rw[if_pos h2]
     ·omega
    rw[e1]at hlt ⊢;exact ⟨Fix.iM jB (by omega) (by omega),by omega,Va _⟩
  have h0:0<(aX xs).length:=by
   unfold aX;split
   ·rw[tZ]
    have:3<=(aI (aF xs xs.length 0)).length:=by
     generalize aF xs xs.length 0=l;have hL:aI l=numBits 3 3++l.flatMap iV++aK 256:=rfl;rw[hL,List.length_append,List.length_append,show (numBits 3 3).length=3 from rfl];omega
    omega
   ·unfold aW
    rw[List.length_append];omega
  refine ou D A n c kind xs (aX xs) _ W ?_ hr dX jB hk hl hc hx h0 (by omega) h3 h1;unfold aC jI dM dG;rw[if_pos hlt,if_pos hlt]
 ·refine z2O D A n c kind xs _ W ?_ hr dX jB hk hl hc hx hx0
  unfold aC jI dM dG;rw[if_neg hlt,if_neg hlt]
def aT (b:List Nat):Int:=if z15 b then 4 else if b.length<4 then 3 else 6
theorem QG (b:List Nat):aT b≠0:=by
 unfold aT;split
 ·decide
 ·split<;>decide
def Jl (er:Int) (W:World) (e:Ending) (w':World):Prop:=
 (er≠0/\e=.returned (.tuple #[.pointer none,.int .i64 er])/\Nx W w')∨(er=4/\∃xs,xs.length<=65536/\Jh W xs e w')
theorem Jl.bad {W w':World} {er:Int} (h:er≠0) (n:Nx W w'):Jl er W (.returned (.tuple #[.pointer none,.int .i64 er])) w':=.inl ⟨h,rfl,n⟩
theorem Ej (xs:List Nat) (p:Nat) (m:Int):(aB xs p 0 m).2.2=0∨(aB xs p 0 m).2.2=2∨(aB xs p 0 m).2.2=3∨(aB xs p 0 m).2.2=4:=by
 unfold aB;rw[if_neg (by simp)];split
 ·rcases OM xs p with h|⟨-, -,h|h⟩
  ·exact .inl h
  ·exact .inr (.inr (.inl h))
  ·exact .inr (.inr (.inr h))
 ·split
  ·exact .inr (.inl rfl)
  ·exact .inl rfl
theorem Ei (xs:List Nat) (p:Nat):(aB xs p 0 65536).1<=65536:=by
 unfold aB;rw[if_neg (by simp)];split
 ·exact Nat.zero_le _
 ·split
  ·exact Nat.zero_le _
  ·simp only
   omega
theorem Nv (xs:List Nat) (p:Nat) (m:Int):p<=(aB xs p 0 m).2.1:=by
 unfold aB;rw[if_neg (by simp)];split
 ·exact Nat.le_refl _
 ·split
  ·exact Nat.le_refl _
  ·exact Nat.le_add_right _ _
theorem len2 {t:List Nat} (h:2<=t.length):∃a b,(t.drop 0).take 2=[a,b]:=by
 match t,h with
 |a::b::r,_=>exact ⟨a,b,rfl⟩
theorem Yh (D:Nat->Prop) (A:Option Addr) (n c:Nat) (kind:Nat) (b:List Nat) (W:World) (hr:Rd W D 1 A n (bl b)) (dX:∀k,D k->k<W.heap.size) (ok:okB b) (hl:b.length=n) (hn:n<=1000000) (hc:n<=c) (hk:kind<256):
 Calls Tryz.prog 92 #[.int .u8 (kind:Int),.slice A n c] W (Jl (aT b) W):=by
 by_cases hopen:z15 b
 ·rw[show aT b=4 from if_pos hopen]
  obtain ⟨t,ht⟩:∃t,b.take (b.length-4)=t:=⟨_,rfl⟩;have Df:okB t:=by rw[←ht];exact fun x hx=>ok x (List.mem_of_mem_take hx)
  have hop:=XO D A n c b W hr dX ok hl (by omega) hc;have htl:b.length-4=t.length:=by rw[←ht,List.length_take];omega
  have htm:t.length<=1000000:=by omega
  unfold OH at hop;rw[ht,htl]at hop;have Hop:=ah hop;have fU:=ah hopen;clear hop hopen htl ht hl hr ok;go_enter Tryz.func92,Tryz.ntmps92;go_wp2_with fail;with_reducible refine Hop.out.mono ?_
  rintro e w1 ⟨h1, -⟩;obtain ⟨k1,cap1,rfl,o1,hcap1⟩:=h1 fU.out;have n1:=o1.nx;have r1:=o1.fM;clear h1;go_wp2_with fail;with_reducible refine (RG _ _ _ _ t w1 r1 Df rfl (by omega)).mono ?_
  rintro e w2 ⟨g,A2,c2,rfl,cu2,n2,hg⟩;have r2:=r1.nx (by decide) n2;have zy:k1≠g:=by have:=(o1.lt k1 rfl).2;omega
  have hgW:W.heap.size<=g:=by have:=n1.size;omega
  by_cases h2:2<=t.length
  ·obtain ⟨x0,x1,hx01⟩:=len2 h2
   have hx0:x0<256:=Df x0 (by have:x0∈(t.drop 0).take 2:=by rw[hx01];simp
                              exact List.mem_of_mem_drop (List.mem_of_mem_take this))
   have hx1:x1<256:=Df x1 (by have:x1∈(t.drop 0).take 2:=by rw[hx01];simp
                              exact List.mem_of_mem_drop (List.mem_of_mem_take this))
   have kE:=ah hx01;clear hx01;go_wp2_with fail;refine (z12 cu2 2 (by omega)).mono ?_;rintro e w3 ⟨k3,cap3,rfl,t3,o3,hc3,hk3⟩;rw[kE.out]at o3;rw[Nat.zero_add]at t3;have r3:=r2.ch (by decide) t3.dN (fun k _ e1 e2=>zy (by rw[←e1,←e2]));have n3:Nx W w3:=(n1.tr n2).trans t3.dN fun i hi e=>by omega
   go_wp2_with fail;have hnm:=FT t3.cur 65536 (by omega) (by omega);obtain ⟨p,hp⟩:∃p,p=(aB t 2 0 65536).2.1:=⟨_,rfl⟩;obtain ⟨v,hv⟩:∃v,v=(aB t 2 0 65536).1:=⟨_,rfl⟩;obtain ⟨q,hq⟩:∃q,q=(aB t 2 0 65536).2.2:=⟨_,rfl⟩;have hqe:=Ej t 2 65536;have hv65:=Ei t 2;have hp2:=Nv t 2 65536;rw[←hp,←hv,←hq]at hnm;rw[←hq]at hqe;rw[←hp]at hp2;rw[←hv]at hv65;clear hp hv hq;with_reducible refine hnm.mono ?_
   rintro e w4 ⟨rfl,t4⟩;clear hnm;have hpl:p<=t.length:=t4.cur.pos;have Wi:k3≠g:=by have:=cu2.blk.lt;omega
   have o4:=z06 o3 t4.dN (fun k hk e=>by simp[Value.ownBlock]at hk;omega);have r4:=r3.ch (by decide) t4.dN (fun k _ e1 e2=>zy (by rw[←e1,←e2]));have n4:Nx W w4:=n3.trans t4.dN fun i hi e=>by omega
   have cu4:=t4.cur
   have tail:∀w6,Nx w4 w6->w6.cell? ⟨k3,0,none⟩=some (.int .u8 (x0:Int))/\w6.cell? ⟨k3,1,none⟩=some (.int .u8 (x1:Int))/\aJ w6 _ g A2 c2 t p q/\Rd w6 (fun k=>k=k1) 1 (some ⟨k1,0,none⟩) t.length (bl t)/\Nx W w6:=fun w6 n6=>
    ⟨(z06 o4 n6 (fun _ _ hf=>hf)).cellAt 0 (by omega),(z06 o4 n6 (fun _ _ hf=>hf)).cellAt 1 (by omega),cu4.nx n6,r4.nx (by decide) n6,n4.tr n6⟩
   have Tail:=ah tail;have hend:=fun w6 (n6:Nx w4 w6)=>EG (cu4.nx n6);have jd:=ah hend;have Wh:k3<w4.heap.size:=(o4.lt k3 rfl).2;clear tail hend o4 r4 n4 cu4 t4 t3 o3 r3 n3 n1 n2 r1 r2 o1 cu2 Hop fU kE;obtain ⟨E,hE⟩:∃E,E=bn t.length p q:=⟨_,rfl⟩
   have hEE:(E≠0/\E≠5)∨(E=0/\q=0)∨(E=5/\q=0):=by
    rw[hE];unfold bn;rcases hqe with rfl|rfl|rfl|rfl
    ·rw[if_neg (by simp)]
     split
     ·exact .inr (.inr ⟨rfl,rfl⟩)
     ·exact .inr (.inl ⟨rfl,rfl⟩)
    ·exact .inl (by rw[if_pos (by decide)];decide)
    ·exact .inl (by rw[if_pos (by decide)];decide)
    ·exact .inl (by rw[if_pos (by decide)];decide)
   rw[←hE]at jd;clear hE hqe;go_wp2_with fail;rcases hEE with ⟨ea,eb⟩|⟨rfl,rfl⟩|⟨rfl,rfl⟩
   rotate_left;refine (jd.out _ (Ch.refl _ w4)).mono ?_;rintro e w6 ⟨rfl,d6⟩;obtain ⟨c0,c1,cu6,r6,n6⟩:=Tail.out w6 d6.nx;clear d6;rotate_left;refine (jd.out _ (Ch.refl _ w4)).mono ?_;rintro e w5 ⟨rfl,d5⟩;focus (go_wp2_with fail)
   refine (jd.out w5 d5.nx).mono ?_;rintro e w6 ⟨rfl,d6⟩;obtain ⟨c0,c1,cu6,r6,n6⟩:=Tail.out w6 (d5.nx.tr d6.nx);clear d5 d6;rotate_left
   ·have e1:(E !=0)=true:=by rw[bne_iff_ne];exact ea
    have e2:(E !=5)=true:=by rw[bne_iff_ne];exact eb
    clear ea eb;refine (jd.out _ (Ch.refl _ w4)).mono ?_;rintro e w5 ⟨rfl,d5⟩;have n5:=d5.nx;clear d5;go_wp2_with fail;refine (jd.out w5 n5).mono ?_;rintro e w6 ⟨rfl,d6⟩;obtain ⟨c0,c1,cu6,r6,n6⟩:=Tail.out w6 (n5.tr d6.nx);clear d6;go_wp2_with fail;go_ret2;exact Jl.bad (by decide) n6
   all_goals
    by_cases hk0:x0=kind
    ·subst hk0
     by_cases hx:1<x1
     ·have e1:(1:Int)<(x1:Int):=by omega
      go_wp2_with fail;go_ret2;exact Jl.bad (by decide) n6
     ·have e1:¬(1:Int)<(x1:Int):=by omega
      go_wp2_with fail;with_reducible refine (DZ cu6).mono ?_
      rintro e w7 ⟨rfl,rfl⟩;have hct:=r6.cut (k:=p) (cap:=cap1) hpl hcap1;rw[Nat.mul_one,show (bl t).drop p=bl (t.drop p) by simp[bl,List.map_drop]]at hct;have AO:okB (t.drop p):=fun x hx=>Df x (List.mem_of_mem_drop hx);have hle:t.length-p=(t.drop p).length:=List.length_drop.symm;rw[hle]at hct;have hs6:=n6.size;have b2:(p:Int)<=(t.length:Int):=(by omega);generalize t.drop p=ds at *;have hdl:ds.length<=1000000:=by omega
      have hX:∃X,(if cap1=p then (some ⟨k1,0,none⟩:Option Addr) else (some ⟨k1,0,none⟩:Option Addr).map (·.add p))=some ⟨k1,X,none⟩/\(cap1=p->X=0)/\(¬cap1=p->X=p):=by
       by_cases hcc:cap1=p
       ·exact ⟨0,by rw[if_pos hcc],fun _=>rfl,fun h=>absurd hcc h⟩
       ·refine ⟨p,?_,fun h=>absurd h hcc,fun _=>rfl⟩
        rw[if_neg hcc];simp only[Option.map_some,Option.some.injEq];unfold Addr.add;rw[if_neg (by omega)];simp
      obtain ⟨X,MH,hX0,qJ⟩:=hX;rw[MH]at hct;clear MH r6 cu6 jd Tail;by_cases hcc:cap1=p
      all_goals
       first|(rw[hX0 hcc]at hct)|(rw[qJ hcc]at hct)
       clear hX0 qJ X;by_cases h11:x1=1
       ·subst h11
        have hif:=fun cc=>sK (W:=w6) (bs:=ds) (most:=(v:Int)) _ _ cc hct AO (by omega) (by omega);unfold tH at hif;obtain ⟨ys,hys⟩:∃ys,ys=(jV ds (v:Int)).1:=⟨_,rfl⟩;obtain ⟨us,hus⟩:∃us,us=(jV ds (v:Int)).2.1:=⟨_,rfl⟩;obtain ⟨er,her⟩:∃er,er=(jV ds (v:Int)).2.2:=⟨_,rfl⟩;rw[←hys,←hus,←her]at hif;have Rk:=ah hif;clear hif hct hys hus her;go_wp2_with fail;with_reducible refine (Rk.out _).mono ?_
        rintro e w7 ⟨v7,rfl,o7,ch7,ok7⟩;have n7:Nx w6 w7:=ch7.nx fun i hi hs=>by omega
        have hs7:=n7.size;obtain ⟨A7,c7,rfl, -, -⟩:=z05 o7;have r7:=Rd.bY o7;have M7:=ah (n6.tr n7);clear Rk ch7 o7 n7;by_cases h0:er=0
        ·subst h0
         by_cases h1:us=ds.length
         ·have f1:((us:Int) !=(ds.length:Int))=false:=by rw[h1];simp
          by_cases h3:ys.length=v
          ·have f2:((v:Int) !=(ys.length:Int))=false:=by rw[h3];simp
           have f3:((ys.length:Int) !=(v:Int))=false:=by rw[h3];simp
           have hy:ys.length<=65536:=(by omega);have HN:=ah (fun cc=>RG _ _ _ cc ys w7 r7 ok7 rfl (by omega));clear h1 h3;go_wp2_with fail;with_reducible refine (HN.out _).mono ?_
           rintro e w8 ⟨g8,A8,c8,rfl,cu8,n8,hg8⟩;go_wp2_with fail;go_ret2;exact .inr ⟨rfl,ys,hy,g8,A8,c8,_,rfl,cu8,M7.out.tr n8,by omega,fun k hk=>by omega⟩
          ·have f2:((v:Int) !=(ys.length:Int))=true:=by rw[bne_iff_ne];omega
           have f3:((ys.length:Int) !=(v:Int))=true:=by rw[bne_iff_ne];omega
           clear h1;go_wp2_with fail;go_ret2;exact Jl.bad (by decide) M7.out
         ·have f1:((us:Int) !=(ds.length:Int))=true:=by rw[bne_iff_ne];omega
          go_wp2_with fail;go_ret2;exact Jl.bad (by decide) M7.out
        ·have f1:(er !=0)=true:=by rw[bne_iff_ne];exact h0
         go_wp2_with fail;go_ret2;exact Jl.bad (by decide) M7.out
       ·obtain rfl:x1=0:=by omega
        by_cases h3:ds.length=v
        ·have f2:((v:Int) !=(ds.length:Int))=false:=by rw[h3];simp
         have f3:((ds.length:Int) !=(v:Int))=false:=by rw[h3];simp
         have hy:ds.length<=65536:=(by omega);have HN:=ah (fun cc=>RG _ _ _ cc ds w6 hct AO rfl (by omega));clear h3 hct;go_wp2_with fail;with_reducible refine (HN.out _).mono ?_
         rintro e w8 ⟨g8,A8,c8,rfl,cu8,n8,hg8⟩;go_wp2_with fail;go_ret2;exact .inr ⟨rfl,ds,hy,g8,A8,c8,_,rfl,cu8,n6.tr n8,by omega,fun k hk=>by omega⟩
        ·have f2:((v:Int) !=(ds.length:Int))=true:=by rw[bne_iff_ne];omega
         have f3:((ds.length:Int) !=(v:Int))=true:=by rw[bne_iff_ne];omega
         clear hct;go_wp2_with fail;go_ret2;exact Jl.bad (by decide) n6
    ·have e1:((x0:Int) !=(kind:Int))=true:=by rw[bne_iff_ne];omega
     go_wp2_with fail;go_ret2;exact Jl.bad (by decide) n6
  ·go_wp2_with fail
   refine (ZE cu2 2 (.inr (by omega))).mono ?_;rintro e w3 ⟨rfl,t3⟩;have n3:Nx W w3:=(n1.tr n2).trans t3.dN fun i hi e=>by omega
   go_wp2_with fail;have hnm:=FT t3.cur 65536 (by omega) (by omega);rw[show aB t 0 3 65536=(0,0,3) from if_pos (by decide)]at hnm;with_reducible refine hnm.mono ?_
   rintro e w4 ⟨rfl,t4⟩;have t4:dA w3 _ g A2 c2 t 0 3 w4:=t4;have n4:Nx W w4:=n3.trans t4.dN fun i hi e=>by omega
   have hend:=fun w6 (n6:Nx w4 w6)=>EG (t4.cur.nx n6);rw[show bn t.length 0 3=3 from rfl]at hend;have jd:=ah hend;have N4:=ah n4;clear hend hnm t4 n4 t3 n3 n1 n2 r1 r2 o1 cu2 Hop fU;go_wp2_with fail;refine (jd.out _ (Ch.refl _ w4)).mono ?_;rintro e w5 ⟨rfl,d5⟩;go_wp2_with fail;refine (jd.out w5 d5.nx).mono ?_;rintro e w6 ⟨rfl,d6⟩;have M6:=ah (N4.out.tr (d5.nx.tr d6.nx));clear d5 d6;go_wp2_with fail;go_ret2;exact Jl.bad (by decide) M6.out
 ·exact (z5k D A n c kind b W hr dX ok hl (by omega) hc hopen _ rfl).mono fun e w' ⟨h1,h2⟩=>by
   rw[h1,show aT b=if b.length<4 then 3 else 6 from if_neg hopen];exact Jl.bad (by split<;>decide) h2
end Go.Proofs.YtfljcllpmbnjaaaGreat
