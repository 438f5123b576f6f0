/- Contracts and plain laws that the last text rests on. Conditions: each theorem states its own. -/
import Derived.Test.YtpakjclpjcngmaaGreatKbQ27
import Derived.Test.YtpakjclpjcngmaaGreatKbQ36
import Derived.Test.YtpakjclpjcngmaaGreatKbPcBkJ
import Derived.Test.YtpakjclpjcngmaaGreatKbQ34
import Derived.Test.YtpakjclpjcngmaaGreatKbPcBkQ
import Derived.Test.YtpakjclpjcngmaaGreatKbQ26
import Derived.Test.YtpakjclpjcngmaaGreatKbQ35
set_option maxRecDepth 100000
set_option maxHeartbeats 32000000
set_option linter.unusedVariables false
namespace Go.Proofs.YtpakjclpjcngmaaGreat
def gy (gr:Nat->Option (List aA)) (ss:List aK) (at_:Int):Nat->Option (List aA)
 |0=>some []
 |k+1=>(gy gr ss at_ k).bind fun l=>
  if at_<(ss.getD k ⟨0,0,0,0,0⟩).place∨at_-(ss.getD k ⟨0,0,0,0,0⟩).place<(ss.getD k ⟨0,0,0,0,0⟩).size then none
  else (gr k).bind fun g=>if 2048<l.length then none else some (l++g)
def zf (b:List Nat):Int×Int×Int:=jv (b.drop (b.length-8)) b.length
def kX (b:List Nat):List aK×List PostE×Int:=dX ((b.drop (zf b).1.toNat).take (zf b).2.1.toNat)
def Ve (b:List Nat):Int:=min ((kX b).1.getD 0 ⟨0,0,0,0,0⟩).rows 256
def QN (b:List Nat) (k:Nat):List Nat:=(b.drop ((kX b).1.getD k ⟨0,0,0,0,0⟩).place.toNat).take ((kX b).1.getD k ⟨0,0,0,0,0⟩).size.toNat
def fD (gr:Nat->Option (List aA)) (b:List Nat):Option (List aA):=
 if (zf b).2.2=0/\(kX b).2.2=0/\0<(kX b).1.length then
  (gy gr (kX b).1 (zf b).1 (kX b).1.length).bind fun l=>if kP l (Ve b)=0/\bg l (Ve b).toNat=b then some l else none
 else none
theorem oK {gr:Nat->Option (List aA)} {ss:List aK} {at_:Int} {k:Nat} (h:gy gr ss at_ k=none):∀d,gy gr ss at_ (k+d)=none
 |0=>h
 |d+1=>by
  show (gy gr ss at_ (k+d)).bind _=none
  rw[oK h d];rfl
theorem Jo {gr:Nat->Option (List aA)} {ss:List aK} {at_:Int} {k n:Nat} (h:gy gr ss at_ (k+1)=none) (hk:k<n):gy gr ss at_ n=none:=by
 have:=oK h (n-(k+1));rwa [show k+1+(n-(k+1))=n by omega]at this
/-! a made block -/
theorem z3r {l:List aA} {per:Int} (h:kP l per=0):1<=per/\per<=256/\l.length<=2048/\fP l=true/\(bg l per.toNat).length<=262144:=by
 unfold kP at h;split at h
 ·cases h
 ·split at h
  ·cases h
  ·split at h
   ·cases h
   ·split at h
    ·cases h
    ·next h1 h2 h3 h4=>exact ⟨by omega,by omega,by omega,by simpa using h3,by omega⟩
theorem Ba {l:List aA} {per:Nat} (hp:0<per) (h2:per<=256) (hl:fP l=true):∀g∈bT per l,dM g/\fP g=true:=fun g hg=>by
 obtain ⟨c1,c2,c3,c4,c5⟩:=OY hp hg;obtain ⟨m1,m2,m3⟩:=IB.1 hl;exact ⟨⟨by omega,fun x hx=>m2 x (c4 x hx)⟩,IB.2 ⟨c1,fun x hx=>m2 x (c4 x hx),m3.sublist c5.sublist⟩⟩
theorem EY {α:Type} {l:List α} {per:Nat} (hp:0<per):(bT per l).length<=l.length:=by
 rw[Ro];by_cases h:l.length=0
 ·rw[h,Nat.zero_add,Nat.div_eq_of_lt (by omega)]
  exact Nat.zero_le _
 ·refine Nat.div_le_of_le_mul ?_
  have:l.length<=per * l.length:=Nat.le_mul_of_pos_left _ hp;obtain ⟨q,rfl⟩:∃q,per=q+1:=⟨per-1,by omega⟩;have e:(q+1) * l.length=q * l.length+l.length:=by rw[Nat.succ_mul]
  have:q<=q * l.length:=Nat.le_mul_of_pos_right _ (by omega);omega
theorem z4K {gs:List (List aA)} (hg:gs.length<=2048):∀p∈z13 gs,p.fits:=fun p hp=>by
 obtain ⟨t,ht,rfl⟩:=List.mem_map.1 hp;have ht:=yt.1 ht;obtain ⟨x,_,rfl⟩:=List.mem_map.1 ht;have h1:=z11 x;have h2:=pV (gs:=gs) (aT x);refine ⟨by simp only;omega,by simp only;omega,fun g hgg=>?_⟩;have:=mZ g hgg;omega
theorem OD {gs:List (List aA)} (h:∀g∈gs,dM g) (hg:gs.length<=2048) (hf:gs.flatten.length<=2048) (hb:5+(aN gs).length<=262144):dX (fE gs)=(iw 5 gs,z13 gs,0):=by
 refine OC (fun s hs=>?_) (z4K hg) (by rw[FU];exact hg) ?_
 ·obtain ⟨h1,h2,h3,h4,h5⟩:=nU h s hs
  exact ⟨⟨h1.1,by omega⟩,⟨h2.1,by omega⟩,⟨h3.1,by omega⟩,h4,h5⟩
 ·unfold z13
  have:=Iw (gs.flatten.map aT);simp only[List.length_map]at this ⊢;omega
theorem z3C {α:Type} {gs:List (List α)} {k:Nat} (h:k<gs.length):(gs.take (k+1)).flatten=(gs.take k).flatten++gs[k]:=by
 rw[List.take_succ_eq_append_getElem h,List.flatten_append];simp
theorem z41 {α:Type} (gs:List (List α)) (k:Nat):(gs.take k).flatten.length<=gs.flatten.length:=by
 have:gs.flatten=(gs.take k).flatten++(gs.drop k).flatten:=by rw[←List.flatten_append,List.take_append_drop]
 rw[this,List.length_append];omega
theorem oL {gs:List (List aA)} {gr:Nat->Option (List aA)} (hf:gs.flatten.length<=2048) (hgr:∀k (h:k<gs.length),gr k=some gs[k]):
 ∀k,k<=gs.length->gy gr (iw 5 gs) ((5+(aN gs).length:Nat):Int) k=some (gs.take k).flatten
 |0,_=>by simp[gy]
 |k+1,hk=>by
  have hlt:k<gs.length:=(by omega);have hl2:k<(iw 5 gs).length:=by rw[FU];exact hlt
  have hs:(iw 5 gs).getD k ⟨0,0,0,0,0⟩=⟨((5+(aN (gs.take k)).length:Nat):Int),(aF gs[k]).length,gs[k].length,FQ gs[k],lastT gs[k]⟩:=by
   rw[List.getD_eq_getElem?_getD,List.getElem?_eq_getElem hl2,Option.getD_some,z2x gs 5 k hlt hl2]
  have hb:=Ig hlt;have h3:=z41 gs k;rw[gy,oL hf hgr k (Nat.le_of_lt hlt),hs,hgr k hlt];simp only[Option.bind_some];rw[if_neg (by omega),if_neg (by omega),z3C hlt]
theorem qg {α:Type} {l:List α} {p:Nat} (h0:0<p) (h1:0<l.length) (hp:l.length<=p):bT p l=[l]:=by
 rw[z3E h0 h1,List.take_of_length_le hp,List.drop_of_length_le hp,z4Y h0]
theorem OW {α:Type} {l:List α} {per:Nat} (hp:0<per) (h1:0<l.length):bT (min per l.length) l=bT per l:=by
 rcases Nat.le_total per l.length with h|h
 ·rw[Nat.min_eq_left h]
 ·rw[Nat.min_eq_right h,qg h1 h1 (Nat.le_refl _),qg hp h1 h]
section
variable {l : List aA} {per : Int} (h : kP l per = 0)
include h
theorem ZL:∃gs,gs=bT per.toNat l/\bg l per.toNat=jl gs/\0<per.toNat/\per.toNat<=256/\0<l.length/\(∀g∈gs,dM g/\fP g=true)/\gs.length<=2048/\0<gs.length/\gs.flatten=l/\l.length<=2048/\5+(aN gs).length<=262144/\(jl gs).length<=262144:=by
 obtain ⟨h1,h2,h3,h4,h5⟩:=z3r h;have hp:0<per.toNat:=by omega
 have hl:=(IB.1 h4).1;refine ⟨_,rfl,rfl,hp,by omega,hl,Ba hp (by omega) h4,?_,?_,z26 hp l,h3,?_,h5⟩
 ·have:=EY (l:=l) hp;omega
 ·rw[z3E hp hl];simp
 ·have:=Ih (bT per.toNat l)
  unfold bg at h5;omega
theorem yZ:zf (bg l per.toNat)=(((5+(aN (bT per.toNat l)).length:Nat):Int),(((fE (bT per.toNat l)).length:Nat):Int),0):=
 OM (z3r h).2.2.2.2
theorem z4b:kX (bg l per.toNat)=(iw 5 (bT per.toNat l),z13 (bT per.toNat l),0):=by
 obtain ⟨gs,e,a1,a2,a3,a4,a5,a6,a7,a8,a9,a10,a11⟩:=ZL h;unfold kX;rw[yZ h,←e,a1];simp only[Int.toNat_natCast];rw[Qb];exact OD (fun g hg=>(a5 g hg).1) a6 (by rw[a8];exact a9) a10
theorem MZ:Ve (bg l per.toNat)=((min per.toNat l.length:Nat):Int):=by
 obtain ⟨gs,e,a1,a2,a3,a4,a5,a6,a7,a8,a9,a10,a11⟩:=ZL h;unfold Ve;rw[z4b h];have hl2:0<(iw 5 (bT per.toNat l)).length:=by rw[FU,←e];exact a7
 rw[List.getD_eq_getElem?_getD,List.getElem?_eq_getElem hl2,Option.getD_some,z2x _ 5 0 (by rw[←e];exact a7) hl2];have:(bT per.toNat l)[0]'(by rw[←e];exact a7)=l.take per.toNat:=by rw[z3k];simp
 simp only[this,List.length_take];omega
theorem M_ {k:Nat} (hk:k<(bT per.toNat l).length):QN (bg l per.toNat) k=aF (bT per.toNat l)[k]:=by
 have hl2:k<(iw 5 (bT per.toNat l)).length:=by rw[FU];exact hk
 unfold QN;rw[z4b h,List.getD_eq_getElem?_getD,List.getElem?_eq_getElem hl2,Option.getD_some,z2x _ 5 k hk hl2];simp only[Int.toNat_natCast];exact KT hk
theorem yY:(kX (bg l per.toNat)).1.length=(bT per.toNat l).length:=by rw[z4b h,FU]
theorem Jm {gr:Nat->Option (List aA)} (hgr:∀k (h:k<(bT per.toNat l).length),gr k=some (bT per.toNat l)[k]):fD gr (bg l per.toNat)=some l:=by
 obtain ⟨gs,e,a1,a2,a3,a4,a5,a6,a7,a8,a9,a10,a11⟩:=ZL h;obtain ⟨h1,h2,h3,h4,h5⟩:=z3r h;have e2:bg l (min per.toNat l.length)=bg l per.toNat:=by unfold bg;rw[OW a2 a4]
 have hr:=oL (by rw[z26 a2];exact a9) hgr _ (Nat.le_refl _);unfold fD;rw[MZ h,yY h];simp only[yZ h,z4b h];rw[if_pos ⟨trivial,trivial,by rw[←e];exact a7⟩,hr,List.take_length,z26 a2];simp only[Option.bind_some,Int.toNat_natCast]
 have e3:kP l ((min per.toNat l.length:Nat):Int)=0:=by
  unfold kP;rw[Int.toNat_natCast,e2,if_neg (by omega),if_neg (by omega),if_neg (by rw[h4];decide),if_neg (by omega)]
 rw[if_pos ⟨e3,e2⟩]
end
end Go.Proofs.YtpakjclpjcngmaaGreat
namespace Go.Proofs.YtpakjclpjcngmaaGreat
open Go.RowKit
theorem Jq {b:List Nat} (h:(zf b).2.2=0):∃p q:Nat,zf b=((p:Int),(q:Int),0)/\p+q+8=b.length/\5<=p:=by
 unfold zf jv at *;split at h
 ·next h1=>
  rw[if_pos h1]at *;split at h
  ·next h2=>
   rw[if_pos h2];refine ⟨b.length-8-le4 (b.drop (b.length-8)),le4 (b.drop (b.length-8)),?_,by omega,by omega⟩;congr 1
   omega
  ·cases h
 ·cases h
theorem Rd.aaP {w:World} {D:Nat->Prop} {A:Option Addr} {n c:Nat} {b:List Nat} (h:Rd w D 1 A n (bl b)) {p q:Nat} (hp:p+q<=n) (hc:n<=c):
 Rd w D 1 (if c=p then A else A.map (·.add p)) q (bl ((b.drop p).take q)):=by
 have h1:=h.cut (k:=p) (cap:=c) (by omega) hc;have h2:=h1.take (k:=q) (by omega);simp only[Nat.mul_one]at h2;rw[show bl ((b.drop p).take q)=((bl b).drop p).take q by simp[bl,List.map_drop,List.map_take]];exact h2
theorem oM {gr:Nat->Option (List aA)} {b:List Nat} (h:(zf b).2.2≠0):fD gr b=none:=by
 unfold fD;rw[if_neg (fun hh=>h hh.1)]
theorem Ec {gr:Nat->Option (List aA)} {b:List Nat} (h:(kX b).2.2≠0):fD gr b=none:=by
 unfold fD;rw[if_neg (fun hh=>h hh.2.1)]
theorem Eb {gr:Nat->Option (List aA)} {b:List Nat} (h:¬0<(kX b).1.length):fD gr b=none:=by
 unfold fD;rw[if_neg (fun hh=>h hh.2.2)]
theorem z2z {gr:Nat->Option (List aA)} {b:List Nat} {k:Nat} (h:gy gr (kX b).1 (zf b).1 (k+1)=none) (hk:k<(kX b).1.length):fD gr b=none:=by
 unfold fD;rw[Jo h hk];split<;>rfl
theorem Jp {gr:Nat->Option (List aA)} {b:List Nat} {l:List aA} (h1:(zf b).2.2=0) (h2:(kX b).2.2=0) (h3:0<(kX b).1.length) (h:gy gr (kX b).1 (zf b).1 (kX b).1.length=some l):
 fD gr b=if kP l (Ve b)=0/\bg l (Ve b).toNat=b then some l else none:=by
 unfold fD;rw[if_pos ⟨h1,h2,h3⟩,h];rfl
theorem z4O {l:List aA} {per:Int} (h:kP l per=0):okB (bg l per.toNat):=by
 obtain ⟨gs,e,a1,a2,a3,a4,a5,a6,a7,a8,a9,a10,a11⟩:=ZL h;have hsp:=z36 (gs:=gs) (fun g hg=>(a5 g hg).1) (by omega);have hl1:(iw 5 gs).length=gs.length:=FU _ _
 have hl2:(z13 gs).length<=2048:=by
  unfold z13;have:=Iw (gs.flatten.map aT);rw[List.length_map]at this ⊢;rw[a8]at this;rw[a8];omega
 have hidx:okB (fM (iw 5 gs) (z13 gs)):=by
  unfold fM;refine jD (jD (jD (jJ (by omega)) (VO fun s hs=>?_)) (jJ (by omega))) (VO fun x hx=>?_)
  ·obtain ⟨a,b,c,d,e⟩:=hsp s hs
   unfold dV;exact jD (jD (jD (jD (jJ (by omega)) (jJ (by omega))) (jJ (by omega))) (jJ (by omega))) (jJ (by omega))
  ·obtain ⟨b1,b2,b3⟩:=z4K a6 x hx
   unfold bY;exact jD (jD (jD (jJ (by omega)) (nH _)) (jJ (by omega))) (VO fun g hg=>jJ (by have:=b3 g hg;omega))
 rw[a1];unfold jl;refine jD (jD (jD (jD ?_ (VO fun g hg=>z4N (a5 g hg).1)) (n_ hidx)) (H_ _)) ?_
 ·intro x hx
  unfold headB at hx;simp only[List.mem_cons,List.not_mem_nil,or_false]at hx;omega
 ·intro x hx
  simp only[List.mem_cons,List.not_mem_nil,or_false]at hx;omega
theorem IW {xs:List Nat} (s:gY):(jZ xs s).1.fits:=by
 unfold jZ aK.fits;refine ⟨⟨Int.natCast_nonneg _,Rj (by decide)⟩,⟨Int.natCast_nonneg _,Rj (by decide)⟩,⟨Int.natCast_nonneg _,Rj (by decide)⟩,⟨Int.natCast_nonneg _,Rj (by decide)⟩,⟨Int.natCast_nonneg _,Rj (by decide)⟩⟩
theorem nT {xs:List Nat}:∀(n:Nat) (s:gY),∀x∈(yg xs n s).1,x.fits
 |0,_,x,hx=>by simp[yg]at hx
 |n+1,s,x,hx=>by
  unfold yg at hx;rcases List.mem_cons.1 hx with rfl|hx
  ·exact IW s
  ·exact nT n _ x hx
theorem nV {xs:List Nat}:∀(n:Nat) (s:gY),(yg xs n s).1.length=n
 |0,_=>rfl
 |n+1,s=>by
  unfold yg;simp only[List.length_cons,nV n]
theorem Au (b:List Nat):(dX b).1.length<=2048/\∀x∈(dX b).1,x.fits:=by
 unfold dX;split
 ·simp only
  split
  ·unfold kE
   simp only;refine ⟨?_,nT _ _⟩;rw[nV];have:((bF (b.take (b.length-4)) 0 0 2048).1:Int)<=2048:=Rj (by decide);omega
  ·exact ⟨by simp,by simp⟩
 ·exact ⟨by simp,by simp⟩
theorem MS {w:World} {D:Nat->Prop} {A:Option Addr} {n c:Nat} {b:List Nat} {gr:Nat->Option (List aA)} (hr:Rd w D 1 A n (bl b)) (hD:∀k,D k->k<w.heap.size) (ok:okB b) (hl:b.length=n) (hn:n<=1000000000) (hc:n<=c) (hgl:∀k g,gr k=some g->g.length<=256)
 (hg:∀k,k<(kX b).1.length->∀(W:World),Nx w W->∀(D':Nat->Prop) (A':Option Addr) (c':Nat),Rd W D' 1 A' (QN b k).length (bl (QN b k))->(QN b k).length<=c'->(∀j,D' j->j<W.heap.size)->Calls Tryz.prog 25 #[.slice A' (QN b k).length c'] W (vF W (gr k))):
 Calls Tryz.prog 21 #[.slice A n c] w (vF w (fD gr b)):=by
 by_cases h0:n=0
 ·subst h0
  have hb:b=[]:=List.eq_nil_of_length_eq_zero hl;subst hb;have Zl:=ah (fun (A':Option Addr) (c':Nat)=>AO (w:=w) (D:=D) (A:=A') (n:=0) (c:=c') (b:=[]) ⟨rfl,fun h=>absurd h (by decide)⟩ (fun x hx=>absurd hx (by simp)) rfl (Nat.zero_le _) 0 (by decide) (by decide));have HO:Hid (fD gr []=none):=ah (oM (by decide));clear hr hg hgl;go_enter Tryz.func21,Tryz.ntmps21;go_wp2_with fail
  all_goals
   refine (Zl.out _ _).mono ?_;rintro e w1 ⟨rfl,hd⟩;go_wp2_with fail;refine bodyPost_ret (v:=.tuple #[.slice none 0 0,.int .i64 4]) (by simp[results,Tryz.results21,go_sem]) rfl ?_;rw[HO.out];exact ⟨rfl,hd.nx⟩
 ·obtain ⟨ad,rfl, -, -⟩:=hr.2 (by omega)
  have hcut:=hr.cut (k:=n-8) (cap:=c) (by omega) hc;rw[Nat.mul_one,show (bl b).drop (n-8)=bl (b.drop (n-8)) by simp[bl,List.map_drop],if_neg (by omega)]at hcut;have hmx:(max ((n:Int)-8) 0).toNat=n-8:=by omega
  have hw8:IntKind.i64.wrap ((n:Int)-8)=(n:Int)-8:=IntWalk.i64_in _ (by omega);have XG:=AO hcut (fun x hx=>ok x (List.mem_of_mem_drop hx)) (by rw[List.length_drop];omega) (c:=c-(n-8)) (by omega) (n:Int) (by omega) (by omega);rw[show jv (b.drop (n-8)) (n:Int)=zf b by unfold zf;rw[hl]]at XG;have Zl:=ah XG;clear hcut XG;have HR:=ah (fun (w':World) (c':Nx w w')=>hr.nx (by decide) c');have HL:=ah hl;have xK:=ah ok;have HG:=ah hg;have HGL:=ah hgl;have HDw:=ah hD;clear hr hl ok hg hgl hD;by_cases he:(zf b).2.2=0
  ·obtain ⟨p,q,hpq,hsum,hp5⟩:=Jq he
   have hX:kX b=dX ((b.drop p).take q):=by unfold kX;rw[hpq];simp
   have HX:=ah hX;have HPQ:=ah hpq;have hpn:p+q+8=n:=by rw[hsum];exact HL.out
   have kpq:IntKind.i64.wrap ((p:Int)+(q:Int))=((p+q:Nat):Int):=by rw[IntWalk.i64_in _ (by omega)];omega
   rw[hpq]at Zl;clear hX hpq he hsum;go_enter Tryz.func21,Tryz.ntmps21;go_wp2_with fail;refine Zl.out.mono ?_;rintro e w1 ⟨rfl,hd⟩;have N1:=ah hd.nx;clear hd Zl hmx hw8;have hcF:¬c=p:=(by omega);have Ou:=Rd.aaP (HR.out w1 N1.out) (p:=p) (q:=q) (by omega) hc;rw[if_neg hcF,Option.map_some]at Ou;have hF0:=OE Ou (fun k hk=>Nat.lt_of_lt_of_le (HDw.out k hk) N1.out.size) (fun x hx=>xK.out x (List.mem_of_mem_drop (List.mem_of_mem_take hx))) (by have:=HL.out;rw[List.length_take,List.length_drop];omega) (by omega) (c:=c-p) (by omega);unfold UQ at hF0;rw[←HX.out]at hF0;have HF:=ah hF0;have hsp:=Au ((b.drop p).take q);rw[←HX.out]at hsp;obtain ⟨hs1,hs2⟩:=hsp;have HS2:=ah hs2;clear hF0 Ou hcF hs2;go_wp2_with fail;refine HF.out.mono ?_;rintro e w2 ⟨A1,A2,c1,c2,ps,rfl,rs, -, -, -,hc1,hc2,n2⟩;obtain ⟨ss,hss⟩:∃t,t=(kX b).1:=⟨_,rfl⟩;obtain ⟨er,her⟩:∃t,t=(kX b).2.2:=⟨_,rfl⟩;obtain ⟨pl,hpl⟩:∃t,t=(kX b).2.1.length:=⟨_,rfl⟩;rw[←hss]at rs hc1 hs1;rw[←hpl]at hc2;rw[←hss]at HS2 HG;rw[←hss,←her,←hpl];have qN:=ah hss;have HER:=ah her;clear hss her hpl hc2;have N2:=ah (N1.out.trans n2 (fun _ _ hf=>hf));have NA:Nx w2 (w2.alloc (.cells #[.slice A1 ss.length c1,.slice A2 pl c2] 49)):=(Ch.refl (fun _=>False) w2).alloc _;have N3:=ah (N2.out.trans NA (fun _ _ hf=>hf));have B3:=ah (aG.new w2 49 #[.slice A1 ss.length c1,.slice A2 pl c2]);have RS:=ah (rs.nx (by decide) NA);have c30:(w2.alloc (.cells #[.slice A1 ss.length c1,.slice A2 pl c2] 49)).cell? ⟨w2.heap.size,0,none⟩=some (.slice A1 ss.length c1):=B3.out.cell 0;have hs23:(w2.alloc (.cells #[.slice A1 ss.length c1,.slice A2 pl c2] 49)).heap.size=w2.heap.size+1:=(by simp);have HS23:=ah hs23;clear rs NA HF hs23;by_cases JU:er=0
   ·have qe:(er !=0)=false:=by rw[JU];rfl
    have HE0:Hid ((kX b).2.2=0):=ah (HER.out.symm.trans JU);clear JU HER;by_cases hs0:0<ss.length
    ·have qs:((ss.length:Int)==0)=false:=by rw[beq_eq_false_iff_ne];omega
     go_wp2_with fail;generalize w2.heap.size=m at *;generalize w2.alloc (.cells #[.slice A1 ss.length c1,.slice A2 pl c2] 49)=w3 at *
     obtain ⟨ap,hap⟩:∃ap,A1=some ap:=by
      obtain ⟨ap,h1, -⟩:=RS.out.2 (by omega);exact ⟨ap,h1⟩
     subst hap;go_loopw [8,52] (fun out i wr=>∃(k:Nat) (zs:List RV),k<=ss.length/\i=.int .i64 (k:Int)/\zs.length<=2304/\Hid (fJ w3 wr out zs)/\Hid (gy gr ss (p:Int) k=some (zs.map fun x=>x.row))/\Hid (∀z∈zs,z.row.few)) (fun _ i _=>ss.length-(intOf i).toNat)
     case atStart=>exact ⟨0,[],Nat.zero_le _,rfl,Nat.zero_le _,ah (fJ.nil w3 w3 (Ch.refl _ _)),ah rfl,ah (by simp)⟩
     case round=>
      obtain ⟨w4,rfl⟩:∃w4:World,w4=wr:=⟨_,rfl⟩;obtain ⟨k,zs,hkn,rfl,hzl,sD,HRR,QY⟩:=hrel;obtain ⟨Ao,co,rfl,hco,hcm⟩:=sD.out.form;have N4:=ah (N3.out.trans sD.out.own.nx (fun _ _ hf=>hf));by_cases hlt:k<ss.length
      ·obtain ⟨ap2,EI, -,s0,s1,s2,s3,s4⟩:=mP (RS.out.nx (by decide) sD.out.own.nx) hlt
       injection EI with EI;subst EI;obtain ⟨f1,f2, -, -, -⟩:=HS2.out ss[k] (List.getElem_mem hlt);have hgd:ss.getD k ⟨0,0,0,0,0⟩=ss[k]:=(by simp[hlt]);have Cb:=ah (HG.out k hlt);have Yk:Hid (QN b k=(b.drop ss[k].place.toNat).take ss[k].size.toNat):=ah (by unfold QN;rw[←qN.out,hgd])
       have HRN:Hid (gy gr ss (p:Int) (k+1)=if (p:Int)<ss[k].place∨(p:Int)-ss[k].place<ss[k].size then none else (gr k).bind fun g=>if 2048<zs.length then none else some ((zs.map fun x=>x.row)++g)):=ah (by
        rw[gy,HRR.out,hgd];simp only[Option.bind_some,List.length_map])
       obtain ⟨⟨pc,sz,rw_,lo,hi⟩,hsp⟩:∃t,t=ss[k]:=⟨_,rfl⟩;rw[←hsp]at s0 s1 s2 s3 s4 f1 f2 Yk HRN;simp only at s0 s1 s2 s3 s4 f1 f2;clear hsp hgd;obtain ⟨a,rfl⟩:=Int.eq_ofNat_of_zero_le f1.1;obtain ⟨z,rfl⟩:=Int.eq_ofNat_of_zero_le f2.1;have fa:a<=262144:=(by omega);have fz:z<=262144:=(by omega);clear f1 f2;have NB:Nx w4 (w4.alloc (.cells #[.int .i64 (a:Int),.int .i64 (z:Int),.int .i64 rw_,.int .i64 lo,.int .i64 hi] 53)):=(Ch.refl (fun _=>False) w4).alloc _;have Zq:=ah NB;have B5:=ah (aG.new w4 53 #[.int .i64 (a:Int),.int .i64 (z:Int),.int .i64 rw_,.int .i64 lo,.int .i64 hi]);have d0:(w4.alloc (.cells #[.int .i64 (a:Int),.int .i64 (z:Int),.int .i64 rw_,.int .i64 lo,.int .i64 hi] 53)).cell? ⟨w4.heap.size,0,none⟩=some (.int .i64 (a:Int)):=B5.out.cell 0;have d1:(w4.alloc (.cells #[.int .i64 (a:Int),.int .i64 (z:Int),.int .i64 rw_,.int .i64 lo,.int .i64 hi] 53)).cell? ⟨w4.heap.size,1,none⟩=some (.int .i64 (z:Int)):=B5.out.cell 1;clear NB;by_cases hbd:p<a
       ·have q1:decide ((p:Int)<(a:Int))=true:=by rw[decide_eq_true_eq];omega
        have HO:Hid (fD gr b=none):=ah (z2z (k:=k) (by rw[←qN.out,HPQ.out,HRN.out,if_pos (.inl (by simp only;omega))]) (by rw[←qN.out];exact hlt));clear q1;go_wp2_with fail;refine bodyPost_ret (v:=.tuple #[.slice none 0 0,.int .i64 4]) (by simp[results,Tryz.results21,go_sem]) rfl ?_;rw[HO.out];exact ⟨rfl,N4.out.trans Zq.out (fun _ _ hf=>hf)⟩
       ·have hbd':a<=p:=by omega
        have k1:IntKind.i64.wrap ((p:Int)-(a:Int))=(p:Int)-(a:Int):=IntWalk.i64_in _ (by omega);by_cases hbd2:p-a<z
        ·have q2:decide ((p:Int)-(a:Int)<(z:Int))=true:=by rw[decide_eq_true_eq];omega
         have HO:Hid (fD gr b=none):=ah (z2z (k:=k) (by rw[←qN.out,HPQ.out,HRN.out,if_pos (.inr (by simp only;omega))]) (by rw[←qN.out];exact hlt));clear hbd2;go_wp2_with fail;refine bodyPost_ret (v:=.tuple #[.slice none 0 0,.int .i64 4]) (by simp[results,Tryz.results21,go_sem]) rfl ?_;rw[HO.out];exact ⟨rfl,N4.out.trans Zq.out (fun _ _ hf=>hf)⟩
        ·have q2:decide ((p:Int)-(a:Int)<(z:Int))=false:=by rw[decide_eq_false_iff_not];omega
         have k2:IntKind.i64.wrap ((a:Int)+(z:Int))=((a+z:Nat):Int):=by rw[IntWalk.i64_in _ (by omega)];omega
         have hgl:Hid ((QN b k).length=z):=ah (by rw[Yk.out,List.length_take,List.length_drop];have:=HL.out;simp only[Int.toNat_natCast];omega);have N5:=ah (N4.out.trans Zq.out (fun _ _ hf=>hf));have hca:¬c=a:=(by omega);have Ot:=Rd.aaP (HR.out _ N5.out) (p:=a) (q:=z) (by omega) hc;rw[if_neg hca,Option.map_some,show (b.drop a).take z=QN b k by rw[Yk.out];simp]at Ot;have hgc:=Cb.out _ N5.out _ _ (c-a) (by rw[hgl.out];exact Ot) (by rw[hgl.out];omega) (fun j hj=>Nat.lt_of_lt_of_le (HDw.out j hj) N5.out.size);rw[hgl.out]at hgc;have UN:=ah hgc
         have HN2:Hid (gy gr ss (p:Int) (k+1)=(gr k).bind fun g=>if 2048<zs.length then none else some ((zs.map fun x=>x.row)++g)):=ah (by
          rw[HRN.out,if_neg (by simp only;omega)])
         clear hgc Ot hca HRN Cb Yk;go_wp2_with fail;clear s0 s1 s2 s3 s4 d0 d1;refine UN.out.mono ?_;rintro e w6 hgt;cases hgk:gr k with
         |none=>
          rw[hgk]at hgt;obtain ⟨rfl,n6⟩:=hgt;have HO:Hid (fD gr b=none):=ah (z2z (k:=k) (by rw[←qN.out,HPQ.out,HN2.out,hgk];rfl) (by rw[←qN.out];exact hlt));have N6:=ah (N5.out.trans n6 (fun _ _ hf=>hf));clear n6 hgk HN2;go_wp2_with fail;refine bodyPost_ret (v:=.tuple #[.slice none 0 0,.int .i64 4]) (by simp[results,Tryz.results21,go_sem]) rfl ?_;rw[HO.out];exact ⟨rfl,N6.out⟩
         |some gl=>
          rw[hgk]at hgt;obtain ⟨ys,Ag,cg,rfl,hys,Yn,hyf⟩:=hgt;have Xx:=HGL.out k gl hgk
          have hyl:ys.length<=256:=by
           have:=congrArg List.length hys;rw[List.length_map]at this;omega
          have N6:=ah (N5.out.trans Yn.own.nx (fun _ _ hf=>hf));have abu:=ah Yn;have HYF:=ah hyf;have HYS:=ah hys;have UJ:=ah (((sD.out.tr Zq.out)).tr Yn.own.nx);rw[hgk]at HN2;clear Yn hyf hys Xx hgk hgl;by_cases hbig:2048<zs.length
          ·have HO:Hid (fD gr b=none):=ah (z2z (k:=k) (by rw[←qN.out,HPQ.out,HN2.out,Option.bind_some,if_pos hbig]) (by rw[←qN.out];exact hlt))
           clear HN2;go_wp2_with fail;refine bodyPost_ret (v:=.tuple #[.slice none 0 0,.int .i64 4]) (by simp[results,Tryz.results21,go_sem]) rfl ?_;rw[HO.out];exact ⟨rfl,N6.out⟩
          ·obtain ⟨i0,hi0,hz0,hz1,hz2⟩:=info_parts Tryz.wY
           have HRR2:Hid (gy gr ss (p:Int) (k+1)=some ((zs++ys).map fun x=>x.row)):=ah (by rw[HN2.out,Option.bind_some,if_neg hbig,List.map_append,HYS.out]);have HW3:Hid (w3.heap.size<=w6.heap.size):=ah UJ.out.own.nx.size;clear HN2 HRR;go_wp2_with (at_builtin;refine z07 _ rfl (.tmp 89) (.tmp 90) _ rfl w3.heap.size 58 i0 _ 9 96 Tryz.underlying22 hi0 hz0 hz1 hz2 rfl (by omega) (.slice Ao zs.length co) zs.length (iE zs) rfl UJ.out.own.own _ Ag ys.length cg (iE ys) rfl abu.out.rd (wu _) (by simp only[maxLen];omega) (by omega) HW3.out ?_;intro v7 w7 jS gr7 at7;obtain ⟨o7,m7⟩:=QJ UJ.out.own (Ch.refl _ _) jS gr7 at7;obtain ⟨A7,c7,rfl,hc7,hm7⟩:=z08 jS;have G7:=ah (UJ.out.app (ys:=ys) o7 m7 (fun x hx=>(abu.out.ok x hx).ch (Ch.refl (fun _=>False) w6) (fun _ _ _ hf=>hf) fun j hj=>⟨Nat.le_trans sD.out.own.nx.size (Nat.le_trans Zq.out.size hj.1),hj.2.1,fun e=>by have:=(sD.out.own.lt j e).2;have:=Zq.out.size;have:=hj.1;omega⟩));clear jS gr7 at7 o7 m7)
           go_roundw
           case rel=>
            refine ⟨k+1,zs++ys,hlt,by go_num,by rw[List.length_append];omega,G7,HRR2,ah fun x hx=>?_⟩;rcases List.mem_append.1 hx with hx|hx
            ·exact QY.out x hx
            ·exact HYF.out x hx
           case measure=>simp[intOf];omega
      ·have hkk:k=ss.length:=by omega
       have QT:Hid (gy gr (kX b).1 (zf b).1 (kX b).1.length=some (zs.map fun x=>x.row)):=ah (by rw[←qN.out,HPQ.out,←hkk];exact HRR.out);have hend:=Jp (gr:=gr) (b:=b) (by rw[HPQ.out]) HE0.out (by rw[←qN.out];exact hs0) QT.out;obtain ⟨ap2,EI, -,s0,s1,s2,s3,s4⟩:=mP (RS.out.nx (by decide) sD.out.own.nx) hs0;injection EI with EI;subst EI;obtain ⟨-, -,f3, -, -⟩:=HS2.out ss[0] (List.getElem_mem hs0)
       have hP:Ve b=min ss[0].rows 256:=by
        unfold Ve;rw[←qN.out];simp[hs0]
       rw[hP]at hend;obtain ⟨R0,hR0⟩:∃t,t=ss[0].rows:=⟨_,rfl⟩;rw[←hR0]at s2 f3 hend;have e0:ap.add (0 * 5)=ap:=(by simp[Addr.add]);rw[e0]at s2;have c34:w4.cell? ⟨m,0,none⟩=some (.slice (some ap) ss.length c1):=(Nx.cell sD.out.own.nx (p:=⟨m,0,none⟩) (World.block_lt_of_cell? w3 _ c30)).trans c30;have HBU:=ah (z5g sD.out.rd rfl (by omega) hco (fun x hx=>⟨(sD.out.ok x hx).ch (Ch.refl (fun _=>False) _) (fun _ _ _ hf=>hf) fun j hj=>hj.2.1,(QY.out x hx).mid⟩) (min R0 256) (by omega) (by omega));have FK:=ah hend;have hss0:(0:Int)<(ss.length:Int):=(by omega);clear s0 s1 s3 s4 hP hR0 e0 hend QT hkk HRR;go_wp2_with fail;refine HBU.out.mono ?_;rintro e w5 ⟨hbad,hok⟩;by_cases hbe:kP (zs.map fun x=>x.row) (min R0 256)=0
       ·obtain ⟨kk,cap,rfl,o5⟩:=hok hbe
        have HOB:=ah (z4O hbe);have HBE:=ah hbe;have N5:=ah (N4.out.trans o5.nx (fun _ _ hf=>hf));have hcv1:=vI (P:=Tryz.prog) w5 26 9 5 Tryz.underlying26 Tryz.underlying5 Tryz.underlying9 _ _ _ cap _ o5.iy;have hcv2:=vI (P:=Tryz.prog) w5 26 9 5 Tryz.underlying26 Tryz.underlying5 Tryz.underlying9 D _ _ c _ (HR.out w5 N5.out);have UK:=ah (sD.out.tr o5.nx);clear hbad hok o5 HBU hbe s2 c34;obtain ⟨T,hT⟩:∃t,t=bg (zs.map fun x=>x.row) (min R0 256).toNat:=⟨_,rfl⟩;rw[←hT]at FK HOB hcv1 ⊢;clear hT;by_cases heq:T=b
        ·have HO:Hid (fD gr b=some (zs.map fun x=>x.row)):=ah (by rw[FK.out,if_pos ⟨HBE.out,heq⟩])
         have qz:((bf T).toList==(bf b).toList)=true:=by rw[heq];simp
         clear heq;go_wp2_with fail;refine bodyPost_ret (v:=.tuple #[.slice Ao zs.length co,.int .i64 0]) (by simp[results,Tryz.results21,go_sem]) rfl ?_;rw[HO.out];have hb:=N3.out;exact ⟨zs,Ao,co,rfl,rfl,⟨UK.out.own.weak hb,fun z hz=>(UK.out.ok z hz).ch (Ch.refl (fun _=>False) _) (fun _ _ _ hf=>hf) fun j hj=>⟨Nat.le_trans hb.size hj.1,hj.2⟩⟩,QY.out⟩
        ·have HO:Hid (fD gr b=none):=ah (by rw[FK.out,if_neg (fun hh=>heq hh.2)])
         have qz:((bf T).toList==(bf b).toList)=false:=by rw[QM,decide_eq_false_iff_not];exact fun he=>heq (z48 HOB.out xK.out he)
         clear heq;go_wp2_with fail;refine bodyPost_ret (v:=.tuple #[.slice none 0 0,.int .i64 4]) (by simp[results,Tryz.results21,go_sem]) rfl ?_;rw[HO.out];exact ⟨rfl,N5.out⟩
       ·obtain ⟨rfl,n5⟩:=hbad hbe
        have HO:Hid (fD gr b=none):=ah (by rw[FK.out,if_neg (fun hh=>hbe hh.1)]);have qb:(kP (zs.map fun x=>x.row) (min R0 256) !=0)=true:=by rw[bne_iff_ne];exact hbe
        clear hbe hbad hok;go_wp2_with fail;refine bodyPost_ret (v:=.tuple #[.slice none 0 0,.int .i64 4]) (by simp[results,Tryz.results21,go_sem]) rfl ?_;rw[HO.out];exact ⟨rfl,N4.out.trans n5 (fun _ _ hf=>hf)⟩
    ·have qs:((ss.length:Int)==0)=true:=by rw[beq_iff_eq];omega
     have HO:Hid (fD gr b=none):=ah (Eb (by rw[←qN.out];exact hs0));clear hs0;go_wp2_with fail;refine bodyPost_ret (v:=.tuple #[.slice none 0 0,.int .i64 4]) (by simp[results,Tryz.results21,go_sem]) rfl ?_;rw[HO.out];exact ⟨rfl,N3.out⟩
   ·have qe:(er !=0)=true:=by rw[bne_iff_ne];exact JU
    have HO:Hid (fD gr b=none):=ah (Ec (by rw[←HER.out];exact JU));clear JU;go_wp2_with fail;refine bodyPost_ret (v:=.tuple #[.slice none 0 0,.int .i64 4]) (by simp[results,Tryz.results21,go_sem]) rfl ?_;rw[HO.out];exact ⟨rfl,N3.out⟩
  ·have HO:Hid (fD gr b=none):=ah (oM he)
   have hq:((zf b).2.2 !=0)=true:=by rw[bne_iff_ne];exact he
   clear he;go_enter Tryz.func21,Tryz.ntmps21;go_wp2_with fail;refine Zl.out.mono ?_;rintro e w1 ⟨rfl,hd⟩;clear hmx;go_wp2_with fail;refine bodyPost_ret (v:=.tuple #[.slice none 0 0,.int .i64 4]) (by simp[results,Tryz.results21,go_sem]) rfl ?_;rw[HO.out];exact ⟨rfl,hd.nx⟩
end Go.Proofs.YtpakjclpjcngmaaGreat
namespace Go.Proofs.YtpakjclpjcngmaaGreat
open Go.RowKit Ps
theorem ou {x:aA} (h:r_ x):x.aB.length<=4/\(∀y∈x.aB,dw y.name=true/\y.value.size<=16)/\dZ (Ps.textF x.aB)=aT x:=by
 have hr:=(Le h.1).2.2.1;refine ⟨?_,fun y hy=>z1M hr hy,?_⟩
 ·unfold aZ at hr
  rw[Bool.and_eq_true,decide_eq_true_eq]at hr;exact hr.1
 ·unfold aT vT
  rw[if_pos hr]
end Go.Proofs.YtpakjclpjcngmaaGreat
namespace Go.Proofs.YtpakjclpjcngmaaGreat
open Go.RowKit
def gI (l:List aA) (per:Int):Int:=if per<1∨256<per then 1 else if 2048<l.length then 5 else if fP l=true then 0 else 4
theorem BH {w:World} {D:Nat->Prop} {A:Option Addr} {n c:Nat} {l:List RV} (h:Rd w D 9 A n (iE l)) (hl:l.length=n) (hn:n<=1000000) (hk:∀x∈l,x.ok w D/\x.row.mid) (per:Int):
 Calls Tryz.prog 15 #[.slice A n c,.int .i64 per] w fun e w'=>e=.returned (.int .i64 (gI (l.map fun x=>x.row) per))/\Nx w w':=by
 have HM:=ah (JA (c:=c) h hl hn hk);obtain ⟨R,hR⟩:∃R,R=l.map fun x=>x.row:=⟨_,rfl⟩;rw[←hR]at HM ⊢;have hRl:R.length=n:=by rw[hR,List.length_map,hl]
 obtain ⟨X,hX⟩:∃X,X=gI R per:=⟨_,rfl⟩;rw[←hX];unfold gI at hX;rw[hRl]at hX;have HX:=ah hX;clear h hl hk hR hRl hX;by_cases h1:per<1
 ·have HY:Hid (X=1):=ah (by rw[HX.out,if_pos (.inl h1)])
  go_enter Tryz.func15,Tryz.ntmps15;go_wp2_with fail;go_ret;exact ⟨by rw[HY.out];first|done|rfl,Ch.refl _ _⟩
 ·by_cases h2:256<per
  ·have HY:Hid (X=1):=ah (by rw[HX.out,if_pos (.inr h2)])
   go_enter Tryz.func15,Tryz.ntmps15;go_wp2_with fail;go_ret;exact ⟨by rw[HY.out];first|done|rfl,Ch.refl _ _⟩
  ·by_cases h3:2048<n
   ·have HY:Hid (X=5):=ah (by rw[HX.out,if_neg (by omega),if_pos h3])
    go_enter Tryz.func15,Tryz.ntmps15;go_wp2_with fail;go_ret;exact ⟨by rw[HY.out];first|done|rfl,Ch.refl _ _⟩
   ·have HY:Hid (X=if fP R=true then 0 else 4):=ah (by rw[HX.out,if_neg (by omega),if_neg h3])
    generalize fP R=b at *;cases b
    all_goals
     go_enter Tryz.func15,Tryz.ntmps15;go_wp2_with fail;refine HM.out.mono ?_;rintro e w1 ⟨rfl,n1⟩;have N1:=ah n1;clear n1;go_wp2_with fail;go_ret;exact ⟨by rw[HY.out];first|done|rfl,N1.out⟩
/-! rows in groups, in memory -/
def cutV (A:Option Addr) (c per n:Nat):Nat->List Value
 |0=>[]
 |k+1=>cutV A c per n k++[.slice (A.map (·.add (k * per * 9))) (min per (n-k * per)) (c-k * per)]
theorem Tryz.Tc:(Tryz.prog.info? 22).map (fun i=>(i.zero,i.size,i.bytes))=some (some (.slice none 0 0),1,24):=by kernel_rfl
theorem Kt {w:World} {D:Nat->Prop} {A:Option Addr} {n c per:Nat} {xs:List Value} (h:Rd w D 9 A n xs) (hn:n<=1000000) (hc:n<=c) (hcm:c<=maxLen) (h0:0<per) (h1:per<=256):
 Calls Tryz.prog 51 #[.slice A n c,.int .i64 (per:Int)] w fun e w'=>∃v,e=.returned v/\ak w w' 22 1 v ((n+per-1) / per) (cutV A c per n ((n+per-1) / per)):=by
 obtain ⟨i0,hi0,hz0,hz1,hz2⟩:=info_parts Tryz.Tc;have HA:Hid (0<n->∃ad,A=some ad):=ah (fun hn=>by obtain ⟨ad,e, -⟩:=h.2 hn;exact ⟨ad,e⟩);have HG:Hid (∀k,k<(n+per-1) / per↔k * per<n):=ah (fun k=>YA h0);clear h;go_enter Tryz.func51,Tryz.ntmps51;go_wp2_with fail;go_loopw [5,6] (fun s5 s6 wr=>∃k:Nat,k<=(n+per-1) / per/\s6=.int .i64 ((k * per:Nat):Int)/\Hid (ak w wr 22 1 s5 k (cutV A c per n k))) (fun _ s6 _=>n+256-(intOf s6).toNat)
 case atStart=>exact ⟨0,Nat.zero_le _,by simp,ah (ak.lit w w _ (Ch.refl _ _) 1)⟩
 case round=>
  obtain ⟨w3,rfl⟩:∃w3:World,w3=wr:=⟨_,rfl⟩;obtain ⟨k,hk,rfl,HO⟩:=hrel;by_cases hlt:k * per<n
  ·obtain ⟨ad,rfl⟩:=HA.out (by omega)
   have hkg:k<(n+per-1) / per:=(HG.out k).2 hlt;have hks:(k+1) * per=k * per+per:=Nat.succ_mul k per;have HKS:=ah hks;obtain ⟨p,hp⟩:∃p,p=k * per:=⟨_,rfl⟩;have HP:=ah hp;rw[←hp]at hlt ⊢;have hcv:Hid (cutV (some ad) c per n (k+1)=cutV (some ad) c per n k++[.slice (some (ad.add (p * 9))) (min per (n-p)) (c-p)]):=ah (by rw[cutV,←HP.out];rfl);have kw:IntKind.i64.wrap ((p:Int)+(per:Int))=((p+per:Nat):Int):=by rw[IntWalk.i64_in _ (by omega)];omega
   have hk2:k<=n:=by
    have:=Nat.le_mul_of_pos_right k h0;rw[HP.out]at hlt;omega
   have hmn:(min ((p:Int)+(per:Int)) (n:Int)).toNat-p=min per (n-p):=(by omega);rw[←hmn]at hcv;clear hp hks hmn;go_wp2_with (at_builtin;refine z06 rfl (.tmp 15) (.tmp 25) _ rfl 22 i0 _ 24 Tryz.underlying95 hi0 hz0 hz1 hz2 rfl (Value.slice (some (ad.add (p * 9))) ((min ((p:Int)+(per:Int)) (n:Int)).toNat-p) (c-p)) rfl rfl HO.out rfl (by simp only[maxLen];omega) (by omega) ?_;intro v7 w7 o7 m7;have O7:=ah o7;clear o7 m7)
   go_roundw
   case rel=>exact ⟨k+1,hkg,by rw[HKS.out,←HP.out];simp,by rw[hcv.out];exact O7⟩
   case measure=>simp[intOf];omega
  ·have hkk:k=(n+per-1) / per:=by
    have:=HG.out k;omega
   have HKK:=ah hkk;have hlt2:¬((k * per:Nat):Int)<(n:Int):=(by omega);clear hkk;go_wp2_with fail;go_ret;refine ⟨_,rfl,?_⟩;rw[←HKK.out];exact HO.out
end Go.Proofs.YtpakjclpjcngmaaGreat
namespace Go.Proofs.YtpakjclpjcngmaaGreat
theorem uD {gs:List (List aA)} (h:∀g∈gs,dM g) (h1:gs.length<=61) (h2:gs.flatten.length<=61):(fM (iw 5 gs) (z13 gs)).length<=60000:=by
 have hb:=z3F h;have hf:=z36 h (by omega)
 have a1:=VN (f:=dV) (c:=50) (l:=iw 5 gs) fun s hs'=>by
  obtain ⟨b1,b2,b3,b4,b5⟩:=hf s hs';have c1:=(z04 (n:=s.place.toNat) (by omega)).2;have c2:=(z04 (n:=s.size.toNat) (by omega)).2;have c3:=(z04 (n:=s.rows.toNat) (by omega)).2;have c4:=(z04 (n:=s.lo.toNat) (by omega)).2;have c5:=(z04 (n:=s.hi.toNat) (by omega)).2;unfold dV;simp only[List.length_append];omega
 have a2:=VN (f:=bY) (c:=872) (l:=z13 gs) fun p hp'=>by
  obtain ⟨t,ht,rfl⟩:=List.mem_map.1 hp';obtain ⟨x,hx,rfl⟩:=List.mem_map.1 (yt.1 ht);have hs:=z11 x;have hl:(bU (aT x) 0 gs).length<=gs.length:=pV _;have c1:=(z04 (n:=(aT x).size) (by omega)).2;have c2:=(z04 (n:=(bU (aT x) 0 gs).length) (by omega)).2;have c3:=VN (f:=aj) (c:=10) (l:=bU (aT x) 0 gs) fun g hg=>(z04 (n:=g) (by have:g<gs.length:=mZ g hg;omega)).2;unfold bY;simp only[List.length_append,z09];omega
 have e1:(iw 5 gs).length=gs.length:=FU _ _;have e2:=oP gs;have a3:=(z04 (n:=(iw 5 gs).length) (by omega)).2;have a4:=(z04 (n:=(z13 gs).length) (by omega)).2;unfold fM;simp only[List.length_append];omega
theorem KR {gs:List (List aA)} (h:∀g∈gs,dM g) (h1:gs.length<=61) (h2:gs.flatten.length<=61):(jl gs).length<=262144:=by
 have hb:=z3F h;have hi:=uD h h1 h2;unfold jl fE;simp only[List.length_append,Iz,four,headB,List.length_cons,List.length_nil];omega
theorem uQ {α:Type} {per:Nat} {l:List α} (hp:0<per) (hl:0<l.length):(bT per l).length<=l.length:=by
 rw[Ro];obtain ⟨p,rfl⟩:∃p,per=p+1:=⟨per-1,by omega⟩;have h:=Nat.le_mul_of_pos_right p hl;refine Nat.div_le_of_le_mul ?_;rw[Nat.add_mul,Nat.one_mul];omega
theorem z5f {l:List aA} {per:Nat} (hp:0<per) (hp2:per<=256) (hm:fP l=true) (hn:l.length<=61):(bg l per).length<=262144:=by
 obtain ⟨h0,hr, -⟩:=IB.1 hm;have hf:=z26 hp l;refine KR (fun g hg=>⟨?_,fun x hx=>hr x ?_⟩) (Nat.le_trans (uQ hp h0) hn) (by rw[hf];exact hn)
 ·obtain ⟨i, -,rfl⟩:=List.mem_map.1 hg
  rw[List.length_take];omega
 ·obtain ⟨i, -,rfl⟩:=List.mem_map.1 hg
  exact List.mem_of_mem_drop (List.mem_of_mem_take hx)
theorem qE {l:List aA} {per:Int} (hn:l.length<=61):kP l per=gI l per:=by
 unfold kP gI;by_cases h1:per<1∨256<per
 ·rw[if_pos h1,if_pos h1]
 ·rw[if_neg h1,if_neg h1]
  by_cases h2:2048<l.length
  ·rw[if_pos h2,if_pos h2]
  ·rw[if_neg h2,if_neg h2]
   by_cases h3:fP l=true
   ·have h4:=z5f (l:=l) (per:=per.toNat) (by omega) (by omega) h3 hn
    rw[if_pos h3,if_neg (by rw[h3];decide),if_neg (by omega)]
   ·rw[if_neg h3,if_pos (by simpa using h3)]
end Go.Proofs.YtpakjclpjcngmaaGreat
