/- Contracts and plain laws that the last text rests on. Conditions: each theorem states its own. -/
import Derived.Test.YtpakjclpjcngmaaGreatKdQ30
import Derived.Test.YtpakjclpjcngmaaGreatKdQ29
import Derived.Test.YtpakjclpjcngmaaGreatKdQ38
import Derived.Test.YtpakjclpjcngmaaGreatKdPdBkJ
import Derived.Test.YtpakjclpjcngmaaGreatKdQ36
import Derived.Test.YtpakjclpjcngmaaGreatKdPdBkQ
import Derived.Test.YtpakjclpjcngmaaGreatKdQ37
import Derived.Test.YtpakjclpjcngmaaGreatKdQ33
import Derived.Test.YtpakjclpjcngmaaGreatKdQ34
import Derived.Test.YtpakjclpjcngmaaGreatKdQ35
import Derived.Test.YtpakjclpjcngmaaGreatKdQ20
import Derived.Test.YtpakjclpjcngmaaGreatKdQ3
set_option maxRecDepth 100000
set_option maxHeartbeats 32000000
set_option linter.unusedVariables false
namespace Go.Proofs.YtpakjclpjcngmaaGreat
def gY (gr:Nat->Option (List au)) (ss:List aW) (at_:Int):Nat->Option (List au)
 |0=>some []
 |k+1=>(gY gr ss at_ k).bind fun l=>
  if at_<(ss.getD k ⟨0,0,0,0,0⟩).place∨at_-(ss.getD k ⟨0,0,0,0,0⟩).place<(ss.getD k ⟨0,0,0,0,0⟩).size then none
  else (gr k).bind fun g=>if 2048<l.length then none else some (l++g)
def Au (b:List Nat):Int×Int×Int:=jO (b.drop (b.length-8)) b.length
def lJ (b:List Nat):List aW×List PostE×Int:=dQ ((b.drop (Au b).1.toNat).take (Au b).2.1.toNat)
def YA (b:List Nat):Int:=min ((lJ b).1.getD 0 ⟨0,0,0,0,0⟩).rows 256
def KE (b:List Nat) (k:Nat):List Nat:=(b.drop ((lJ b).1.getD k ⟨0,0,0,0,0⟩).place.toNat).take ((lJ b).1.getD k ⟨0,0,0,0,0⟩).size.toNat
def eP (gr:Nat->Option (List au)) (b:List Nat):Option (List au):=
 if (Au b).2.2=0/\(lJ b).2.2=0/\0<(lJ b).1.length then
  (gY gr (lJ b).1 (Au b).1 (lJ b).1.length).bind fun l=>if jl l (YA b)=0/\aT l (YA b).toNat=b then some l else none
 else none
theorem pV {gr:Nat->Option (List au)} {ss:List aW} {at_:Int} {k:Nat} (h:gY gr ss at_ k=none):∀d,gY gr ss at_ (k+d)=none
 |0=>h
 |d+1=>by
  show (gY gr ss at_ (k+d)).bind _=none
  rw[pV h d];rfl
theorem Na {gr:Nat->Option (List au)} {ss:List aW} {at_:Int} {k n:Nat} (h:gY gr ss at_ (k+1)=none) (hk:k<n):gY gr ss at_ n=none:=by
 have:=pV h (n-(k+1));rwa [show k+1+(n-(k+1))=n by omega]at this
theorem GI {gr:Nat->Option (List au)} {b:List Nat} {l:List au} (h:eP gr b=some l):∃per:Int,jl l per=0/\aT l per.toNat=b:=by
 unfold eP at h;split at h
 ·cases h2:gY gr (lJ b).1 (Au b).1 (lJ b).1.length with
  |none=>rw[h2]at h;cases h
  |some m=>
   rw[h2]at h;simp only[Option.bind_some]at h;split at h
   ·next h3=>
    injection h with h;subst h;exact ⟨_,h3⟩
   ·cases h
 ·cases h
/-! a made block -/
theorem Yt {l:List au} {per:Int} (h:jl l per=0):1<=per/\per<=256/\l.length<=2048/\iP l=true/\(aT l per.toNat).length<=262144:=by
 unfold jl at h;split at h
 ·cases h
 ·split at h
  ·cases h
  ·split at h
   ·cases h
   ·split at h
    ·cases h
    ·next h1 h2 h3 h4=>exact ⟨by omega,by omega,by omega,by simpa using h3,by omega⟩
theorem TW {l:List au} {per:Nat} (hp:0<per) (h2:per<=256) (hl:iP l=true):∀g∈bK per l,dN g/\iP g=true:=fun g hg=>by
 obtain ⟨c1,c2,c3,c4,c5⟩:=TV hp hg;obtain ⟨m1,m2,m3⟩:=JR.1 hl;exact ⟨⟨by omega,fun x hx=>m2 x (c4 x hx)⟩,JR.2 ⟨c1,fun x hx=>m2 x (c4 x hx),m3.sublist c5.sublist⟩⟩
theorem Ja {α:Type} {l:List α} {per:Nat} (hp:0<per):(bK per l).length<=l.length:=by
 rw[Zm];by_cases h:l.length=0
 ·rw[h,Nat.zero_add,Nat.div_eq_of_lt (by omega)]
  exact Nat.zero_le _
 ·refine Nat.div_le_of_le_mul ?_
  have:l.length<=per * l.length:=Nat.le_mul_of_pos_left _ hp;obtain ⟨q,rfl⟩:∃q,per=q+1:=⟨per-1,by omega⟩;have e:(q+1) * l.length=q * l.length+l.length:=by rw[Nat.succ_mul]
  have:q<=q * l.length:=Nat.le_mul_of_pos_right _ (by omega);omega
theorem z5S {gs:List (List au)} (hg:gs.length<=2048):∀p∈Po gs,p.fits:=fun p hp=>by
 obtain ⟨t,ht,rfl⟩:=List.mem_map.1 hp;have ht:=z14.1 ht;obtain ⟨x,_,rfl⟩:=List.mem_map.1 ht;have h1:=z38 x;have h2:=DJ (gs:=gs) (dG x);refine ⟨by simp only;omega,by simp only;omega,fun g hgg=>?_⟩;have:=KY g hgg;omega
theorem qJ {gs:List (List au)} (h:∀g∈gs,dN g) (hg:gs.length<=2048) (hf:gs.flatten.length<=2048) (hb:5+(aP gs).length<=262144):dQ (fD gs)=(kS 5 gs,Po gs,0):=by
 refine TK (fun s hs=>?_) (z5S hg) (by rw[LQ];exact hg) ?_
 ·obtain ⟨h1,h2,h3,h4,h5⟩:=pF h s hs
  exact ⟨⟨h1.1,by omega⟩,⟨h2.1,by omega⟩,⟨h3.1,by omega⟩,h4,h5⟩
 ·unfold Po
  have:=Qb (gs.flatten.map dG);simp only[List.length_map]at this ⊢;omega
theorem z4E {α:Type} {gs:List (List α)} {k:Nat} (h:k<gs.length):(gs.take (k+1)).flatten=(gs.take k).flatten++gs[k]:=by
 rw[List.take_succ_eq_append_getElem h,List.flatten_append];simp
theorem z56 {α:Type} (gs:List (List α)) (k:Nat):(gs.take k).flatten.length<=gs.flatten.length:=by
 have:gs.flatten=(gs.take k).flatten++(gs.drop k).flatten:=by rw[←List.flatten_append,List.take_append_drop]
 rw[this,List.length_append];omega
theorem pW {gs:List (List au)} {gr:Nat->Option (List au)} (hf:gs.flatten.length<=2048) (hgr:∀k (h:k<gs.length),gr k=some gs[k]):
 ∀k,k<=gs.length->gY gr (kS 5 gs) ((5+(aP gs).length:Nat):Int) k=some (gs.take k).flatten
 |0,_=>by simp[gY]
 |k+1,hk=>by
  have hlt:k<gs.length:=(by omega);have hl2:k<(kS 5 gs).length:=by rw[LQ];exact hlt
  have hs:(kS 5 gs).getD k ⟨0,0,0,0,0⟩=⟨((5+(aP (gs.take k)).length:Nat):Int),(fZ gs[k]).length,gs[k].length,PX gs[k],lastT gs[k]⟩:=by
   rw[List.getD_eq_getElem?_getD,List.getElem?_eq_getElem hl2,Option.getD_some,z3p gs 5 k hlt hl2]
  have hb:=Lp hlt;have h3:=z56 gs k;rw[gY,pW hf hgr k (Nat.le_of_lt hlt),hs,hgr k hlt];simp only[Option.bind_some];rw[if_neg (by omega),if_neg (by omega),z4E hlt]
theorem qO {α:Type} {l:List α} {p:Nat} (h0:0<p) (h1:0<l.length) (hp:l.length<=p):bK p l=[l]:=by
 rw[Zy h0 h1,List.take_of_length_le hp,List.drop_of_length_le hp,z6d h0]
theorem z4g {α:Type} {l:List α} {per:Nat} (hp:0<per) (h1:0<l.length):bK (min per l.length) l=bK per l:=by
 rcases Nat.le_total per l.length with h|h
 ·rw[Nat.min_eq_left h]
 ·rw[Nat.min_eq_right h,qO h1 h1 (Nat.le_refl _),qO hp h1 h]
section
variable {l : List au} {per : Int} (h : jl l per = 0)
include h
theorem VF:∃gs,gs=bK per.toNat l/\aT l per.toNat=iF gs/\0<per.toNat/\per.toNat<=256/\0<l.length/\(∀g∈gs,dN g/\iP g=true)/\gs.length<=2048/\0<gs.length/\gs.flatten=l/\l.length<=2048/\5+(aP gs).length<=262144/\(iF gs).length<=262144:=by
 obtain ⟨h1,h2,h3,h4,h5⟩:=Yt h;have hp:0<per.toNat:=by omega
 have hl:=(JR.1 h4).1;refine ⟨_,rfl,rfl,hp,by omega,hl,TW hp (by omega) h4,?_,?_,z4h hp l,h3,?_,h5⟩
 ·have:=Ja (l:=l) hp;omega
 ·rw[Zy hp hl];simp
 ·have:=z4J (bK per.toNat l)
  unfold aT at h5;omega
theorem z5f:Au (aT l per.toNat)=(((5+(aP (bK per.toNat l)).length:Nat):Int),(((fD (bK per.toNat l)).length:Nat):Int),0):=
 TQ (Yt h).2.2.2.2
theorem z3t:lJ (aT l per.toNat)=(kS 5 (bK per.toNat l),Po (bK per.toNat l),0):=by
 obtain ⟨gs,e,a1,a2,a3,a4,a5,a6,a7,a8,a9,a10,a11⟩:=VF h;unfold lJ;rw[z5f h,←e,a1];simp only[Int.toNat_natCast];rw[ru];exact qJ (fun g hg=>(a5 g hg).1) a6 (by rw[a8];exact a9) a10
theorem Rf:YA (aT l per.toNat)=((min per.toNat l.length:Nat):Int):=by
 obtain ⟨gs,e,a1,a2,a3,a4,a5,a6,a7,a8,a9,a10,a11⟩:=VF h;unfold YA;rw[z3t h];have hl2:0<(kS 5 (bK per.toNat l)).length:=by rw[LQ,←e];exact a7
 rw[List.getD_eq_getElem?_getD,List.getElem?_eq_getElem hl2,Option.getD_some,z3p _ 5 0 (by rw[←e];exact a7) hl2];have:(bK per.toNat l)[0]'(by rw[←e];exact a7)=l.take per.toNat:=by rw[z4i];simp
 simp only[this,List.length_take];omega
theorem Rh {k:Nat} (hk:k<(bK per.toNat l).length):KE (aT l per.toNat) k=fZ (bK per.toNat l)[k]:=by
 have hl2:k<(kS 5 (bK per.toNat l)).length:=by rw[LQ];exact hk
 unfold KE;rw[z3t h,List.getD_eq_getElem?_getD,List.getElem?_eq_getElem hl2,Option.getD_some,z3p _ 5 k hk hl2];simp only[Int.toNat_natCast];exact OY hk
theorem BU:(lJ (aT l per.toNat)).1.length=(bK per.toNat l).length:=by rw[z3t h,LQ]
theorem M_ {gr:Nat->Option (List au)} (hgr:∀k (h:k<(bK per.toNat l).length),gr k=some (bK per.toNat l)[k]):eP gr (aT l per.toNat)=some l:=by
 obtain ⟨gs,e,a1,a2,a3,a4,a5,a6,a7,a8,a9,a10,a11⟩:=VF h;obtain ⟨h1,h2,h3,h4,h5⟩:=Yt h;have e2:aT l (min per.toNat l.length)=aT l per.toNat:=by unfold aT;rw[z4g a2 a4]
 have hr:=pW (by rw[z4h a2];exact a9) hgr _ (Nat.le_refl _);unfold eP;rw[Rf h,BU h];simp only[z5f h,z3t h];rw[if_pos ⟨trivial,trivial,by rw[←e];exact a7⟩,hr,List.take_length,z4h a2];simp only[Option.bind_some,Int.toNat_natCast]
 have e3:jl l ((min per.toNat l.length:Nat):Int)=0:=by
  unfold jl;rw[Int.toNat_natCast,e2,if_neg (by omega),if_neg (by omega),if_neg (by rw[h4];decide),if_neg (by omega)]
 rw[if_pos ⟨e3,e2⟩]
end
end Go.Proofs.YtpakjclpjcngmaaGreat
namespace Go.Proofs.YtpakjclpjcngmaaGreat
open Go.RowKit
theorem Nc {b:List Nat} (h:(Au b).2.2=0):∃p q:Nat,Au b=((p:Int),(q:Int),0)/\p+q+8=b.length/\5<=p:=by
 unfold Au jO at *;split at h
 ·next h1=>
  rw[if_pos h1]at *;split at h
  ·next h2=>
   rw[if_pos h2];refine ⟨b.length-8-le4 (b.drop (b.length-8)),le4 (b.drop (b.length-8)),?_,by omega,by omega⟩;congr 1
   omega
  ·cases h
 ·cases h
theorem Rd.aez {w:World} {D:Nat->Prop} {A:Option Addr} {n c:Nat} {b:List Nat} (h:Rd w D 1 A n (bl b)) {p q:Nat} (hp:p+q<=n) (hc:n<=c):
 Rd w D 1 (if c=p then A else A.map (·.add p)) q (bl ((b.drop p).take q)):=by
 have h1:=h.cut (k:=p) (cap:=c) (by omega) hc;have h2:=h1.take (k:=q) (by omega);simp only[Nat.mul_one]at h2;rw[show bl ((b.drop p).take q)=((bl b).drop p).take q by simp[bl,List.map_drop,List.map_take]];exact h2
theorem pX {gr:Nat->Option (List au)} {b:List Nat} (h:(Au b).2.2≠0):eP gr b=none:=by
 unfold eP;rw[if_neg (fun hh=>h hh.1)]
theorem GL {gr:Nat->Option (List au)} {b:List Nat} (h:(lJ b).2.2≠0):eP gr b=none:=by
 unfold eP;rw[if_neg (fun hh=>h hh.2.1)]
theorem GK {gr:Nat->Option (List au)} {b:List Nat} (h:¬0<(lJ b).1.length):eP gr b=none:=by
 unfold eP;rw[if_neg (fun hh=>h hh.2.2)]
theorem z3s {gr:Nat->Option (List au)} {b:List Nat} {k:Nat} (h:gY gr (lJ b).1 (Au b).1 (k+1)=none) (hk:k<(lJ b).1.length):eP gr b=none:=by
 unfold eP;rw[Na h hk];split<;>rfl
theorem Nb {gr:Nat->Option (List au)} {b:List Nat} {l:List au} (h1:(Au b).2.2=0) (h2:(lJ b).2.2=0) (h3:0<(lJ b).1.length) (h:gY gr (lJ b).1 (Au b).1 (lJ b).1.length=some l):
 eP gr b=if jl l (YA b)=0/\aT l (YA b).toNat=b then some l else none:=by
 unfold eP;rw[if_pos ⟨h1,h2,h3⟩,h];rfl
theorem z4d {l:List au} {per:Int} (h:jl l per=0):okB (aT l per.toNat):=by
 obtain ⟨gs,e,a1,a2,a3,a4,a5,a6,a7,a8,a9,a10,a11⟩:=VF h;have hsp:=vJ (gs:=gs) (fun g hg=>(a5 g hg).1) (by omega);have hl1:(kS 5 gs).length=gs.length:=LQ _ _
 have hl2:(Po gs).length<=2048:=by
  unfold Po;have:=Qb (gs.flatten.map dG);rw[List.length_map]at this ⊢;rw[a8]at this;rw[a8];omega
 have hidx:okB (iT (kS 5 gs) (Po gs)):=by
  unfold iT;refine jV (jV (jV (jW (by omega)) (Zt fun s hs=>?_)) (jW (by omega))) (Zt fun x hx=>?_)
  ·obtain ⟨a,b,c,d,e⟩:=hsp s hs
   unfold gq;exact jV (jV (jV (jV (jW (by omega)) (jW (by omega))) (jW (by omega))) (jW (by omega))) (jW (by omega))
  ·obtain ⟨b1,b2,b3⟩:=z5S a6 x hx
   unfold dU;exact jV (jV (jV (jW (by omega)) (xR _)) (jW (by omega))) (Zt fun g hg=>jW (by have:=b3 g hg;omega))
 rw[a1];unfold iF;refine jV (jV (jV (jV ?_ (Zt fun g hg=>z5V (a5 g hg).1)) (z5d hidx)) (Lc _)) ?_
 ·intro x hx
  unfold headB at hx;simp only[List.mem_cons,List.not_mem_nil,or_false]at hx;omega
 ·intro x hx
  simp only[List.mem_cons,List.not_mem_nil,or_false]at hx;omega
theorem MI {xs:List Nat} (s:iH):(lH xs s).1.fits:=by
 unfold lH aW.fits;refine ⟨⟨Int.natCast_nonneg _,z27 (by decide)⟩,⟨Int.natCast_nonneg _,z27 (by decide)⟩,⟨Int.natCast_nonneg _,z27 (by decide)⟩,⟨Int.natCast_nonneg _,z27 (by decide)⟩,⟨Int.natCast_nonneg _,z27 (by decide)⟩⟩
theorem pq {xs:List Nat}:∀(n:Nat) (s:iH),∀x∈(AY xs n s).1,x.fits
 |0,_,x,hx=>by simp[AY]at hx
 |n+1,s,x,hx=>by
  unfold AY at hx;rcases List.mem_cons.1 hx with rfl|hx
  ·exact MI s
  ·exact pq n _ x hx
theorem pG {xs:List Nat}:∀(n:Nat) (s:iH),(AY xs n s).1.length=n
 |0,_=>rfl
 |n+1,s=>by
  unfold AY;simp only[List.length_cons,pG n]
theorem DX (b:List Nat):(dQ b).1.length<=2048/\∀x∈(dQ b).1,x.fits:=by
 unfold dQ;split
 ·simp only
  split
  ·unfold lM
   simp only;refine ⟨?_,pq _ _⟩;rw[pG];have:((aF (b.take (b.length-4)) 0 0 2048).1:Int)<=2048:=z27 (by decide);omega
  ·exact ⟨by simp,by simp⟩
 ·exact ⟨by simp,by simp⟩
theorem BN {w:World} {D:Nat->Prop} {A:Option Addr} {n c:Nat} {b:List Nat} {gr:Nat->Option (List au)} (hr:Rd w D 1 A n (bl b)) (hD:∀k,D k->k<w.heap.size) (ok:okB b) (hl:b.length=n) (hn:n<=1000000000) (hc:n<=c) (hgl:∀k g,gr k=some g->g.length<=256)
 (hg:∀k,k<(lJ b).1.length->∀(W:World),Nx w W->∀(D':Nat->Prop) (A':Option Addr) (c':Nat),Rd W D' 1 A' (KE b k).length (bl (KE b k))->(KE b k).length<=c'->(∀j,D' j->j<W.heap.size)->Calls Tryz.prog 25 #[.slice A' (KE b k).length c'] W (kU W (gr k))):
 Calls Tryz.prog 21 #[.slice A n c] w (kU w (eP gr b)):=by
 by_cases h0:n=0
 ·subst h0
  have hb:b=[]:=List.eq_nil_of_length_eq_zero hl;subst hb;have hEN:=ah (fun (A':Option Addr) (c':Nat)=>DZ (w:=w) (D:=D) (A:=A') (n:=0) (c:=c') (b:=[]) ⟨rfl,fun h=>absurd h (by decide)⟩ (fun x hx=>absurd hx (by simp)) rfl (Nat.zero_le _) 0 (by decide) (by decide));have HO:Hid (eP gr []=none):=ah (pX (by decide));clear hr hg hgl;go_enter Tryz.func21,Tryz.ntmps21;go_wp2_with fail
  all_goals
   refine (hEN.out _ _).mono ?_;rintro e w1 ⟨rfl,hd⟩;go_wp2_with fail;refine bodyPost_ret (v:=.tuple #[.slice none 0 0,.int .i64 4]) (by simp[results,Tryz.results21,go_sem]) rfl ?_;rw[HO.out];exact ⟨rfl,hd.nx⟩
 ·obtain ⟨ad,rfl, -, -⟩:=hr.2 (by omega)
  have hcut:=hr.cut (k:=n-8) (cap:=c) (by omega) hc;rw[Nat.mul_one,show (bl b).drop (n-8)=bl (b.drop (n-8)) by simp[bl,List.map_drop],if_neg (by omega)]at hcut;have hmx:(max ((n:Int)-8) 0).toNat=n-8:=by omega
  have hw8:IntKind.i64.wrap ((n:Int)-8)=(n:Int)-8:=IntWalk.i64_in _ (by omega);have aaL:=DZ hcut (fun x hx=>ok x (List.mem_of_mem_drop hx)) (by rw[List.length_drop];omega) (c:=c-(n-8)) (by omega) (n:Int) (by omega) (by omega);rw[show jO (b.drop (n-8)) (n:Int)=Au b by unfold Au;rw[hl]]at aaL;have hEN:=ah aaL;clear hcut aaL;have HR:=ah (fun (w':World) (c':Nx w w')=>hr.nx (by decide) c');have HL:=ah hl;have mO:=ah ok;have HG:=ah hg;have HGL:=ah hgl;have HDw:=ah hD;clear hr hl ok hg hgl hD;by_cases he:(Au b).2.2=0
  ·obtain ⟨p,q,hpq,hsum,hp5⟩:=Nc he
   have hX:lJ b=dQ ((b.drop p).take q):=by unfold lJ;rw[hpq];simp
   have HX:=ah hX;have HPQ:=ah hpq;have hpn:p+q+8=n:=by rw[hsum];exact HL.out
   have kpq:IntKind.i64.wrap ((p:Int)+(q:Int))=((p+q:Nat):Int):=by rw[IntWalk.i64_in _ (by omega)];omega
   rw[hpq]at hEN;clear hX hpq he hsum;go_enter Tryz.func21,Tryz.ntmps21;go_wp2_with fail;refine hEN.out.mono ?_;rintro e w1 ⟨rfl,hd⟩;have N1:=ah hd.nx;clear hd hEN hmx hw8;have hcF:¬c=p:=(by omega);have SY:=Rd.aez (HR.out w1 N1.out) (p:=p) (q:=q) (by omega) hc;rw[if_neg hcF,Option.map_some]at SY;have hF0:=TL SY (fun k hk=>Nat.lt_of_lt_of_le (HDw.out k hk) N1.out.size) (fun x hx=>mO.out x (List.mem_of_mem_drop (List.mem_of_mem_take hx))) (by have:=HL.out;rw[List.length_take,List.length_drop];omega) (by omega) (c:=c-p) (by omega);unfold z52 at hF0;rw[←HX.out]at hF0;have HF:=ah hF0;have hsp:=DX ((b.drop p).take q);rw[←HX.out]at hsp;obtain ⟨hs1,hs2⟩:=hsp;have HS2:=ah hs2;clear hF0 SY hcF hs2;go_wp2_with fail;refine HF.out.mono ?_;rintro e w2 ⟨A1,A2,c1,c2,ps,rfl,rs, -, -, -,hc1,hc2,n2⟩;obtain ⟨ss,hss⟩:∃t,t=(lJ b).1:=⟨_,rfl⟩;obtain ⟨er,her⟩:∃t,t=(lJ b).2.2:=⟨_,rfl⟩;obtain ⟨pl,hpl⟩:∃t,t=(lJ b).2.1.length:=⟨_,rfl⟩;rw[←hss]at rs hc1 hs1;rw[←hpl]at hc2;rw[←hss]at HS2 HG;rw[←hss,←her,←hpl];have r_:=ah hss;have HER:=ah her;clear hss her hpl hc2;have N2:=ah (N1.out.trans n2 (fun _ _ hf=>hf));have NA:Nx w2 (w2.alloc (.cells #[.slice A1 ss.length c1,.slice A2 pl c2] 49)):=(Ch.refl (fun _=>False) w2).alloc _;have N3:=ah (N2.out.trans NA (fun _ _ hf=>hf));have B3:=ah (aJ.new w2 49 #[.slice A1 ss.length c1,.slice A2 pl c2]);have RS:=ah (rs.nx (by decide) NA);have c30:(w2.alloc (.cells #[.slice A1 ss.length c1,.slice A2 pl c2] 49)).cell? ⟨w2.heap.size,0,none⟩=some (.slice A1 ss.length c1):=B3.out.cell 0;have hs23:(w2.alloc (.cells #[.slice A1 ss.length c1,.slice A2 pl c2] 49)).heap.size=w2.heap.size+1:=(by simp);have HS23:=ah hs23;clear rs NA HF hs23;by_cases Oa:er=0
   ·have qe:(er !=0)=false:=by rw[Oa];rfl
    have HE0:Hid ((lJ b).2.2=0):=ah (HER.out.symm.trans Oa);clear Oa HER;by_cases hs0:0<ss.length
    ·have qs:((ss.length:Int)==0)=false:=by rw[beq_eq_false_iff_ne];omega
     go_wp2_with fail;generalize w2.heap.size=m at *;generalize w2.alloc (.cells #[.slice A1 ss.length c1,.slice A2 pl c2] 49)=w3 at *
     obtain ⟨ap,hap⟩:∃ap,A1=some ap:=by
      obtain ⟨ap,h1, -⟩:=RS.out.2 (by omega);exact ⟨ap,h1⟩
     subst hap;go_loopw [8,52] (fun out i wr=>∃(k:Nat) (zs:List RV),k<=ss.length/\i=.int .i64 (k:Int)/\zs.length<=2304/\Hid (fE w3 wr out zs)/\Hid (gY gr ss (p:Int) k=some (zs.map fun x=>x.row))/\Hid (∀z∈zs,z.row.few)) (fun _ i _=>ss.length-(intOf i).toNat)
     case atStart=>exact ⟨0,[],Nat.zero_le _,rfl,Nat.zero_le _,ah (fE.nil w3 w3 (Ch.refl _ _)),ah rfl,ah (by simp)⟩
     case round=>
      obtain ⟨w4,rfl⟩:∃w4:World,w4=wr:=⟨_,rfl⟩;obtain ⟨k,zs,hkn,rfl,hzl,uH,HRR,HFW⟩:=hrel;obtain ⟨Ao,co,rfl,hco,hcm⟩:=uH.out.form;have N4:=ah (N3.out.trans uH.out.own.nx (fun _ _ hf=>hf));by_cases hlt:k<ss.length
      ·obtain ⟨ap2,Iy, -,s0,s1,s2,s3,s4⟩:=yj (RS.out.nx (by decide) uH.out.own.nx) hlt
       injection Iy with Iy;subst Iy;obtain ⟨f1,f2, -, -, -⟩:=HS2.out ss[k] (List.getElem_mem hlt);have hgd:ss.getD k ⟨0,0,0,0,0⟩=ss[k]:=(by simp[hlt]);have HGR:=ah (HG.out k hlt);have HSG:Hid (KE b k=(b.drop ss[k].place.toNat).take ss[k].size.toNat):=ah (by unfold KE;rw[←r_.out,hgd])
       have HRN:Hid (gY gr ss (p:Int) (k+1)=if (p:Int)<ss[k].place∨(p:Int)-ss[k].place<ss[k].size then none else (gr k).bind fun g=>if 2048<zs.length then none else some ((zs.map fun x=>x.row)++g)):=ah (by
        rw[gY,HRR.out,hgd];simp only[Option.bind_some,List.length_map])
       obtain ⟨⟨pc,sz,rw_,lo,hi⟩,hsp⟩:∃t,t=ss[k]:=⟨_,rfl⟩;rw[←hsp]at s0 s1 s2 s3 s4 f1 f2 HSG HRN;simp only at s0 s1 s2 s3 s4 f1 f2;clear hsp hgd;obtain ⟨a,rfl⟩:=Int.eq_ofNat_of_zero_le f1.1;obtain ⟨z,rfl⟩:=Int.eq_ofNat_of_zero_le f2.1;have fa:a<=262144:=(by omega);have fz:z<=262144:=(by omega);clear f1 f2;have NB:Nx w4 (w4.alloc (.cells #[.int .i64 (a:Int),.int .i64 (z:Int),.int .i64 rw_,.int .i64 lo,.int .i64 hi] 53)):=(Ch.refl (fun _=>False) w4).alloc _;have HNB:=ah NB;have B5:=ah (aJ.new w4 53 #[.int .i64 (a:Int),.int .i64 (z:Int),.int .i64 rw_,.int .i64 lo,.int .i64 hi]);have d0:(w4.alloc (.cells #[.int .i64 (a:Int),.int .i64 (z:Int),.int .i64 rw_,.int .i64 lo,.int .i64 hi] 53)).cell? ⟨w4.heap.size,0,none⟩=some (.int .i64 (a:Int)):=B5.out.cell 0;have d1:(w4.alloc (.cells #[.int .i64 (a:Int),.int .i64 (z:Int),.int .i64 rw_,.int .i64 lo,.int .i64 hi] 53)).cell? ⟨w4.heap.size,1,none⟩=some (.int .i64 (z:Int)):=B5.out.cell 1;clear NB;by_cases hbd:p<a
       ·have q1:decide ((p:Int)<(a:Int))=true:=by rw[decide_eq_true_eq];omega
        have HO:Hid (eP gr b=none):=ah (z3s (k:=k) (by rw[←r_.out,HPQ.out,HRN.out,if_pos (.inl (by simp only;omega))]) (by rw[←r_.out];exact hlt));clear q1;go_wp2_with fail;refine bodyPost_ret (v:=.tuple #[.slice none 0 0,.int .i64 4]) (by simp[results,Tryz.results21,go_sem]) rfl ?_;rw[HO.out];exact ⟨rfl,N4.out.trans HNB.out (fun _ _ hf=>hf)⟩
       ·have hbd':a<=p:=by omega
        have k1:IntKind.i64.wrap ((p:Int)-(a:Int))=(p:Int)-(a:Int):=IntWalk.i64_in _ (by omega);by_cases hbd2:p-a<z
        ·have q2:decide ((p:Int)-(a:Int)<(z:Int))=true:=by rw[decide_eq_true_eq];omega
         have HO:Hid (eP gr b=none):=ah (z3s (k:=k) (by rw[←r_.out,HPQ.out,HRN.out,if_pos (.inr (by simp only;omega))]) (by rw[←r_.out];exact hlt));clear hbd2;go_wp2_with fail;refine bodyPost_ret (v:=.tuple #[.slice none 0 0,.int .i64 4]) (by simp[results,Tryz.results21,go_sem]) rfl ?_;rw[HO.out];exact ⟨rfl,N4.out.trans HNB.out (fun _ _ hf=>hf)⟩
        ·have q2:decide ((p:Int)-(a:Int)<(z:Int))=false:=by rw[decide_eq_false_iff_not];omega
         have k2:IntKind.i64.wrap ((a:Int)+(z:Int))=((a+z:Nat):Int):=by rw[IntWalk.i64_in _ (by omega)];omega
         have hgl:Hid ((KE b k).length=z):=ah (by rw[HSG.out,List.length_take,List.length_drop];have:=HL.out;simp only[Int.toNat_natCast];omega);have N5:=ah (N4.out.trans HNB.out (fun _ _ hf=>hf));have hca:¬c=a:=(by omega);have SV:=Rd.aez (HR.out _ N5.out) (p:=a) (q:=z) (by omega) hc;rw[if_neg hca,Option.map_some,show (b.drop a).take z=KE b k by rw[HSG.out];simp]at SV;have hgc:=HGR.out _ N5.out _ _ (c-a) (by rw[hgl.out];exact SV) (by rw[hgl.out];omega) (fun j hj=>Nat.lt_of_lt_of_le (HDw.out j hj) N5.out.size);rw[hgl.out]at hgc;have HGC:=ah hgc
         have HN2:Hid (gY gr ss (p:Int) (k+1)=(gr k).bind fun g=>if 2048<zs.length then none else some ((zs.map fun x=>x.row)++g)):=ah (by
          rw[HRN.out,if_neg (by simp only;omega)])
         clear hgc SV hca HRN HGR HSG;go_wp2_with fail;clear s0 s1 s2 s3 s4 d0 d1;refine HGC.out.mono ?_;rintro e w6 hgt;cases hgk:gr k with
         |none=>
          rw[hgk]at hgt;obtain ⟨rfl,n6⟩:=hgt;have HO:Hid (eP gr b=none):=ah (z3s (k:=k) (by rw[←r_.out,HPQ.out,HN2.out,hgk];rfl) (by rw[←r_.out];exact hlt));have N6:=ah (N5.out.trans n6 (fun _ _ hf=>hf));clear n6 hgk HN2;go_wp2_with fail;refine bodyPost_ret (v:=.tuple #[.slice none 0 0,.int .i64 4]) (by simp[results,Tryz.results21,go_sem]) rfl ?_;rw[HO.out];exact ⟨rfl,N6.out⟩
         |some gl=>
          rw[hgk]at hgt;obtain ⟨ys,Ag,cg,rfl,hys,HRG,hyf⟩:=hgt;have SQ:=HGL.out k gl hgk
          have hyl:ys.length<=256:=by
           have:=congrArg List.length hys;rw[List.length_map]at this;omega
          have N6:=ah (N5.out.trans HRG.own.nx (fun _ _ hf=>hf));have afd:=ah HRG;have HYF:=ah hyf;have HYS:=ah hys;have Yf:=ah (((uH.out.tr HNB.out)).tr HRG.own.nx);rw[hgk]at HN2;clear HRG hyf hys SQ hgk hgl;by_cases hbig:2048<zs.length
          ·have HO:Hid (eP gr b=none):=ah (z3s (k:=k) (by rw[←r_.out,HPQ.out,HN2.out,Option.bind_some,if_pos hbig]) (by rw[←r_.out];exact hlt))
           clear HN2;go_wp2_with fail;refine bodyPost_ret (v:=.tuple #[.slice none 0 0,.int .i64 4]) (by simp[results,Tryz.results21,go_sem]) rfl ?_;rw[HO.out];exact ⟨rfl,N6.out⟩
          ·obtain ⟨i0,hi0,hz0,hz1,hz2⟩:=info_parts Tryz.zi
           have HRR2:Hid (gY gr ss (p:Int) (k+1)=some ((zs++ys).map fun x=>x.row)):=ah (by rw[HN2.out,Option.bind_some,if_neg hbig,List.map_append,HYS.out]);have HW3:Hid (w3.heap.size<=w6.heap.size):=ah Yf.out.own.nx.size;clear HN2 HRR;go_wp2_with (at_builtin;refine z03 _ rfl (.tmp 89) (.tmp 90) _ rfl w3.heap.size 58 i0 _ 9 96 Tryz.underlying22 hi0 hz0 hz1 hz2 rfl (by omega) (.slice Ao zs.length co) zs.length (ji zs) rfl Yf.out.own.own _ Ag ys.length cg (ji ys) rfl afd.out.rd (yx _) (by simp only[maxLen];omega) (by omega) HW3.out ?_;intro v7 w7 ng gr7 at7;obtain ⟨o7,m7⟩:=VH Yf.out.own (Ch.refl _ _) ng gr7 at7;obtain ⟨A7,c7,rfl,hc7,hm7⟩:=z04 ng;have G7:=ah (Yf.out.app (ys:=ys) o7 m7 (fun x hx=>(afd.out.ok x hx).ch (Ch.refl (fun _=>False) w6) (fun _ _ _ hf=>hf) fun j hj=>⟨Nat.le_trans uH.out.own.nx.size (Nat.le_trans HNB.out.size hj.1),hj.2.1,fun e=>by have:=(uH.out.own.lt j e).2;have:=HNB.out.size;have:=hj.1;omega⟩));clear ng gr7 at7 o7 m7)
           go_roundw
           case rel=>
            refine ⟨k+1,zs++ys,hlt,by go_num,by rw[List.length_append];omega,G7,HRR2,ah fun x hx=>?_⟩;rcases List.mem_append.1 hx with hx|hx
            ·exact HFW.out x hx
            ·exact HYF.out x hx
           case measure=>simp[intOf];omega
      ·have hkk:k=ss.length:=by omega
       have HRE:Hid (gY gr (lJ b).1 (Au b).1 (lJ b).1.length=some (zs.map fun x=>x.row)):=ah (by rw[←r_.out,HPQ.out,←hkk];exact HRR.out);have hend:=Nb (gr:=gr) (b:=b) (by rw[HPQ.out]) HE0.out (by rw[←r_.out];exact hs0) HRE.out;obtain ⟨ap2,Iy, -,s0,s1,s2,s3,s4⟩:=yj (RS.out.nx (by decide) uH.out.own.nx) hs0;injection Iy with Iy;subst Iy;obtain ⟨-, -,f3, -, -⟩:=HS2.out ss[0] (List.getElem_mem hs0)
       have hP:YA b=min ss[0].rows 256:=by
        unfold YA;rw[←r_.out];simp[hs0]
       rw[hP]at hend;obtain ⟨R0,hR0⟩:∃t,t=ss[0].rows:=⟨_,rfl⟩;rw[←hR0]at s2 f3 hend;have e0:ap.add (0 * 5)=ap:=(by simp[Addr.add]);rw[e0]at s2;have c34:w4.cell? ⟨m,0,none⟩=some (.slice (some ap) ss.length c1):=(Nx.cell uH.out.own.nx (p:=⟨m,0,none⟩) (World.block_lt_of_cell? w3 _ c30)).trans c30;have HBU:=ah (z4m uH.out.rd rfl (by omega) hco (fun x hx=>⟨(uH.out.ok x hx).ch (Ch.refl (fun _=>False) _) (fun _ _ _ hf=>hf) fun j hj=>hj.2.1,(HFW.out x hx).mid⟩) (min R0 256) (by omega) (by omega));have JJ:=ah hend;have hss0:(0:Int)<(ss.length:Int):=(by omega);clear s0 s1 s3 s4 hP hR0 e0 hend HRE hkk HRR;go_wp2_with fail;refine HBU.out.mono ?_;rintro e w5 ⟨hbad,hok⟩;by_cases hbe:jl (zs.map fun x=>x.row) (min R0 256)=0
       ·obtain ⟨kk,cap,rfl,o5⟩:=hok hbe
        have HOB:=ah (z4d hbe);have HBE:=ah hbe;have N5:=ah (N4.out.trans o5.nx (fun _ _ hf=>hf));have hcv1:=rX (P:=Tryz.prog) w5 26 9 5 Tryz.underlying26 Tryz.underlying5 Tryz.underlying9 _ _ _ cap _ o5.jZ;have hcv2:=rX (P:=Tryz.prog) w5 26 9 5 Tryz.underlying26 Tryz.underlying5 Tryz.underlying9 D _ _ c _ (HR.out w5 N5.out);have Yg:=ah (uH.out.tr o5.nx);clear hbad hok o5 HBU hbe s2 c34;obtain ⟨T,hT⟩:∃t,t=aT (zs.map fun x=>x.row) (min R0 256).toNat:=⟨_,rfl⟩;rw[←hT]at JJ HOB hcv1 ⊢;clear hT;by_cases heq:T=b
        ·have HO:Hid (eP gr b=some (zs.map fun x=>x.row)):=ah (by rw[JJ.out,if_pos ⟨HBE.out,heq⟩])
         have qz:((aX T).toList==(aX b).toList)=true:=by rw[heq];simp
         clear heq;go_wp2_with fail;refine bodyPost_ret (v:=.tuple #[.slice Ao zs.length co,.int .i64 0]) (by simp[results,Tryz.results21,go_sem]) rfl ?_;rw[HO.out];have hb:=N3.out;exact ⟨zs,Ao,co,rfl,rfl,⟨Yg.out.own.weak hb,fun z hz=>(Yg.out.ok z hz).ch (Ch.refl (fun _=>False) _) (fun _ _ _ hf=>hf) fun j hj=>⟨Nat.le_trans hb.size hj.1,hj.2⟩⟩,HFW.out⟩
        ·have HO:Hid (eP gr b=none):=ah (by rw[JJ.out,if_neg (fun hh=>heq hh.2)])
         have qz:((aX T).toList==(aX b).toList)=false:=by rw[nP,decide_eq_false_iff_not];exact fun he=>heq (z5b HOB.out mO.out he)
         clear heq;go_wp2_with fail;refine bodyPost_ret (v:=.tuple #[.slice none 0 0,.int .i64 4]) (by simp[results,Tryz.results21,go_sem]) rfl ?_;rw[HO.out];exact ⟨rfl,N5.out⟩
       ·obtain ⟨rfl,n5⟩:=hbad hbe
        have HO:Hid (eP gr b=none):=ah (by rw[JJ.out,if_neg (fun hh=>hbe hh.1)]);have qb:(jl (zs.map fun x=>x.row) (min R0 256) !=0)=true:=by rw[bne_iff_ne];exact hbe
        clear hbe hbad hok;go_wp2_with fail;refine bodyPost_ret (v:=.tuple #[.slice none 0 0,.int .i64 4]) (by simp[results,Tryz.results21,go_sem]) rfl ?_;rw[HO.out];exact ⟨rfl,N4.out.trans n5 (fun _ _ hf=>hf)⟩
    ·have qs:((ss.length:Int)==0)=true:=by rw[beq_iff_eq];omega
     have HO:Hid (eP gr b=none):=ah (GK (by rw[←r_.out];exact hs0));clear hs0;go_wp2_with fail;refine bodyPost_ret (v:=.tuple #[.slice none 0 0,.int .i64 4]) (by simp[results,Tryz.results21,go_sem]) rfl ?_;rw[HO.out];exact ⟨rfl,N3.out⟩
   ·have qe:(er !=0)=true:=by rw[bne_iff_ne];exact Oa
    have HO:Hid (eP gr b=none):=ah (GL (by rw[←HER.out];exact Oa));clear Oa;go_wp2_with fail;refine bodyPost_ret (v:=.tuple #[.slice none 0 0,.int .i64 4]) (by simp[results,Tryz.results21,go_sem]) rfl ?_;rw[HO.out];exact ⟨rfl,N3.out⟩
  ·have HO:Hid (eP gr b=none):=ah (pX he)
   have hq:((Au b).2.2 !=0)=true:=by rw[bne_iff_ne];exact he
   clear he;go_enter Tryz.func21,Tryz.ntmps21;go_wp2_with fail;refine hEN.out.mono ?_;rintro e w1 ⟨rfl,hd⟩;clear hmx;go_wp2_with fail;refine bodyPost_ret (v:=.tuple #[.slice none 0 0,.int .i64 4]) (by simp[results,Tryz.results21,go_sem]) rfl ?_;rw[HO.out];exact ⟨rfl,hd.nx⟩
theorem Ee (xs:List Nat) (p:Nat) (e:Int) (m:Nat):(bT xs p e m).1.length<=m:=by
 unfold bT;split
 ·exact Nat.zero_le _
 ·split
  ·exact Nat.zero_le _
  ·split
   ·exact Nat.zero_le _
   ·split
    ·exact Nat.zero_le _
    ·simp only[List.length_take]
     omega
theorem Ub {b:List Nat} (ok:okB b):Va b (fun _ _=>True) (fun _=>True) (fun _=>True) (fun _=>True):=by
 have hk:∀k,okB (fA b k):=fun k=>wW ok _ _ _;have hn:∀k,(fA b k).length<=1000000:=fun k=>Nat.le_trans (Ee _ _ _ _) (by decide);refine ⟨fun k _ D A c W hr hD hc=>?_,fun D A c W hr hD hc=>?_,fun D A c W hr hD hc=>?_,fun D A c W hr hD hc=>?_⟩
 ·exact (Em D A _ c _ W hr hD (hk _) rfl (hn _) hc).mono fun e w' ⟨v,l,er,h1,h2,h3⟩=>⟨v,l,er,h1,h2,h3.2,trivial⟩
 ·exact (zK D A _ c _ W hr hD (hk _) rfl (hn _) hc).mono fun e w' ⟨v,l,er,h1,h2,h3⟩=>⟨v,l,er,h1,h2,h3.2,trivial⟩
 ·exact (zL D A _ c _ W hr hD (hk _) rfl (hn _) hc).mono fun e w' ⟨v,l,er,h1,h2,h3⟩=>⟨v,l,er,h1,h2,h3.2,trivial⟩
 ·exact (zM D A _ c _ W hr hD (hk _) rfl (hn _) hc).mono fun e w' ⟨v,l,er,h1,h2,h3⟩=>⟨v,l,er,h1,h2,trivial⟩
def kH (b:List Nat) (l:List au):Prop:=iP l=true/\l.length<=256/\fZ l=b
open Classical in
noncomputable def YQ (b:List Nat):Option (List au):=if h:∃l,kH b l then some h.choose else none
theorem kH.grp {b:List Nat} {l:List au} (h:kH b l):dN l:=⟨h.2.1,(JR.1 h.1).2.1⟩
theorem kH.one {b:List Nat} {l m:List au} (h:kH b l) (k:kH b m):l=m:=
 (z4D h.grp k.grp (x:=[]) (y:=[]) (by rw[h.2.2,k.2.2])).1
theorem TF {b:List Nat} {l:List au} (h:kH b l):YQ b=some l:=by
 unfold YQ;have he:∃l,kH b l:=⟨l,h⟩;rw[dif_pos he];exact congrArg some (he.choose_spec.one h)
theorem aaM {b:List Nat} {l:List au} (h:YQ b=some l):kH b l:=by
 unfold YQ at h;split at h
 ·next he=>
  injection h with h;rw[←h];exact he.choose_spec
 ·cases h
theorem Oh {cs:aU} {b:List Nat} {l:List au} (h:cs.group b=some l):kH b l:=by
 unfold aU.group at h;split at h
 ·next hf=>
  cases hr:cs.rows cs.fs.length with
  |none=>rw[hr]at h;cases h
  |some m=>
   rw[hr]at h;simp only[Option.bind_some]at h;split at h
   ·next hm=>
    injection h with h;subst h;have:=aU.BL hr;have h256:=hf.1.few;exact ⟨hm.1,by omega,hm.2⟩
   ·cases h
 ·cases h
theorem TD {w:World} {D:Nat->Prop} {A:Option Addr} {n c:Nat} {b:List Nat} (hr:Rd w D 1 A n (bl b)) (ok:okB b) (hl:b.length=n) (hn:n<=1000000) (hc:n<=c) (hD:∀k,D k->k<w.heap.size) (mm:Int) (hm:w.cell? ⟨0,0,none⟩=some (.int .i64 mm)):
 Calls Tryz.prog 25 #[.slice A n c] w (kU w (YQ b)):=by
 by_cases h:∃l,kH b l
 ·obtain ⟨l,h⟩:=h
  rw[TF h];obtain ⟨h1,h2,rfl⟩:=h;exact DN h1 h2 hr hl hc hD mm hm
 ·have e:YQ b=none:=by unfold YQ;rw[dif_neg h]
  rw[e];refine (La hr ok hl (by omega) hc hD mm hm (Ub ok)).mono ?_;rintro en w' ⟨cs, -, -, -, -,h5⟩;cases hg:cs.group b with
  |none=>rw[hg]at h5;exact h5
  |some l=>exact absurd ⟨l,Oh hg⟩ h
noncomputable def UC (b:List Nat):Option (List au):=eP (fun k=>YQ (KE b k)) b
theorem vV {w:World} {D:Nat->Prop} {A:Option Addr} {n c:Nat} {b:List Nat} (hr:Rd w D 1 A n (bl b)) (hD:∀k,D k->k<w.heap.size) (ok:okB b) (hl:b.length=n) (hn:n<=1000000) (hc:n<=c) (mm:Int) (hm:w.cell? ⟨0,0,none⟩=some (.int .i64 mm)):
 Calls Tryz.prog 21 #[.slice A n c] w (kU w (UC b)):=by
 have hgl:∀k,(KE b k).length<=1000000:=fun k=>by
  unfold KE;rw[List.length_take,List.length_drop];omega
 have okg:∀k,okB (KE b k):=fun k x hx=>ok x (List.mem_of_mem_drop (List.mem_of_mem_take hx));refine BN hr hD ok hl (by omega) hc (fun k g hg=>(aaM hg).2.1) fun k hk W hW D' A' c' hr' hc' hD'=>?_;exact TD hr' (okg k) rfl (hgl k) hc' hD' mm ((hW.cell (p:=⟨0,0,none⟩) (World.block_lt_of_cell? w _ hm)).trans hm)
theorem z6u {b:List Nat} {l:List au} (h:UC b=some l):∃per:Int,jl l per=0/\aT l per.toNat=b:=GI h
theorem QY {w:World} {D:Nat->Prop} {A:Option Addr} {n c:Nat} {l:List au} {per:Int} (h:jl l per=0) (hr:Rd w D 1 A n (bl (aT l per.toNat))) (hl:(aT l per.toNat).length=n) (ok:okB (aT l per.toNat)) (hc:n<=c) (hD:∀k,D k->k<w.heap.size) (mm:Int) (hz:w.cell? ⟨0,0,none⟩=some (.int .i64 mm)):
 Calls Tryz.prog 21 #[.slice A n c] w (kU w (some l)):=by
 obtain ⟨gs,e,a1,a2,a3,a4,a5,a6,a7,a8,a9,a10,a11⟩:=VF h;have hgr:∀k (hk:k<(bK per.toNat l).length),(fun k=>(bK per.toNat l)[k]?) k=some (bK per.toNat l)[k]:=fun k hk=>List.getElem?_eq_getElem hk;have hn:n<=1000000000:=by rw[←hl,a1];omega
 have h1:=BN (gr:=fun k=>(bK per.toNat l)[k]?) hr hD ok hl hn hc (fun k g hg=>?_) (fun k hk W hW D' A' c' hr' hc' hD'=>?_)
 ·rw[M_ h hgr]at h1
  exact h1
 ·have:=(a5 g (by rw[e];exact List.mem_of_getElem? hg)).1.few
  exact this
 ·rw[BU h]at hk
  rw[Rh h hk]at hr' hc' ⊢;have hgm:=a5 _ (by rw[e];exact List.getElem_mem hk);have:=DN hgm.2 hgm.1.few hr' rfl hc' hD' mm ((hW.cell (p:=⟨0,0,none⟩) (World.block_lt_of_cell? w _ hz)).trans hz);simpa [List.getElem?_eq_getElem hk]using this
def row0:au:=⟨1,5,[],⟨#[120]⟩,0,false,1,1,0⟩
theorem z5j:jl [row0] 4=0:=by decide+kernel
theorem CX (W:World) (mm:Int) (hz:W.cell? ⟨0,0,none⟩=some (.int .i64 mm)):Calls Tryz.prog 11 #[] W fun e W'=>e=.returned (.bool true)/\Nx W W':=by
 have hr0:=Rd.ZY W ⟨row0,none,0⟩;have hn0:Nx W (W.alloc (.cells #[.int .i64 1,.int .i64 5,.slice none 0 0,.string ⟨#[120]⟩,.int .i64 0,.bool false,.int .i64 1,.int .i64 1,.int .i64 0] 58)):=(Ch.refl _ W).alloc _
 have hb:=z4m (n:=1) (c:=1) (l:=[⟨row0,none,0⟩]) hr0 rfl (by decide) (Nat.le_refl _) (fun x hx=>by
  rw[List.mem_singleton]at hx;subst hx;exact ⟨⟨Rd.none_ _ _ _ _,Nat.le_refl _,by decide⟩,⟨⟨by simp[row0],by decide,by unfold i64;decide,by unfold i64;decide,by unfold i64;decide,by unfold i64;decide,by unfold i64;decide,by unfold i64;decide⟩,by decide⟩⟩) 4 (by decide) (by decide)
 rw[show ([(⟨row0,none,0⟩:RV)]:List RV).map (fun x=>x.row)=[row0] from rfl]at hb;unfold Vg at hb;have HB:=ah hb;have HN:=ah hn0;have HZ:=ah (fun (w':World) (c':Nx W w')=>show w'.cell? ⟨0,0,none⟩=some (.int .i64 mm) from (c'.cell (p:=⟨0,0,none⟩) (World.block_lt_of_cell? W _ hz)).trans hz);have hlen:(aT [row0] (4:Int).toNat).length<=262144:=(Yt z5j).2.2.2.2;have m_:=ah (fun (w:World) (D:Nat->Prop) (A:Option Addr) (c:Nat) hr hc hD hz=>QY (w:=w) (D:=D) (A:=A) (c:=c) z5j hr rfl (z4d z5j) hc hD mm hz);have HLE:=ah z5j;clear hb hn0 hr0 hz;generalize (aT [row0] (4:Int).toNat)=X at *;go_enter Tryz.func11,Tryz.ntmps11;go_wp2_with fail;refine HB.out.mono ?_;rintro e w1 ⟨-,hk⟩;obtain ⟨k,cap,rfl,o1⟩:=hk HLE.out;have N1:=ah (HN.out.tr o1.nx)
 have hcap:X.length<=cap:=by
  obtain ⟨_,_,ee,hcap, -⟩:=o1.form;injection ee with _ _ ee;omega
 have HR:=ah (m_.out w1 _ _ cap o1.jZ hcap (fun j e=>by have:=(o1.lt k rfl).2;omega) (HZ.out w1 N1.out));clear HB m_ hk o1 HZ hcap;go_wp2_with fail;refine HR.out.mono ?_;intro e w2 hgt;have hgt2:∃(zs:List RV) (A:Option Addr) (c:Nat),e=.returned (.tuple #[.slice A zs.length c,.int .i64 0])/\zs.map (fun x=>x.row)=[row0]/\fE w1 w2 (.slice A zs.length c) zs/\(∀z∈zs,z.row.few):=hgt;clear hgt;obtain ⟨zs,A2,c2,he,hz2,lq,hfw⟩:=hgt2;clear hfw;subst he
 have hzl:zs.length=1:=by
  have:=congrArg List.length hz2;rw[List.length_map]at this;exact this
 obtain ⟨z,rfl⟩:=List.length_eq_one_iff.1 hzl;have hzr:z.row=row0:=List.head_eq_of_cons_eq hz2;clear hz2 hzl;have N2:=ah (N1.out.tr lq.own.nx);obtain ⟨ad,hA,hbl,r0,r1,r2,r3,r4,r5,r6,r7,r8⟩:=z2n lq.rd (k:=0) (Nat.lt_succ_self 0);subst hA;simp only[List.getElem_cons_zero,hzr,Nat.zero_mul]at r3;have r3':w2.cell? ⟨(ad.add 0).block,(ad.add 0).off+3,none⟩=some (.string ⟨#[120]⟩):=r3;have e0:ad.add 0=ad:=by simp[Addr.add]
 rw[e0]at r3';clear r0 r1 r2 r3 r4 r5 r6 r7 r8 hzr lq HR N1 HLE hlen;go_wp2_with fail;go_ret;exact ⟨rfl,N2.out⟩
end Go.Proofs.YtpakjclpjcngmaaGreat
namespace Go.Proofs.YtpakjclpjcngmaaGreat
theorem xu (gs:List (List au)):(iF gs).take ((iF gs).length-8)=headB++(aP gs++fD gs):=by
 have hl:(iF gs).length-8=(headB++(aP gs++fD gs)).length:=by
  rw[z4J];simp only[List.length_append,headB,List.length_cons,List.length_nil];omega
 have e:iF gs=(headB++(aP gs++fD gs))++(four (fD gs).length++[69,78,84,82]):=by rw[z3G];simp only[List.append_assoc]
 rw[hl];conv=>lhs;arg 2;rw[e]
 rw[List.take_left]
theorem z4p (gs:List (List au)):(iF gs).take (5+(aP gs).length)=headB++(aP gs++[]):=by
 have hl:5+(aP gs).length=(headB++(aP gs++[])).length:=by
  simp only[List.length_append,headB,List.length_cons,List.length_nil];omega
 have e:iF gs=(headB++(aP gs++[]))++(fD gs++(four (fD gs).length++[69,78,84,82])):=by rw[z3G];simp only[List.append_assoc,List.nil_append]
 rw[hl,e,List.take_left]
theorem qH:∀{gs hs:List (List au)} {x y:List Nat},gs.length=hs.length->(∀g∈gs,dN g)->(∀g∈hs,dN g)->aP gs++x=aP hs++y->gs=hs/\x=y
 |[],[],_,_,_,_,_,h=>⟨rfl,h⟩
 |g::gs,k::hs,x,y,hl,h1,h2,h=>by
  unfold aP at h;simp only[List.flatMap_cons,List.append_assoc]at h;obtain ⟨e1,e2⟩:=z4D (h1 g List.mem_cons_self) (h2 k List.mem_cons_self) h;obtain ⟨e3,e4⟩:=qH (gs:=gs) (hs:=hs) (by simpa using hl) (fun z hz=>h1 z (List.mem_cons_of_mem _ hz)) (fun z hz=>h2 z (List.mem_cons_of_mem _ hz)) e2;exact ⟨by rw[e1,e3],e4⟩
theorem OQ {l m:List au} {p q:Int} (hl:jl l p=0) (hm:jl m q=0) (h:aT l p.toNat=aT m q.toNat):l=m:=by
 obtain ⟨gs,e,a1,a2,a3,a4,a5,a6,a7,a8,a9,a10,a11⟩:=VF hl;obtain ⟨hs,f,b1,b2,b3,b4,b5,b6,b7,b8,b9,b10,b11⟩:=VF hm;have r1:=z5f hl;have r2:=z5f hm;have x1:=z3t hl;have x2:=z3t hm;rw[h,r2,←e,←f]at r1;rw[h,x2,←e,←f]at x1
 have hb:(aP hs).length=(aP gs).length:=by
  have:=congrArg Prod.fst r1;simp only at this;omega
 have hn:hs.length=gs.length:=by
  have:=congrArg List.length (congrArg Prod.fst x1);rwa [LQ,LQ]at this
 have t1:=z4p gs;have t2:=z4p hs;rw[a1,b1]at h;rw[h,←hb,t2]at t1;have:=(qH hn (fun g hg=>(b5 g hg).1) (fun g hg=>(a5 g hg).1) (List.append_cancel_left t1)).1;rw[←a8,←b8,this]
theorem Ot {l:List au} {p q:Nat} (hp:0<p) (hq:0<q) (h1:0<l.length) (hg:∀g∈bK p l,dN g) (hh:∀g∈bK q l,dN g) {x y:List Nat} (h:headB++(aP (bK p l)++x)=headB++(aP (bK q l)++y)):bK p l=bK q l:=by
 have h:=List.append_cancel_left h;have c1:=Zy hp h1;have c2:=Zy hq h1;rw[c1]at hg;rw[c2]at hh;rw[c1,c2]at h;unfold aP at h;simp only[List.flatMap_cons,List.append_assoc]at h;have e:=(z4D (hg _ List.mem_cons_self) (hh _ List.mem_cons_self) h).1;have e:=congrArg List.length e;rw[List.length_take,List.length_take]at e;rw[←z4g hp h1,e,z4g hq h1]
theorem zU {l:List au} {p q:Int} (hl:jl l p=0) (hm:jl l q=0) {i v:Nat} (h:(aT l p.toNat).set i v=aT l q.toNat):aT l p.toNat=aT l q.toNat:=by
 obtain ⟨gs,e,a1,a2,a3,a4,a5,a6,a7,a8,a9,a10,a11⟩:=VF hl;obtain ⟨hs,f,b1,b2,b3,b4,b5,b6,b7,b8,b9,b10,b11⟩:=VF hm;have key:gs=hs->aT l p.toNat=aT l q.toNat:=fun h=>by rw[a1,b1,h]
 have first:∀{x y:List Nat},headB++(aP gs++x)=headB++(aP hs++y)->aT l p.toNat=aT l q.toNat:=fun {x y} hh=>by
  rw[e,f]at hh;exact key (by rw[e,f];exact Ot a2 b2 a4 (fun g hg=>(a5 g (e▸hg)).1) (fun g hg=>(b5 g (f▸hg)).1) hh)
 rw[a1,b1]at h;have hlen:(iF hs).length=(iF gs).length:=by rw[←h,List.length_set]
 have n1:=z4J gs;have n2:=z4J hs;by_cases hi:(iF gs).length-8<=i
 ·have t1:=xu gs
  have t2:=xu hs;rw[hlen,←h,List.take_set_of_le hi,t1]at t2;exact first t2
 ·have t1:=qY gs
  have t2:=qY hs;have hd:5+(aP hs).length+(fD hs).length=5+(aP gs).length+(fD gs).length:=by omega
  rw[hd,←h,List.drop_set_of_lt (by omega),t1]at t2;have hf:=TJ (by omega) (by omega) (List.append_cancel_right t2);have hb:(aP hs).length=(aP gs).length:=by omega
  by_cases hi2:5+(aP gs).length<=i
  ·have t1:=z4p gs
   have t2:=z4p hs;rw[hb,←h,List.take_set_of_le hi2,t1]at t2;exact first t2
  ·have u1:=ru gs
   have u2:=ru hs;rw[hb,←hf,←h,List.drop_set_of_lt (by omega),u1]at u2;have v1:=qJ (fun g hg=>(a5 g hg).1) a6 (by rw[a8];exact a9) a10;have v2:=qJ (fun g hg=>(b5 g hg).1) b6 (by rw[b8];exact b9) b10;rw[←u2,v1]at v2;have w:=congrArg Prod.fst v2;simp only at w;rw[e,f,Zy a2 a4,Zy b2 a4,kS,kS]at w;injection w with w _;have w:=congrArg aW.rows w;simp only[List.length_take]at w;refine key ?_;rw[e,f,←z4g a2 a4,←z4g b2 a4];congr 1
   omega
end Go.Proofs.YtpakjclpjcngmaaGreat
namespace Go.Proofs.YtpakjclpjcngmaaGreat
open Ps
theorem Wi {α:Type} {lt:α->α->Bool} (w:Weak lt) {l:List α} (h:l.Pairwise fun x y=>lt x y=true):fK lt l=l:=by
 rw[←z5K w (List.Perm.refl (dW l)) ?_,oQ];rw[List.pairwise_iff_getElem]at *;intro i j hi hj hij;rw[z42,z42];exact .inl (h i j _ _ hij)
end Go.Proofs.YtpakjclpjcngmaaGreat
