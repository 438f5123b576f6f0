/- Contracts and plain laws that the last text rests on. Conditions: each theorem states its own. -/
import Derived.Test.YtpakjclpjcngmaaGreatKqQ24
import Derived.Test.YtpakjclpjcngmaaGreatKqQ23
import Derived.Test.YtpakjclpjcngmaaGreatKqQ38
import Derived.Test.YtpakjclpjcngmaaGreatKqPbBkJ
import Derived.Test.YtpakjclpjcngmaaGreatKqQ36
import Derived.Test.YtpakjclpjcngmaaGreatKqPbBkQ
import Derived.Test.YtpakjclpjcngmaaGreatKqQ37
import Derived.Test.YtpakjclpjcngmaaGreatKqQ31
import Derived.Test.YtpakjclpjcngmaaGreatKqQ34
import Derived.Test.YtpakjclpjcngmaaGreatKqQ1
import Derived.Test.YtpakjclpjcngmaaGreatKqQ35
import Derived.Test.YtpakjclpjcngmaaGreatKqQ5
set_option maxRecDepth 100000
set_option maxHeartbeats 64000000
set_option linter.unusedVariables false
namespace Go.Proofs.YtpakjclpjcngmaaGreat
def Aj (b:List Nat):Int×Int×Int:=kE (b.drop (b.length-8)) b.length
def rdX (b:List Nat):List aN×List PostE×Int:=fF ((b.drop (Aj b).1.toNat).take (Aj b).2.1.toNat)
/-! a made block -/
theorem YC {l:List au} {per:Int} (h:z19 l per=0):1<=per/\per<=256/\l.length<=2048/\iL l=true/\(aY l per.toNat).length<=262144:=by
 unfold z19 at h;split at h
 ·cases h
 ·split at h
  ·cases h
  ·split at h
   ·cases h
   ·split at h
    ·cases h
    ·next h1 h2 h3 h4=>exact ⟨by omega,by omega,by omega,by simpa using h3,by omega⟩
theorem TM {l:List au} {per:Nat} (hp:0<per) (h2:per<=256) (hl:iL l=true):∀g∈dw per l,fD g/\iL g=true:=fun g hg=>by
 obtain ⟨c1,c2,c3,c4,c5⟩:=DX hp hg;obtain ⟨m1,m2,m3⟩:=z17.1 hl;exact ⟨⟨by omega,fun x hx=>m2 x (c4 x hx)⟩,z17.2 ⟨c1,fun x hx=>m2 x (c4 x hx),m3.sublist c5.sublist⟩⟩
theorem qV {α:Type} {l:List α} {per:Nat} (hp:0<per):(dw per l).length<=l.length:=by
 rw[z27];by_cases h:l.length=0
 ·rw[h,Nat.zero_add,Nat.div_eq_of_lt (by omega)]
  exact Nat.zero_le _
 ·refine Nat.div_le_of_le_mul ?_
  have:l.length<=per * l.length:=Nat.le_mul_of_pos_left _ hp;obtain ⟨q,rfl⟩:∃q,per=q+1:=⟨per-1,by omega⟩;have e:(q+1) * l.length=q * l.length+l.length:=by rw[Nat.succ_mul]
  have:q<=q * l.length:=Nat.le_mul_of_pos_right _ (by omega);omega
theorem z2x {gs:List (List au)} (hg:gs.length<=2048):∀p∈z16 gs,p.fits:=fun p hp=>by
 obtain ⟨t,ht,rfl⟩:=List.mem_map.1 hp;have ht:=PO.1 ht;obtain ⟨x,_,rfl⟩:=List.mem_map.1 ht;have h1:=z2N x;have h2:=Dz (gs:=gs) (b_ x);refine ⟨by simp only;omega,by simp only;omega,fun g hgg=>?_⟩;have:=KH g hgg;omega
theorem Tv {gs:List (List au)} (h:∀g∈gs,fD g) (hg:gs.length<=2048) (hf:gs.flatten.length<=2048) (hb:5+(bf gs).length<=262144):fF (iF gs)=(jW 5 gs,z16 gs,0):=by
 refine Tt (fun s hs=>?_) (z2x hg) (by rw[VK];exact hg) ?_
 ·obtain ⟨h1,h2,h3,h4,h5⟩:=pJ h s hs
  exact ⟨⟨h1.1,by omega⟩,⟨h2.1,by omega⟩,⟨h3.1,by omega⟩,h4,h5⟩
 ·unfold z16
  have:=z12 (gs.flatten.map b_);simp only[List.length_map]at this ⊢;omega
theorem z4a {α:Type} {gs:List (List α)} {k:Nat} (h:k<gs.length):(gs.take (k+1)).flatten=(gs.take k).flatten++gs[k]:=by
 rw[List.take_succ_eq_append_getElem h,List.flatten_append];simp
section
variable {l : List au} {per : Int} (h : z19 l per = 0)
include h
theorem z36:∃gs,gs=dw per.toNat l/\aY l per.toNat=kN gs/\0<per.toNat/\per.toNat<=256/\0<l.length/\(∀g∈gs,fD g/\iL g=true)/\gs.length<=2048/\0<gs.length/\gs.flatten=l/\l.length<=2048/\5+(bf gs).length<=262144/\(kN gs).length<=262144:=by
 obtain ⟨h1,h2,h3,h4,h5⟩:=YC h;have hp:0<per.toNat:=by omega
 have hl:=(z17.1 h4).1;refine ⟨_,rfl,rfl,hp,by omega,hl,TM hp (by omega) h4,?_,?_,wS hp l,h3,?_,h5⟩
 ·have:=qV (l:=l) hp;omega
 ·rw[qX hp hl];simp
 ·have:=La (dw per.toNat l)
  unfold aY at h5;omega
theorem z3D:Aj (aY l per.toNat)=(((5+(bf (dw per.toNat l)).length:Nat):Int),(((iF (dw per.toNat l)).length:Nat):Int),0):=
 TF (YC h).2.2.2.2
theorem QM:rdX (aY l per.toNat)=(jW 5 (dw per.toNat l),z16 (dw per.toNat l),0):=by
 obtain ⟨gs,e,a1,a2,a3,a4,a5,a6,a7,a8,a9,a10,a11⟩:=z36 h;unfold rdX;rw[z3D h,←e,a1];simp only[Int.toNat_natCast];rw[Uo];exact Tv (fun g hg=>(a5 g hg).1) a6 (by rw[a8];exact a9) a10
end
end Go.Proofs.YtpakjclpjcngmaaGreat
namespace Go.Proofs.YtpakjclpjcngmaaGreat
open Go.RowKit
theorem z5i {b:List Nat} (h:(Aj b).2.2=0):∃p q:Nat,Aj b=((p:Int),(q:Int),0)/\p+q+8=b.length/\5<=p:=by
 unfold Aj kE at *;split at h
 ·next h1=>
  rw[if_pos h1]at *;split at h
  ·next h2=>
   rw[if_pos h2];refine ⟨b.length-8-le4 (b.drop (b.length-8)),le4 (b.drop (b.length-8)),?_,by omega,by omega⟩;congr 1
   omega
  ·cases h
 ·cases h
theorem Rd.aes {w:World} {D:Nat->Prop} {A:Option Addr} {n c:Nat} {b:List Nat} (h:Rd w D 1 A n (bl b)) {p q:Nat} (hp:p+q<=n) (hc:n<=c):
 Rd w D 1 (if c=p then A else A.map (·.add p)) q (bl ((b.drop p).take q)):=by
 have h1:=h.cut (k:=p) (cap:=c) (by omega) hc;have h2:=h1.take (k:=q) (by omega);simp only[Nat.mul_one]at h2;rw[show bl ((b.drop p).take q)=((bl b).drop p).take q by simp[bl,List.map_drop,List.map_take]];exact h2
theorem vY {l:List au} {per:Int} (h:z19 l per=0):okB (aY l per.toNat):=by
 obtain ⟨gs,e,a1,a2,a3,a4,a5,a6,a7,a8,a9,a10,a11⟩:=z36 h;have hsp:=vG (gs:=gs) (fun g hg=>(a5 g hg).1) (by omega);have hl1:(jW 5 gs).length=gs.length:=VK _ _
 have hl2:(z16 gs).length<=2048:=by
  unfold z16;have:=z12 (gs.flatten.map b_);rw[List.length_map]at this ⊢;rw[a8]at this;rw[a8];omega
 have hidx:okB (iP (jW 5 gs) (z16 gs)):=by
  unfold iP;refine jU (jU (jU (jV (by omega)) (Zq fun s hs=>?_)) (jV (by omega))) (Zq fun x hx=>?_)
  ·obtain ⟨a,b,c,d,e⟩:=hsp s hs
   unfold gG;exact jU (jU (jU (jU (jV (by omega)) (jV (by omega))) (jV (by omega))) (jV (by omega))) (jV (by omega))
  ·obtain ⟨b1,b2,b3⟩:=z2x a6 x hx
   unfold dU;exact jU (jU (jU (jV (by omega)) (xP _)) (jV (by omega))) (Zq fun g hg=>jV (by have:=b3 g hg;omega))
 rw[a1];unfold kN;refine jU (jU (jU (jU ?_ (Zq fun g hg=>z5m (a5 g hg).1)) (z4D hidx)) (KP _)) ?_
 ·intro x hx
  unfold headB at hx;simp only[List.mem_cons,List.not_mem_nil,or_false]at hx;omega
 ·intro x hx
  simp only[List.mem_cons,List.not_mem_nil,or_false]at hx;omega
theorem aaQ {W w:World} {t:TypeId} {size k n c:Nat} {xs:List Value} (h:aA W w t size (.slice (some ⟨k,0,none⟩) n c) n xs):n<=c:=by
 obtain ⟨_,_,ee,hcap, -⟩:=h.form;injection ee with _ _ ee;omega
section
variable {l : List au} {per : Int} (h : z19 l per = 0) {w : World} {D : Nat → Prop} {A : Option Addr} {c : Nat}
include h
theorem Oh {n:Nat} (hn:(aY l per.toNat).length=n) (hr:Rd w D 1 A (n-(n-8)) (bl ((aY l per.toNat).drop (n-8)))) (hc:n-(n-8)<=c):
 Calls Tryz.prog 23 #[.slice A (n-(n-8)) c,.int .i64 (n:Int)] w (UW w (Aj (aY l per.toNat))):=by
 subst hn
 have h8:8<=(aY l per.toNat).length:=by
  obtain ⟨p,q, -,hsum, -⟩:=z5i (show (Aj (aY l per.toNat)).2.2=0 by rw[z3D h]);omega
 have hle:=(YC h).2.2.2.2;exact TG hr (fun x hx=>vY h x (List.mem_of_mem_drop hx)) (by rw[List.length_drop]) hc _ (by omega) (by omega)
theorem N_ {q:Nat} (hr:Rd w D 1 A q (bl (((aY l per.toNat).drop (Aj (aY l per.toNat)).1.toNat).take (Aj (aY l per.toNat)).2.1.toNat))) (hq:(Aj (aY l per.toNat)).2.1=q) (hD:∀k,D k->k<w.heap.size) (hc:q<=c):
 Calls Tryz.prog 27 #[.slice A q c] w (VD w (((aY l per.toNat).drop (Aj (aY l per.toNat)).1.toNat).take (Aj (aY l per.toNat)).2.1.toNat)):=by
 obtain ⟨p,q',e,hsum, -⟩:=z5i (show (Aj (aY l per.toNat)).2.2=0 by rw[z3D h]);have hle:=(YC h).2.2.2.2;rw[e]at hq hr ⊢;simp only[Int.toNat_natCast]at hq hr ⊢;obtain rfl:q'=q:=by omega
 exact Tz hr hD (fun x hx=>vY h x (List.mem_of_mem_drop (List.mem_of_mem_take hx))) (by rw[List.length_take,List.length_drop];omega) (by omega) hc
theorem Iq {k n:Nat} (hk:k<(dw per.toNat l).length) (hr:Rd w D 1 A n (bl (z08 (dw per.toNat l)[k]))) (hn:(z08 (dw per.toNat l)[k]).length=n) (hD:∀k,D k->k<w.heap.size) (hc:n<=c) (mm:Int) (hz:w.cell? ⟨0,0,none⟩=some (.int .i64 mm)):
 Calls Tryz.prog 25 #[.slice A n c] w (xG w (some (dw per.toNat l)[k])):=by
 subst hn;obtain ⟨gs,e,a1,a2,a3,a4,a5,a6,a7,a8,a9,a10,a11⟩:=z36 h;have hgm:=a5 _ (by rw[e];exact List.getElem_mem hk);exact Tn hgm.2 hgm.1.few hr rfl hc hD mm hz
end
theorem xG.get {w w':World} {l:List au} {e:Ending} (h:xG w (some l) e w'):∃(zs:List RV) (A:Option Addr) (c:Nat),e=.returned (.tuple #[.slice A zs.length c,.int .i64 0])/\zs.map (fun x=>x.row)=l/\dO w w' (.slice A zs.length c) zs/\(∀z∈zs,z.row.few):=h
end Go.Proofs.YtpakjclpjcngmaaGreat
namespace Go.Proofs.YtpakjclpjcngmaaGreat
theorem CW {x y:au} (h:dW x y=true):x.time<=y.time:=by
 unfold dW at h;rw[decide_eq_true_eq]at h;omega
theorem VR {g:List au} (h:iL g=true):∀x∈g,firstT g<=x.time/\x.time<=lastT g:=by
 intro x hx;obtain ⟨h0, -,hp⟩:=z17.1 h;constructor
 ·cases g with
  |nil=>cases hx
  |cons y r=>
   show y.time<=x.time
   rcases List.mem_cons.1 hx with rfl|hx
   ·exact Int.le_refl _
   ·exact CW ((List.pairwise_cons.1 hp).1 x hx)
 ·rcases List.eq_nil_or_concat g with rfl|⟨r,z,rfl⟩
  ·cases hx
  ·rw[List.concat_eq_append]at *
   have e:lastT (r++[z])=z.time:=by unfold lastT;rw[List.getLast?_append];rfl
   rw[e];rcases List.mem_append.1 hx with hx|hx
   ·exact CW ((List.pairwise_append.1 hp).2.2 x hx z (by simp))
   ·rw[List.mem_singleton.1 hx]
    exact Int.le_refl _
theorem Xo {gs:List (List au)} {k:Nat} (hk:k<gs.length) {x:au} (hx:x∈gs[k]):k∈fC (b_ x) 0 gs:=by
 unfold fC;refine List.mem_map.2 ⟨k,List.mem_filter.2 ⟨List.mem_range.2 hk,?_⟩,rfl⟩;rw[List.getD_eq_getElem?_getD,List.getElem?_eq_getElem hk,Option.getD_some,List.any_eq_true];exact ⟨x,hx,decide_eq_true rfl⟩
theorem MQ {gs:List (List au)} {k:Nat} (hk:k<gs.length) {x:au} (hx:x∈gs[k]):(⟨b_ x,fC (b_ x) 0 gs⟩:PostE)∈z16 gs:=by
 unfold z16;refine List.mem_map.2 ⟨b_ x,PO.2 (List.mem_map.2 ⟨x,List.mem_flatten.2 ⟨gs[k],List.getElem_mem hk,hx⟩,rfl⟩),rfl⟩
theorem Rw {gs:List (List au)} {ps:List PV} (hp:ps.map PV.e=z16 gs) (hn:∀p∈ps,∀g∈p.gs,0<=g) {k:Nat} (hk:k<gs.length) {x:au} (hx:x∈gs[k]):∃p∈ps,p.text=b_ x/\(k:Int)∈p.gs:=by
 have h:=MQ hk hx;rw[←hp]at h;obtain ⟨p,hpm,e⟩:=List.mem_map.1 h;have hm:=Xo hk hx;unfold PV.e at e;injection e with e1 e2;rw[←e2]at hm;obtain ⟨g,hg,hgk⟩:=List.mem_map.1 hm;have:=hn p hpm g hg;exact ⟨p,hpm,e1,by rwa [show (k:Int)=g by omega]⟩
end Go.Proofs.YtpakjclpjcngmaaGreat
namespace Go.Proofs.YtpakjclpjcngmaaGreat
open Ps
theorem JU {α:Type} {lt:α->α->Bool} (w:Weak lt) {l:List α} (h:l.Pairwise fun x y=>lt x y=true):eP lt l=l:=by
 rw[←z5d w (List.Perm.refl (dX l)) ?_,oW];rw[List.pairwise_iff_getElem]at *;intro i j hi hj hij;rw[z3y,z3y];exact .inl (h i j _ _ hij)
theorem Eu {q:dN} {R:List au} (h:R.Pairwise fun x y=>dW x y=true):z15 q (R.filter (jo q))=z15 q R:=by
 unfold z15;rw[JU z3a h,JU z3a (h.sublist List.filter_sublist),List.filter_filter];simp only[Bool.and_self]
def jr (q:dN) (gs:List (List au)) (l:List Int):List au:=l.flatMap fun g=>(gs.getD g.toNat []).filter (jo q)
theorem Gm (q:dN) (gs:List (List au)) {l:List Int} {k:Nat} (hk:k<l.length):jr q gs (l.take (k+1))=jr q gs (l.take k)++(gs.getD l[k].toNat []).filter (jo q):=by
 unfold jr;rw[List.take_succ_eq_append_getElem hk,List.flatMap_append];simp
theorem NK {q:dN} {gs:List (List au)} {ps:List PV} (hp:ps.map PV.e=z16 gs) (hn:∀p∈ps,∀g∈p.gs,0<=g) {k:Nat} (hk:k<gs.length) {x:au} (hx:x∈gs[k]) (hr:zL x) (hm:Ve x.ay q.ms=true):(cO q.ms ps).contains (k:Int)=true:=by
 obtain ⟨p,hpm,e,hg⟩:=Rw hp hn hk hx;rw[List.contains_iff_mem];unfold cO;refine List.mem_flatMap.2 ⟨p,hpm,?_⟩;have hr2:=(z14 hr.1).2.2.1
 have hh:zn q.ms p=true:=by
  unfold zn
  have:p.text.data.toList=textF x.ay:=by
   rw[e];unfold b_ xR;rw[if_pos hr2];simp[iW]
  rw[this,qp hr2];exact hm
 rw[if_pos hh];exact hg
theorem QC {q:dN} {gs:List (List au)} {ps:List PV} (hq:kW q=true) (hg:∀g∈gs,iL g=true) (hp:ps.map PV.e=z16 gs) (hn:∀p∈ps,∀g∈p.gs,0<=g):
 jr q gs (gZ q (jW 5 gs) ps)=gs.flatten.filter (jo q):=by
 have hl:=VK gs 5
 have step:∀k,k<=gs.length->jr q gs (kM q (cO q.ms ps) (jW 5 gs) k)=(gs.take k).flatten.filter (jo q):=by
  intro k;induction k with
  |zero=>intro _;simp[jr,kM]
  |succ k ih=>
   intro hk;have hlt:k<gs.length:=(by omega);have hl2:k<(jW 5 gs).length:=(by omega);have ih:=ih (Nat.le_of_lt hlt);rw[z4a hlt,List.filter_append,←ih];have hd:gs.getD ((k:Int).toNat) []=gs[k]:=(by simp[hlt]);have hs:(jW 5 gs)[k].lo=firstT gs[k]/\(jW 5 gs)[k].hi=lastT gs[k]:=by rw[z3Z gs 5 k hlt hl2];exact ⟨rfl,rfl⟩
   by_cases hc:(cO q.ms ps).contains (k:Int)=true/\pO q (jW 5 gs)[k]=true
   ·rw[Tq hl2 hc.1 hc.2]
    unfold jr;rw[List.flatMap_append];simp[hlt]
   ·have hne:gs[k].filter (jo q)=[]:=by
     rw[List.filter_eq_nil_iff];intro x hx hkp;unfold jo at hkp;rw[Bool.and_eq_true,decide_eq_true_eq]at hkp;have hm:=hg _ (List.getElem_mem hlt);have ht:=VR hm x hx;refine hc ⟨NK hp hn hlt hx ((z17.1 hm).2.1 x hx) hkp.2,?_⟩;unfold pO;rw[hs.1,hs.2,decide_eq_true_eq];omega
    rw[KL hl2 (by
     by_cases h1:(cO q.ms ps).contains (k:Int)=true
     ·exact .inr (by simpa using fun h2=>hc ⟨h1,h2⟩)
     ·exact .inl (by simpa using h1)),hne,List.append_nil]
 unfold gZ;rw[if_pos hq,step _ (by rw[hl];exact Nat.le_refl _),hl,List.take_length]
theorem NU {q:dN} {ss:List aN} {ps:List PV}:∀g∈gZ q ss ps,0<=g/\g.toNat<ss.length:=by
 intro g hg;unfold gZ at hg;split at hg
 ·unfold kM at hg
  obtain ⟨i,hi,rfl⟩:=List.mem_map.1 hg;have:=List.mem_range.1 (List.mem_filter.1 hi).1;omega
 ·cases hg
end Go.Proofs.YtpakjclpjcngmaaGreat
namespace Go.Proofs.YtpakjclpjcngmaaGreat
open Go.RowKit Ps
structure Parts (X:List Nat) (R:List au) (per:Int) (gs:List (List au)) (p q:Nat):Prop where
 e:Aj X=((p:Int),(q:Int),0)
 x:rdX X=(jW 5 gs,z16 gs,0)
 flat:gs.flatten=R
 sum:p+q+8=X.length
 le:X.length<=262144
 may:∀g∈gs,fD g/\iL g=true/\(g.length:Int)<=per
 gl:gs.length<=2048
 g0:0<gs.length
 pl:(z16 gs).length<=2048
 pg:∀t∈z16 gs,t.gs.length<=2048
 rl:R.length<=2048
 span:∀k (hk:k<gs.length) (h2:k<(jW 5 gs).length),∃a z:Nat,(jW 5 gs)[k]=⟨a,z,gs[k].length,firstT gs[k],lastT gs[k]⟩/\a+z<=p/\(X.drop a).take z=z08 gs[k]/\(z08 gs[k]).length=z
theorem Gv {R:List au} {per:Int} (h:z19 R per=0):∃p q,Parts (aY R per.toNat) R per (dw per.toNat R) p q:=by
 obtain ⟨p,q,hpq,hsum,hp5⟩:=z5i (show (Aj (aY R per.toNat)).2.2=0 by rw[z3D h]);obtain ⟨gs,e,a1,a2,a3,a4,a5,a6,a7,a8,a9,a10,a11⟩:=z36 h;have h5:=YC h;have hfit:=z2x a6
 have hp:p=5+(bf gs).length:=by
  have:=z3D h;rw[hpq,←e]at this;injection this with h1 _;omega
 have hpl:(z16 gs).length<=2048:=by
  have:=z12 (gs.flatten.map b_);rw[List.length_map]at this;unfold z16;rw[List.length_map];rw[a8]at this;rw[a8];omega
 refine ⟨p,q,⟨hpq,QM h,by rw[←e];exact a8,hsum,h5.2.2.2.2,fun g hg=>?_,by rw[←e];exact a6,by rw[←e];exact a7,by rw[←e];exact hpl,fun t ht=>?_,a9,fun k hk h2=>?_⟩⟩
 ·have:=DX a2 hg
  exact ⟨(a5 g (by rw[e];exact hg)).1,(a5 g (by rw[e];exact hg)).2,by omega⟩
 ·rw[←e]at ht
  exact (hfit t ht).2.1
 ·have hk':k<gs.length:=by rw[e];exact hk
  refine ⟨5+(bf ((dw per.toNat R).take k)).length,(z08 (dw per.toNat R)[k]).length,z3Z _ 5 k hk h2,?_,?_,rfl⟩
  ·have:=KZ hk
   rw[hp,e];omega
  ·exact OM hk
structure Vs (w9 wb wr:World) (v0 v:Value) (zs:List RV):Prop where
 rows:dO w9 wr v zs
 mv:Moved wb wr v0 v
theorem Vs.tr {w9 wb wr w':World} {v0 v:Value} {zs:List RV} (h:Vs w9 wb wr v0 v zs) (c:Nx wr w'):Vs w9 wb w' v0 v zs:=⟨h.rows.tr c,h.mv.nx c⟩
theorem Vs.app {w9 wb wr w':World} {v0 v v':Value} {zs:List RV} {y:RV} (h:Vs w9 wb wr v0 v zs) (o:aA w9 w' 58 9 v' (zs.length+1) (gq zs++gq [y])) (m:Moved wr w' v v')
 (hy:y.ok wr (fun k=>w9.heap.size<=k/\k<wr.heap.size/\v.ownBlock≠some k)):Vs w9 wb w' v0 v' (zs++[y]):=
 ⟨h.rows.app (ys:=[y]) o m (fun z hz=>by rw[List.mem_singleton.1 hz];exact hy),h.mv.tr m⟩
theorem Vs.ys {w9 wx wb wr:World} {v0 v:Value} {zs ys:List RV} {Ag:Option Addr} {cg:Nat} (h:Vs w9 wb wr v0 v zs) (hg:dO wx wb (.slice Ag ys.length cg) ys) (h0:∀k,v0.ownBlock=some k->k<wx.heap.size):
 Rd wr (fun k=>wx.heap.size<=k/\k<wb.heap.size) 9 Ag ys.length (gq ys)/\(∀x∈ys,x.ok wr (fun k=>wx.heap.size<=k/\k<wb.heap.size))/\∀k,wx.heap.size<=k->k<wb.heap.size->v.ownBlock≠some k:=by
 refine ⟨(hg.own.rd.ch (by decide) h.mv.ch (fun k _ hk e=>?_)).more (fun k hk=>hk.2),fun x hx=>(hg.ok x hx).ch h.mv.ch (fun k _ hk e=>?_) (fun k hk=>⟨hk.1,hk.2.1⟩),fun k h1 h2 e=>?_⟩
 ·have:=h0 k e;omega
 ·have:=h0 k e;omega
 ·rcases h.mv.at_ with e2|⟨j,e2,hj⟩
  ·rw[e2]at e
   have:=h0 k e;omega
  ·rw[e2]at e
   injection e with e;omega
def aaZ (q:dN) (R:List au) (w:World) (e:Ending) (w':World):Prop:=
 ∃(zs:List RV) (A:Option Addr) (c k:Nat),e=.returned (.tuple #[.slice A zs.length c,.int .i64 (k:Int),.int .i64 0])/\zs.map (fun x=>x.row)=R.filter (jo q)/\dO w w' (.slice A zs.length c) zs/\(∀z∈zs,z.row.few)/\k<=R.length
theorem MB {R:List au} {per:Int} (h:z19 R per=0) {w:World} {aa:Addr} {n c d:Nat} {q:dN} {B:Option Addr} (hr:Rd w (fun j=>j<w.heap.size) 1 (some aa) n (bl (aY R per.toNat))) (hn:(aY R per.toNat).length=n) (hc:n<=c) (hq:Py w q B d) (hqr:kW q=true) (m:Int) (hz:w.cell? ⟨0,0,none⟩=some (.int .i64 m)):
 Calls Tryz.prog 34 #[iU q B d,.slice (some aa) n c] w (aaZ q R w):=by
 have HZ:=ah (fun (w':World) (c':Nx w w')=>show w'.cell? ⟨0,0,none⟩=some (.int .i64 m) from (c'.cell (p:=⟨0,0,none⟩) (World.block_lt_of_cell? w _ hz)).trans hz);have HX:=ah (fun (w':World) (c':Nx w w')=>(hr.nx (by decide) c').more (D':=fun j=>j<w'.heap.size) (fun k hk=>Nat.lt_of_lt_of_le hk c'.size));have HQ:=ah (fun w' (c':Nx w w')=>z3E (hq.nx c'));have HQI:=ah (fun w' (c':Nx w w')=>hq.nx c');have HK:=ah (fun w' (c':Nx w w') (x:RV) (D:Nat->Prop) (hx:x.ok w' D) (hf:x.row.few)=>vP (hq.nx c') hqr hx hf);obtain ⟨i0,hi0,hz0,hz1,hz2⟩:=info_parts Tryz.lH;have E1:=ah h;obtain ⟨p,q',hP⟩:=Gv h;rw[hqr]at HQ;have hle:n<=262144:=by rw[←hn];exact hP.le
 have hsum:=hP.sum;rw[hn]at hsum
 have abx:=fun (w':World) (c':Nx w w')=>Oh E1.out hn (c:=c-(n-8)) (by
  have h:=(HX.out w' c').cut (k:=n-8) (cap:=c) (by omega) hc;rw[Nat.mul_one,if_neg (by omega),Option.map_some,show (bl (aY R per.toNat)).drop (n-8)=bl ((aY R per.toNat).drop (n-8)) by simp[bl,List.map_drop]]at h;exact h) (by omega)
 rw[hP.e]at abx;have HEN:=ah abx
 have UR:=fun (w':World) (c':Nx w w')=>N_ E1.out (q:=q') (c:=c-p) (by
  have h:=Rd.aes (HX.out w' c') (p:=p) (q:=q') (by omega) hc;rw[if_neg (by omega),Option.map_some]at h;rw[hP.e];simp only[Int.toNat_natCast];exact h) (by rw[hP.e]) (fun j e=>e) (by omega)
 have hfr:fF (((aY R per.toNat).drop (Aj (aY R per.toNat)).1.toNat).take (Aj (aY R per.toNat)).2.1.toNat)=rdX (aY R per.toNat):=rfl;unfold VD at UR;rw[hfr,hP.x]at UR;simp only at UR;have HFT:=ah UR;have HGM:=ah (fun (w':World) (c':Nx w w') k hk A' D z c=>Iq (A:=A') (D:=D) (n:=z) (c:=c) (w:=w') (k:=k) E1.out hk);have HP:=ah hP;have Yu:=ah (fun ps h1 h2=>QC (q:=q) (gs:=dw per.toNat R) (ps:=ps) hqr (fun g hg=>(hP.may g hg).2.1) h1 h2);have HSL:=VK (dw per.toNat R) 5;have hgl:=hP.gl;have hg0:=hP.g0;have hpl:=hP.pl;have hgR:(dw per.toNat R).length<=R.length:=qV (by have:=(YC h).1;omega);have hrl:=hP.rl;have lJ:=(YC h).2.1;have hs1:p+q'+8<=n:=by omega
 have hs2:n<=p+q'+8:=by omega
 clear hsum h hr hn hq hqr hz hP UR abx hfr;generalize dw per.toNat R=gs at *;generalize aY R per.toNat=X at *;obtain ⟨ss,hss⟩:∃t,t=jW 5 gs:=⟨_,rfl⟩;obtain ⟨po,hpo⟩:∃t,t=z16 gs:=⟨_,rfl⟩;rw[←hss]at HFT HSL Yu;rw[←hpo]at HFT hpl Yu;have UN:=ah hss;have HPO:=ah hpo;have Ny:ss.length<=2048:=by omega
 have abo:=ah HSL;clear hss hpo HSL;have hqe:Hid (∃t,t=q):=ah ⟨_,rfl⟩;obtain ⟨lo,hi,ms,limit,texts⟩:=q;unfold iU at *;simp only at HQ HK HQI;have B1:=ah (aG.new w 66 #[.int .i64 lo,.int .i64 hi,.slice B ms.length d,.int .i64 limit,.bool texts]);have N1:=ah ((Ch.refl (fun _=>False) w).alloc (.cells #[.int .i64 lo,.int .i64 hi,.slice B ms.length d,.int .i64 limit,.bool texts] 66));have KQ:=ah (fun (w':World) (c':Nx (w.alloc (.cells #[.int .i64 lo,.int .i64 hi,.slice B ms.length d,.int .i64 limit,.bool texts] 66)) w')=>show w'.cell? ⟨w.heap.size,0,none⟩=some (.int .i64 lo)/\w'.cell? ⟨w.heap.size,1,none⟩=some (.int .i64 hi)/\w'.cell? ⟨w.heap.size,2,none⟩=some (.slice B ms.length d)/\w'.cell? ⟨w.heap.size,3,none⟩=some (.int .i64 limit)/\w'.cell? ⟨w.heap.size,4,none⟩=some (.bool texts) from ⟨(B1.out.nx c').cell 0,(B1.out.nx c').cell 1,(B1.out.nx c').cell 2,(B1.out.nx c').cell 3,(B1.out.nx c').cell 4⟩);obtain ⟨q0,q1,q2,q3,q4⟩:=KQ.out _ (Ch.refl _ _);have hw8:IntKind.i64.wrap ((n:Int)-8)=(n:Int)-8:=IntWalk.i64_in _ (by omega);have hmx:(max ((n:Int)-8) 0).toNat=n-8:=by omega
 have kpq:IntKind.i64.wrap ((p:Int)+(q':Int))=((p+q':Nat):Int):=by rw[IntWalk.i64_in _ (by omega)];omega
 go_enter Tryz.func34,Tryz.ntmps34;go_wp2_with fail;generalize hw1:w.alloc (.cells #[.int .i64 lo,.int .i64 hi,.slice B ms.length d,.int .i64 limit,.bool texts] 66)=w1 at *;have HW1:=ah hw1;clear hw1 q0 q1 q2 q3 q4;have NW1:=ah (show Nx w w1 from HW1.out▸N1.out);refine (HQ.out _ NW1.out).mono ?_;rintro e w2 ⟨rfl,n2⟩;have M2:=ah n2;clear n2 HQ;go_wp2_with fail;refine (HEN.out _ (NW1.out.tr M2.out)).mono ?_;rintro e w6 ⟨rfl,d6⟩;have M6:=ah (M2.out.tr d6.nx);clear d6 HEN hmx hw8;go_wp2_with fail;refine (HFT.out _ (NW1.out.tr M6.out)).mono ?_;rintro e w8 ⟨A3,A4,c3,c4,ps,rfl,rs,rp,hps,hrr,hc3,hc4,n8⟩;have M8:=ah (M6.out.tr n8);have adK:ps.length=po.length:=by rw[←hps,List.length_map]
 obtain ⟨ap,hap⟩:∃ap,A3=some ap:=by
  obtain ⟨ap,h1, -⟩:=rs.2 (by have:=abo.out;omega);exact ⟨ap,h1⟩
 subst hap;have NA:Nx w8 (w8.alloc (.cells #[.slice (some ap) ss.length c3,.slice A4 po.length c4] 49)):=(Ch.refl (fun _=>False) w8).alloc _;have M9:=ah (M8.out.tr NA);have B9:=ah (aG.new w8 49 #[.slice (some ap) ss.length c3,.slice A4 po.length c4]);have RS:=ah (fun (w':World) (c':Nx (w8.alloc (.cells #[.slice (some ap) ss.length c3,.slice A4 po.length c4] 49)) w')=>rs.nx (by decide) (NA.tr c'));have HAL:=ah (Yu.out ps hps (fun p hp=>(hrr p hp).2))
 have HGR:=ah (fun (w':World) (c':Nx (w8.alloc (.cells #[.slice (some ap) ss.length c3,.slice A4 po.length c4] 49)) w')=>(by
  have h:=BJ (q:=⟨lo,hi,ms,limit,texts⟩) (B:=B) (d:=d) (cs:=c3) (cp:=c4) (As:=some ap) (Ap:=A4) (ss:=ss) (ps:=ps) (D:=fun k=>w6.heap.size<=k/\k<w8.heap.size) (HQI.out w' (NW1.out.tr (M9.out.tr c'))) (rs.nx (by decide) (NA.tr c')) (by rw[adK];exact rp.nx (by decide) (NA.tr c')) (fun x hx=>⟨(hrr x hx).1.nx (by decide) (NA.tr c'),?_,?_,?_⟩) (by omega) (by omega) m (HZ.out w' (NW1.out.tr (M9.out.tr c')))
  ·unfold iU at h
   rw[adK]at h;exact h
  all_goals
   have hx2:x.e∈z16 gs:=by rw[←HPO.out,←hps];exact List.mem_map.2 ⟨x,hx,rfl⟩
   have hf:=z2x hgl x.e hx2
  ·have h1:=hf.1
   have e:x.e.text=x.text:=rfl;rw[e]at h1;omega
  ·have h1:=hf.2.1
   have e:x.e.gs.length=x.gs.length:=List.length_map _;omega
  ·intro g hg
   have h1:=hf.2.2 g.toNat (List.mem_map.2 ⟨g,hg,rfl⟩);have h2:=(hrr x hx).2 g hg;unfold i64;omega:Calls Tryz.prog 85 #[.agg #[.int .i64 lo,.int .i64 hi,.slice B ms.length d,.int .i64 limit,.bool texts],.agg #[.slice (some ap) ss.length c3,.slice A4 po.length c4]] w' (Zj (gZ ⟨lo,hi,ms,limit,texts⟩ ss ps) w')))
 have Yr:=ah (NU (q:=⟨lo,hi,ms,limit,texts⟩) (ss:=ss) (ps:=ps));have hln:=Io ⟨lo,hi,ms,limit,texts⟩ ss ps;generalize gZ ⟨lo,hi,ms,limit,texts⟩ ss ps=gl at *;have c90:(w8.alloc (.cells #[.slice (some ap) ss.length c3,.slice A4 po.length c4] 49)).cell? ⟨w8.heap.size,0,none⟩=some (.slice (some ap) ss.length c3):=B9.out.cell 0;have c91:(w8.alloc (.cells #[.slice (some ap) ss.length c3,.slice A4 po.length c4] 49)).cell? ⟨w8.heap.size,1,none⟩=some (.slice A4 po.length c4):=B9.out.cell 1;obtain ⟨q0,q1,q2,q3,q4⟩:=KQ.out _ M9.out;clear rs rp hps hrr n8 NA HFT hc3 hc4 Yu;go_wp2_with fail;refine (HGR.out _ (Ch.refl _ _)).mono ?_;rintro e wg ⟨vg,rfl,og⟩;obtain ⟨Ag0,cg0,rfl,hcg0, -⟩:=og.form;have HGI:=ah og.rd;have Mg:=ah og.nx;generalize hb:w8.heap.size=b at *;generalize w8.alloc (.cells #[.slice (some ap) ss.length c3,.slice A4 po.length c4] 49)=w9 at *;clear c90 c91 hb q0 q1 q2 q3 q4 og HGR;go_wp2_with fail;have adW:gl.length<=2048:=by omega
 have HGN:=ah HGI;go_loopw [11,55] (fun out i wr=>∃(k:Nat) (zs:List RV),k<=gl.length/\i=.int .i64 (k:Int)/\zs.length<=256 * k/\Hid (dO wg wr out zs)/\Hid (zs.map (fun x=>x.row)=jr ⟨lo,hi,ms,limit,texts⟩ gs (gl.take k))/\Hid (∀z∈zs,z.row.few)) (fun _ i _=>gl.length-(intOf i).toNat)
 case atStart=>exact ⟨0,[],Nat.zero_le _,rfl,Nat.zero_le _,ah (dO.nil wg wg (Ch.refl _ _)),ah (by simp[jr]),ah (by simp)⟩
 case round=>
  obtain ⟨wa,rfl⟩:∃wa:World,wa=wr:=⟨_,rfl⟩;obtain ⟨k,zs,hkn,rfl,hzl,EY,HZS,VA⟩:=hrel;obtain ⟨Ao,co,rfl,hco,hcm⟩:=EY.out.form;have Na:=ah EY.out.own.nx;by_cases hlt:k<gl.length
  ·obtain ⟨hg1,hg2⟩:=Yr.out _ (List.getElem_mem hlt)
   obtain ⟨ag,hag, -,g0⟩:=KO (HGI.out.nx (by decide) Na.out) hlt;have Vx:=ah (Gm ⟨lo,hi,ms,limit,texts⟩ gs hlt);obtain ⟨u,hu⟩:∃u,u=gl[k].toNat:=⟨_,rfl⟩;have hgu:gl[k]=(u:Int):=(by omega);rw[hgu]at g0 Vx;rw[←hu]at hg2;rw[Int.toNat_natCast]at Vx;clear hg1 hgu hu;subst hag;obtain ⟨ap2,aaF, -,s0,s1,s2,s3,s4⟩:=yh (RS.out wa (Mg.out.tr Na.out)) hg2;injection aaF with aaF;subst aaF;have hkg:u<gs.length:=by have:=abo.out;omega
   obtain ⟨a,z,hsp,haz,hxg,hzg⟩:=HP.out.span u hkg (by rw[←UN.out];exact hg2);have hsk:ss[u]=⟨a,z,gs[u].length,firstT gs[u],lastT gs[u]⟩:=(List.getElem_of_eq UN.out hg2).trans hsp;rw[hsk]at s0 s1 s2 s3 s4;simp only at s0 s1 s2 s3 s4;obtain ⟨hgg,hgm,hgp⟩:=HP.out.may _ (List.getElem_mem hkg);have hgd:gs.getD u []=gs[u]:=(by simp[hkg]);rw[hgd]at Vx
   have afm:=fun (w':World) (c':Nx w9 w')=>HGM.out w' (NW1.out.tr (M9.out.tr c')) u hkg (some (aa.add a)) (fun j=>j<w'.heap.size) z (c-a) (by
    have h:=Rd.aes (HX.out w' (NW1.out.tr (M9.out.tr c'))) (p:=a) (q:=z) (by omega) hc;rw[if_neg (by omega),Option.map_some,hxg]at h;exact h) hzg (fun j e=>e) (by omega) m (HZ.out w' (NW1.out.tr (M9.out.tr c')))
   have HGC:=ah afm;have hG256:gs[u].length<=256:=(by omega);clear hsp hsk hxg hzg hgm hgg afm hgd;generalize firstT gs[u]=tlo at *;generalize lastT gs[u]=thi at *;generalize gs[u]=G at *;have NB:Nx wa (wa.alloc (.cells #[.int .i64 (a:Int),.int .i64 (z:Int),.int .i64 (G.length:Int),.int .i64 tlo,.int .i64 thi] 53)):=(Ch.refl (fun _=>False) wa).alloc _;have HNB:=ah NB;have B5:=ah (aG.new wa 53 #[.int .i64 (a:Int),.int .i64 (z:Int),.int .i64 (G.length:Int),.int .i64 tlo,.int .i64 thi]);have d0:(wa.alloc (.cells #[.int .i64 (a:Int),.int .i64 (z:Int),.int .i64 (G.length:Int),.int .i64 tlo,.int .i64 thi] 53)).cell? ⟨wa.heap.size,0,none⟩=some (.int .i64 (a:Int)):=B5.out.cell 0;have d1:(wa.alloc (.cells #[.int .i64 (a:Int),.int .i64 (z:Int),.int .i64 (G.length:Int),.int .i64 tlo,.int .i64 thi] 53)).cell? ⟨wa.heap.size,1,none⟩=some (.int .i64 (z:Int)):=B5.out.cell 1;have afl:=ah (HGC.out _ (Mg.out.tr (Na.out.tr NB)));have b90:wa.cell? ⟨b,0,none⟩=some (.slice (some ap) ss.length c3):=(B9.out.nx (Mg.out.tr Na.out)).cell 0;have hpa:a<=p:=(by omega);have w1':IntKind.i64.wrap ((p:Int)-(a:Int))=(p:Int)-(a:Int):=IntWalk.i64_in _ (by omega);have r4:decide ((p:Int)-(a:Int)<(z:Int))=false:=by rw[decide_eq_false_iff_not];omega
   have w2':IntKind.i64.wrap ((a:Int)+(z:Int))=((a+z:Nat):Int):=by rw[IntWalk.i64_in _ (by omega)];omega
   clear NB HGC;go_wp2_with fail;clear d0 d1 s0 s1 s2 s3 s4 b90 g0;refine afl.out.mono ?_;intro e wb hgt;obtain ⟨ys,Ag,cg,rfl,hys,HRG,hyf⟩:=xG.get hgt;clear hgt;have hyl:ys.length=G.length:=by have:=congrArg List.length hys;rw[List.length_map]at this;exact this
   have hy256:ys.length<=256:=(by omega);have hSI:Vs wg wb wb (.slice Ao zs.length co) (.slice Ao zs.length co) zs:=⟨(EY.out.tr HNB.out).tr HRG.own.nx,Moved.refl _ _⟩;have HSI:=ah hSI;have H0:=ah (fun k (e:(Value.slice Ao zs.length co).ownBlock=some k)=>(by have:=(EY.out.own.lt k e).2;have:=HNB.out.size;omega:k<(wa.alloc (.cells #[.int .i64 (a:Int),.int .i64 (z:Int),.int .i64 (G.length:Int),.int .i64 tlo,.int .i64 thi] 53)).heap.size));have HRGh:=ah HRG;have HYS:=ah hys;have HYF:=ah hyf;have HW9:=ah (Nat.le_trans Na.out.size HNB.out.size);clear HRG hys hyf hyl afl B5 w1' r4 w2' haz hpa hSI;go_wp2_with fail;generalize wa.alloc (.cells #[.int .i64 (a:Int),.int .i64 (z:Int),.int .i64 (G.length:Int),.int .i64 tlo,.int .i64 thi] 53)=wx at *;go_loopw [11,94] (fun out i wr=>∃(j:Nat) (os:List RV),j<=ys.length/\i=.int .i64 (j:Int)/\os.length<=256 * k+j/\Hid (Vs wg wb wr (.slice Ao zs.length co) out os)/\Hid (os.map (fun x=>x.row)=jr ⟨lo,hi,ms,limit,texts⟩ gs (gl.take k)++((ys.take j).map fun x=>x.row).filter (jo ⟨lo,hi,ms,limit,texts⟩))/\Hid (∀z∈os,z.row.few)) (fun _ i _=>ys.length-(intOf i).toNat)
   case atStart=>exact ⟨0,zs,Nat.zero_le _,rfl,by omega,HSI,ah (by simpa using HZS.out),VA⟩
   case round=>
    obtain ⟨wc,rfl⟩:∃wc:World,wc=wr:=⟨_,rfl⟩;obtain ⟨j,os,hj,rfl,hol,HS,HOM,Zf⟩:=hrel;obtain ⟨Ac,cc,rfl,hcc,hccm⟩:=HS.out.rows.form;by_cases hjl:j<ys.length
    ·obtain ⟨hyr,hyo,hyb⟩:=HS.out.ys HRGh.out H0.out
     obtain ⟨ag2,hag, -,p0,p1,p2,p3,p4,p5,p6,p7,p8⟩:=zW hyr hjl;have EI:=ah (hyo _ (List.getElem_mem hjl));have HXF:=ah (HYF.out _ (List.getElem_mem hjl));have HYB:=ah hyb;have UM:Hid (((ys.take (j+1)).map fun x=>x.row)=((ys.take j).map fun x=>x.row)++[ys[j].row]):=ah (by rw[List.take_succ_eq_append_getElem hjl,List.map_append];rfl);clear hyr hyo hyb;generalize ys[j]=x at *;obtain ⟨⟨kind,time,ay,text,value,null,maker,seq,place⟩,oJ,oG⟩:=x;simp only at p0 p1 p2 p3 p4 p5 p6 p7 p8 HXF UM;subst hag;have NR:=ah ((Ch.refl (fun _=>False) wc).alloc (.cells #[.int .i64 kind,.int .i64 time,.slice oJ ay.length oG,.string text,.int .i64 value,.bool null,.int .i64 maker,.int .i64 seq,.int .i64 place] 58));have BR:=ah (aG.new wc 58 #[.int .i64 kind,.int .i64 time,.slice oJ ay.length oG,.string text,.int .i64 value,.bool null,.int .i64 maker,.int .i64 seq,.int .i64 place]);have Ld:=ah (M9.out.tr (Mg.out.tr HS.out.rows.own.nx));have hk1:=HK.out (wc.alloc (.cells #[.int .i64 kind,.int .i64 time,.slice oJ ay.length oG,.string text,.int .i64 value,.bool null,.int .i64 maker,.int .i64 seq,.int .i64 place] 58)) (NW1.out.tr (Ld.out.tr NR.out)) ⟨⟨kind,time,ay,text,value,null,maker,seq,place⟩,oJ,oG⟩ _ (EI.out.ch NR.out (fun _ _ _ hf=>hf) (fun _ hd=>hd)) HXF.out;unfold bG at hk1;simp only at hk1;have HK1:=ah hk1;obtain ⟨q0,q1,q2,q3,q4⟩:=KQ.out (wc.alloc (.cells #[.int .i64 kind,.int .i64 time,.slice oJ ay.length oG,.string text,.int .i64 value,.bool null,.int .i64 maker,.int .i64 seq,.int .i64 place] 58)) (Ld.out.tr NR.out);clear hk1;go_wp2_with fail;clear q0 q1 q2 q3 q4 p0 p1 p2 p3 p4 p5 p6 p7 p8;refine HK1.out.mono ?_;rintro e wd ⟨rfl,nd⟩;have Nd:=ah (NR.out.tr nd);have BD:=ah (BR.out.nx nd);clear nd HK1;cases hkp:jo ⟨lo,hi,ms,limit,texts⟩ ⟨kind,time,ay,text,value,null,maker,seq,place⟩
     ·have r_:Hid (os.map (fun x=>x.row)=jr ⟨lo,hi,ms,limit,texts⟩ gs (gl.take k)++((ys.take (j+1)).map fun x=>x.row).filter (jo ⟨lo,hi,ms,limit,texts⟩)):=ah (by
       rw[UM.out,List.filter_append,List.filter_cons,if_neg (by rw[hkp];decide),List.filter_nil,List.append_nil];exact HOM.out)
      have HS2:=ah (HS.out.tr Nd.out);clear hkp;go_wp2_with fail;go_roundw
      case rel=>exact ⟨j+1,os,hjl,by go_num,by omega,HS2,r_,Zf⟩
      case measure=>simp[intOf];omega
     ·have r_:Hid ((os++[(⟨⟨kind,time,ay,text,value,null,maker,seq,place⟩,oJ,oG⟩:RV)]).map (fun x=>x.row)=jr ⟨lo,hi,ms,limit,texts⟩ gs (gl.take k)++((ys.take (j+1)).map fun x=>x.row).filter (jo ⟨lo,hi,ms,limit,texts⟩)):=ah (by
       rw[UM.out,List.filter_append,List.filter_cons,if_pos hkp,List.filter_nil,List.map_append,HOM.out,List.append_assoc];rfl)
      have HS2:=ah (HS.out.tr Nd.out);have e0:wd.cell? ⟨wc.heap.size,0,none⟩=some (.int .i64 kind):=BD.out.cell 0;have e1:wd.cell? ⟨wc.heap.size,1,none⟩=some (.int .i64 time):=BD.out.cell 1;have e2:wd.cell? ⟨wc.heap.size,2,none⟩=some (.slice oJ ay.length oG):=BD.out.cell 2;have e3:wd.cell? ⟨wc.heap.size,3,none⟩=some (.string text):=BD.out.cell 3;have e4:wd.cell? ⟨wc.heap.size,4,none⟩=some (.int .i64 value):=BD.out.cell 4;have e5:wd.cell? ⟨wc.heap.size,5,none⟩=some (.bool null):=BD.out.cell 5;have e6:wd.cell? ⟨wc.heap.size,6,none⟩=some (.int .i64 maker):=BD.out.cell 6;have e7:wd.cell? ⟨wc.heap.size,7,none⟩=some (.int .i64 seq):=BD.out.cell 7;have e8:wd.cell? ⟨wc.heap.size,8,none⟩=some (.int .i64 place):=BD.out.cell 8;have HL9:=ah (Rd.GZ wd ⟨⟨kind,time,ay,text,value,null,maker,seq,place⟩,oJ,oG⟩);have HY:Hid (RV.ok wd (fun k=>wg.heap.size<=k/\k<wd.heap.size/\(Value.slice Ac os.length cc).ownBlock≠some k) ⟨⟨kind,time,ay,text,value,null,maker,seq,place⟩,oJ,oG⟩):=ah (RV.ok.ch (x:=⟨⟨kind,time,ay,text,value,null,maker,seq,place⟩,oJ,oG⟩) EI.out Nd.out (fun _ _ _ hf=>hf) (fun k hk=>⟨Nat.le_trans HW9.out hk.1,Nat.lt_of_lt_of_le hk.2 (Nat.le_trans HS.out.mv.ch.size Nd.out.size),HYB.out k hk.1 hk.2⟩));have HSz:=ah HS2.out.rows.own.nx.size;have hob:os.length<=600000:=(by omega);clear hkp;go_wp2_with (at_builtin;refine z03 _ rfl (.tmp 101) (.tmp 103) _ rfl wg.heap.size 58 i0 _ 9 96 Tryz.underlying22 hi0 hz0 hz1 hz2 rfl (by omega) (.slice Ac os.length cc) os.length (gq os) rfl (HS2.out.rows.own.alloc _).own _ (some ⟨wd.heap.size,0,none⟩) 1 1 _ rfl HL9.out (z41 _) (by simp only[maxLen];omega) (by omega) (by have:=HSz.out;simp;omega) ?_;intro v7 w7 jv gr7 at7;obtain ⟨o7,m7⟩:=Pm HS2.out.rows.own ((Ch.refl _ _).alloc _) jv gr7 at7;have G7:=ah (HS2.out.app (y:=⟨⟨kind,time,ay,text,value,null,maker,seq,place⟩,oJ,oG⟩) o7 m7 HY.out);clear jv gr7 at7 o7 m7)
      go_roundw
      case rel=>
       refine ⟨j+1,os++[⟨⟨kind,time,ay,text,value,null,maker,seq,place⟩,oJ,oG⟩],hjl,by go_num,by rw[List.length_append];show os.length+1<=_;omega,G7,r_,ah fun x hx=>?_⟩;rcases List.mem_append.1 hx with hx|hx
       ·exact Zf.out x hx
       ·rw[List.mem_singleton.1 hx]
        exact HXF.out
      case measure=>simp[intOf];omega
    ·have r_:Hid (os.map (fun x=>x.row)=jr ⟨lo,hi,ms,limit,texts⟩ gs (gl.take (k+1))):=ah (by rw[HOM.out,Vx.out,show ys.take j=ys from List.take_of_length_le (by omega),HYS.out])
     have HRO2:=ah HS.out.rows;go_wp2_with fail;go_roundw
     case rel=>exact ⟨k+1,os,hlt,by go_num,by omega,HRO2,r_,Zf⟩
     case measure=>simp[intOf];omega
  ·have mO:Hid (zs.map (fun x=>x.row)=R.filter (jo ⟨lo,hi,ms,limit,texts⟩)):=ah (by rw[HZS.out,List.take_of_length_le (by omega),HAL.out,HP.out.flat])
   go_wp2_with fail;refine bodyPost_ret (v:=.tuple #[.slice Ao zs.length co,.int .i64 (gl.length:Int),.int .i64 0]) (by simp[results,Tryz.results34,go_sem]) rfl ?_;have hb:=NW1.out.tr (M9.out.tr Mg.out);exact ⟨zs,Ao,co,gl.length,rfl,mO.out,⟨EY.out.own.weak hb,fun z hz=>(EY.out.ok z hz).ch (Ch.refl (fun _=>False) _) (fun _ _ _ hf=>hf) fun j hj=>⟨Nat.le_trans hb.size hj.1,hj.2⟩⟩,VA.out,by have:=abo.out;omega⟩
end Go.Proofs.YtpakjclpjcngmaaGreat
