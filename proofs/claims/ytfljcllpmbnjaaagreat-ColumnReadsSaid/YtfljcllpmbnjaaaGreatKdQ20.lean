/- Contracts and plain laws that the last text rests on. Conditions: each theorem states its own. -/
import Derived.Test.YtfljcllpmbnjaaaGreatKdQ17
import Derived.Test.YtfljcllpmbnjaaaGreatKdQ14
import Derived.Test.YtfljcllpmbnjaaaGreatKdQ7
import Derived.Test.YtfljcllpmbnjaaaGreatKdQ18
import Derived.Test.YtfljcllpmbnjaaaGreatKdQ19
set_option maxRecDepth 100000
set_option maxHeartbeats 32000000
set_option linter.unusedVariables false
namespace Go.Proofs.YtfljcllpmbnjaaaGreat.Fix
theorem take_snoc {xs:List Nat} {p:Nat} (h:p<xs.length):xs.take p++[xs.getD p 0]=xs.take (p+1):=by
 rw[List.take_succ_eq_append_getElem h];simp[List.getD,List.getElem?_eq_getElem h]
theorem Ea {xs:List Nat} {d:Nat} (hd:1<=d):∀n p,d<=p->p+n<=xs.length->(∀j,j<n->xs.getD (p-d+j) 0=xs.getD (p+j) 0)->dQ n d (xs.take p)=xs.take (p+n):=by
 intro n;induction n with
 |zero=>intro p _ _ _;rfl
 |succ n ih=>
  intro p hdp hl h;have hlen:(xs.take p).length=p:=by rw[List.length_take];omega
  have h0:=h 0 (by omega);simp only[Nat.add_zero]at h0
  have hget:(xs.take p).getD (p-d) 0=xs.getD p 0:=by
   rw[←h0];simp only[List.getD_eq_getElem?_getD];rw[List.getElem?_take,if_pos (by omega)]
  rw[dQ,hlen,hget,take_snoc (by omega),ih (p+1) (by omega) (by omega) (fun j hj=>by
   have:=h (j+1) (by omega);rw[show p+1-d+j=p-d+(j+1) by omega,this,show p+1+j=p+(j+1) by omega])]
  congr 1
  omega
theorem JZ {xs:List Nat} {L a c:List Bool} {p P:Nat} {t2:Nat×Nat} {most:Int} (ok:okB xs) (hg:Good xs p t2) (hp:p<xs.length) (hL:L=a++iV (tokF xs p t2)++c) (hP:P=a.length) (hm:(xs.length:Int)<=most):
 xG (pack L) most jF z16 ⟨P,xs.take p,0⟩=(true,⟨P+(iV (tokF xs p t2)).length,xs.take (p+max t2.1 1),0⟩):=by
 have hlen:(xs.take p).length=p:=by rw[List.length_take];omega
 rcases hg with rfl|⟨g1,g2,g3,g4,g5,g6,g7⟩
 ·have hb:iV (tokF xs p (0,0))=aK (xs.getD p 0):=rfl
  have hx:=uf ok p;rw[hb]at hL ⊢;unfold xG;rw[UZ (by omega) hL hP];unfold xE;generalize hxx:xs.getD p 0=x at *;have hc1:¬((⟨P+(aK x).length,xs.take p,0⟩:Inf).e≠0∨(x:Int)=256):=by simp;omega
  have hc2:(x:Int)<256:=by omega
  rw[if_neg hc1,if_pos hc2];have hr:=z42 (most:=most) (n:=1) (s:=⟨P+(aK x).length,xs.take p,0⟩) rfl (by simp only[hlen];omega);rw[hr];simp only[if_true,Int.toNat_natCast];rw[←hxx,take_snoc hp];rfl
 ·have hn0:¬(tokF xs p t2).len=0:=by show ¬t2.1=0;omega
  have hb:iV (tokF xs p t2)=jX t2.1++pX (t2.2-1):=by unfold iV;rw[if_neg hn0];rfl
  rw[hb]at hL ⊢;obtain ⟨k,s1,hk,h1,he1,h2⟩:=PO (out:=xs.take p) (L:=L) (a:=a) (c:=pX (t2.2-1)++c) (P:=P) g1 g2 (by rw[hL];simp only[List.append_assoc]) hP;obtain ⟨k2,s3,hk2,h3,he3,h4⟩:=MP (out:=xs.take p) (L:=L) (a:=a++jX t2.1) (c:=c) (P:=P+(jX t2.1).length) (e:=t2.2-1) (by omega) (by rw[hL];simp only[List.append_assoc]) (by rw[List.length_append,hP]);unfold xG;rw[h1];unfold xE;simp only;rw[if_neg (by simp[he1];omega),if_neg (by omega),if_neg (by omega),show (((257+k:Nat):Int)-257).toNat=k by omega,h2];simp only;rw[h3];simp only;rw[uM he3 (by omega),h4];simp only;have hd:t2.2-1+1=t2.2:=by omega
  rw[hd];have hr:=z42 (most:=most) (n:=(t2.1:Int)) (s:=⟨P+(jX t2.1).length+(pX (t2.2-1)).length,xs.take p,0⟩) rfl (by simp only[hlen];omega);rw[Ku rfl (by simp only[hlen];omega) (by rw[hr])];simp only;rw[Ea g3 t2.1 p g5 g6 g7,List.length_append,show max t2.1 1=t2.1 by omega,Nat.add_assoc]
theorem Fv {L a:List Bool} {P:Nat} {out:List Nat} {most:Int} (hL:L=a++aK 256) (hP:P=a.length):
 xG (pack L) most jF z16 ⟨P,out,0⟩=(false,⟨L.length,out,0⟩):=by
 unfold xG;rw[UZ (s:=256) (a:=a) (c:=[]) (by omega) (by rw[hL,List.append_nil]) hP];unfold xE;rw[if_pos (.inr rfl),hL,List.length_append,hP]
theorem Ef {xs:List Nat} {most:Int} (ok:okB xs) (hm:(xs.length:Int)<=most):∀f p (a:List Bool) fu,xs.length-p<=f->p<=xs.length->(aF xs f p).length<fu->
 ∀L,L=a++(aF xs f p).flatMap iV++aK 256->aP (pack L) most jF z16 fu ⟨a.length,xs.take p,0⟩=⟨L.length,xs,0⟩:=by
 intro f;induction f with
 |zero=>
  intro p a fu h1 h2 h3 L hL;obtain ⟨fu,rfl⟩:∃f',fu=f'+1:=⟨fu-1,by omega⟩;rw[aP,if_neg (by simp),Fv (L:=L) (a:=a) (by rw[hL];simp[aF]) rfl];simp only[Bool.false_eq_true,if_false];rw[List.take_of_length_le (by omega)]
 |succ f ih=>
  intro p a fu h1 h2 h3 L hL;obtain ⟨fu,rfl⟩:∃f',fu=f'+1:=⟨fu-1,by omega⟩;rw[aF]at h3 hL;by_cases hp:xs.length<=p
  ·rw[if_pos hp]at h3 hL
   rw[aP,if_neg (by simp),Fv (L:=L) (a:=a) (by rw[hL];simp) rfl];simp only[Bool.false_eq_true,if_false];rw[List.take_of_length_le (by omega)]
  ·rw[if_neg hp]at h3 hL
   have hg:=XW xs p
   have hmx:p+max (dR xs p).1 1<=xs.length:=by
    rcases hg with e|e
    ·rw[e];simp;omega
    ·have:=e.2.2.2.2.2.1;omega
   generalize dR xs p=t2 at *;rw[List.flatMap_cons]at hL;rw[aP,if_neg (by simp),JZ (L:=L) (a:=a) (c:=(aF xs f (p+max t2.1 1)).flatMap iV++aK 256) ok hg (by omega) (by rw[hL];simp only[List.append_assoc]) rfl hm];simp only[if_true];rw[←List.length_append];refine ih (p+max t2.1 1) (a++iV (tokF xs p t2)) fu (by omega) hmx (by simp only[List.length_cons]at h3;omega) L (by rw[hL];simp only[List.append_assoc])
theorem xK (t:Tok):1<=(iV t).length:=by
 have hl:∀s,7<=(aK s).length:=fun s=>by
  unfold aK qF;rw[z03];split
  ·omega
  ·split
   ·omega
   ·split<;>omega
 unfold iV;split
 ·have:=hl t.byte;omega
 ·rw[List.length_append]
  have:7<=(jX t.len).length:=by
   unfold jX;split
   ·exact hl _
   ·split
    ·exact hl _
    ·rw[List.length_append];have:=hl (257+4 * iL (t.len-3)+(t.len-3) / 2 ^ iL (t.len-3));omega
  omega
theorem PZ (l:List Tok):l.length<=(l.flatMap iV).length:=by
 induction l with
 |nil=>simp
 |cons t l ih=>have:=xK t;rw[List.flatMap_cons,List.length_append,List.length_cons];omega
theorem iM {xs:List Nat} {most:Int} (ok:okB xs) (hm:(xs.length:Int)<=most) (hm2:most<=65536):jV (pack (aI (aF xs xs.length 0))) most=(xs,(pack (aI (aF xs xs.length 0))).length,0):=by
 have hc:=Ef ok hm xs.length 0 (numBits 3 3);generalize hT:aF xs xs.length 0=l at *;have hfl:=PZ l;have hL:aI l=numBits 3 3++l.flatMap iV++aK 256:=rfl
 have hle:10<=(aI l).length/\l.length<=(aI l).length:=by
  have h7:(aK 256).length=7:=rfl;rw[hL];simp only[List.length_append,Jo,h7];omega
 have hbit:∀i,i<3->(aI l).getD i false=(3:Nat).testBit i:=by
  intro i hi;have e:aI l=[true,true,false]++(l.flatMap iV++aK 256):=by rw[hL,List.append_assoc];rfl
  rw[e];match i,hi with
  |0,_=>rfl
  |1,_=>rfl
  |2,_=>rfl
 have hpl:=tZ (aI l);have hc2:=hc (8 * (pack (aI l)).length+1) (by omega) (by omega) (by omega) (aI l) hL;rw[Jo,List.take_zero]at hc2;generalize aI l=L at *;have b1:aS (pack L) 0 1=1:=by rw[Zc _ 0 1 3 (fun i hi=>by rw[Nat.zero_add];exact hbit i (by omega))]
 have b2:aS (pack L) 1 2=1:=by
  rw[Zc _ 1 2 1 (fun i hi=>by
   rw[hbit _ (by omega)];match i,hi with
   |0,_=>rfl
   |1,_=>rfl)]
 have hb:Jw (pack L) most ⟨0,[],0⟩=⟨L.length,xs,0⟩/\(aA (pack L) 1 ⟨0,[],0⟩).1=1:=by
  have n1:=nJ (bs:=pack L) (n:=1) (p:=0) (out:=[]) (by omega) b1;have n2:=nJ (bs:=pack L) (n:=2) (p:=1) (out:=[]) (by omega) b2;refine ⟨?_,by rw[n1]⟩;unfold Jw;rw[n1];simp only[Nat.zero_add];rw[n2];simp only[ne_eq,not_true_eq_false,if_false];unfold fA;rw[if_neg (by decide),if_pos rfl,Zq rfl Zh Zg];exact hc2
 have hx:jE (pack L) most (8 * (pack L).length+1) ⟨0,[],0⟩=⟨L.length,xs,0⟩:=by rw[jE,hb.1,hb.2,if_neg (by simp)]
 unfold jV;rw[if_neg (by omega)];simp only[hx];rw[if_neg (by simp),hpl]
theorem zi {xs:List Nat} {most:Int} (ok:okB xs) (hl:xs.length<=65535) (hm:(xs.length:Int)<=most) (hm2:most<=65536):jV (aW xs) most=(xs,(aW xs).length,0):=by
 obtain ⟨n,hn⟩:∃n,xs.length=n:=⟨_,rfl⟩;have hlen:(aW xs).length=5+n:=by simp[aW,AV,hn];omega
 have h0:(aW xs).getD 0 0=1:=rfl;have h1:(aW xs).getD 1 0=n % 256:=by rw[←hn];rfl
 have h2:(aW xs).getD 2 0=n / 256:=by rw[←hn];rfl
 have h3:(aW xs).getD 3 0=255-n % 256:=by rw[←hn];rfl
 have h4:(aW xs).getD 4 0=255-n / 256:=by rw[←hn];rfl
 have h5:∀j,(aW xs).getD (5+j) 0=xs.getD j 0:=fun j=>by rw[show 5+j=j+5 by omega];simp[aW,AV]
 generalize aW xs=bs at *
 have b1:aS bs 0 1=1:=by
  have:=Vj bs 0 1 0 (by omega);simp only[Nat.mul_zero,Nat.add_zero,Nat.pow_zero,Nat.div_one,Nat.pow_one]at this;rw[this,h0]
 have b2:aS bs 1 2=0:=by
  have:=Vj bs 0 2 1 (by omega);simp only[Nat.mul_zero,Nat.zero_add]at this;rw[this,h0]
 have b3:aS bs 8 16=n:=by
  have:=Ac bs 1 (by rw[h1];omega) (by rw[h2];omega);rw[h1,h2]at this;rw[show (8:Nat)=8 * 1 from rfl,this];omega
 have b4:aS bs 24 16=65535-n:=by
  have:=Ac bs 3 (by rw[h3];omega) (by rw[h4];omega);rw[h3,h4]at this;rw[show (24:Nat)=8 * 3 from rfl,this];omega
 have n1:aA bs 1 ⟨0,[],0⟩=(1,⟨1,[],0⟩):=by rw[RI (by omega),b1]
 have n2:aA bs 2 ⟨1,[],0⟩=(0,⟨3,[],0⟩):=by rw[RI (by omega),b2]
 have hb:Jw bs most ⟨0,[],0⟩=⟨8 * (5+n),xs,0⟩:=by
  unfold Jw;rw[n1,n2];simp only[ne_eq,not_true_eq_false,if_false];unfold fA;rw[if_pos rfl];unfold dV;simp only;rw[show (3+7) / 8 * 8=8 by omega,RI (by omega),b3];simp only;rw[show 8+16=24 by omega,RI (by omega),b4];simp only;unfold rD;have e1:65535-(65535-n)=n:=by omega
  simp only[e1,ne_eq,not_true_eq_false,and_false,if_false];rw[z42 (most:=most) (by rfl) (by simp only[List.length_nil];omega)];simp only[not_true_eq_false,if_false];have hs:=z4P (bs:=bs) ok n 5 [] (by omega) (by omega) (fun j hj=>by rw[h5 j,hn,Nat.sub_self,Nat.zero_add]);rw[show 24+16=8 * 5 by omega,hs,hn,Nat.sub_self];simp
 have hx:jE bs most (8 * bs.length+1) ⟨0,[],0⟩=⟨8 * (5+n),xs,0⟩:=by rw[jE,hb,n1,if_neg (by simp)]
 unfold jV;rw[if_neg (by omega)];simp only[hx];rw[if_neg (by simp),hlen];congr 2
 omega
theorem sV {xs:List Nat} (ok:okB xs) (hl:xs.length<=65535):jV (aX xs) xs.length=(xs,(aX xs).length,0)/\(aX xs).length<=xs.length+5/\okB (aX xs):=by
 have hs:(aW xs).length=5+xs.length:=by simp[aW,AV];omega
 unfold aX;split
 ·next h=>exact ⟨iM ok (by omega) (by omega),by omega,Pz _⟩
 ·refine ⟨zi ok hl (by omega) (by omega),by omega,?_⟩
  intro z hz;simp only[aW,AV,List.cons_append,List.nil_append,List.mem_cons]at hz;rcases hz with h|h|h|h|h|h
  ·omega
  ·omega
  ·omega
  ·omega
  ·omega
  ·exact ok z h
end Go.Proofs.YtfljcllpmbnjaaaGreat.Fix
namespace Go.Proofs.YtfljcllpmbnjaaaGreat
open Go.RowKit R2
def wU (bs:List Nat):Prop:=aS bs 0 1=1/\(aS bs 1 2=0∨aS bs 1 2=1)/\3<=8 * bs.length
def jr (bs:List Nat) (most:Nat):Inf:=fA bs most (aS bs 1 2) ⟨3,[],0⟩
theorem sF {bs:List Nat} {most:Nat} (h:wU bs) (hm:most<=65536) {xs:List Nat} {u:Nat} (he:jV bs most=(xs,u,0)):(jr bs most).e=0/\xs=(jr bs most).out/\u=((jr bs most).p+7) / 8:=by
 obtain ⟨h1,h2,h3⟩:=h;have e1:aA bs 1 ⟨0,[],0⟩=(aS bs 0 1,⟨0+1,[],0⟩):=RI (by omega);have e2:aA bs 2 ⟨0+1,[],0⟩=(aS bs (0+1) 2,⟨0+1+2,[],0⟩):=RI (by omega)
 have e3:Jw bs most ⟨0,[],0⟩=jr bs most:=by
  unfold Jw jr;rw[e1,e2,if_neg (by simp)]
 have e4:jE bs most (8 * bs.length+1) ⟨0,[],0⟩=jr bs most:=by
  rw[jE,e3,e1,if_neg (by rw[h1];simp)]
 unfold jV at he;rw[if_neg (by omega)]at he;simp only[e4]at he;by_cases h0:(jr bs most).e=0
 ·rw[if_neg (fun h=>h h0)]at he
  injection he with a b;injection b with b c;exact ⟨h0,a.symm,b.symm⟩
 ·rw[if_pos h0]at he
  injection he with a b;injection b with b c;exact absurd c h0
theorem Fq:qK=jF:=by decide+kernel
theorem Fz:nZ=z16:=by decide+kernel
theorem G_ {bs:List Nat} {most:Nat} (h:aS bs 1 2=1):jr bs most=aP bs most qK nZ (8 * bs.length+1) ⟨3,[],0⟩:=by
 unfold jr fA;rw[h,if_neg (by omega),if_pos rfl];unfold FU;have t1:jq jF ⟨3,[],0⟩=⟨3,[],0⟩:=by unfold jq;rw[←Fq,if_pos nT]
 have t2:jq z16 ⟨3,[],0⟩=⟨3,[],0⟩:=by unfold jq;rw[←Fz,if_pos nX]
 rw[if_neg (by simp),t1,if_neg (by simp),t2,Fq,Fz]
theorem Dc {bs:List Nat} {most:Nat} (h:aS bs 1 2=0):jr bs most=dV bs most ⟨3,[],0⟩:=by
 unfold jr fA;rw[h,if_pos rfl]
def Ez (W:World) (bs:List Nat) (most:Nat) (e:Ending) (w':World):Prop:=
 ∃(v:Value) (xs:List Nat) (u:Nat) (er:Int),e=.returned (.tuple #[v,.int .i64 (u:Int),.int .i64 er])/\Nx W w'/\
  (er=0->∃(A:Option Addr) (c:Nat) (D:Nat->Prop),v=.slice A xs.length c/\Rd w' D 1 A xs.length (bl xs)/\xs.length<=c/\c<=maxLen/\okB xs/\xs.length<=most)/\
  (er≠0->v=.slice none 0 0)/\
  (wU bs->∀xs0 u0,jV bs most=(xs0,u0,0)->er=0/\xs=xs0/\u=u0)
theorem Ez.bad {W w':World} {bs:List Nat} {most:Nat} {er:Int} (n:Nx W w') (h:er≠0) (hno:wU bs->(jr bs most).e=0->False) (hm:most<=65536):Ez W bs most (.returned (.tuple #[.slice none 0 0,.int .i64 0,.int .i64 er])) w':=
 ⟨_,[],0,er,rfl,n,fun h0=>absurd h0 h,fun _=>rfl,fun ho xs0 u0 hi=>(hno ho (sF ho hm hi).1).elim⟩
def InfR (K:Nat->Prop) (w3:World) (t g h:Nat) (bs:List Nat) (N most:Nat) (i:Value) (wr:World):Prop:=
 ∃(k p:Nat) (xs:List Nat),k<=N+1/\i=.int .i64 (k:Int)/\kP K w3 t g h bs N p xs most wr/\(wU bs->k=0/\p=0/\xs=[])
def InfB (K:Nat->Prop) (w3:World) (t g h:Nat) (bs:List Nat) (N most:Nat) (v:Value) (wr:World):Prop:=
 ∃(er:Int) (p:Nat) (xs:List Nat),v=.int .i64 er/\kP K w3 t g h bs N p xs most wr/\(wU bs->(jr bs most).e=0->er=0/\p=(jr bs most).p/\xs=(jr bs most).out)
theorem uS (D:Nat->Prop) (A:Option Addr) (n c:Nat) (bs:List Nat) (most:Nat) (W:World) (hr:Rd W D 1 A n (bl bs)) (hD:∀k,D k->k<W.heap.size) (ok:okB bs) (hl:bs.length=n) (hn:n<=1000000) (hm:most<=65536):
 Calls Tryz.prog 98 #[.slice A n c,.int .i64 (most:Int)] W (Ez W bs most):=by
 have hrow:=EX D A n c bs W hr hD hl (by omega) ok;obtain ⟨N,hN⟩:∃N,N=8 * bs.length:=⟨_,rfl⟩;have hNn:N=8 * n:=by omega
 have HN:=ah hN;have hm0:¬(most:Int)<0:=by omega
 have hm1:¬(65536:Int)<(most:Int):=by omega
 rw[show 8 * n=N by omega]at hrow;have Hrow:=ah hrow;have HST:=ah (fun (K:Nat->Prop) (w':World) (t g h p':Nat) (xs':List Nat) (m:Ey K w' t g h bs (8 * bs.length) p' xs' most)=>Gu m hm);have Rq:=ah (fun (K:Nat->Prop) (w':World) (t g h p':Nat) (xs':List Nat) (m:Ey K w' t g h bs (8 * bs.length) p' xs' most)=>Cm m)
 have HCD:=ah (fun (K:Nat->Prop) (w':World) (t g h p':Nat) (xs':List Nat) (m:Ey K w' t g h bs (8 * bs.length) p' xs' most) (D1 D2:Nat->Prop) (A1 A2:Option Addr) (n1 n2 c1 c2:Nat) (zl zd:List Int) (hr1:Rd w' D1 1 A1 n1 (il zl)) (hl1:zl.length=n1) (he1:bH zl=0) (hr2:Rd w' D2 1 A2 n2 (il zd)) (hl2:zd.length=n2) (he2:bH zd=0)=>
  KA (c1:=c1) (c2:=c2) (k:=8 * bs.length+1) m hm (by omega) hr1 hl1 he1 hr2 hl2 he2)
 rw[←hN]at HST Rq HCD;clear hr hD hl hrow hN;go_enter Tryz.func98,Tryz.ntmps98;go_wp2_with fail;refine Hrow.out.mono ?_;rintro e w1 ⟨h,cr,rfl,o1,hh1,hh2,hc1,hcm⟩;obtain ⟨K,hK⟩:∃K:Nat->Prop,∀k,K k↔(k<W.heap.size∨k=h):=⟨fun k=>k<W.heap.size∨k=h,fun _=>Iff.rfl⟩;have Qz:=ah o1.nx
 have M0:Hid (lM K ((w1.alloc (.cells #[.slice (some ⟨h,0,none⟩) N cr,.int .i64 0] 152)).alloc (.cells #[.pointer (some ⟨w1.heap.size,0,none⟩),.slice none 0 0,.int .i64 (most:Int)] 154)) (w1.heap.size+1) w1.heap.size h bs N 0 [] most (.slice none 0 0)):=ah (by
  have n1:Nx w1 (w1.alloc (.cells #[.slice (some ⟨h,0,none⟩) N cr,.int .i64 0] 152)):=(Ch.refl _ w1).alloc _;have n2:=n1.alloc (.cells #[.pointer (some ⟨w1.heap.size,0,none⟩),.slice none 0 0,.int .i64 (most:Int)] 154);refine ⟨?_,⟨some ⟨h,0,none⟩,cr,?_,o1.fM.nx (by decide) n2,by omega,Nat.zero_le _,by omega,hc1,by simpa [maxLen]using hcm⟩,World.ownsRow_nil _ _ _ _,(fun x hx=>by cases hx),(hK h).2 (.inr rfl),fun k hk=>?_,Nat.zero_le _⟩
  ·have:=dD.new (w1.alloc (.cells #[.slice (some ⟨h,0,none⟩) N cr,.int .i64 0] 152)) 154 #[.pointer (some ⟨w1.heap.size,0,none⟩),.slice none 0 0,.int .i64 (most:Int)]
   simpa using this
  ·exact (dD.new w1 152 #[.slice (some ⟨h,0,none⟩) N cr,.int .i64 0]).nx ((Ch.refl _ _).alloc _)
  ·have h1:=(hK k).1 hk
   have h2:=o1.nx.size;refine ⟨?_,?_,?_,by simp[Value.ownBlock]⟩
   ·simp only[World.size_alloc];omega
   ·omega
   ·omega)
 have hN8:N % 8=0:=by omega
 have hNi:(8:Int) * (n:Int)=(N:Int):=by omega
 have hNb:N<=8000000:=by omega
 have hKW:Hid (∀w',Ch (fun k=>¬K k) ((w1.alloc (.cells #[.slice (some ⟨h,0,none⟩) N cr,.int .i64 0] 152)).alloc (.cells #[.pointer (some ⟨w1.heap.size,0,none⟩),.slice none 0 0,.int .i64 (most:Int)] 154)) w'->Nx W w'):=ah fun w' c'=>
  ((Qz.out.alloc _).alloc _).trans c' fun k hk hn=>hn ((hK k).2 (.inl hk))
 clear hh1 hh2 o1 hc1 hcm hNn hK;go_wp2_with fail;generalize (w1.alloc (.cells #[.slice (some ⟨h,0,none⟩) N cr,.int .i64 0] 152)).alloc (.cells #[.pointer (some ⟨w1.heap.size,0,none⟩),.slice none 0 0,.int .i64 (most:Int)] 154)=w3 at *;generalize w1.heap.size+1=t at *;generalize w1.heap.size=g at *;clear Qz;go_loopw [30] (fun i wr=>InfR K w3 t g h bs N most i wr) (fun i _=>N+1-(intOf i).toNat)
 case atStart=>exact ⟨0,0,[],Nat.zero_le _,rfl,⟨⟨_,M0.out⟩,Ch.refl _ _⟩,fun _=>⟨rfl,rfl,rfl⟩⟩
 case round=>
  clear M0;obtain ⟨w4,rfl⟩:∃x:World,x=wr:=⟨_,rfl⟩;obtain ⟨k,p,xs,hk,rfl,⟨⟨vo,m⟩,c4⟩,hone⟩:=hrel;have M:=ah m;have C4:=ah c4;have HO:=ah hone;have d4:w4.cell? ⟨t,0,none⟩=some (.pointer (some ⟨g,0,none⟩)):=m.blk.cell 0;clear m c4 hone;by_cases hlt:k<N+1
  ·have vW:(k:Int)<(N:Int)+1:=by omega
   go_wp2_with fail;by_cases h1:p+1<=N
   ·refine (Ol g h bs N p 1 w4 M.out.fH (by omega) h1).mono ?_
    rintro e w5 ⟨rfl,r5,c5⟩;have M5:=ah (M.out.bits r5 c5);have C5:=ah (C4.out.trans (M.out.kW c5 fun k h=>.inr (.inl h)) fun _ _ h=>h);have d5:w5.cell? ⟨t,0,none⟩=some (.pointer (some ⟨g,0,none⟩)):=M5.out.blk.cell 0;have hv1:aS bs p 1<2:=AU bs p 1
    have HV1:Hid (wU bs->aS bs p 1=1):=ah fun ho=>by
     obtain ⟨_,rfl,_⟩:=HO.out ho;exact ho.1
    clear r5 c5 d4;generalize aS bs p 1=v1 at *;go_wp2_with fail;by_cases h2:p+1+2<=N
    ·refine (Ol g h bs N (p+1) 2 w5 M5.out.fH (by omega) h2).mono ?_
     rintro e w6 ⟨rfl,r6,c6⟩;have M6:=ah (M5.out.bits r6 c6);have C6:=ah (C5.out.trans (M5.out.kW c6 fun k h=>.inr (.inl h)) fun _ _ h=>h);have hv2:aS bs (p+1) 2<4:=AU bs (p+1) 2
     have HV2:Hid (wU bs->aS bs 1 2=aS bs (p+1) 2/\(aS bs (p+1) 2=0∨aS bs (p+1) 2=1)/\p+1+2=3/\xs=[]):=ah fun ho=>by
      obtain ⟨_,rfl,hx⟩:=HO.out ho;exact ⟨rfl,ho.2.1,rfl,hx⟩
     clear r6 c6 d5;generalize aS bs (p+1) 2=v2 at *;generalize p+1+2=q at *;by_cases h3:v2=3
     ·have h3i:((v2:Int)==3)=true:=by rw[beq_iff_eq];omega
      have H3:=ah h3;clear h3;go_wp2_with fail;go_ret3;exact Ez.bad (hKW.out _ C6.out) (by decide) (fun ho _=>by have:=(HV2.out ho).2.1;have:=H3.out;omega) hm
     ·have h3i:((v2:Int)==3)=false:=by rw[beq_eq_false_iff_ne];omega
      have hv3:v2<3:=(by omega);clear h3;go_upto_if 57 with fail
      go_cut [9] (fun s9 wx=>InfB K w3 t g h bs N most s9 wx)
      case first=>
       by_cases h0:v2=0
       ·have h0i:((v2:Int)==0)=true:=by rw[beq_iff_eq];omega
        have H0:=ah h0;clear h0;go_wp2_with fail;refine (HST.out K w6 t g h q xs ⟨_,M6.out⟩).mono ?_;rintro e w7 ⟨er,p',xs',rfl,ht,hf⟩;go_wp2_with fail;go_meet
        refine ⟨er,p',xs',rfl,⟨ht.1,C6.out.trans ht.2 fun _ _ h=>h⟩,fun ho he=>?_⟩;obtain ⟨a1,a2,rfl,rfl⟩:=HV2.out ho;rw[Dc (a1.trans H0.out)]at he ⊢;exact hf he
       ·have h0i:((v2:Int)==0)=false:=by rw[beq_eq_false_iff_ne];omega
        go_wp2_with fail;refine (mZ w6).mono ?_;rintro e w7 ⟨A1,c1,A2,c2,D',rfl,rd1,rd2,n7⟩;have M7:=ah (M6.out.nx n7);have C7:=ah (C6.out.tr n7);clear n7;by_cases h22:v2=2
        ·have h2i:((v2:Int)==2)=true:=by rw[beq_iff_eq];omega
         have H2:=ah h22;clear h22 h0 rd1 rd2;go_wp2_with fail;refine (Rq.out K w7 t g h q xs ⟨_,M7.out⟩).mono ?_;rintro e w8 ⟨A3,c3,A4,c5,n1,n2,er,p',rfl,ht,hl⟩;have C8:=ah (C7.out.trans ht.2 fun _ _ h=>h);have HT:=ah ht.1;clear ht;by_cases her:er=0
         ·obtain ⟨zl,zd,D2,e1,e2,e3,e4,rd3,rd4⟩:=hl her
          have qI:(er==0)=true:=by rw[beq_iff_eq];exact her
          clear hl her;have HC:=ah (HCD.out K w8 t g h p' xs HT.out D2 D2 A3 A4 n1 n2 c3 c5 zl zd rd3 e1 e3 rd4 e2 e4);clear e1 e2 e3 e4 rd3 rd4;go_wp2_with fail;refine HC.out.mono ?_;rintro e w9 ⟨er,p2,xs2,rfl,ht,hf⟩;go_wp2_with fail;go_meet
          exact ⟨er,p2,xs2,rfl,⟨ht.1,C8.out.trans ht.2 fun _ _ h=>h⟩,fun ho _=>by have:=(HV2.out ho).2.1;have:=H2.out;omega⟩
         ·have qI:(er==0)=false:=by rw[beq_eq_false_iff_ne];exact her
          clear hl her;go_wp2_with fail;go_meet
          exact ⟨er,p',xs,rfl,⟨HT.out,C8.out⟩,fun ho _=>by have:=(HV2.out ho).2.1;have:=H2.out;omega⟩
        ·have h2i:((v2:Int)==2)=false:=by rw[beq_eq_false_iff_ne];omega
         have H1:=ah (show v2=1 by omega);clear h22 h0;have HC:=ah (HCD.out K w7 t g h q xs ⟨_,M7.out⟩ D' D' A1 A2 288 32 c1 c2 qK nZ rd1 nS nT rd2 nV nX);clear rd1 rd2;go_wp2_with fail;refine HC.out.mono ?_;rintro e w9 ⟨er,p2,xs2,rfl,ht,hf⟩;go_wp2_with fail;go_meet
         refine ⟨er,p2,xs2,rfl,⟨ht.1,C7.out.trans ht.2 fun _ _ h=>h⟩,fun ho he=>?_⟩;obtain ⟨a1,a2,rfl,rfl⟩:=HV2.out ho;rw[G_ (a1.trans H1.out),←HN.out]at he ⊢;exact hf he
      case rest=>
      obtain ⟨er,p2,xs2,rfl,⟨⟨v2o,m7⟩,c7⟩,hB⟩:=hcut;obtain ⟨w7,rfl⟩:∃x:World,x=wc:=⟨_,rfl⟩;have M7:=ah m7;have C7:=ah c7;have HB:=ah hB;clear m7 c7 hB;by_cases her:er=0
      ·have qI:(er !=0)=false:=by rw[bne_eq_false_iff_eq];exact her
       clear her;by_cases hv:v1=1
       ·have hvi:((v1:Int)==1)=true:=by rw[beq_iff_eq];omega
        clear hv;have d7:w7.cell? ⟨t,0,none⟩=some (.pointer (some ⟨g,0,none⟩)):=M7.out.blk.cell 0;go_wp2_with fail;refine (z43 g h bs N p2 w7 M7.out.fH hN8).mono ?_;rintro e w8 ⟨rfl,r8,c8⟩;have M8:=ah (M7.out.bits r8 c8);have C8:=ah (C7.out.trans (M7.out.kW c8 fun k h=>.inr (.inl h)) fun _ _ h=>h);clear r8 c8 d7;obtain ⟨A8,cc8,hv8,hA8,Tc⟩:=z05 M8.out.own;subst hv8;have d8:w8.cell? ⟨t,0,none⟩=some (.pointer (some ⟨g,0,none⟩)):=M8.out.blk.cell 0;have d81:w8.cell? ⟨t,1,none⟩=some (.slice A8 xs2.length cc8):=M8.out.blk.cell 1;obtain ⟨q8,hq8⟩:∃q8,q8=(p2+7) / 8 * 8:=⟨_,rfl⟩
        have d82:w8.cell? ⟨g,1,none⟩=some (.int .i64 (q8:Int)):=by
         obtain ⟨_,_,_,b⟩:=M8.out.fH.cells;rw[hq8];exact b
        obtain ⟨u8,hu8⟩:∃u8,u8=(p2+7) / 8:=⟨_,rfl⟩;have hqd:(q8:Int) / 8=(u8:Int):=(by omega);have hub:u8<=8000000:=by have:=(M8.out.fH.le).1;omega
        have Hu8:=ah hu8;have hxl:=M8.out.len;clear hq8 hu8;go_wp2_with fail;go_quiet (fail)
        go_wp2_with fail;go_ret3;have n9:=hKW.out _ (C8.out.drewN nq);refine ⟨_,xs2,u8,0,rfl,n9,fun _=>⟨A8,cc8,_,rfl,(Rd.bY M8.out.own).nx (by decide) ((Ch.refl _ w8).drewN nq),hA8,Tc,M8.out.okb,hxl⟩,fun h=>absurd rfl h,fun ho xs0 u0 hi=>?_⟩;obtain ⟨i1,i2,i3⟩:=sF ho hm hi;obtain ⟨j1,j2,j3⟩:=HB.out ho i1;exact ⟨rfl,by rw[i2,j3],by rw[i3,Hu8.out,j2]⟩
       ·have hvi:((v1:Int)==1)=false:=by rw[beq_eq_false_iff_ne];omega
        have HV:=ah hv;clear hv;go_wp2_with fail;go_roundw
        case rel=>exact ⟨k+1,p2,xs2,by omega,by go_num,⟨⟨_,M7.out⟩,C7.out⟩,fun ho=>absurd (HV1.out ho) HV.out⟩
        case measure=>simp[intOf];omega
      ·have qI:(er !=0)=true:=by rw[bne_iff_ne];exact her
       have Jr:=ah her;clear her;go_wp2_with fail;go_ret3;exact Ez.bad (hKW.out _ C7.out) Jr.out (fun ho he=>Jr.out (HB.out ho he).1) hm
    ·refine (Oo g h bs N (p+1) 2 w5 M5.out.fH (by omega) (by omega) (by omega)).mono ?_
     rintro e w6 ⟨rfl,n6⟩;go_wp2_with fail;go_ret3;exact Ez.bad (hKW.out _ (C5.out.tr n6.nx)) (by decide) (fun ho _=>by obtain ⟨_,hp,_⟩:=HO.out ho;have:=ho.2.2;have:=HN.out;omega) hm
   ·refine (Oo g h bs N p 1 w4 M.out.fH (by omega) (by omega) (by omega)).mono ?_
    rintro e w5 ⟨rfl,n5⟩;go_wp2_with fail;go_ret3;exact Ez.bad (hKW.out _ (C4.out.tr n5.nx)) (by decide) (fun ho _=>by obtain ⟨_,hp,_⟩:=HO.out ho;have:=ho.2.2;have:=HN.out;omega) hm
  ·have vW:¬(k:Int)<(N:Int)+1:=by omega
   have FI:Hid (¬wU bs):=ah fun ho=>by have:=(HO.out ho).1;omega
   go_wp2_with fail;refine (z43 g h bs N p w4 M.out.fH hN8).mono ?_;rintro e w8 ⟨rfl,r8,c8⟩;have M8:=ah (M.out.bits r8 c8);have C8:=ah (C4.out.trans (M.out.kW c8 fun k h=>.inr (.inl h)) fun _ _ h=>h);clear r8 c8 d4;obtain ⟨A8,cc8,hv8,hA8,Tc⟩:=z05 M8.out.own;subst hv8;have d8:w8.cell? ⟨t,0,none⟩=some (.pointer (some ⟨g,0,none⟩)):=M8.out.blk.cell 0;have d81:w8.cell? ⟨t,1,none⟩=some (.slice A8 xs.length cc8):=M8.out.blk.cell 1;obtain ⟨q8,hq8⟩:∃q8,q8=(p+7) / 8 * 8:=⟨_,rfl⟩
   have d82:w8.cell? ⟨g,1,none⟩=some (.int .i64 (q8:Int)):=by
    obtain ⟨_,_,_,b⟩:=M8.out.fH.cells;rw[hq8];exact b
   obtain ⟨u8,hu8⟩:∃u8,u8=(p+7) / 8:=⟨_,rfl⟩;have hqd:(q8:Int) / 8=(u8:Int):=(by omega);have hub:u8<=8000000:=by have:=(M8.out.fH.le).1;omega
   have Hu8:=ah hu8;have hxl:=M8.out.len;clear hq8 hu8;go_wp2_with fail;go_quiet (fail)
   go_wp2_with fail;go_ret3;have n9:=hKW.out _ (C8.out.drewN nq);exact ⟨_,xs,u8,0,rfl,n9,fun _=>⟨A8,cc8,_,rfl,(Rd.bY M8.out.own).nx (by decide) ((Ch.refl _ w8).drewN nq),hA8,Tc,M8.out.okb,hxl⟩,fun h=>absurd rfl h,fun ho=>absurd ho FI.out⟩
theorem yF (D:Nat->Prop) (A:Option Addr) (c:Nat) (xs:List Nat) (W:World) (hr:Rd W D 1 A xs.length (bl xs)) (hc:xs.length<=c) (hl:xs.length<=65535):
 Calls Tryz.prog 77 #[.slice A xs.length c] W (FP W (aW xs)):=by
 obtain ⟨i0,hi0,hz0,hz1,hz2⟩:=info_parts Tryz.info5;obtain ⟨len,hlen⟩:∃len,xs.length=len:=⟨_,rfl⟩;rw[hlen]at hc hl hr ⊢;have Hlen:=ah hlen;have hc1:(len:Int)<=(c:Int):=by omega
 obtain ⟨qa,hqa⟩:∃qa,len % 256=qa:=⟨_,rfl⟩;obtain ⟨qb,SH⟩:∃qb,len / 256=qb:=⟨_,rfl⟩;have ha256:qa<256:=by omega
 have hb256:qb<256:=by omega
 have k1:(len:Int) % 256=(qa:Int):=by omega
 have k2:(len:Int) / 256=(qb:Int):=by omega
 have ku:∀m:Nat,m<256->IntKind.u8.wrap (m:Int)=(m:Int):=fun m hm=>by
  have:IntKind.u8.wrap (m:Int)=(m:Int) % 256:=by simp[IntKind.wrap,IntKind.bits,IntKind.signed]
  omega
 have k3:IntKind.u8.wrap (qa:Int)=(qa:Int):=ku _ ha256;have k4:IntKind.u8.wrap (qb:Int)=(qb:Int):=ku _ hb256;have k5:(255:Int)-(qa:Int)=((255-qa:Nat):Int):=by omega
 have k6:(255:Int)-(qb:Int)=((255-qb:Nat):Int):=by omega
 have k7:IntKind.u8.wrap ((255-qa:Nat):Int)=((255-qa:Nat):Int):=ku _ (by omega);have k8:IntKind.u8.wrap ((255-qb:Nat):Int)=((255-qb:Nat):Int):=ku _ (by omega);have Hqa:=ah hqa;have Hqb:=ah SH;have HK:=ah (And.intro k1 (And.intro k2 (And.intro k3 (And.intro k4 (And.intro k5 (And.intro k6 (And.intro k7 k8)))))));have T0:=au.lit W W 5 (Ch.refl _ W) 1;have VK:Rd W D 1 A len (bl xs):=hr;generalize hW1:W.alloc (.cells #[] 5)=w1 at *;clear hqa SH hlen k5 k6 k7 k8 hr ku;go_enter Tryz.func77,Tryz.ntmps77;go_upto_region 2 with fail
 have HW1:=ah hW1;clear hW1;go_wp2_with fail;refine wp_loop_rounds 1 ?_;rw[rounds_succ];have T1:=T0.alloc (.cells #[.int .u8 1,.int .u8 (qa:Int),.int .u8 (qb:Int),.int .u8 (255-(qa:Int)),.int .u8 (255-(qb:Int))] 5)
 have iD:Rd (w1.alloc (.cells #[.int .u8 1,.int .u8 (qa:Int),.int .u8 (qb:Int),.int .u8 (255-(qa:Int)),.int .u8 (255-(qb:Int))] 5)) (fun k=>k=w1.heap.size) 1 (some ⟨w1.heap.size,0,none⟩) 5 (bl [1,qa,qb,255-qa,255-qb]):=
  ⟨rfl,fun _=>⟨_,rfl,rfl,by rw[HK.out.2.2.2.2.1,HK.out.2.2.2.2.2.1];exact World.news_of_block (dD.new w1 5 #[.int .u8 1,.int .u8 (qa:Int),.int .u8 (qb:Int),.int .u8 ((255-qa:Nat):Int),.int .u8 ((255-qb:Nat):Int)])⟩⟩
 have HR5:=ah iD;have HR:=ah VK;clear iD VK;by_cases h0:0<len
 all_goals
  go_wp2_with (at_builtin;first
   |(refine z01 rfl (.tmp 29) (.tmp 46) _ rfl 5 i0 _ 1 1 Tryz.underlying27 hi0 hz0 hz1 hz2 rfl (by omega) rfl T1 _ (some ⟨w1.heap.size,0,none⟩) 5 5 (bl [1,qa,qb,255-qa,255-qb]) rfl HR5.out (iP _) (by simp[maxLen]) (by omega) ?_;intro v3 w3 o3 m3)
   |(refine z01 rfl (.tmp 48) (.tmp 54) _ rfl 5 i0 _ 1 1 Tryz.underlying27 hi0 hz0 hz1 hz2 rfl (by omega) rfl o3 _ A len c (bl xs) rfl (HR.out.nx (by decide) o3.nx) (iP _) (by simp only[maxLen];omega) (by omega) ?_;intro v4 w4 o4 m4))
  go_ret;have e1:(aW xs).length=0+5+len:=by simp[aW,AV,Hlen.out];omega
  have e2:bl (aW xs)=[]++bl [1,qa,qb,255-qa,255-qb]++bl xs:=by simp[aW,AV,Hlen.out,Hqa.out,Hqb.out,bl]
  rw[←e1,←e2]at o4;obtain ⟨A4,c4,rfl,_,_⟩:=o4.form;exact ⟨A4,c4,rfl,⟨_,o4.rd⟩,o4.nx⟩
theorem JX (xs:List Nat):(aW xs).length=xs.length+5:=by simp[aW,AV]
theorem uT (D:Nat->Prop) (A:Option Addr) (c:Nat) (xs:List Nat) (W:World) (hr:Rd W D 1 A xs.length (bl xs)) (ok:okB xs) (hc:xs.length<=c) (hl:xs.length<=65535):
 Calls Tryz.prog 35 #[.slice A xs.length c] W (FP W (aX xs)):=by
 have HD:Hid (aX xs=if (pack (aI (aF xs xs.length 0))).length<(aW xs).length then pack (aI (aF xs xs.length 0)) else aW xs):=ah rfl;have hf:=CW D A c xs W hr ok hl;have hs:=fun w (h:Nx W w)=>yF D A c xs w (hr.nx (by decide) h) hc (by omega);have hsl:(aW xs).length<=70000:=by rw[JX];omega
 generalize pack (aI (aF xs xs.length 0))=pf at *;generalize aW xs=ps at *;go_enter Tryz.func35,Tryz.ntmps35;go_wp2_with fail;with_reducible refine hf.mono ?_
 rintro e w1 ⟨A1,c1,rfl,⟨D1,hr1⟩,n1⟩;go_wp2_with fail;with_reducible refine (hs _ n1).mono ?_
 rintro e w2 ⟨A2,c2,rfl,⟨D2,hr2⟩,n2⟩;have hr1:=hr1.nx (by decide) n2;by_cases hlt:pf.length<ps.length
 ·have Hd:Hid (aX xs=pf):=ah (by rw[HD.out,if_pos hlt])
  have hlt4:(pf.length:Int)<(ps.length:Int):=by omega
  go_wp2_with fail;with_reducible refine (RH D1 A1 pf.length c1 pf w2 hr1 (by omega)).mono ?_
  rintro e w3 ⟨k3,cap3,rfl,hk,hk2,ho,hrd,n3⟩;go_wp2_with fail;go_ret;rw[Hd.out];exact ⟨_,_,rfl,⟨_,hrd⟩,(n1.tr n2).tr n3⟩
 ·have Hd:Hid (aX xs=ps):=ah (by rw[HD.out,if_neg hlt])
  have hlt4:¬(pf.length:Int)<(ps.length:Int):=by omega
  go_wp2_with fail;with_reducible refine (RH D2 A2 ps.length c2 ps w2 hr2 (by omega)).mono ?_
  rintro e w3 ⟨k3,cap3,rfl,hk,hk2,ho,hrd,n3⟩;go_wp2_with fail;go_ret;rw[Hd.out];exact ⟨_,_,rfl,⟨_,hrd⟩,(n1.tr n2).tr n3⟩
end Go.Proofs.YtfljcllpmbnjaaaGreat
