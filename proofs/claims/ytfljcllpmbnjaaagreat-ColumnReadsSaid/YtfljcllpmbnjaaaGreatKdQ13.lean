/- Contracts and plain laws that the last text rests on. Conditions: each theorem states its own. -/
import Derived.Test.YtfljcllpmbnjaaaGreatKdQ12
import Derived.Deep.RegionHeld3
import Derived.Deep.RegionWith
import Derived.IntWalk
set_option maxRecDepth 100000
set_option maxHeartbeats 4000000
set_option linter.unusedVariables false
namespace Go.Proofs.YtfljcllpmbnjaaaGreat
open Go.RowKit
structure eP (K:Nat->Prop) (w:World) (r g h:Nat) (bs:List Nat) (most:Int) (s:Inf) (vo:Value):Prop where
 blk:dD w r 181 #[.pointer (some ⟨g,0,none⟩),vo,.int .i64 most,.int .i64 s.e]
 fH:cZ w g h bs s.p
 own:w.ownsRow 0 5 1 vo s.out.length (bl s.out)
 okb:okB s.out
 kh:K h
 far:∀k,K k->k<w.heap.size/\k≠r/\k≠g/\vo.ownBlock≠some k
def bJ (K:Nat->Prop) (w:World) (r g h:Nat) (bs:List Nat) (most:Int) (s:Inf):Prop:=∃vo,eP K w r g h bs most s vo
def gG (K:Nat->Prop) (w:World) (r g h:Nat) (bs:List Nat) (most:Int) (s:Inf) (w':World):Prop:=bJ K w' r g h bs most s/\Ch (fun k=>¬K k) w w'
section
variable {K : Nat → Prop} {w w' : World} {r g h : Nat} {bs : List Nat} {most : Int} {s : Inf} {vo : Value}
theorem eP.rg (m:eP K w r g h bs most s vo):r≠g:=by
 obtain ⟨A,c,b,_⟩:=m.fH;exact m.blk.ZU b (by decide)
theorem eP.VA (m:eP K w r g h bs most s vo):vo.ownBlock≠some r:=EI m.own m.blk (by decide)
theorem eP.Lm (m:eP K w r g h bs most s vo):vo.ownBlock≠some g:=by
 obtain ⟨A,c,b,_⟩:=m.fH;exact EI m.own b (by decide)
theorem eP.bits (m:eP K w r g h bs most s vo) {p:Nat} (hr:cZ w' g h bs p) (hc:Ch (· =g) w w'):eP K w' r g h bs most { s with p:=p} vo:=
 ⟨m.blk.ch hc (fun e=>m.rg e),hr,z06 m.own hc (fun k hk e=>m.Lm (by rw[hk,e])),m.okb,m.kh,fun k hk=>by have:=m.far k hk;have:=hc.size;exact ⟨by omega,by omega,by omega,(m.far k hk).2.2.2⟩⟩
theorem eP.kW (m:eP K w r g h bs most s vo) {S:Nat->Prop} (hc:Ch S w w') (hS:∀k,S k->k=r∨k=g∨vo.ownBlock=some k):Ch (fun k=>¬K k) w w':=
 hc.mono fun k _ h hk=>by
  obtain ⟨_,h1,h2,h3⟩:=m.far k hk;rcases hS k h with e|e|e
  ·exact h1 e
  ·exact h2 e
  ·exact h3 e
theorem eP.nx (m:eP K w r g h bs most s vo) (hc:Nx w w'):eP K w' r g h bs most s vo:=
 ⟨m.blk.nx hc,m.fH.nx hc,z06 m.own hc (fun _ _ hf=>hf),m.okb,m.kh,fun k hk=>by have h1:=m.far k hk;have h2:=hc.size;exact ⟨by omega,h1.2.1,h1.2.2.1,h1.2.2.2⟩⟩
theorem bJ.nx (m:bJ K w r g h bs most s) (hc:Nx w w'):bJ K w' r g h bs most s:=by
 obtain ⟨vo,m⟩:=m;exact ⟨vo,m.nx hc⟩
theorem eP.Po (m:eP K w r g h bs most s vo) (e:Int):eP K (w.setCell ⟨r,3,none⟩ (.int .i64 e)) r g h bs most { s with e:=e} vo/\Ch (· =r) w (w.setCell ⟨r,3,none⟩ (.int .i64 e)):=by
 have hc:Ch (fun k=>k=r) w (w.setCell ⟨r,3,none⟩ (.int .i64 e)):=Ch.setCell (S:=fun k=>k=r) (Ch.refl _ w) (p:=⟨r,3,none⟩) (fun _=>rfl) _;have hrh:¬(h=r):=(m.far h m.kh).2.1;refine ⟨⟨?_,m.fH.ch hc (fun e=>m.rg e.symm) hrh,z06 m.own hc (fun k hk e=>m.VA (by rw[hk,e])),m.okb,m.kh,fun k hk=>?_⟩,hc⟩
 ·have:=m.blk.dZ 3 (.int .i64 e)
  simpa using this
 ·have:=m.far k hk
  exact ⟨by simpa [World.setCell]using this.1,this.2⟩
theorem eP.c3 (m:eP K w r g h bs most s vo):w.cell? ⟨r,3,none⟩=some (.int .i64 s.e):=m.blk.cell 3
theorem Jz (m:bJ K w r g h bs most s) (e:Int):
 Calls Tryz.prog 157 #[.pointer (some ⟨r,0,none⟩),.int .i64 e] w fun en w'=>en=.returned (.tuple #[])/\gG K w r g h bs most (aN e s) w':=by
 obtain ⟨vo,m⟩:=m;have d3:=m.c3;have f3:=m.blk.frozen 3;have M:=ah m;clear m;by_cases he:s.e=0
 ·rw[he]at d3
  have He:=ah he;clear he;go_enter Tryz.func157,Tryz.ntmps157;go_wp2_with fail;go_end0
  have h2:=M.out.Po e;refine ⟨rfl,?_⟩;unfold aN;rw[if_pos He.out];exact ⟨⟨vo,h2.1⟩,M.out.kW h2.2 fun k h=>.inl h⟩
 ·have he2:(s.e==0)=false:=by rw[beq_eq_false_iff_ne];exact he
  have He:=ah he;clear he;go_enter Tryz.func157,Tryz.ntmps157;go_wp2_with fail;go_end0
  refine ⟨rfl,?_⟩;unfold aN;rw[if_neg He.out];exact ⟨⟨vo,M.out⟩,Ch.refl _ _⟩
theorem EH (m:bJ K w r g h bs most s) (n:Nat) (hn:n<=16):
 Calls Tryz.prog 153 #[.pointer (some ⟨r,0,none⟩),.int .i64 (n:Int)] w fun en w'=>en=.returned (.int .i64 ((aA bs n s).1:Int))/\gG K w r g h bs most (aA bs n s).2 w':=by
 obtain ⟨vo,m⟩:=m;have d3:=m.c3;have d0:w.cell? ⟨r,0,none⟩=some (.pointer (some ⟨g,0,none⟩)):=m.blk.cell 0;have f3:=m.blk.frozen 3;have M:=ah m;clear m;by_cases he:s.e=0
 ·rw[he]at d3
  by_cases hp:s.p+n<=8 * bs.length
  ·have hnf:aA bs n s=(aS bs s.p n,{ s with p:=s.p+n}):=by unfold aA;rw[if_neg (by simp[he]),if_pos hp]
   have Qv:=ah hnf;have He:=ah he;clear hnf he;go_enter Tryz.func153,Tryz.ntmps153;go_wp2_with fail;with_reducible refine (ny g h bs s.p n _ M.out.fH (by omega) hp).mono ?_
   rintro e w1 ⟨rfl,r1,c1⟩;have m1:=M.out.bits r1 c1;have c31:=m1.c3;have f31:=m1.blk.frozen 3;have M1:=ah m1;have hbv:=AU bs s.p n
   have hb2:aS bs s.p n<4294967296:=by
    have:(2:Nat) ^ n<=2 ^ 16:=Nat.pow_le_pow_right (by omega) hn;omega
   clear m1 hbv;generalize aS bs s.p n=v at *;go_wp2_with fail;go_ret;have h2:=M1.out.Po 0;rw[Qv.out];have e0:({ s with p:=s.p+n}:Inf)={ ({ s with p:=s.p+n}:Inf) with e:=0}:=(by simp[He.out]);refine ⟨rfl,⟨vo,by rw[e0];exact h2.1⟩,(M.out.kW c1 fun k h=>.inr (.inl h)).trans (M1.out.kW h2.2 fun k h=>.inl h) fun _ _ h=>h⟩
  ·have hnf:aA bs n s=(0,{ s with e:=3}):=by unfold aA;rw[if_neg (by simp[he]),if_neg hp]
   have Qv:=ah hnf;clear hnf he;go_enter Tryz.func153,Tryz.ntmps153;go_wp2_with fail;with_reducible refine (z29 g h bs s.p (n:Int) _ M.out.fH (by omega) (by omega) (by omega)).mono ?_
   rintro e w1 ⟨rfl,nd,rfl⟩;have m1:=M.out.nx ((Ch.refl _ w).drewN nd);have c31:=m1.c3;have f31:=m1.blk.frozen 3;have M1:=ah m1;clear m1;go_wp2_with fail;go_ret;have h2:=M1.out.Po 3;rw[Qv.out];exact ⟨rfl,⟨vo,h2.1⟩,(M.out.kW ((Ch.refl (fun k=>k=r) w).drewN nd) fun k h=>.inl h).trans (M1.out.kW h2.2 fun k h=>.inl h) fun _ _ h=>h⟩
 ·have hnf:aA bs n s=(0,s):=by unfold aA;rw[if_pos he]
  have he2:(s.e !=0)=true:=by rw[bne_iff_ne];exact he
  have Qv:=ah hnf;clear hnf he;go_enter Tryz.func153,Tryz.ntmps153;go_wp2_with fail;go_ret;rw[Qv.out];exact ⟨rfl,⟨vo,M.out⟩,Ch.refl _ _⟩
theorem JG (m:Nat) (hm:m<65536):bits .xor .i64 (m:Int) 65535=((65535-m:Nat):Int):=by
 have h1:(BitVec.ofInt 64 (m:Int)).toNat=m:=by rw[BitVec.ofInt_natCast,BitVec.toNat_ofNat];exact Nat.mod_eq_of_lt (by omega)
 have h2:(BitVec.ofInt 64 (65535:Int)).toNat=65535:=rfl
 have hx:m ^^^ 65535=65535-m:=by
  have h:=congrArg BitVec.toNat (BitVec.xor_allOnes (x:=BitVec.ofNat 16 m));rw[BitVec.toNat_xor,BitVec.toNat_allOnes,BitVec.toNat_not,BitVec.toNat_ofNat,Nat.mod_eq_of_lt (by omega)]at h;simpa using h
 show IntKind.i64.wrap ((BitVec.ofInt 64 (m:Int) ^^^ BitVec.ofInt 64 (65535:Int)).toNat:Int)=_
 rw[BitVec.toNat_xor,h1,h2,hx,IntKind.wrap_i64];omega
theorem nP (m:bJ K w r g h bs most s) (n:Int) (hn0: -1000000<=n) (hn:n<=1000000) (hm0:0<=most) (hm:most<=65536) (hol:s.out.length<=1000000):
 Calls Tryz.prog 171 #[.pointer (some ⟨r,0,none⟩),.int .i64 n] w fun en w'=>en=.returned (.bool (decide ((aQ most n s).e=0)))/\gG K w r g h bs most (aQ most n s) w':=by
 obtain ⟨vo,m⟩:=m;obtain ⟨A,c,rfl,hn1,hc1⟩:=z05 m.own;have d1:w.cell? ⟨r,1,none⟩=some (.slice A s.out.length c):=m.blk.cell 1;have d2:w.cell? ⟨r,2,none⟩=some (.int .i64 most):=m.blk.cell 2;have d3:=m.c3;have M:=ah m;clear m;by_cases hlt:most-(s.out.length:Int)<n
 ·have hrf:aQ most n s=aN 5 s:=by unfold aQ;rw[if_pos hlt]
  rw[hrf];clear hrf;go_enter Tryz.func171,Tryz.ntmps171;go_wp2_with fail;go_quiet (fail)
  go_wp2_with fail;refine (Jz ⟨_,M.out.nx ((Ch.refl _ _).drewN _)⟩ 5).mono ?_;rintro e w1 ⟨rfl,⟨vo1,m1⟩,c1⟩;have d31:=m1.c3;have M1:=ah m1;have hb:((aN 5 s).e==0)=decide ((aN 5 s).e=0):=by rw[Bool.eq_iff_iff];simp
  have Hb:=ah hb;clear m1 hb;go_wp2_with fail;go_ret;refine ⟨by simp[Hb.out],⟨vo1,M1.out⟩,?_⟩;exact ((Ch.refl (fun k=>¬K k) w).drewN _).trans c1 fun _ _ h=>h
 ·have hrf:aQ most n s=s:=by unfold aQ;rw[if_neg hlt]
  have hb:(s.e==0)=decide (s.e=0):=by rw[Bool.eq_iff_iff];simp
  have Hb:=ah hb;rw[hrf];clear hrf hb;go_enter Tryz.func171,Tryz.ntmps171;go_wp2_with fail;go_quiet (fail)
  go_wp2_with fail;go_ret;exact ⟨by simp[Hb.out],⟨_,M.out.nx ((Ch.refl _ _).drewN _)⟩,(Ch.refl _ _).drewN _⟩
end
section
variable {K : Nat → Prop} {w w' : World} {r g h : Nat} {bs : List Nat} {most : Int} {s : Inf} {vo : Value}
theorem eP.push {w3:World} {v':Value} {x:Nat} (X:Obj) (hx:x<256) (m:eP K w r g h bs most s vo) (hown3:w3.ownsRow 0 5 1 v' (s.out.length+1) (bl s.out++[.int .u8 (x:Int)])) (hg3:(w.alloc X).grownBy w3 vo.ownBlock) (S_:v'.ownBlock=vo.ownBlock∨v'.ownBlock=some (w.alloc X).heap.size):
 ∃A3 c3,v'=.slice A3 (s.out.length+1) c3/\w3.cell? ⟨r,1,none⟩=some vo/\w3.frozen? ⟨r,1,none⟩=false/\gG K w r g h bs most { s with out:=s.out++[x]} (w3.setCell ⟨r,1,none⟩ v'):=by
 obtain ⟨A3,c3,hv,hc1,hc2⟩:=z05 hown3;have c1:Ch (fun k=>vo.ownBlock=some k) w w3:=((Ch.refl _ w).alloc X).grown hg3 fun k hk _=>hk;have b3:=m.blk.ch c1 (fun e=>m.VA e);have hv'r:v'.ownBlock≠some r:=EI hown3 b3 (by decide);have c2:Ch (fun k=>k=r) w3 (w3.setCell ⟨r,1,none⟩ v'):=Ch.setCell (S:=fun k=>k=r) (Ch.refl _ w3) (p:=⟨r,1,none⟩) (fun _=>rfl) _;have hs1:=c1.size;have hs2:=c2.size;have hh:=m.far h m.kh;refine ⟨A3,c3,hv,b3.cell 1,b3.frozen 1,⟨v',?_,?_,?_,?_,m.kh,fun k hk=>?_⟩,(m.kW c1 fun k h=>.inr (.inr h)).trans c2 fun k hk e hK=>(m.far k hK).2.1 e⟩
 ·have:=b3.dZ 1 v'
  simpa using this
 ·exact (m.fH.ch c1 (fun e=>m.Lm e) (fun e=>hh.2.2.2 e)).ch c2 (fun e=>m.rg e.symm) hh.2.1
 ·have:=z06 hown3 c2 (fun k hk e=>hv'r (by rw[hk,e]))
  have e:bl (s.out++[x])=bl s.out++[.int .u8 (x:Int)]:=by simp[bl]
  rw[e,List.length_append];exact this
 ·intro y hy
  rw[List.mem_append]at hy;rcases hy with hy|hy
  ·exact m.okb y hy
  ·simp at hy;omega
 ·have h1:=m.far k hk
  refine ⟨by omega,h1.2.1,h1.2.2.1,?_⟩;rcases S_ with e|e
  ·rw[e];exact h1.2.2.2
  ·rw[e];simp;omega
theorem vP (m:bJ K w r g h bs most s) (D:Nat->Prop) (t:Nat) (zs:List Int) (hT:iH w D t zs) (hD:∀k,D k->K k):
 Calls Tryz.prog 172 #[.pointer (some ⟨r,0,none⟩),.pointer (some ⟨t,0,none⟩)] w fun en w'=>en=.returned (.int .i64 (cO bs zs s).1)/\gG K w r g h bs most (cO bs zs s).2 w':=by
 obtain ⟨vo,m⟩:=m;have d3:=m.c3;have d0:w.cell? ⟨r,0,none⟩=some (.pointer (some ⟨g,0,none⟩)):=m.blk.cell 0;have f3:=m.blk.frozen 3;have hgD:¬D g:=fun hd=>(m.far g (hD g hd)).2.2.1 rfl;have M:=ah m;clear m;by_cases he:s.e=0
 ·rw[he]at d3
  have hnf:cO bs zs s=((bg zs bs s.p 15 0).1,{ s with p:=(bg zs bs s.p 15 0).2.2,e:=(bg zs bs s.p 15 0).2.1}):=by unfold cO;rw[if_neg (by simp[he])]
  have Qv:=ah hnf;clear hnf he;go_enter Tryz.func172,Tryz.ntmps172;go_wp2_with fail;with_reducible refine (next_any D t zs g h bs s.p _ hT M.out.fH hgD).mono ?_
  rintro e w1 ⟨rfl,r1,c1⟩;have m1:=M.out.bits r1 c1;have c31:=m1.c3;have f31:=m1.blk.frozen 3;have M1:=ah m1;clear m1 r1;generalize bg zs bs s.p 15 0=q at *;go_wp2_with fail;go_ret;have h2:=M1.out.Po q.2.1;rw[Qv.out];exact ⟨rfl,⟨vo,h2.1⟩,(M.out.kW c1 fun k h=>.inr (.inl h)).trans (M1.out.kW h2.2 fun k h=>.inl h) fun _ _ h=>h⟩
 ·have hnf:cO bs zs s=(0,s):=by unfold cO;rw[if_pos he]
  have he2:(s.e !=0)=true:=by rw[bne_iff_ne];exact he
  have Qv:=ah hnf;clear hnf he;go_enter Tryz.func172,Tryz.ntmps172;go_wp2_with fail;go_ret;rw[Qv.out];exact ⟨rfl,⟨vo,M.out⟩,Ch.refl _ _⟩
theorem z17 (bs:List Nat) (n:Nat) (s:Inf):(aA bs n s).1<2 ^ n:=by
 unfold aA;split
 ·exact Nat.two_pow_pos n
 ·split
  ·exact AU _ _ _
  ·exact Nat.two_pow_pos n
theorem A_ (bs:List Nat) (n:Nat) (s:Inf):(aA bs n s).2.out=s.out:=by
 unfold aA;split
 ·rfl
 ·split<;>rfl
def StoL (K:Nat->Prop) (w:World) (r g h:Nat) (bs:List Nat) (most:Int) (n:Nat) (s3:Inf) (i:Value) (wr:World):Prop:=
 ∃(k:Nat) (sk:Inf),k<=n/\i=.int .i64 k/\bJ K wr r g h bs most sk/\Ch (fun k=>¬K k) w wr/\Hid (kH bs n s3=kH bs (n-k) sk)/\Hid (sk.e=0)/\sk.out.length=s3.out.length+k
set_option maxRecDepth 100000 in
theorem Dv (m:bJ K w r g h bs most s) (hm0:0<=most) (hm:most<=65536) (hol:(s.out.length:Int)<=most):
 Calls Tryz.prog 154 #[.pointer (some ⟨r,0,none⟩)] w fun en w'=>en=.returned (.tuple #[])/\gG K w r g h bs most (dV bs most s) w':=by
 obtain ⟨i0,hi0,hz0,hz1,hz2⟩:=info_parts Tryz.info5;obtain ⟨vo,m⟩:=m;have d0:w.cell? ⟨r,0,none⟩=some (.pointer (some ⟨g,0,none⟩)):=m.blk.cell 0;have M:=ah m;clear m;have ho2:(aA bs 16 (aA bs 16 { s with p:=(s.p+7) / 8 * 8}).2).2.out=s.out:=by rw[A_,A_]
 have Ho2:=ah ho2;clear ho2;go_enter Tryz.func154,Tryz.ntmps154;go_wp2_with fail;with_reducible refine (rX g h bs s.p _ M.out.fH).mono ?_
 rintro e w1 ⟨rfl,r1,c1⟩;have m1:=M.out.bits r1 c1;have k1:=M.out.kW c1 fun k h=>.inr (.inl h);go_wp2_with fail;refine (EH ⟨vo,m1⟩ 16 (by omega)).mono ?_;rintro e w2 ⟨rfl,m2,k2⟩;go_wp2_with fail;refine (EH m2 16 (by omega)).mono ?_;rintro e w3 ⟨rfl,m3,k3⟩;have kk:=(k1.trans k2 fun _ _ h=>h).trans k3 fun _ _ h=>h;clear k1 k2 k3 m1 m2 r1 c1;have hb2:=z17 bs 16 { s with p:=(s.p+7) / 8 * 8};have hb3:=z17 bs 16 (aA bs 16 { s with p:=(s.p+7) / 8 * 8}).2;have hF:dV bs most s=rD bs most (aA bs 16 { s with p:=(s.p+7) / 8 * 8}).1 (aA bs 16 (aA bs 16 { s with p:=(s.p+7) / 8 * 8}).2).1 (aA bs 16 (aA bs 16 { s with p:=(s.p+7) / 8 * 8}).2).2:=rfl;have HF:=ah hF;clear hF;generalize aA bs 16 { s with p:=(s.p+7) / 8 * 8}=q2 at *;generalize aA bs 16 q2.2=q3 at *;obtain ⟨n,s2⟩:=q2;obtain ⟨mm,s3⟩:=q3;simp only at hb2 hb3 m3 Ho2 HF ⊢;have hn16:n<65536:=by omega
 have hm16:mm<65536:=by omega
 clear hb2 hb3;have ho3:(s3.out.length:Int)<=most:=by rw[Ho2.out];exact hol
 have hx:=JG mm hm16;obtain ⟨vo3,m3⟩:=m3;have d3:=m3.c3;have M3:=ah m3;clear m3 d0;by_cases he:s3.e=0
 ·rw[he]at d3
  by_cases hnm:n=65535-mm
  ·have hne:((n:Int) !=((65535-mm:Nat):Int))=false:=by simp[hnm]
   have hse:rD bs most n mm s3=if (aQ most n s3).e≠0 then aQ most n s3 else kH bs n (aQ most n s3):=by
    unfold rD;simp only[if_neg (show ¬(s3.e=0/\n≠65535-mm) from fun h=>h.2 hnm)];rw[if_neg (by simp[he])]
   have hro:(aQ most n s3).e=0->aQ most n s3=s3/\(s3.out.length:Int)+n<=most:=by
    unfold aQ;split
    ·intro h
     have:(aN 5 s3).e=5:=by unfold aN;rw[if_pos he]
     rw[this]at h;simp at h
    ·intro _;exact ⟨rfl,by omega⟩
   have Rf:=ah hse;have OB:=ah hro;clear hse he hnm hro;go_wp2_with fail;refine (nP ⟨vo3,M3.out⟩ (n:Int) (by omega) (by omega) hm0 hm (by omega)).mono ?_;rintro e w4 ⟨rfl,m4,k4⟩;have kk4:=kk.trans k4 fun _ _ h=>h;by_cases hr:(aQ most n s3).e=0
   ·rw[show decide ((aQ most n s3).e=0)=true by simp[hr]]
    obtain ⟨hr1,hr2⟩:=OB.out hr;have Hl:Hid (rD bs most n mm s3=kH bs n s3):=ah (by rw[Rf.out,if_neg (by simp[hr]),hr1]);rw[hr1]at m4;have hr0:s3.e=0:=by rw[←hr1];exact hr
    have Hr0:=ah hr0;clear hr hr1 Rf OB hr0 d3 k4 kk;go_wp2_with fail;go_loopw [39] (StoL K w r g h bs most n s3) (fun i _=>n-(intOf i).toNat)
    case atStart=>exact ⟨0,s3,by omega,rfl,m4,kk4,ah rfl,Hr0,rfl⟩
    case round=>
     clear m4 kk4;obtain ⟨w5,rfl⟩:∃w5:World,w5=wr:=⟨_,rfl⟩;obtain ⟨k,sk,hk,rfl,mk,kk,UL,Hek,hlk⟩:=hrel;have Hlk:=ah hlk;clear hlk;by_cases hlt:k<n
     ·obtain ⟨j,rfl⟩:∃j,n=k+(j+1):=⟨n-k-1,by omega⟩
      have hst:kH bs (k+(j+1)) s3=if (aA bs 8 sk).2.e≠0 then (aA bs 8 sk).2 else kH bs j { (aA bs 8 sk).2 with out:=(aA bs 8 sk).2.out++[(aA bs 8 sk).1]}:=by
       rw[UL.out,show k+(j+1)-k=j+1 by omega,kH]
      have hbq:=z17 bs 8 sk;have hoq:=A_ bs 8 sk;have iw:=ah hst;have Hoq:=ah hoq;clear hst hoq;go_wp2_with fail;refine (EH mk 8 (by omega)).mono ?_;rintro e w6 ⟨rfl,⟨vo6,m6⟩,k6⟩;generalize aA bs 8 sk=q at *;obtain ⟨x,s6⟩:=q;have hx8:x<256:=hbq;have d36:=m6.c3;have VQ:s6.out.length=sk.out.length:=by have:=Hoq.out;simp only at this;rw[this]
      have hsl:s6.out.length<=140000:=by have:=Hlk.out;omega
      have Hol6:=ah VQ;clear VQ hbq;obtain ⟨A6,c6,rfl,hA1,hA2⟩:=z05 m6.own;have d16:w6.cell? ⟨r,1,none⟩=some (.slice A6 s6.out.length c6):=m6.blk.cell 1;have M6:=ah m6;clear m6;simp only at d36 d16 ⊢;by_cases he6:s6.e=0
      ·rw[he6]at d36
       have Hs6:Hid (kH bs (k+(j+1)) s3=kH bs j { s6 with out:=s6.out++[x]}):=ah (by rw[iw.out,if_neg (by simp[he6])]);have He6:=ah he6;clear he6 iw;have hrd:Rd (w6.alloc (.cells #[.int .u8 (x:Int)] 5)) (fun i=>i=w6.heap.size) 1 (some ⟨w6.heap.size,0,none⟩) 1 [.int .u8 (x:Int)]:=⟨rfl,fun _=>⟨_,rfl,rfl,cell_one_new _ _ _⟩⟩;go_wp2_with (at_builtin;refine z00 _ rfl (.tmp 52) (.tmp 55) _ rfl 0 5 i0 _ 1 1 Tryz.underlying27 hi0 hz0 hz1 hz2 rfl (by omega) (.slice A6 s6.out.length c6) s6.out.length (bl s6.out) rfl (M6.out.own.alloc _) (fun i=>i=w6.heap.size) (some ⟨w6.heap.size,0,none⟩) 1 1 [.int .u8 (x:Int)] rfl hrd (by intro u hu;simp at hu;subst hu;rfl) (by simp only[maxLen];omega) (by omega) (by omega) ?_;intro v' w7 j_ hg7 zB;obtain ⟨A7,c7,hv7,f1,f2,m8⟩:=M6.out.push (.cells #[.int .u8 (x:Int)] 5) hx8 j_ hg7 zB;subst hv7;clear j_ hg7 zB)
       have M8:=ah m8;clear m8;go_roundw
       case rel=>
        refine ⟨k+1,{ s6 with out:=s6.out++[x]},by omega,by go_num,M8.out.1,(kk.trans k6 fun _ _ h=>h).trans M8.out.2 fun _ _ h=>h,ah ?_,He6,?_⟩
        ·rw[Hs6.out,show k+(j+1)-(k+1)=j by omega]
        ·simp only[List.length_append,List.length_singleton];rw[Hol6.out,Hlk.out];omega
       case measure=>simp[intOf];omega
      ·have he7:(s6.e !=0)=true:=by rw[bne_iff_ne];exact he6
       have Hs6:Hid (kH bs (k+(j+1)) s3=s6):=ah (by rw[iw.out,if_pos he6]);clear he6 iw;go_wp2_with fail;refine bodyPost_ret (results_none rfl _ _ _) rfl ?_;rw[HF.out,Hl.out,Hs6.out];exact ⟨rfl,⟨_,M6.out⟩,kk.trans k6 fun _ _ h=>h⟩
     ·obtain rfl:k=n:=by omega
      have Hs6:Hid (kH bs k s3=sk):=ah (by rw[UL.out,Nat.sub_self,kH]);go_wp2_with fail;go_end0
      rw[HF.out,Hl.out,Hs6.out];exact ⟨rfl,mk,kk⟩
   ·rw[show decide ((aQ most n s3).e=0)=false by simp[hr]]
    have Hl:Hid (rD bs most n mm s3=aQ most n s3):=ah (by rw[Rf.out,if_pos hr]);clear Rf OB hr;go_wp2_with fail;refine bodyPost_ret (results_none rfl _ _ _) rfl ?_;rw[HF.out,Hl.out];exact ⟨rfl,m4,kk4⟩
  ·have hne:((n:Int) !=((65535-mm:Nat):Int))=true:=by rw[bne_iff_ne];omega
   have hse:rD bs most n mm s3=aN 4 s3:=by
    unfold rD;simp only[if_pos (show s3.e=0/\n≠65535-mm from ⟨he,hnm⟩)];have:(aN 4 s3).e=4:=by unfold aN;rw[if_pos he]
    rw[if_pos (by rw[this];decide)]
   have he4:(aN 4 s3).e=4:=by unfold aN;rw[if_pos he]
   have He4:=ah he4;have Rf:=ah hse;clear hse he hnm he4;go_wp2_with fail;refine (Jz ⟨vo3,M3.out⟩ 4).mono ?_;rintro e w4 ⟨rfl,⟨vo4,m4⟩,k4⟩;have d34:=m4.c3;rw[He4.out]at d34;have M4:=ah m4;clear m4;go_wp2_with fail;refine bodyPost_ret (results_none rfl _ _ _) rfl ?_;rw[HF.out,Rf.out];exact ⟨rfl,⟨vo4,M4.out⟩,kk.trans k4 fun _ _ h=>h⟩
 ·have he2:(s3.e !=0)=true:=by rw[bne_iff_ne];exact he
  have he3:(s3.e==0)=false:=by rw[beq_eq_false_iff_ne];exact he
  have hse:rD bs most n mm s3=s3:=by
   unfold rD;simp only[if_neg (show ¬(s3.e=0/\n≠65535-mm) from fun h=>he h.1)];rw[if_pos he]
  have Rf:=ah hse;clear hse he;go_wp2_with fail;refine bodyPost_ret (results_none rfl _ _ _) rfl ?_;rw[HF.out,Rf.out];exact ⟨rfl,⟨vo3,M3.out⟩,kk⟩
end
section
variable {K : Nat → Prop} {w w' : World} {r g h : Nat} {bs : List Nat} {most : Int} {s : Inf} {vo : Value}
theorem bJ.drew (m:bJ K w r g h bs most s):bJ K w.drew r g h bs most s:=m.nx ((Ch.refl _ w).drew)
theorem gG.lq (m:gG K w.drew r g h bs most s w'):gG K w r g h bs most s w':=⟨m.1,((Ch.refl _ w).drew).trans m.2 fun _ _ h=>h⟩
theorem Dw (m:bJ K w r g h bs most s) (k:Nat) (hk:k<29):
 Calls Tryz.prog 174 #[.pointer (some ⟨r,0,none⟩),.int .i64 (k:Int)] w fun en w'=>en=.returned (.int .i64 ((bI bs k s).1:Int))/\gG K w r g h bs most (bI bs k s).2 w':=by
 by_cases h8:k<8
 ·have hf:bI bs k s=(k+3,s):=by unfold bI;rw[if_pos h8]
  have Hf:=ah hf;clear hf;go_enter Tryz.func174,Tryz.ntmps174;go_wp2_with fail;go_ret;rw[Hf.out];exact ⟨by simp,m,Ch.refl _ _⟩
 ·by_cases h28:k=28
  ·subst h28
   go_enter Tryz.func174,Tryz.ntmps174;go_wp2_with fail;go_ret;exact ⟨rfl,m,Ch.refl _ _⟩
  ·have hf:bI bs k s=(3+(4+k % 4) * 2 ^ (k / 4-1)+(aA bs (k / 4-1) s).1,(aA bs (k / 4-1) s).2):=by unfold bI;rw[if_neg h8,if_neg h28]
   obtain ⟨y,hy⟩:∃y,k / 4-1=y:=⟨_,rfl⟩;obtain ⟨z,hz⟩:∃z,k % 4=z:=⟨_,rfl⟩;rw[hy,hz]at hf;have hy2:(k:Int) / 4-1=(y:Int):=(by omega);have hz2:(k:Int) % 4=(z:Int):=(by omega);have hy5:y<=5:=(by omega);have hz3:z<4:=(by omega);have h28':((k:Int)==28)=false:=by rw[beq_eq_false_iff_ne];omega
   have hk0:(0:Int)<=(k:Int):=(by omega);have hp:(2:Nat) ^ y<=2 ^ 5:=Nat.pow_le_pow_right (by omega) hy5;have hp1:(0:Int)<=(4+(z:Int)) * 2 ^ y:=Int.mul_nonneg (by omega) (Int.pow_nonneg (by omega))
   have hp2:(4+(z:Int)) * 2 ^ y<=256:=by
    have:(4+z) * 2 ^ y<=7 * 2 ^ 5:=Nat.mul_le_mul (by omega) hp;have h3:(((4+z) * 2 ^ y:Nat):Int)<=((7 * 2 ^ 5:Nat):Int):=(by omega);simp at h3 ⊢;omega
   have hbq:=z17 bs y s;have WB:(aA bs y s).1<32:=(by omega);have Hf:=ah hf;have hv0:(0:Int)<=((aA bs y s).1:Int):=(by omega);have hv1:((aA bs y s).1:Int)<32:=(by omega);have ht:(k:Int).tmod 4=(z:Int):=(by rw[Int.tmod_eq_emod_of_nonneg hk0,hz2]);have w1:IntKind.i64.wrap (4+(z:Int))=4+(z:Int):=IntWalk.i64_in _ (by omega);have w2:IntKind.i64.wrap ((4+(z:Int)) * 2 ^ y)=(4+(z:Int)) * 2 ^ y:=IntWalk.i64_in _ (by omega);have w3:IntKind.i64.wrap (3+(4+(z:Int)) * 2 ^ y)=3+(4+(z:Int)) * 2 ^ y:=IntWalk.i64_in _ (by omega);have w4:IntKind.i64.wrap (3+(4+(z:Int)) * 2 ^ y+((aA bs y s).1:Int))=3+(4+(z:Int)) * 2 ^ y+((aA bs y s).1:Int):=IntWalk.i64_in _ (by omega);clear hf hy hz h28 hbq hp hz2;go_enter Tryz.func174,Tryz.ntmps174;go_wp2_with fail;go_region_with (go_at_call 153;refine (EH m.drew y (by omega)).mono ?_;rintro e w1 ⟨rfl,m1⟩)
   all_goals go_wp2_with fail
   all_goals go_ret
   all_goals rw[Hf.out]
   all_goals exact ⟨by simp[Act.put],m1.lq⟩
set_option maxRecDepth 100000 in
theorem vS (m:bJ K w r g h bs most s) (k:Nat) (hk:k<30):
 Calls Tryz.prog 175 #[.pointer (some ⟨r,0,none⟩),.int .i64 (k:Int)] w fun en w'=>en=.returned (.int .i64 ((dH bs k s).1:Int))/\gG K w r g h bs most (dH bs k s).2 w':=by
 by_cases h8:k<2
 ·have hf:dH bs k s=(k+1,s):=by unfold dH;rw[if_pos h8]
  have Hf:=ah hf;clear hf;go_enter Tryz.func175,Tryz.ntmps175;go_wp2_with fail;go_ret;rw[Hf.out];exact ⟨by simp,m,Ch.refl _ _⟩
 ·have hf:dH bs k s=(1+(2+k % 2) * 2 ^ (k / 2-1)+(aA bs (k / 2-1) s).1,(aA bs (k / 2-1) s).2):=by unfold dH;rw[if_neg h8]
  obtain ⟨y,hy⟩:∃y,k / 2-1=y:=⟨_,rfl⟩;obtain ⟨z,hz⟩:∃z,k % 2=z:=⟨_,rfl⟩;rw[hy,hz]at hf;have hy2:(k:Int) / 2-1=(y:Int):=by omega
  have hz2:(k:Int) % 2=(z:Int):=by omega
  have hy5:y<=13:=by omega
  have hz3:z<2:=by omega
  have hk0:(0:Int)<=(k:Int):=by omega
  have hp:(2:Nat) ^ y<=2 ^ 13:=Nat.pow_le_pow_right (by omega) hy5;have hp1:(0:Int)<=(2+(z:Int)) * 2 ^ y:=Int.mul_nonneg (by omega) (Int.pow_nonneg (by omega))
  have hp2:(2+(z:Int)) * 2 ^ y<=30000:=by
   have:(2+z) * 2 ^ y<=3 * 2 ^ 13:=Nat.mul_le_mul (by omega) hp;have h3:(((2+z) * 2 ^ y:Nat):Int)<=((3 * 2 ^ 13:Nat):Int):=(by omega);simp at h3 ⊢;omega
  have hbq:=z17 bs y s;have WB:(aA bs y s).1<8192:=by omega
  have Hf:=ah hf;have hv0:(0:Int)<=((aA bs y s).1:Int):=by omega
  have hv1:((aA bs y s).1:Int)<8192:=by omega
  have ht:(k:Int).tmod 2=(z:Int):=by rw[Int.tmod_eq_emod_of_nonneg hk0,hz2]
  have w1:IntKind.i64.wrap (2+(z:Int))=2+(z:Int):=IntWalk.i64_in _ (by omega);have w2:IntKind.i64.wrap ((2+(z:Int)) * 2 ^ y)=(2+(z:Int)) * 2 ^ y:=IntWalk.i64_in _ (by omega);have w3:IntKind.i64.wrap (1+(2+(z:Int)) * 2 ^ y)=1+(2+(z:Int)) * 2 ^ y:=IntWalk.i64_in _ (by omega);have w4:IntKind.i64.wrap (1+(2+(z:Int)) * 2 ^ y+((aA bs y s).1:Int))=1+(2+(z:Int)) * 2 ^ y+((aA bs y s).1:Int):=IntWalk.i64_in _ (by omega);clear hf hy hz hbq hp hz2 WB;go_enter Tryz.func175,Tryz.ntmps175;go_wp2_with fail;go_region_with (go_at_call 153;refine (EH m.drew y (by omega)).mono ?_;rintro e w1 ⟨rfl,m1⟩)
  all_goals go_wp2_with fail
  all_goals go_ret
  all_goals rw[Hf.out]
  all_goals exact ⟨by simp[Act.put],m1.lq⟩
theorem z1n (m:bJ K w r g h bs most s) (D:Nat->Prop) (A:Option Addr) (n c:Nat) (zs:List Int) (hr:Rd w D 1 A n (il zs)) (hl:zs.length=n) (he:bH zs=0):
 Calls Tryz.prog 158 #[.pointer (some ⟨r,0,none⟩),.slice A n c] w fun en w'=>∃t,en=.returned (.pointer (some ⟨t,0,none⟩))/\gG K w r g h bs most s w'/\iH w' (fun k=>w.heap.size<=k/\k<w'.heap.size) t zs/\Nx w w':=by
 have hn:n<=320:=by have:=(JA he).1;omega
 have He:=ah he;have Hl:=ah hl;clear he hl;go_enter Tryz.func158,Tryz.ntmps158;go_wp2_with fail;with_reducible refine (PI D A n c zs _ hr Hl.out hn He.out).mono ?_
 rintro e w1 ⟨t,rfl,ht,n1⟩;go_wp2_with fail;go_ret;exact ⟨t,rfl,⟨m.nx n1,n1.mono fun _ _ hf=>hf.elim⟩,ht,n1⟩
theorem ZF (m:bJ K w r g h bs most s) (D:Nat->Prop) (A:Option Addr) (n c:Nat) (zs:List Int) (hr:Rd w D 1 A n (il zs)) (hl:zs.length=n) (hn:n<=320) (he:bH zs≠0):
 Calls Tryz.prog 158 #[.pointer (some ⟨r,0,none⟩),.slice A n c] w fun en w'=>en=.returned (.pointer none)/\gG K w r g h bs most (aN 4 s) w':=by
 have he2:(bH zs !=0)=true:=by rw[bne_iff_ne];exact he
 have He:=ah he;have Hl:=ah hl;clear he hl;go_enter Tryz.func158,Tryz.ntmps158;go_wp2_with fail;with_reducible refine (Ls D A n c zs _ hr Hl.out hn He.out).mono ?_
 rintro e w1 ⟨rfl,n1⟩;go_wp2_with fail;refine (Jz (m.nx n1) 4).mono ?_;rintro e w2 ⟨rfl,m2,c2⟩;go_wp2_with fail;go_ret;exact ⟨rfl,m2,((n1.mono fun _ _ hf=>hf.elim:Ch (fun k=>¬K k) w w1)).trans c2 fun _ _ h=>h⟩
end
end Go.Proofs.YtfljcllpmbnjaaaGreat
