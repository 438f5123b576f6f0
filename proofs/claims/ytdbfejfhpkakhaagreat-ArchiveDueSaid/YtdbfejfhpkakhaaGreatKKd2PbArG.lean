/- Contracts and plain laws that the last text rests on. Conditions: each theorem states its own. -/
import Derived.Test.YtdbfejfhpkakhaaGreatKKd2Q8
import Derived.Test.YtdbfejfhpkakhaaGreatKKd2Q11
set_option maxRecDepth 100000
set_option maxHeartbeats 16000000
set_option linter.unusedVariables false
set_option linter.unusedSimpArgs false
namespace Go.Proofs.YtdbfejfhpkakhaaGreat
open Go.RowKit
def zn (ag life:Int) (C:aV) (A:Option Addr) (k bb:Nat) (wt wv:Value) (since:Int) (fl:Bool) (pc:Value) (bl:Int):Array Value:=
 #[.int .i64 ag,.int .i64 life,.int .i64 C.window,.slice A C.aH.length k,.int .i64 C.group,.int .i64 C.buffer,.int .i64 C.flush,.int .i64 C.age,.int .i64 C.piece,.int .i64 C.tries,.int .i64 C.wait,.int .i64 C.small,.int .i64 C.most,.int .i64 C.gG,
  .pointer (some ⟨bb,0,none⟩),wt,wv,.int .i64 since,.bool fl,pc,.pointer none,.int .i64 bl,.int .i64 0,.int .i64 0,.int .i64 0,.int .i64 0,.slice none 0 0,.slice none 0 0,.slice none 0 0,.slice none 0 0]
structure ou (ξ:Nat) (w:World) (a:Nat) (ag life:Int) (C:aV) (A:Option Addr) (k bb m n:Nat) (ch:ByteArray->Option Nat) (R:ByteArray->List RV) (wt wv:Value) (since:Int) (fl:Bool) (pc:Value) (bl:Int):Prop where
 blk:aG w a 83 (zn ag life C A k bb wt wv since fl pc bl)
 aH:Rd w (· <a) 1 A C.aH.length (dK C.aH)
 CB:bC ξ w bb C.buffer.toNat m n ch R
 lt:bb<a
 fits:jv C=true
section
variable {w w' : World} {a : Nat} {ag life : Int} {C : aV} {A : Option Addr} {k bb m n : Nat} {ch : ByteArray → Option Nat} {R : ByteArray → List RV} {wt wv : Value} {since : Int} {fl : Bool} {pc : Value} {bl : Int}
theorem ou.Ib {ξ:Nat} {S:Nat->Prop} (h:ou ξ w a ag life C A k bb m n ch R wt wv since fl pc bl) (c:Ch S w w') (hS:∀i,i<w.heap.size->S i->VD w i/\a<i):ou ξ w' a ag life C A k bb m n ch R wt wv since fl pc bl where
 blk:=h.blk.ch c fun hs=>by have:=(hS a h.blk.lt hs).2;omega
 aH:=h.aH.ch (by decide) c fun i hi hd hs=>by have:=(hS i hi hs).2;have hd:i<a:=hd;omega
 CB:=h.CB.Ib c (fun hs=>by have:=(hS bb (by have:=h.lt;have:=h.blk.lt;omega) hs).2;have:=h.lt;omega) fun i hi hs=>(hS i hi hs).1
 lt:=h.lt
 fits:=h.fits
theorem ou.nx {ξ:Nat} (h:ou ξ w a ag life C A k bb m n ch R wt wv since fl pc bl) (c:Nx w w'):ou ξ w' a ag life C A k bb m n ch R wt wv since fl pc bl:=h.Ib c fun _ _ hf=>hf.elim
theorem ou.nc {ξ:Nat} {m' n':Nat} {ch':ByteArray->Option Nat} {R':ByteArray->List RV} (h:ou ξ w a ag life C A k bb m n ch R wt wv since fl pc bl) (c:Ch (NC ξ w) w w') (hb:bC ξ w' bb C.buffer.toNat m' n' ch' R'):ou ξ w' a ag life C A k bb m' n' ch' R' wt wv since fl pc bl where
 blk:=h.blk.ch c h.blk.nc
 aH:=h.aH.nc (by decide) c
 CB:=hb
 lt:=h.lt
 fits:=h.fits
theorem ou.aS {ξ:Nat} {wt' wv':Value} {since':Int} {PZ:Bool} {pc':Value} {NH:Int} (h:ou ξ w a ag life C A k bb m n ch R wt wv since fl pc bl) (c:Ch (· =a) w w') (hb:aG w' a 83 (zn ag life C A k bb wt' wv' since' PZ pc' NH)):
 ou ξ w' a ag life C A k bb m n ch R wt' wv' since' PZ pc' NH where
 blk:=hb
 aH:=h.aH.ch (by decide) c fun i hi hd hs=>by have hs:i=a:=hs;have hd:i<a:=hd;omega
 CB:=h.CB.Ib c (fun hs=>by have hs:bb=a:=hs;have:=h.lt;omega) fun i hi hs=>by have hs:i=a:=hs;subst hs;exact h.blk.Qg
 lt:=h.lt
 fits:=h.fits
end
theorem ou.base {ξ ζ:Nat} {w:World} {a:Nat} {ag life:Int} {C:aV} {A:Option Addr} {k bb m n:Nat} {ch:ByteArray->Option Nat} {R:ByteArray->List RV} {wt wv:Value} {since:Int} {fl:Bool} {pc:Value} {bl:Int} (h:ou ξ w a ag life C A k bb m n ch R wt wv since fl pc bl) (hz:ζ<=ξ):ou ζ w a ag life C A k bb m n ch R wt wv since fl pc bl:=⟨h.blk,h.aH,h.CB.base hz,h.lt,h.fits⟩
theorem N_ {C:aV} (h:jv C=true):(1<=C.window/\C.window<=1099511627775)/\C.aH.length<=4/\(1<=C.group/\C.group<=256)/\(1<=C.buffer/\C.buffer<=256)/\(1<=C.flush/\C.flush<=256)/\(1<=C.piece/\C.piece<=262144)/\(1<=C.tries/\C.tries<=8)/\(0<=C.age/\C.age<=1048576)/\(0<=C.wait/\C.wait<=1048576):=by
 unfold jv ji at h;simp only[Bool.and_eq_true,decide_eq_true_eq]at h;omega
theorem LU {w:World} {D:Nat->Prop} {A:Option Addr} {q:Nat} (l:List ByteArray) (h:Rd w D 1 A l.length (dK l)) (hl:l.length<=1000000):
 Calls Tryz.prog 22 #[.slice A l.length q] w fun e w'=>∃A' c',e=.returned (.slice A' l.length c')/\Rd w' (fun i=>w.heap.size<=i/\i<w'.heap.size) 1 A' l.length (dK l)/\Nx w w':=by
 rcases A with _|ad
 ·have h0:l=[]:=List.eq_nil_of_length_eq_zero (by
   rcases Nat.eq_zero_or_pos l.length with h0|h0
   ·exact h0
   ·obtain ⟨_,h,_⟩:=h.2 h0;cases h)
  subst h0;refine (Tryz.slices_Clone_string_nil _ q w).mono ?_;rintro e w' ⟨rfl,rfl⟩;exact ⟨none,0,rfl,Rd.none_ _ _ _ _,Ch.refl _ _⟩
 ·rcases Nat.eq_zero_or_pos l.length with h0|h0
  ·have h1:l=[]:=List.eq_nil_of_length_eq_zero h0
   subst h1;refine (Tryz.slices_Clone_string_zero ad q w).mono ?_;rintro e w' ⟨v,rfl,ho, -,hb⟩;obtain ⟨A',c',rfl, -, -⟩:=h_ ho;exact ⟨A',c',rfl,(Rd.bW ho).more fun i hi=>hi.2,(Ch.of_below hb).nx fun i hi hs=>by omega⟩
  ·obtain ⟨ad',e, -,hc⟩:=h.2 h0
   injection e with e;subst e;obtain ⟨b,o,s⟩:=ad;have h1:=hc 0 _ (Jp h0)
   have hs:s=none:=by
    cases s with
    |none=>rfl
    |some s=>
     exfalso
     have e:(⟨b,o,some s⟩:Addr).add 0=⟨b,o,some s⟩:=rfl;rw[e]at h1;unfold World.cell? at h1;split at h1
     ·simp at h1
     ·cases h1
   subst hs;refine (Tryz.slices_Clone_string b o l.length q l w (Nat.le_refl _) (by omega) (fun j hj=>?_)).mono ?_
   ·have h2:=hc j _ (Jp hj)
    have e:(⟨b,o,none⟩:Addr).add j=⟨b,o+j,none⟩:=by unfold Addr.add;split<;>simp_all
    rw[e]at h2;exact h2
   ·rintro e w' ⟨v,rfl,ho, -,hb⟩
    obtain ⟨A',c',rfl, -, -⟩:=h_ ho;rw[List.take_length]at ho;exact ⟨A',c',rfl,(Rd.bW ho).more fun i hi=>hi.2,(Ch.of_below hb).nx fun i hi hs=>by omega⟩
def okA (ag life:Int) (C:aV):Bool:=ji ag 1 8&&ji life 1 1099511627775&&jv C
def Tc (w:World) (ag life:Int) (C:aV) (e:Ending) (w':World):Prop:=
 Nx w w'/\(okA ag life C=false->e=.returned (.pointer none))/\
  (okA ag life C=true->∃a A k bb m,e=.returned (.pointer (some ⟨a,0,none⟩))/\w.heap.size<=a/\ou w.heap.size w' a ag life C A k bb m 0 (fun _=>none) (fun _=>[]) (.slice none 0 0) (.slice none 0 0) 0 false (.slice none 0 0) 0)
theorem Tc.bad {w w':World} {ag life:Int} {C:aV} (h:okA ag life C=false) (n:Nx w w'):Tc w ag life C (.returned (.pointer none)) w':=⟨n,fun _=>rfl,fun h'=>by rw[h]at h';cases h'⟩
theorem Cm (w:World) (r:Nat):bC w.heap.size (yK w r) (w.heap.size+3) r (w.heap.size+2) 0 (fun _=>none) (fun _=>[])/\Nx w (yK w r)/\(yK w r).heap.size=w.heap.size+4:=by
 have hs:=rO w r;have hN:Nx w (jJ w r):=(nP w r).1;unfold yK;generalize jJ w r=B at *;refine ⟨⟨?_,?_,?_,fun _ _=>rfl,?_,fun _=>Nat.zero_le _,Nat.le_add_right _ _,fun _ _ h=>by cases h⟩,(hN.alloc _).alloc _,by simp[hs]⟩
 ·have:=aG.new (B.alloc (.map #[] 0)) 104 #[.int .i64 (r:Int),.map (some B.heap.size)]
  simpa [hs]using this
 ·have:=(dY.made B).nx (((Ch.refl (fun _=>False) (B.alloc (.map #[] 0))).alloc (.cells #[.int .i64 (r:Int),.map (some B.heap.size)] 104)))
  rw[hs]at this ⊢;exact this
 ·intro s c h;cases h
 ·intro s t c h;cases h
theorem new_any (ag life:Int) (C:aV) (A:Option Addr) (q:Nat) (w:World) {D:Nat->Prop} (hr:Rd w D 1 A C.aH.length (dK C.aH)) (hn:C.aH.length<=9223372036854775807) (hs:∀s∈C.aH,s.size<=9223372036854775807):
 Calls Tryz.prog 10 #[.int .i64 ag,.int .i64 life,iY C A q] w (Tc w ag life C):=by
 have HF:=ah (fun w' (n:Nx w w')=>fits_any C A q w' (hr.nx (by decide) n) hn hs);have ZE:=ah (fun w' (n:Nx w w') (h4:C.aH.length<=4)=>LU (q:=q) C.aH (hr.nx (by decide) n) (by omega));have Vy:=ah (fun h=>N_ (C:=C) h);have NM:Hid (okA ag life C=(ji ag 1 8&&ji life 1 1099511627775&&jv C)):=ah rfl;have W1:=ah (fun w=>ET ag 1 8 w);have W2:=ah (fun w=>ET life 1 1099511627775 w);clear hr hs;unfold iY at *;have HB:=ah (aG.new w 24 #[.int .i64 C.window,.slice A C.aH.length q,.int .i64 C.group,.int .i64 C.buffer,.int .i64 C.flush,.int .i64 C.age,.int .i64 C.piece,.int .i64 C.tries,.int .i64 C.wait,.int .i64 C.small,.int .i64 C.most,.int .i64 C.gG]);have HN:=ah ((Ch.refl (fun _=>False) w).alloc (.cells #[.int .i64 C.window,.slice A C.aH.length q,.int .i64 C.group,.int .i64 C.buffer,.int .i64 C.flush,.int .i64 C.age,.int .i64 C.piece,.int .i64 C.tries,.int .i64 C.wait,.int .i64 C.small,.int .i64 C.most,.int .i64 C.gG] 24));generalize ji ag 1 8=q1 at *;generalize ji life 1 1099511627775=q2 at *;cases q1
 ·have HX:=ah (show okA ag life C=false by rw[NM.out];rfl)
  go_enter Tryz.func10,Tryz.ntmps10;go_wp2_with fail;refine (W1.out _).mono ?_;rintro e w5 ⟨rfl,rfl⟩;go_wp2_with fail;go_ret;exact Tc.bad HX.out HN.out
 ·cases q2
  ·have HX:=ah (show okA ag life C=false by rw[NM.out];rfl)
   go_enter Tryz.func10,Tryz.ntmps10;go_wp2_with fail;refine (W1.out _).mono ?_;rintro e w5 ⟨rfl,rfl⟩;go_wp2_with fail;refine (W2.out _).mono ?_;rintro e w5 ⟨rfl,rfl⟩;go_wp2_with fail;go_ret;exact Tc.bad HX.out HN.out
  ·cases hfit:jv C
   ·rw[hfit]at HF
    have HX:=ah (show okA ag life C=false by rw[NM.out,hfit];rfl);clear hfit;go_enter Tryz.func10,Tryz.ntmps10;go_wp2_with fail;refine (W1.out _).mono ?_;rintro e w5 ⟨rfl,rfl⟩;go_wp2_with fail;refine (W2.out _).mono ?_;rintro e w5 ⟨rfl,rfl⟩;go_wp2_with fail;refine (HF.out _ HN.out).mono ?_;rintro e w5 ⟨rfl,n5⟩;have N5:=ah (HN.out.tr n5);clear n5;go_wp2_with fail;go_ret;exact Tc.bad HX.out N5.out
   ·rw[hfit]at HF
    have HX:=ah (show okA ag life C=true by rw[NM.out,hfit];rfl);have HFT:=ah hfit;obtain ⟨-,h4, -,⟨hb1,hb2⟩, -⟩:=Vy.out hfit;clear hfit;go_enter Tryz.func10,Tryz.ntmps10;go_wp2_with fail;refine (W1.out _).mono ?_;rintro e w5 ⟨rfl,rfl⟩;go_wp2_with fail;refine (W2.out _).mono ?_;rintro e w5 ⟨rfl,rfl⟩;go_wp2_with fail;refine (HF.out _ HN.out).mono ?_;rintro e w5 ⟨rfl,n5⟩;have N5:=ah (HN.out.tr n5);have B5:=ah (HB.out.nx n5);have d1:w5.cell? ⟨w.heap.size,1,none⟩=some (.slice A C.aH.length q):=B5.out.cell 1;clear n5;go_wp2_with fail;refine (ZE.out _ N5.out h4).mono ?_;rintro e w6 ⟨A6,c6,rfl,uD,n6⟩;have HRD6:=ah uD;have N6:=ah (N5.out.tr n6);have b6:=B5.out.nx n6;have pf:=b6.frozen;have pc:=b6.cell;have hlt6:=b6.lt;have B6:=ah b6;clear n6 uD d1 b6;go_wp2_with fail;have B7:=ah (B6.out.aS 1 (.slice A6 C.aH.length c6));have C7:=ah ((Ch.refl (· =w.heap.size) w6).setCell (p:=⟨w.heap.size,1,none⟩) (fun _=>rfl) (.slice A6 C.aH.length c6));obtain ⟨w7,hW⟩:∃w7,w6.setCell ⟨w.heap.size,1,none⟩ (.slice A6 C.aH.length c6)=w7:=⟨_,rfl⟩;rw[hW]at B7 C7;simp only[hW];have hs5:w.heap.size<w5.heap.size:=B5.out.lt;have N7:=ah (N6.out.trans C7.out fun i hi e=>by have e2:i=w.heap.size:=e;omega);have HRD7:=ah (HRD6.out.ch (by decide) C7.out fun i _ hd e=>by have e2:i=w.heap.size:=e;have:=hd.1;omega)
    have gK:=ah (fun w' (c':Nx w7 w')=>(⟨(B7.out.nx c').cell 0,(B7.out.nx c').cell 1,(B7.out.nx c').cell 2,(B7.out.nx c').cell 3,(B7.out.nx c').cell 4,(B7.out.nx c').cell 5,(B7.out.nx c').cell 6,(B7.out.nx c').cell 7,(B7.out.nx c').cell 8,(B7.out.nx c').cell 9,(B7.out.nx c').cell 10,(B7.out.nx c').cell 11⟩:
     w'.cell? ⟨w.heap.size,0,none⟩=some (.int .i64 C.window)/\w'.cell? ⟨w.heap.size,1,none⟩=some (.slice A6 C.aH.length c6)/\w'.cell? ⟨w.heap.size,2,none⟩=some (.int .i64 C.group)/\w'.cell? ⟨w.heap.size,3,none⟩=some (.int .i64 C.buffer)/\w'.cell? ⟨w.heap.size,4,none⟩=some (.int .i64 C.flush)/\w'.cell? ⟨w.heap.size,5,none⟩=some (.int .i64 C.age)/\
     w'.cell? ⟨w.heap.size,6,none⟩=some (.int .i64 C.piece)/\w'.cell? ⟨w.heap.size,7,none⟩=some (.int .i64 C.tries)/\w'.cell? ⟨w.heap.size,8,none⟩=some (.int .i64 C.wait)/\w'.cell? ⟨w.heap.size,9,none⟩=some (.int .i64 C.small)/\w'.cell? ⟨w.heap.size,10,none⟩=some (.int .i64 C.most)/\w'.cell? ⟨w.heap.size,11,none⟩=some (.int .i64 C.gG)))
    have HNB:Hid (Calls Tryz.prog 23 #[.int .i64 C.buffer] w7.drew fun e w'=>e=.returned (.pointer (some ⟨w7.heap.size+3,0,none⟩))/\yK w7.drew C.buffer.toNat=w'):=ah (by
     have:=QE C.buffer.toNat (by omega) (by omega) w7.drew;rw[show ((C.buffer.toNat:Nat):Int)=C.buffer by omega]at this;exact this)
    obtain ⟨hy1,hy2,hy3⟩:=Cm w7.drew C.buffer.toNat;have HY1:=ah hy1;have HY2:=ah hy2;have HY3:=ah hy3;obtain ⟨q0,q1,q2,q3,q4,q5,q6,q7,q8,q9,q10,q11⟩:=gK.out w7.drew (Ch.refl _ w7).drew;clear hW hy1 hy2 hy3 pf pc HF ZE W1 W2 Vy HB;generalize yK w7.drew C.buffer.toNat=w8 at *;have hs8:w8.heap.size=w7.heap.size+4:=HY3.out;have HS8:=ah hs8
    have Nh:Hid (Tc w ag life C (.returned (.pointer (some ⟨w8.heap.size,0,none⟩))) (w8.alloc (.cells (zn ag life C A6 c6 (w7.heap.size+3) (.slice none 0 0) (.slice none 0 0) 0 false (.slice none 0 0) 0) 83))):=ah (by
     have N78:Nx w7 w8:=(Ch.refl _ w7).drew.tr HY2.out;have N89:=(Ch.refl (fun _=>False) w8).alloc (.cells (zn ag life C A6 c6 (w7.heap.size+3) (.slice none 0 0) (.slice none 0 0) 0 false (.slice none 0 0) 0) 83);refine ⟨(N7.out.tr N78).tr N89,(fun h=>by rw[HX.out]at h;cases h),fun _=>⟨w8.heap.size,A6,c6,w7.heap.size+3,w7.heap.size+2,rfl,by have:=N7.out.size;omega,?_,?_,(HY1.out.nx N89).base N7.out.size,by omega,HFT.out⟩⟩
     ·exact aG.new w8 _ _
     ·refine ((HRD7.out.nx (by decide) N78).nx (by decide) N89).more fun i hi=>?_
      have:=hi.2;have:=C7.out.size;show i<w8.heap.size
      omega)
    unfold zn at Nh;clear hs8;go_region_held3 (fun w'=>w'.cell? ⟨w.heap.size,0,none⟩=some (.int .i64 C.window)/\w'.cell? ⟨w.heap.size,1,none⟩=some (.slice A6 C.aH.length c6)/\w'.cell? ⟨w.heap.size,2,none⟩=some (.int .i64 C.group)/\w'.cell? ⟨w.heap.size,3,none⟩=some (.int .i64 C.buffer)/\w'.cell? ⟨w.heap.size,4,none⟩=some (.int .i64 C.flush)/\w'.cell? ⟨w.heap.size,5,none⟩=some (.int .i64 C.age)/\w'.cell? ⟨w.heap.size,6,none⟩=some (.int .i64 C.piece)/\w'.cell? ⟨w.heap.size,7,none⟩=some (.int .i64 C.tries)/\w'.cell? ⟨w.heap.size,8,none⟩=some (.int .i64 C.wait)/\w'.cell? ⟨w.heap.size,9,none⟩=some (.int .i64 C.small)/\w'.cell? ⟨w.heap.size,10,none⟩=some (.int .i64 C.most)/\w'.cell? ⟨w.heap.size,11,none⟩=some (.int .i64 C.gG)) (first|(with_reducible exact ⟨q0,q1,q2,q3,q4,q5,q6,q7,q8,q9,q10,q11⟩)|(refine gK.out _ ?_;repeat (first|exact Ch.refl _ _|exact (Ch.refl _ w7).drew.tr HY2.out|refine Ch.drew ?_|refine Ch.alloc ?_ _))) (first|(go_at_call 23;refine HNB.out.mono ?_;rintro e w9 ⟨rfl,rfl⟩;obtain ⟨q0,q1,q2,q3,q4,q5,q6,q7,q8,q9,q10,q11⟩:=gK.out w8 ((Ch.refl _ w7).drew.tr HY2.out)))
    all_goals
     go_wp2_with fail;go_ret;exact Nh.out
end Go.Proofs.YtdbfejfhpkakhaaGreat
