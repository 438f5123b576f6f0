/- Contracts and plain laws that the last text rests on. Conditions: each theorem states its own. -/
import Derived.Test.YtfljcllpmbnjaaaGreatKdQ13
import Derived.Test.YtfljcllpmbnjaaaGreatKdPdOrd
import Derived.IntWalk
set_option maxRecDepth 100000
set_option maxHeartbeats 8000000
set_option linter.unusedVariables false
namespace Go.Proofs.YtfljcllpmbnjaaaGreat
open Go.RowKit
theorem PG {zs:List Int} {bs:List Nat} {p:Nat}:∀k n,(bg zs bs p k n).2.1=0->p+n+1<=(bg zs bs p k n).2.2:=by
 intro k;induction k with
 |zero=>intro n h;simp[bg]at h
 |succ k ih=>
  intro n h;unfold bg at h ⊢;by_cases h1:bZ zs 15<=bZ zs n
  ·rw[if_pos h1]at h;simp at h
  ·rw[if_neg h1]at h ⊢
   by_cases h2:8 * bs.length<=p+n
   ·rw[if_pos h2]at h;simp at h
   ·rw[if_neg h2]at h ⊢
    by_cases h3:msb (jU bs p) (n+1)<2 * bQ zs n+cnt zs (n+1)
    ·rw[if_pos h3];exact Nat.le_refl _
    ·rw[if_neg h3]at h ⊢
     have:=ih (n+1) h;omega
theorem B_ {zs:List Int}:∀j (x:Int),x∈gQ zs j->0<=x/\x<(zs.length:Int):=by
 intro j;induction j with
 |zero=>intro x h;simp[gQ]at h
 |succ j ih=>
  intro x h;unfold gQ at h;rw[List.mem_append]at h;rcases h with h|h
  ·exact ih x h
  ·unfold xA at h
   simp only[List.mem_map,List.mem_filter,List.mem_range]at h;obtain ⟨s,⟨hs,_⟩,rfl⟩:=h;omega
theorem yt {zs:List Int} (j i:Nat):0<=(gQ zs j).getD i 0/\((gQ zs j).getD i 0<(zs.length:Int)∨(gQ zs j).getD i 0=0):=by
 by_cases h:i<(gQ zs j).length
 ·have e:(gQ zs j).getD i 0=(gQ zs j)[i]:=by simp[List.getD,h]
  rw[e];have:=B_ j _ (List.getElem_mem h);exact ⟨this.1,.inl this.2⟩
 ·have e:(gQ zs j).getD i 0=0:=by simp[List.getD,h]
  rw[e];exact ⟨by omega,.inr rfl⟩
theorem yU {zs:List Int} {bs:List Nat} {p:Nat} (hl:zs.length<=320):∀k n,0<=(bg zs bs p k n).1/\(bg zs bs p k n).1<320:=by
 intro k;induction k with
 |zero=>intro n;simp[bg]
 |succ k ih=>
  intro n;unfold bg;split
  ·simp
  ·split
   ·simp
   ·split
    ·have h:=yt (zs:=zs) 15 (bZ zs n+(msb (jU bs p) (n+1)-2 * bQ zs n))
     generalize (gQ zs 15).getD (bZ zs n+(msb (jU bs p) (n+1)-2 * bQ zs n)) 0=v at *;have h2:v<320:=by rcases h.2 with h|h<;>omega
     exact ⟨h.1,h2⟩
    ·exact ih (n+1)
theorem Vh {zs:List Int} {bs:List Nat} {s:Inf} (hl:zs.length<=320):0<=(cO bs zs s).1/\(cO bs zs s).1<320:=by
 have h:=yU (bs:=bs) (p:=s.p) hl 15 0;generalize hq:bg zs bs s.p 15 0=q at *;unfold cO;by_cases he:s.e≠0
 ·rw[if_pos he];simp
 ·rw[if_neg he,hq];exact h
theorem RX {zs:List Int} {bs:List Nat} {s:Inf} (he:s.e=0) (h:(cO bs zs s).2.e=0):s.p+1<=(cO bs zs s).2.p:=by
 unfold cO at h ⊢;rw[if_neg (by simp[he])]at h ⊢;have h2:=PG (zs:=zs) (bs:=bs) (p:=s.p) 15 0;generalize bg zs bs s.p 15 0=q at *;exact h2 h
theorem Lj {zs:List Int} {bs:List Nat} {p:Nat}:∀k n,p+n<=(bg zs bs p k n).2.2:=by
 intro k;induction k with
 |zero=>intro n;exact Nat.le_refl _
 |succ k ih=>
  intro n;unfold bg;by_cases h1:bZ zs 15<=bZ zs n
  ·rw[if_pos h1];exact Nat.le_refl _
  ·rw[if_neg h1]
   by_cases h2:8 * bs.length<=p+n
   ·rw[if_pos h2];exact Nat.le_refl _
   ·rw[if_neg h2]
    by_cases h3:msb (jU bs p) (n+1)<2 * bQ zs n+cnt zs (n+1)
    ·rw[if_pos h3];exact Nat.le_succ _
    ·rw[if_neg h3]
     have:=ih (n+1);omega
theorem kX {zs:List Int} {bs:List Nat} {s:Inf}:s.p<=(cO bs zs s).2.p:=by
 have h2:=Lj (zs:=zs) (bs:=bs) (p:=s.p) 15 0;generalize hq:bg zs bs s.p 15 0=q at *;unfold cO;by_cases he:s.e≠0
 ·rw[if_pos he];exact Nat.le_refl _
 ·rw[if_neg he,hq];exact h2
theorem MR {bs:List Nat} {k:Nat} {s:Inf} (hk:k<30):(dH bs k s).1<=40000:=by
 unfold dH;split
 ·simp only;omega
 ·have h1:=z17 bs (k / 2-1) s
  have h2:(2:Nat) ^ (k / 2-1)<=2 ^ 13:=Nat.pow_le_pow_right (by omega) (by omega);have h3:(2+k % 2) * 2 ^ (k / 2-1)<=3 * 2 ^ 13:=Nat.mul_le_mul (by omega) h2;simp only;omega
theorem Vd {zs:List Int} {bs:List Nat} {s:Inf}:(cO bs zs s).2.out=s.out:=by
 unfold cO;split<;>rfl
theorem lS {e:Int} {s:Inf}:(aN e s).out=s.out/\(aN e s).p=s.p:=by
 unfold aN;split<;>exact ⟨rfl,rfl⟩
theorem Ug {most n:Int} {s:Inf}:(aQ most n s).out=s.out/\(aQ most n s).p=s.p:=by
 unfold aQ;split
 ·exact lS
 ·exact ⟨rfl,rfl⟩
theorem z32 {most n:Int} {s:Inf} (he:s.e=0):(aQ most n s).e=0->aQ most n s=s/\(s.out.length:Int)+n<=most:=by
 unfold aQ;split
 ·intro h
  have:(aN 5 s).e=5:=by unfold aN;rw[if_pos he]
  rw[this]at h;simp at h
 ·intro _;exact ⟨rfl,by omega⟩
theorem QD {bs:List Nat} {n:Nat} {s:Inf}:s.p<=(aA bs n s).2.p:=by
 unfold aA;split
 ·exact Nat.le_refl _
 ·split
  ·simp
  ·exact Nat.le_refl _
theorem z57 {bs:List Nat} {k:Nat} {s:Inf}:(bI bs k s).2.out=s.out/\s.p<=(bI bs k s).2.p:=by
 unfold bI;split
 ·exact ⟨rfl,Nat.le_refl _⟩
 ·split
  ·exact ⟨rfl,Nat.le_refl _⟩
  ·exact ⟨A_ _ _ _,QD⟩
theorem sU {bs:List Nat} {k:Nat} {s:Inf}:(dH bs k s).2.out=s.out/\s.p<=(dH bs k s).2.p:=by
 unfold dH;split
 ·exact ⟨rfl,Nat.le_refl _⟩
 ·exact ⟨A_ _ _ _,QD⟩
theorem Dq {bs:List Nat} {k:Nat} {s:Inf} (hk:k<29):(bI bs k s).1<=300:=by
 unfold bI;split
 ·simp only;omega
 ·split
  ·simp
  ·have h1:=z17 bs (k / 4-1) s
   have h2:(2:Nat) ^ (k / 4-1)<=2 ^ 5:=Nat.pow_le_pow_right (by omega) (by omega);have h3:(4+k % 4) * 2 ^ (k / 4-1)<=7 * 2 ^ 5:=Nat.mul_le_mul (by omega) h2;simp only;omega
theorem MS {bs:List Nat} {k:Nat} {s:Inf}:1<=(dH bs k s).1:=by
 unfold dH;split
 ·simp only;omega
 ·simp only;omega
theorem FC {bs:List Nat} {most:Int} {zd:List Int} {x:Int} {s1:Inf} (h:s1.e≠0∨x=256):xE bs most zd x s1=(false,s1):=by
 unfold xE;rw[if_pos h]
theorem Qe {bs:List Nat} {most:Int} {zd:List Int} {x:Nat} {s1:Inf} (he:s1.e=0) (h:x<256):
 xE bs most zd (x:Int) s1=(true,if (aQ most 1 s1).e=0 then { aQ most 1 s1 with out:=(aQ most 1 s1).out++[x]} else aQ most 1 s1):=by
 unfold xE;rw[if_neg (fun hn=>by rcases hn with hn|hn;exact hn he;omega),if_pos (by omega),Int.toNat_natCast]
theorem Ti {bs:List Nat} {most:Int} {zd:List Int} {x:Nat} {s1:Inf} (he:s1.e=0) (h:285<x):xE bs most zd (x:Int) s1=(false,aN 4 s1):=by
 unfold xE;rw[if_neg (fun hn=>by rcases hn with hn|hn;exact hn he;omega),if_neg (by omega),if_pos (by omega)]
theorem Tf {bs:List Nat} {most:Int} {zd:List Int} {x:Nat} {s1:Inf} (he:s1.e=0) (h6:x≠256) (h:¬x<256) (h2:¬285<x):xE bs most zd (x:Int) s1=Az bs most (bI bs (x-257) s1).1 (cO bs zd (bI bs (x-257) s1).2).1 (cO bs zd (bI bs (x-257) s1).2).2:=by
 unfold xE;rw[if_neg (fun hn=>by rcases hn with hn|hn;exact hn he;omega),if_neg (by omega),if_neg (by omega),show ((x:Int)-257).toNat=x-257 by omega]
theorem Kq {bs:List Nat} {most:Int} {n:Nat} {d:Int} {s3:Inf} (he:s3.e≠0):Az bs most n d s3=(false,s3):=by
 unfold Az;simp only[if_neg (show ¬(s3.e=0/\29<d) from fun h=>he h.1),if_neg he,if_neg (show ¬(s3.e=0/\s3.out.length<0) from fun h=>he h.1)];rw[if_pos he]
theorem z49 {e:Int} {s:Inf} (he:s.e=0):(aN e s).e=e:=by unfold aN;rw[if_pos he]
theorem Ko {bs:List Nat} {most:Int} {n:Nat} {d:Int} {s3:Inf} (he:s3.e=0) (hd:29<d):Az bs most n d s3=(false,aN 4 s3):=by
 have h4:¬(aN 4 s3).e=0:=by rw[z49 he];decide
 unfold Az;simp only[if_pos (show s3.e=0/\29<d from ⟨he,hd⟩),if_neg h4,if_neg (show ¬((aN 4 s3).e=0/\(aN 4 s3).out.length<0) from fun h=>h4 h.1)];rw[if_pos h4]
def JC (most:Int) (n dd:Nat) (s5:Inf):Bool×Inf:=
 let s6:=if s5.e=0/\s5.out.length<dd then aN 4 s5 else s5
 if s6.e≠0 then (false,s6) else
 if (aQ most n s6).e≠0 then (false,aQ most n s6) else (true,{ aQ most n s6 with out:=dQ n dd (aQ most n s6).out})
theorem uM {bs:List Nat} {most:Int} {n d:Nat} {s3:Inf} (he:s3.e=0) (hd:d<=29):Az bs most n (d:Int) s3=JC most n (dH bs d s3).1 (dH bs d s3).2:=by
 unfold Az JC;simp only[if_neg (show ¬(s3.e=0/\29<(d:Int)) from fun h=>by omega),if_pos he,Int.toNat_natCast]
theorem Kw {most:Int} {n dd:Nat} {s5:Inf} (he:s5.e≠0):JC most n dd s5=(false,s5):=by
 unfold JC;simp only[if_neg (show ¬(s5.e=0/\s5.out.length<dd) from fun h=>he h.1)];rw[if_pos he]
theorem Kv {most:Int} {n dd:Nat} {s5:Inf} (he:s5.e=0) (hd:s5.out.length<dd):JC most n dd s5=(false,aN 4 s5):=by
 unfold JC;simp only[if_pos (show s5.e=0/\s5.out.length<dd from ⟨he,hd⟩)];rw[if_pos (by rw[z49 he];decide)]
theorem uO {most:Int} {n dd:Nat} {s5:Inf} (he:s5.e=0) (hd:¬s5.out.length<dd):JC most n dd s5=if (aQ most n s5).e≠0 then (false,aQ most n s5) else (true,{ aQ most n s5 with out:=dQ n dd (aQ most n s5).out}):=by
 unfold JC;simp only[if_neg (show ¬(s5.e=0/\s5.out.length<dd) from fun h=>hd h.2)];rw[if_neg (by simp[he])]
theorem Ku {most:Int} {n dd:Nat} {s5:Inf} (he:s5.e=0) (hd:¬s5.out.length<dd) (hr:(aQ most n s5).e=0):JC most n dd s5=(true,{ s5 with out:=dQ n dd s5.out}):=by
 rw[uO he hd,if_neg (fun h=>h hr),(z32 he hr).1]
theorem ET {most:Int} {n dd:Nat} {s5:Inf} (he:s5.e=0) (hd:¬s5.out.length<dd) (hr:(aQ most n s5).e≠0):JC most n dd s5=(false,aQ most n s5):=by
 rw[uO he hd,if_pos hr]
def XA (K:Nat->Prop) (w:World) (r g h:Nat) (bs:List Nat) (most:Int) (zl zd:List Int) (s:Inf) (wr:World):Prop:=
 ∃(sk:Inf) (f:Nat),bJ K wr r g h bs most sk/\Ch (fun k=>¬K k) w wr/\8 * bs.length+1<=f+sk.p/\Hid (aP bs most zl zd (8 * bs.length+1) s=aP bs most zl zd f sk)/\(sk.out.length:Int)<=most
def CopL (K:Nat->Prop) (w:World) (r g h:Nat) (bs:List Nat) (most:Int) (n d:Nat) (s7:Inf) (i:Value) (wr:World):Prop:=
 ∃(k:Nat) (l:List Nat),k<=n/\i=.int .i64 k/\bJ K wr r g h bs most { s7 with out:=l}/\Ch (fun k=>¬K k) w wr/\Hid (dQ n d s7.out=dQ (n-k) d l)/\l.length=s7.out.length+k
section
variable {K : Nat → Prop} {w w' : World} {r g h : Nat} {bs : List Nat} {most : Int} {s : Inf} {vo : Value}
theorem eP.nI (m:eP K w r g h bs most s vo):s.p<=8 * bs.length/\bs.length<=140737488355328:=m.fH.le
theorem eP.c1 (m:eP K w r g h bs most s vo):Jv w g 1=(s.p:Int):=by
 obtain ⟨A,c,b,_⟩:=m.fH;exact oN b rfl
theorem bJ.dB (m:bJ K w r g h bs most s):w.cell? ⟨r,3,none⟩=some (.int .i64 s.e):=by
 obtain ⟨vo,m⟩:=m;exact m.c3
theorem bJ.nI (m:bJ K w r g h bs most s):s.p<=8 * bs.length/\bs.length<=140737488355328:=by
 obtain ⟨vo,m⟩:=m;exact m.nI
theorem bJ.Qp (m:bJ K w r g h bs most s):Jv w g 1=(s.p:Int):=by
 obtain ⟨vo,m⟩:=m;exact m.c1
theorem qG (m:bJ K w r g h bs most s) (he:s.e≠0) (pl pd:Option Addr):
 Calls Tryz.prog 159 #[.pointer (some ⟨r,0,none⟩),.pointer pl,.pointer pd] w fun en w'=>en=.returned (.tuple #[])/\w=w':=by
 have d3:=m.dB;have he2:(s.e==0)=false:=by rw[beq_eq_false_iff_ne];exact he
 clear he m;go_enter Tryz.func159,Tryz.ntmps159;go_wp2_with fail;refine wp_loop_rounds 1 ?_;rw[rounds_succ];go_wp2_with fail;go_end0
 exact ⟨rfl,rfl⟩
set_option maxRecDepth 100000 in
theorem sN (m:bJ K w r g h bs most s) (tl td:Nat) (zl zd:List Int) (Dl Dd:Nat->Prop) (hl:iH w Dl tl zl) (hd:iH w Dd td zd) (hDl:∀k,Dl k->K k) (YF:∀k,Dd k->K k) (hm0:0<=most) (hm:most<=65536) (hol:(s.out.length:Int)<=most):
 Calls Tryz.prog 159 #[.pointer (some ⟨r,0,none⟩),.pointer (some ⟨tl,0,none⟩),.pointer (some ⟨td,0,none⟩)] w fun en w'=>en=.returned (.tuple #[])/\gG K w r g h bs most (aP bs most zl zd (8 * bs.length+1) s) w':=by
 obtain ⟨i0,hi0,hz0,hz1,hz2⟩:=info_parts Tryz.info5;have hzl:=(JA hl.err).1;have hzd:=(JA hd.err).1;have hbl:=m.nI.2;have H0:XA K w r g h bs most zl zd s w:=⟨s,8 * bs.length+1,m,Ch.refl _ _,by omega,ah rfl,hol⟩;clear m hol;go_enter Tryz.func159,Tryz.ntmps159;go_wp2_with fail;go_loopw [6] (fun _ wr=>XA K w r g h bs most zl zd s wr) (fun _ wr=>(8 * (bs.length:Int)+1-Jv wr g 1).toNat)
 case atStart=>exact H0
 case round=>
  clear H0;obtain ⟨w1,rfl⟩:∃w1:World,w1=wr:=⟨_,rfl⟩;obtain ⟨sk,f,mk,kk,hf,AP,hol⟩:=hrel;have d3:=mk.dB;have hp:=mk.nI.1;have Qy:=ah mk.Qp;have hlk:=hl.ch kk (fun k hk h=>h (hDl k hk));have hdk:=hd.ch kk (fun k hk h=>h (YF k hk));obtain ⟨f,rfl⟩:∃f',f=f'+1:=⟨f-1,by omega⟩;by_cases he:sk.e=0
  ·rw[he]at d3
   have hst:aP bs most zl zd (8 * bs.length+1) s=if (xG bs most zl zd sk).1 then aP bs most zl zd f (xG bs most zl zd sk).2 else (xG bs most zl zd sk).2:=by
    rw[AP.out,aP,if_neg (by simp[he])]
   have hrg:=Vh (bs:=bs) (s:=sk) hzl;have hpp:=RX (zs:=zl) (bs:=bs) he;have VP:=Vd (zs:=zl) (bs:=bs) (s:=sk);have hcs:xG bs most zl zd sk=xG bs most zl zd sk:=rfl;have iw:=ah hst;have YJ:=ah VP;have UM:=ah hpp;clear hst he AP VP hpp hcs;go_wp2_with fail;refine (vP mk Dl tl zl hlk hDl).mono ?_;rintro e w2 ⟨rfl,m2,k2⟩;have kk2:=kk.trans k2 fun _ _ h=>h;have hd2:=hdk.ch k2 (fun k hk h=>h (YF k hk));have Wv:xG bs most zl zd sk=xE bs most zd (cO bs zl sk).1 (cO bs zl sk).2:=rfl;have kR:=ah Wv;clear Wv kk k2 mk hlk hdk;generalize cO bs zl sk=q at *;obtain ⟨x,s1⟩:=q;simp only at hrg m2 YJ UM kR ⊢;have d31:=m2.dB;have VR:(s1.out.length:Int)<=most:=by rw[YJ.out];exact hol
   obtain ⟨hx0,hx1⟩:=hrg;obtain ⟨x,rfl⟩:=Int.eq_ofNat_of_zero_le hx0;by_cases he1:s1.e=0
   ·have hp1:=UM.out he1
    rw[he1]at d31;by_cases h256:x=256
    ·have h256':((x:Int)==256)=true:=by rw[beq_iff_eq];omega
     have hfin:aP bs most zl zd (8 * bs.length+1) s=s1:=by rw[iw.out,kR.out,FC (.inr (by omega))];simp
     have fF:=ah hfin;clear hfin he1 h256;go_wp2_with fail;refine bodyPost_ret (results_none rfl _ _ _) rfl ?_;rw[fF.out];exact ⟨rfl,m2,kk2⟩
    ·have h256':((x:Int)==256)=false:=by rw[beq_eq_false_iff_ne];omega
     by_cases hlt:x<256
     ·have hfin:aP bs most zl zd (8 * bs.length+1) s=aP bs most zl zd f (if (aQ most 1 s1).e=0 then { aQ most 1 s1 with out:=(aQ most 1 s1).out++[x]} else aQ most 1 s1):=by
       rw[iw.out,kR.out,Qe he1 hlt];simp
      have hro:=z32 (most:=most) (n:=1) he1;have hrp:=(Ug (most:=most) (n:=1) (s:=s1)).2;have VJ:=(Ug (most:=most) (n:=1) (s:=s1)).1;have fF:=ah hfin;have OB:=ah hro;have Hrp:=ah hrp;have Xm:=ah VJ;clear hfin hro hrp he1 h256 VJ;go_wp2_with fail;refine (nP m2 1 (by omega) (by omega) hm0 hm (by omega)).mono ?_;rintro e w3 ⟨rfl,m3,k3⟩;have kk3:=kk2.trans k3 fun _ _ h=>h;by_cases hr:(aQ most 1 s1).e=0
      ·obtain ⟨hr1,hr2⟩:=OB.out hr
       rw[show decide ((aQ most 1 s1).e=0)=true by simp[hr]];have NV:Hid (aP bs most zl zd (8 * bs.length+1) s=aP bs most zl zd f { s1 with out:=s1.out++[x]}):=ah (by rw[fF.out,if_pos hr,hr1]);rw[hr1]at m3;obtain ⟨vo3,m3⟩:=m3;obtain ⟨A3,c3,rfl,hA1,hA2⟩:=z05 m3.own;have d13:w3.cell? ⟨r,1,none⟩=some (.slice A3 s1.out.length c3):=m3.blk.cell 1;have M3:=ah m3;have hx8:x<256:=hlt;have hrd:Rd (w3.alloc (.cells #[.int .u8 (x:Int)] 5)) (fun i=>i=w3.heap.size) 1 (some ⟨w3.heap.size,0,none⟩) 1 [.int .u8 (x:Int)]:=⟨rfl,fun _=>⟨_,rfl,rfl,cell_one_new _ _ _⟩⟩;clear m3 hr hr1 fF OB Hrp Xm m2 k3;go_wp2_with (at_builtin;refine z00 _ rfl (.tmp 36) (.tmp 39) _ rfl 0 5 i0 _ 1 1 Tryz.underlying27 hi0 hz0 hz1 hz2 rfl (by omega) (.slice A3 s1.out.length c3) s1.out.length (bl s1.out) rfl (M3.out.own.alloc _) (fun i=>i=w3.heap.size) (some ⟨w3.heap.size,0,none⟩) 1 1 [.int .u8 (x:Int)] rfl hrd (by intro u hu;simp at hu;subst hu;rfl) (by simp only[maxLen];omega) (by omega) (by omega) ?_;intro v' w4 hown4 hg4 WG;obtain ⟨A4,c4,hv4,f1,f2,m5⟩:=M3.out.push (.cells #[.int .u8 (x:Int)] 5) hx8 hown4 hg4 WG;subst hv4;have M5:=ah m5;clear hown4 hg4 WG m5)
       have WE:=M5.out.1.Qp;have TT:=ah WE;clear WE;go_roundw
       case rel=>exact ⟨{ s1 with out:=s1.out++[x]},f,M5.out.1,kk3.trans M5.out.2 fun _ _ h=>h,(by simp only;omega),NV,(by simp only[List.length_append,List.length_singleton];omega)⟩
       case measure=>rw[TT.out,Qy.out];simp only;omega
      ·rw[show decide ((aQ most 1 s1).e=0)=false by simp[hr]]
       have NV:Hid (aP bs most zl zd (8 * bs.length+1) s=aP bs most zl zd f (aQ most 1 s1)):=ah (by rw[fF.out,if_neg hr]);have TT:=ah m3.Qp;clear hr fF;go_wp2_with fail;go_roundw
       case rel=>exact ⟨aQ most 1 s1,f,m3,kk3,(by rw[Hrp.out];omega),NV,(by rw[Xm.out];exact VR)⟩
       case measure=>rw[TT.out,Qy.out,Hrp.out];omega
     ·by_cases h285:285<x
      ·have hfin:aP bs most zl zd (8 * bs.length+1) s=aN 4 s1:=by
        rw[iw.out,kR.out,Ti he1 h285];simp
       have fF:=ah hfin;clear hfin he1 h256;go_wp2_with fail;refine (Jz m2 4).mono ?_;rintro e w3 ⟨rfl,m3,k3⟩;go_wp2_with fail;refine bodyPost_ret (results_none rfl _ _ _) rfl ?_;rw[fF.out];exact ⟨rfl,m3,kk2.trans k3 fun _ _ h=>h⟩
      ·have hcf:=Tf (bs:=bs) (most:=most) (zd:=zd) he1 h256 hlt h285
       have hlo:=z57 (bs:=bs) (k:=x-257) (s:=s1);have hll:=Dq (bs:=bs) (k:=x-257) (s:=s1) (by omega);have hx257:(x:Int)-257=((x-257:Nat):Int):=(by omega);obtain ⟨y,hy⟩:∃y,x-257=y:=⟨_,rfl⟩;rw[hy]at hcf hlo hll hx257;have hy29:y<29:=(by omega);have Qx:=ah hcf;have UN:=ah hlo;clear hcf hlo he1 h256 hy;go_wp2_with fail;refine (Dw m2 y hy29).mono ?_;rintro e w3 ⟨rfl,m3,k3⟩;have kk3:=kk2.trans k3 fun _ _ h=>h;have hd3:=hd2.ch k3 (fun k hk h=>h (YF k hk));generalize bI bs y s1=ql at *;obtain ⟨n,s2⟩:=ql;simp only at hll m3 UN Qx ⊢;have hso:=Vd (zs:=zd) (bs:=bs) (s:=s2);have hsr:=Vh (bs:=bs) (s:=s2) hzd;have hsp:=kX (zs:=zd) (bs:=bs) (s:=s2);have Xl:=ah hso;have Xk:=ah hsp;clear hso hsp kk2 k3 m2 hd2;go_wp2_with fail;refine (vP m3 Dd td zd hd3 YF).mono ?_;rintro e w4 ⟨rfl,m4,k4⟩;have kk4:=kk3.trans k4 fun _ _ h=>h;generalize cO bs zd s2=qd at *;obtain ⟨d,s3⟩:=qd;simp only at hsr m4 Xl Xk Qx ⊢;obtain ⟨d,rfl⟩:=Int.eq_ofNat_of_zero_le hsr.1;have hd320:d<320:=(by omega);have Io:(s3.out.length:Int)<=most:=by rw[Xl.out,UN.out.1];exact VR
       have hp3:s1.p<=s3.p:=by have h1:=UN.out.2;have h2:=Xk.out;omega
       have d34:=m4.dB;clear hsr kk3 k4 m3 hd3;by_cases he3:s3.e=0
       ·rw[he3]at d34
        by_cases hd29:29<d
        ·have hfin:aP bs most zl zd (8 * bs.length+1) s=aN 4 s3:=by rw[iw.out,kR.out,Qx.out,Ko he3 (by omega)];simp
         have he4:=z49 (e:=4) he3;have fF:=ah hfin;have He4:=ah he4;clear hfin he4 he3;go_wp2_with fail;refine (Jz m4 4).mono ?_;rintro e w5 ⟨rfl,m5,k5⟩;have d35:=m5.dB;rw[He4.out]at d35;go_wp2_with fail;refine bodyPost_ret (results_none rfl _ _ _) rfl ?_;rw[fF.out];exact ⟨rfl,m5,kk4.trans k5 fun _ _ h=>h⟩
        ·have hsn:=uM (bs:=bs) (most:=most) (n:=n) he3 (show d<=29 by omega)
         have hdo:=sU (bs:=bs) (k:=d) (s:=s3);have hdg:=MS (bs:=bs) (k:=d) (s:=s3);have hdl:=MR (bs:=bs) (k:=d) (s:=s3) (by omega);have Oz:=ah hsn;have Hdo:=ah hdo;clear hsn hdo he3;go_wp2_with fail;refine (vS m4 d (by omega)).mono ?_;rintro e w5 ⟨rfl,m5,k5⟩;have kk5:=kk4.trans k5 fun _ _ h=>h;generalize dH bs d s3=qq at *;obtain ⟨dd,s5⟩:=qq;simp only at hdg hdl m5 Oz Hdo ⊢;have d35:=m5.dB;have hol5:(s5.out.length:Int)<=most:=by rw[Hdo.out.1];exact Io
         have hp5:s1.p<=s5.p:=by have:=Hdo.out.2;omega
         clear kk4 k5 m4;by_cases he5:s5.e=0
         ·rw[he5]at d35
          obtain ⟨vo5,m5⟩:=m5;obtain ⟨A5,c5,rfl,hA5,hA5'⟩:=z05 m5.own;have d15:w5.cell? ⟨r,1,none⟩=some (.slice A5 s5.out.length c5):=m5.blk.cell 1;have M5:=ah m5;clear m5;by_cases jQ:s5.out.length<dd
          ·have hfin:aP bs most zl zd (8 * bs.length+1) s=aN 4 s5:=by rw[iw.out,kR.out,Qx.out,Oz.out,Kv he5 jQ];simp
           have he4:=z49 (e:=4) he5;have fF:=ah hfin;have He4:=ah he4;clear hfin he4 he5;go_wp2_with fail;refine (Jz ⟨_,M5.out⟩ 4).mono ?_;rintro e w6 ⟨rfl,m6,k6⟩;have d36:=m6.dB;rw[He4.out]at d36;go_wp2_with fail;refine bodyPost_ret (results_none rfl _ _ _) rfl ?_;rw[fF.out];exact ⟨rfl,m6,kk5.trans k6 fun _ _ h=>h⟩
          ·have hsg:=uO (most:=most) (n:=n) he5 jQ
           have hro:=z32 (most:=most) (n:=(n:Int)) he5;have OB:=ah hro;have He5:=ah he5;clear hro he5;go_wp2_with fail;refine (nP ⟨_,M5.out⟩ (n:Int) (by omega) (by omega) hm0 hm (by omega)).mono ?_;rintro e w6 ⟨rfl,m6,k6⟩;have kk6:=kk5.trans k6 fun _ _ h=>h;by_cases hr:(aQ most n s5).e=0
           ·rw[show decide ((aQ most n s5).e=0)=true by simp[hr]]
            obtain ⟨hr1,hr2⟩:=OB.out hr;have fF:Hid (aP bs most zl zd (8 * bs.length+1) s=aP bs most zl zd f { s5 with out:=dQ n dd s5.out}):=ah (by rw[iw.out,kR.out,Qx.out,Oz.out,Ku He5.out jQ hr];simp);rw[hr1]at m6;clear hr hr1 OB Oz Qx kR iw d35 d34 d31 d3 d15 k6 kk5;go_wp2_with fail;go_loopw [102] (fun i wr=>CopL K w r g h bs most n dd s5 i wr) (fun i _=>n-(intOf i).toNat)
            case atStart=>exact ⟨0,s5.out,by omega,rfl,m6,kk6,ah rfl,rfl⟩
            case round=>
             clear m6 kk6;obtain ⟨w8,rfl⟩:∃w8:World,w8=wr:=⟨_,rfl⟩;obtain ⟨k,l,hk,rfl,⟨vo8,m8⟩,kk8,TQ,zx⟩:=hrel;by_cases hlt8:k<n
             ·obtain ⟨j,rfl⟩:∃j,n=k+(j+1):=⟨n-k-1,by omega⟩
              obtain ⟨A8,c8,rfl,hA8,hA8'⟩:=z05 m8.own;simp only at hA8 m8;obtain ⟨z,hz⟩:∃z,l.length-dd=z:=⟨_,rfl⟩;have hzl:z<l.length:=(by omega);have hzi:(l.length:Int)-(dd:Int)=(z:Int):=(by omega);obtain ⟨ad,u,Td,kN,hu,hcx⟩:=(Rd.bY m8.own).at_ hzl;have hx8:=uf m8.okb z;rw[tV hzl]at hu;injection hu with hu;subst hu;subst Td;have L_:dQ (k+(j+1)) dd s5.out=dQ j dd (l++[l.getD z 0]):=(by rw[TQ.out,show k+(j+1)-k=j+1 by omega,dQ,hz]);have TN:=ah L_;have Jd:=ah zx;clear L_ hz zx;simp only at hx8;generalize l.getD z 0=x at *;have d18:w8.cell? ⟨r,1,none⟩=some (.slice (some ad) l.length c8):=m8.blk.cell 1;have MG:=World.block_lt_of_cell? w8 _ hcx;rw[xC]at MG;have hrlt:=m8.blk.lt;have M8:=ah m8;have Xc:=ah (M8.out.nx ((Ch.refl _ w8).drew));have hrd:Rd (w8.drew.alloc (.cells #[.int .u8 (x:Int)] 5)) (fun i=>i=w8.heap.size) 1 (some ⟨w8.heap.size,0,none⟩) 1 [.int .u8 (x:Int)]:=⟨rfl,fun _=>⟨_,rfl,rfl,cell_one_new w8.drew _ _⟩⟩;have Ri:=ah hrd;have hll9:l.length<=70000:=by have:=Jd.out;omega
              have hzz:(0:Int)<=(z:Int):=(by omega);have ZX:(z:Int)<(l.length:Int):=(by omega);have iC:IntKind.i64.wrap (z:Int)=(z:Int):=(by exact IntWalk.i64_in _ (by omega));clear m8 hrd;go_wp2_with fail;refine z4K (fun _=>True) (fun _=>false) rfl trivial (fun hS0=>?_);refine z09 (i:=0) (oi:=_) (v:=?_) rfl (fun _ _ _ h=>h) (Or.inl ⟨by rfl,?_⟩) ?_;rotate_left
              ·(intro w hSw;(try dsimp only at hSw);go_split_ands;go_simp;try with_reducible rfl)
              try simp only[Act.put,List.setIfInBounds_toArray]
              refine ZH (fun w'=>w'.cell? ⟨r,1,none⟩=some (.slice (some ad) l.length c8)/\w'.cell? (ad.add z)=some (.int .u8 (x:Int))) (fun i=>decide (19<=i)) (fun _=>trivial) ?_;have hSS:(fun w'=>w'.cell? ⟨r,1,none⟩=some (.slice (some ad) l.length c8)/\w'.cell? (ad.add z)=some (.int .u8 (x:Int))) w8.drew:=⟨d18,hcx⟩;refine z09 (i:=1) (oi:=_) (v:=?_) rfl (fun _ _ _ h=>h) (Or.inl ⟨by rfl,?_⟩) ?_;rotate_left
              ·(intro w hSw;(try dsimp only at hSw);go_split_ands;go_simp;try with_reducible rfl)
              try simp only[Act.put]
              refine z09 (i:=2) (oi:=_) (v:=?_) rfl (fun _ _ _ h=>h) (Or.inl ⟨by rfl,?_⟩) ?_;rotate_left
              ·(intro w hSw;(try dsimp only at hSw);go_split_ands;go_simp;try with_reducible rfl)
              try simp only[Act.put]
              refine z09 (i:=3) (oi:=_) (v:=?_) rfl (fun _ _ _ h=>h) (Or.inl ⟨by rfl,?_⟩) ?_;rotate_left
              ·(intro w hSw;(try dsimp only at hSw);go_split_ands;go_simp;try with_reducible rfl)
              try simp only[Act.put]
              refine z09 (i:=4) (oi:=_) (v:=?_) rfl (fun _ _ _ h=>h) (Or.inl ⟨by rfl,?_⟩) ?_;rotate_left
              ·(intro w hSw;(try dsimp only at hSw);go_split_ands;go_simp;try with_reducible rfl)
              try simp only[Act.put]
              refine z09 (i:=5) (oi:=_) (v:=?_) rfl (fun _ _ _ h=>h) (Or.inl ⟨by rfl,?_⟩) ?_;rotate_left
              ·(intro w hSw;(try dsimp only at hSw);go_split_ands;go_simp;try with_reducible rfl)
              try simp only[Act.put]
              refine z09 (i:=6) (oi:=_) (v:=?_) rfl (fun _ _ _ h=>h) (Or.inl ⟨by rfl,?_⟩) ?_;rotate_left
              ·(intro w hSw;(try dsimp only at hSw);go_split_ands;go_simp;try with_reducible rfl)
              try simp only[Act.put]
              refine z09 (i:=7) (oi:=_) (v:=?_) rfl (fun _ _ _ h=>h) (Or.inl ⟨by rfl,?_⟩) ?_;rotate_left
              ·(intro w hSw;(try dsimp only at hSw);go_split_ands;go_simp;try with_reducible rfl)
              try simp only[Act.put]
              refine z09 (i:=8) (oi:=_) (v:=?_) rfl (fun _ _ _ h=>h) (Or.inl ⟨by rfl,?_⟩) ?_;rotate_left
              ·(intro w hSw;(try dsimp only at hSw);go_split_ands;go_simp;try with_reducible rfl)
              try simp only[Act.put]
              refine z09 (i:=9) (oi:=_) (v:=?_) rfl (fun _ _ _ h=>h) (Or.inl ⟨by rfl,?_⟩) ?_;rotate_left
              ·(intro w hSw;(try dsimp only at hSw);go_split_ands;go_simp;try with_reducible rfl)
              try simp only[Act.put]
              refine z09 (i:=10) (oi:=_) (v:=?_) rfl (fun _ _ _ h=>h) (Or.inl ⟨by rfl,?_⟩) ?_;rotate_left
              ·(intro w hSw;(try dsimp only at hSw);go_split_ands;go_simp;try with_reducible rfl)
              try simp only[Act.put]
              refine z09 (i:=11) (oi:=_) (v:=?_) rfl (fun _ _ _ h=>h) (Or.inl ⟨by rfl,?_⟩) ?_;rotate_left
              ·(intro w hSw;(try dsimp only at hSw);go_split_ands;go_simp;try with_reducible rfl)
              try simp only[Act.put]
              refine z09 (i:=12) (oi:=_) (v:=?_) rfl (fun _ _ _ h=>h) (Or.inl ⟨by rfl,?_⟩) ?_;rotate_left
              ·(intro w hSw;(try dsimp only at hSw);go_split_ands;go_simp;try with_reducible rfl)
              try simp only[Act.put]
              refine z09 (i:=13) (oi:=_) (v:=?_) rfl (fun _ _ _ h=>h) (Or.inl ⟨by rfl,?_⟩) ?_;rotate_left
              ·(intro w hSw;(try dsimp only at hSw);go_split_ands;go_simp;try with_reducible rfl)
              try simp only[Act.put]
              refine z09 (i:=14) (oi:=_) (v:=?_) rfl (fun _ _ _ h=>h) (Or.inl ⟨by rfl,?_⟩) ?_;rotate_left
              ·(intro w hSw;(try dsimp only at hSw);go_split_ands;go_simp;try with_reducible rfl)
              try simp only[Act.put]
              refine z09 (i:=15) (oi:=_) (v:=?_) rfl (fun _ _ _ h=>h) (Or.inl ⟨by rfl,?_⟩) ?_;rotate_left
              ·(intro w hSw;(try dsimp only at hSw);go_split_ands;go_simp;try with_reducible rfl)
              try simp only[Act.put]
              refine z09 (i:=16) (oi:=_) (v:=?_) rfl (fun _ _ _ h=>h) (Or.inl ⟨by rfl,?_⟩) ?_;rotate_left
              ·(intro w hSw;(try dsimp only at hSw);go_split_ands;go_simp;try with_reducible rfl)
              try simp only[Act.put]
              refine z09 (i:=17) (oi:=_) (v:=?_) rfl (fun _ _ _ h=>h) (Or.inl ⟨by rfl,?_⟩) ?_;rotate_left
              ·(intro w hSw;(try dsimp only at hSw);go_split_ands;go_simp;try with_reducible rfl)
              try simp only[Act.put]
              refine Ou (rs:=[18]) (by kernel_rfl) (by simp) (jW.cons (o:=_) rfl (fun K hK=>?_) jW.nil);go_simp;refine hK.out _ _ (fun _=>⟨(by go_keep),(by go_keep)⟩) (fun dK=>?_);have hHeld:=dK (by decide);clear hK K dK
              try simp only[Act.put,jM,jK,jL]
              refine Ou (rs:=[19]) (by kernel_rfl) (by simp) (jW.cons (o:=_) rfl (fun K hK=>?_) jW.nil);refine RQ _ rfl (.tmp 108) (.tmp 122) _ rfl 0 5 i0 _ 1 1 Tryz.underlying27 hi0 hz0 hz1 hz2 rfl (by omega) (.slice (some ad) l.length c8) l.length (bl l) rfl (Xc.out.own.alloc _) (fun i=>i=w8.heap.size) (some ⟨w8.heap.size,0,none⟩) 1 1 [.int .u8 (x:Int)] rfl Ri.out (by intro u hu;simp at hu;subst hu;rfl) (by simp only[maxLen];omega) (by omega) (by omega) ?_;intro v' w9 zu hg9 MF;obtain ⟨A9,c9,hv9,f1,f2,m9⟩:=Xc.out.push (.cells #[.int .u8 (x:Int)] 5) hx8 zu hg9 MF;subst hv9;have M9:=ah m9;clear zu hg9 MF m9;refine hK.out _ _ (fun h=>absurd h (by decide)) (fun dK=>?_);clear hK K dK
              try simp only[Act.put,List.setIfInBounds_toArray]
              refine Ou (rs:=[20]) (by kernel_rfl) (by simp) (jW.cons (o:=_) rfl (fun K hK=>?_) jW.nil);go_simp;refine hK.out _ _ (fun h=>absurd h (by decide)) (fun dK=>?_);clear hK K dK
              try simp only[Act.put,jM,jK,jL]
              refine Ou (rs:=[21]) (by kernel_rfl) (by simp) (jW.cons (o:=_) rfl (fun K hK=>?_) jW.nil);go_simp;refine hK.out _ _ (fun h=>absurd h (by decide)) (fun dK=>?_);clear hK K dK
              try simp only[Act.put,jM,jK,jL]
              refine Ou (rs:=[22]) (by kernel_rfl) (by simp) (jW.cons (o:=_) rfl (fun K hK=>?_) jW.nil);go_simp;refine hK.out _ _ (fun h=>absurd h (by decide)) (fun dK=>?_);clear hK K dK
              try simp only[Act.put,jM,jK,jL]
              refine z4L (by kernel_rfl) ?_ _;go_wp2_with fail;go_roundw
              case rel=>exact ⟨k+1,l++[x],by omega,by go_num,M9.out.lq.1,kk8.trans M9.out.lq.2 fun _ _ h=>h,ah (by rw[TN.out];congr 1;omega),(by simp only[List.length_append,List.length_singleton];have:=Jd.out;omega)⟩
              case measure=>simp only[intOf];omega
             ·obtain rfl:k=n:=by omega
              have Mc:dQ k dd s5.out=l:=by rw[TQ.out,Nat.sub_self];rfl
              have TP:=ah Mc;have Jd:=ah zx;have TS:=ah (eP.c1 m8);have hp8:=(eP.nI m8).1;have M8:Hid (bJ K w8 r g h bs most { s5 with out:=l}):=ah ⟨_,m8⟩;clear Mc zx m8 TQ;go_wp2_with fail;go_roundw
              case rel=>exact ⟨{ s5 with out:=l},f,M8.out,kk8,(by simp only;omega),ah (by rw[fF.out,TP.out]),(by simp only;have:=Jd.out;omega)⟩
              case measure=>rw[TS.out,Qy.out];simp only at hp8 ⊢;omega
           ·rw[show decide ((aQ most n s5).e=0)=false by simp[hr]]
            have fF:Hid (aP bs most zl zd (8 * bs.length+1) s=aQ most n s5):=ah (by rw[iw.out,kR.out,Qx.out,Oz.out,ET He5.out jQ hr];simp);clear hr OB;go_wp2_with fail;refine bodyPost_ret (results_none rfl _ _ _) rfl ?_;rw[fF.out];exact ⟨rfl,m6,kk6⟩
         ·have he6:(s5.e !=0)=true:=by rw[bne_iff_ne];exact he5
          have he7:(s5.e==0)=false:=by rw[beq_eq_false_iff_ne];exact he5
          have hfin:aP bs most zl zd (8 * bs.length+1) s=s5:=by rw[iw.out,kR.out,Qx.out,Oz.out,Kw he5];simp
          have fF:=ah hfin;clear hfin he5;go_wp2_with fail;refine bodyPost_ret (results_none rfl _ _ _) rfl ?_;rw[fF.out];exact ⟨rfl,m5,kk5⟩
       ·have he6:(s3.e !=0)=true:=by rw[bne_iff_ne];exact he3
        have he7:(s3.e==0)=false:=by rw[beq_eq_false_iff_ne];exact he3
        have hfin:aP bs most zl zd (8 * bs.length+1) s=s3:=by rw[iw.out,kR.out,Qx.out,Kq he3];simp
        have fF:=ah hfin;clear hfin he3;go_wp2_with fail;refine bodyPost_ret (results_none rfl _ _ _) rfl ?_;rw[fF.out];exact ⟨rfl,m4,kk4⟩
   ·have he2:(s1.e !=0)=true:=by rw[bne_iff_ne];exact he1
    have hfin:aP bs most zl zd (8 * bs.length+1) s=s1:=by rw[iw.out,kR.out,FC (.inl he1)];simp
    have fF:=ah hfin;clear hfin he1;go_wp2_with fail;refine bodyPost_ret (results_none rfl _ _ _) rfl ?_;rw[fF.out];exact ⟨rfl,m2,kk2⟩
  ·have he2:(sk.e==0)=false:=by rw[beq_eq_false_iff_ne];exact he
   have hfin:aP bs most zl zd (8 * bs.length+1) s=sk:=(by rw[AP.out,aP,if_pos he]);have fF:=ah hfin;clear hfin he;go_wp2_with fail;go_end0
   rw[fF.out];exact ⟨rfl,mk,kk⟩
end
end Go.Proofs.YtfljcllpmbnjaaaGreat
