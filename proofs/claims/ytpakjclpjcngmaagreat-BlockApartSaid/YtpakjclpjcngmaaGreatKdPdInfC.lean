/- Contracts and plain laws that the last text rests on. Conditions: each theorem states its own. -/
import Derived.Test.YtpakjclpjcngmaaGreatKdQ24
import Derived.Test.YtpakjclpjcngmaaGreatKdQ10
import Derived.IntWalk
set_option maxRecDepth 100000
set_option maxHeartbeats 8000000
set_option linter.unusedVariables false
namespace Go.Proofs.YtpakjclpjcngmaaGreat
open Go.RowKit
theorem WQ {zs:List Int} {bs:List Nat} {p:Nat}:∀k n,(dL zs bs p k n).2.1=0->p+n+1<=(dL zs bs p k n).2.2:=by
 intro k;induction k with
 |zero=>intro n h;simp[dL]at h
 |succ k ih=>
  intro n h;unfold dL at h ⊢;by_cases h1:dD zs 15<=dD zs n
  ·rw[if_pos h1]at h;simp at h
  ·rw[if_neg h1]at h ⊢
   by_cases h2:8 * bs.length<=p+n
   ·rw[if_pos h2]at h;simp at h
   ·rw[if_neg h2]at h ⊢
    by_cases h3:msb (oH bs p) (n+1)<2 * bZ zs n+cnt zs (n+1)
    ·rw[if_pos h3];exact Nat.le_refl _
    ·rw[if_neg h3]at h ⊢
     have:=ih (n+1) h;omega
theorem Gv {zs:List Int}:∀j (x:Int),x∈jd zs j->0<=x/\x<(zs.length:Int):=by
 intro j;induction j with
 |zero=>intro x h;simp[jd]at h
 |succ j ih=>
  intro x h;unfold jd at h;rw[List.mem_append]at h;rcases h with h|h
  ·exact ih x h
  ·unfold AZ at h
   simp only[List.mem_map,List.mem_filter,List.mem_range]at h;obtain ⟨s,⟨hs,_⟩,rfl⟩:=h;omega
theorem BG {zs:List Int} (j i:Nat):0<=(jd zs j).getD i 0/\((jd zs j).getD i 0<(zs.length:Int)∨(jd zs j).getD i 0=0):=by
 by_cases h:i<(jd zs j).length
 ·have e:(jd zs j).getD i 0=(jd zs j)[i]:=by simp[List.getD,h]
  rw[e];have:=Gv j _ (List.getElem_mem h);exact ⟨this.1,.inl this.2⟩
 ·have e:(jd zs j).getD i 0=0:=by simp[List.getD,h]
  rw[e];exact ⟨by omega,.inr rfl⟩
theorem CO {zs:List Int} {bs:List Nat} {p:Nat} (hl:zs.length<=320):∀k n,0<=(dL zs bs p k n).1/\(dL zs bs p k n).1<320:=by
 intro k;induction k with
 |zero=>intro n;simp[dL]
 |succ k ih=>
  intro n;unfold dL;split
  ·simp
  ·split
   ·simp
   ·split
    ·have h:=BG (zs:=zs) 15 (dD zs n+(msb (oH bs p) (n+1)-2 * bZ zs n))
     generalize (jd zs 15).getD (dD zs n+(msb (oH bs p) (n+1)-2 * bZ zs n)) 0=v at *;have h2:v<320:=by rcases h.2 with h|h<;>omega
     exact ⟨h.1,h2⟩
    ·exact ih (n+1)
theorem z2v {zs:List Int} {bs:List Nat} {s:Inf} (hl:zs.length<=320):0<=(dF bs zs s).1/\(dF bs zs s).1<320:=by
 have h:=CO (bs:=bs) (p:=s.p) hl 15 0;generalize hq:dL zs bs s.p 15 0=q at *;unfold dF;by_cases he:s.e≠0
 ·rw[if_pos he];simp
 ·rw[if_neg he,hq];exact h
theorem ZC {zs:List Int} {bs:List Nat} {s:Inf} (he:s.e=0) (h:(dF bs zs s).2.e=0):s.p+1<=(dF bs zs s).2.p:=by
 unfold dF at h ⊢;rw[if_neg (by simp[he])]at h ⊢;have h2:=WQ (zs:=zs) (bs:=bs) (p:=s.p) 15 0;generalize dL zs bs s.p 15 0=q at *;exact h2 h
theorem RN {zs:List Int} {bs:List Nat} {p:Nat}:∀k n,p+n<=(dL zs bs p k n).2.2:=by
 intro k;induction k with
 |zero=>intro n;exact Nat.le_refl _
 |succ k ih=>
  intro n;unfold dL;by_cases h1:dD zs 15<=dD zs n
  ·rw[if_pos h1];exact Nat.le_refl _
  ·rw[if_neg h1]
   by_cases h2:8 * bs.length<=p+n
   ·rw[if_pos h2];exact Nat.le_refl _
   ·rw[if_neg h2]
    by_cases h3:msb (oH bs p) (n+1)<2 * bZ zs n+cnt zs (n+1)
    ·rw[if_pos h3];exact Nat.le_succ _
    ·rw[if_neg h3]
     have:=ih (n+1);omega
theorem nO {zs:List Int} {bs:List Nat} {s:Inf}:s.p<=(dF bs zs s).2.p:=by
 have h2:=RN (zs:=zs) (bs:=bs) (p:=s.p) 15 0;generalize hq:dL zs bs s.p 15 0=q at *;unfold dF;by_cases he:s.e≠0
 ·rw[if_pos he];exact Nat.le_refl _
 ·rw[if_neg he,hq];exact h2
theorem TS {bs:List Nat} {k:Nat} {s:Inf} (hk:k<30):(fP bs k s).1<=40000:=by
 unfold fP;split
 ·simp only;omega
 ·have h1:=AU bs (k / 2-1) s
  have h2:(2:Nat) ^ (k / 2-1)<=2 ^ 13:=Nat.pow_le_pow_right (by omega) (by omega);have h3:(2+k % 2) * 2 ^ (k / 2-1)<=3 * 2 ^ 13:=Nat.mul_le_mul (by omega) h2;simp only;omega
theorem z43 {zs:List Int} {bs:List Nat} {s:Inf}:(dF bs zs s).2.out=s.out:=by
 unfold dF;split<;>rfl
theorem oI {e:Int} {s:Inf}:(aN e s).out=s.out/\(aN e s).p=s.p:=by
 unfold aN;split<;>exact ⟨rfl,rfl⟩
theorem z2x {most n:Int} {s:Inf}:(aV most n s).out=s.out/\(aV most n s).p=s.p:=by
 unfold aV;split
 ·exact oI
 ·exact ⟨rfl,rfl⟩
theorem z3r {most n:Int} {s:Inf} (he:s.e=0):(aV most n s).e=0->aV most n s=s/\(s.out.length:Int)+n<=most:=by
 unfold aV;split
 ·intro h
  have:(aN 5 s).e=5:=by unfold aN;rw[if_pos he]
  rw[this]at h;simp at h
 ·intro _;exact ⟨rfl,by omega⟩
theorem Yk {bs:List Nat} {n:Nat} {s:Inf}:s.p<=(aC bs n s).2.p:=by
 unfold aC;split
 ·exact Nat.le_refl _
 ·split
  ·simp
  ·exact Nat.le_refl _
theorem z5Z {bs:List Nat} {k:Nat} {s:Inf}:(b_ bs k s).2.out=s.out/\s.p<=(b_ bs k s).2.p:=by
 unfold b_;split
 ·exact ⟨rfl,Nat.le_refl _⟩
 ·split
  ·exact ⟨rfl,Nat.le_refl _⟩
  ·exact ⟨z13 _ _ _,Yk⟩
theorem wS {bs:List Nat} {k:Nat} {s:Inf}:(fP bs k s).2.out=s.out/\s.p<=(fP bs k s).2.p:=by
 unfold fP;split
 ·exact ⟨rfl,Nat.le_refl _⟩
 ·exact ⟨z13 _ _ _,Yk⟩
theorem Ig {bs:List Nat} {k:Nat} {s:Inf} (hk:k<29):(b_ bs k s).1<=300:=by
 unfold b_;split
 ·simp only;omega
 ·split
  ·simp
  ·have h1:=AU bs (k / 4-1) s
   have h2:(2:Nat) ^ (k / 4-1)<=2 ^ 5:=Nat.pow_le_pow_right (by omega) (by omega);have h3:(4+k % 4) * 2 ^ (k / 4-1)<=7 * 2 ^ 5:=Nat.mul_le_mul (by omega) h2;simp only;omega
theorem TT {bs:List Nat} {k:Nat} {s:Inf}:1<=(fP bs k s).1:=by
 unfold fP;split
 ·simp only;omega
 ·simp only;omega
theorem Lm {bs:List Nat} {most:Int} {zd:List Int} {x:Int} {s1:Inf} (h:s1.e≠0∨x=256):Fe bs most zd x s1=(false,s1):=by
 unfold Fe;rw[if_pos h]
theorem XA {bs:List Nat} {most:Int} {zd:List Int} {x:Nat} {s1:Inf} (he:s1.e=0) (h:x<256):
 Fe bs most zd (x:Int) s1=(true,if (aV most 1 s1).e=0 then { aV most 1 s1 with out:=(aV most 1 s1).out++[x]} else aV most 1 s1):=by
 unfold Fe;rw[if_neg (fun hn=>by rcases hn with hn|hn;exact hn he;omega),if_pos (by omega),Int.toNat_natCast]
theorem aaQ {bs:List Nat} {most:Int} {zd:List Int} {x:Nat} {s1:Inf} (he:s1.e=0) (h:285<x):Fe bs most zd (x:Int) s1=(false,aN 4 s1):=by
 unfold Fe;rw[if_neg (fun hn=>by rcases hn with hn|hn;exact hn he;omega),if_neg (by omega),if_pos (by omega)]
theorem aaP {bs:List Nat} {most:Int} {zd:List Int} {x:Nat} {s1:Inf} (he:s1.e=0) (h6:x≠256) (h:¬x<256) (h2:¬285<x):Fe bs most zd (x:Int) s1=VI bs most (b_ bs (x-257) s1).1 (dF bs zd (b_ bs (x-257) s1).2).1 (dF bs zd (b_ bs (x-257) s1).2).2:=by
 unfold Fe;rw[if_neg (fun hn=>by rcases hn with hn|hn;exact hn he;omega),if_neg (by omega),if_neg (by omega),show ((x:Int)-257).toNat=x-257 by omega]
theorem QA {bs:List Nat} {most:Int} {n:Nat} {d:Int} {s3:Inf} (he:s3.e≠0):VI bs most n d s3=(false,s3):=by
 unfold VI;simp only[if_neg (show ¬(s3.e=0/\29<d) from fun h=>he h.1),if_neg he,if_neg (show ¬(s3.e=0/\s3.out.length<0) from fun h=>he h.1)];rw[if_pos he]
theorem z4G {e:Int} {s:Inf} (he:s.e=0):(aN e s).e=e:=by unfold aN;rw[if_pos he]
theorem Qz {bs:List Nat} {most:Int} {n:Nat} {d:Int} {s3:Inf} (he:s3.e=0) (hd:29<d):VI bs most n d s3=(false,aN 4 s3):=by
 have h4:¬(aN 4 s3).e=0:=by rw[z4G he];decide
 unfold VI;simp only[if_pos (show s3.e=0/\29<d from ⟨he,hd⟩),if_neg h4,if_neg (show ¬((aN 4 s3).e=0/\(aN 4 s3).out.length<0) from fun h=>h4 h.1)];rw[if_pos h4]
def PZ (most:Int) (n dd:Nat) (s5:Inf):Bool×Inf:=
 let s6:=if s5.e=0/\s5.out.length<dd then aN 4 s5 else s5
 if s6.e≠0 then (false,s6) else
 if (aV most n s6).e≠0 then (false,aV most n s6) else (true,{ aV most n s6 with out:=iL n dd (aV most n s6).out})
theorem yg {bs:List Nat} {most:Int} {n d:Nat} {s3:Inf} (he:s3.e=0) (hd:d<=29):VI bs most n (d:Int) s3=PZ most n (fP bs d s3).1 (fP bs d s3).2:=by
 unfold VI PZ;simp only[if_neg (show ¬(s3.e=0/\29<(d:Int)) from fun h=>by omega),if_pos he,Int.toNat_natCast]
theorem QJ {most:Int} {n dd:Nat} {s5:Inf} (he:s5.e≠0):PZ most n dd s5=(false,s5):=by
 unfold PZ;simp only[if_neg (show ¬(s5.e=0/\s5.out.length<dd) from fun h=>he h.1)];rw[if_pos he]
theorem QI {most:Int} {n dd:Nat} {s5:Inf} (he:s5.e=0) (hd:s5.out.length<dd):PZ most n dd s5=(false,aN 4 s5):=by
 unfold PZ;simp only[if_pos (show s5.e=0/\s5.out.length<dd from ⟨he,hd⟩)];rw[if_pos (by rw[z4G he];decide)]
theorem yt {most:Int} {n dd:Nat} {s5:Inf} (he:s5.e=0) (hd:¬s5.out.length<dd):PZ most n dd s5=if (aV most n s5).e≠0 then (false,aV most n s5) else (true,{ aV most n s5 with out:=iL n dd (aV most n s5).out}):=by
 unfold PZ;simp only[if_neg (show ¬(s5.e=0/\s5.out.length<dd) from fun h=>hd h.2)];rw[if_neg (by simp[he])]
theorem QH {most:Int} {n dd:Nat} {s5:Inf} (he:s5.e=0) (hd:¬s5.out.length<dd) (hr:(aV most n s5).e=0):PZ most n dd s5=(true,{ s5 with out:=iL n dd s5.out}):=by
 rw[yt he hd,if_neg (fun h=>h hr),(z3r he hr).1]
theorem KA {most:Int} {n dd:Nat} {s5:Inf} (he:s5.e=0) (hd:¬s5.out.length<dd) (hr:(aV most n s5).e≠0):PZ most n dd s5=(false,aV most n s5):=by
 rw[yt he hd,if_pos hr]
def afr (K:Nat->Prop) (w:World) (r g h:Nat) (bs:List Nat) (most:Int) (zl zd:List Int) (s:Inf) (wr:World):Prop:=
 ∃(sk:Inf) (f:Nat),bG K wr r g h bs most sk/\Ch (fun k=>¬K k) w wr/\8 * bs.length+1<=f+sk.p/\Hid (bH bs most zl zd (8 * bs.length+1) s=bH bs most zl zd f sk)/\(sk.out.length:Int)<=most
def CopL (K:Nat->Prop) (w:World) (r g h:Nat) (bs:List Nat) (most:Int) (n d:Nat) (s7:Inf) (i:Value) (wr:World):Prop:=
 ∃(k:Nat) (l:List Nat),k<=n/\i=.int .i64 k/\bG K wr r g h bs most { s7 with out:=l}/\Ch (fun k=>¬K k) w wr/\Hid (iL n d s7.out=iL (n-k) d l)/\l.length=s7.out.length+k
section
variable {K : Nat → Prop} {w w' : World} {r g h : Nat} {bs : List Nat} {most : Int} {s : Inf} {vo : Value}
theorem fV.qm (m:fV K w r g h bs most s vo):s.p<=8 * bs.length/\bs.length<=140737488355328:=m.Ar.le
theorem fV.c1 (m:fV K w r g h bs most s vo):mJ w g 1=(s.p:Int):=by
 obtain ⟨A,c,b,_⟩:=m.Ar;exact JA b rfl
theorem bG.dI (m:bG K w r g h bs most s):w.cell? ⟨r,3,none⟩=some (.int .i64 s.e):=by
 obtain ⟨vo,m⟩:=m;exact m.c3
theorem bG.qm (m:bG K w r g h bs most s):s.p<=8 * bs.length/\bs.length<=140737488355328:=by
 obtain ⟨vo,m⟩:=m;exact m.qm
theorem bG.XR (m:bG K w r g h bs most s):mJ w g 1=(s.p:Int):=by
 obtain ⟨vo,m⟩:=m;exact m.c1
theorem tN (m:bG K w r g h bs most s) (he:s.e≠0) (pl pd:Option Addr):
 Calls Tryz.prog 284 #[.pointer (some ⟨r,0,none⟩),.pointer pl,.pointer pd] w fun en w'=>en=.returned (.tuple #[])/\w=w':=by
 have d3:=m.dI;have he2:(s.e==0)=false:=by rw[beq_eq_false_iff_ne];exact he
 clear he m;go_enter Tryz.func284,Tryz.ntmps284;go_wp2_with fail;refine wp_loop_rounds 1 ?_;rw[rounds_succ];go_wp2_with fail;go_end0
 exact ⟨rfl,rfl⟩
set_option maxRecDepth 100000 in
theorem wI (m:bG K w r g h bs most s) (tl td:Nat) (zl zd:List Int) (Dl Dd:Nat->Prop) (hl:jD w Dl tl zl) (hd:jD w Dd td zd) (hDl:∀k,Dl k->K k) (hDd:∀k,Dd k->K k) (hm0:0<=most) (hm:most<=65536) (hol:(s.out.length:Int)<=most):
 Calls Tryz.prog 284 #[.pointer (some ⟨r,0,none⟩),.pointer (some ⟨tl,0,none⟩),.pointer (some ⟨td,0,none⟩)] w fun en w'=>en=.returned (.tuple #[])/\iO K w r g h bs most (bH bs most zl zd (8 * bs.length+1) s) w':=by
 obtain ⟨i0,hi0,hz0,hz1,hz2⟩:=info_parts Tryz.info5;have hzl:=(z5i hl.err).1;have hzd:=(z5i hd.err).1;have hbl:=m.qm.2;have H0:afr K w r g h bs most zl zd s w:=⟨s,8 * bs.length+1,m,Ch.refl _ _,by omega,ah rfl,hol⟩;clear m hol;go_enter Tryz.func284,Tryz.ntmps284;go_wp2_with fail;go_loopw [6] (fun _ wr=>afr K w r g h bs most zl zd s wr) (fun _ wr=>(8 * (bs.length:Int)+1-mJ wr g 1).toNat)
 case atStart=>exact H0
 case round=>
  clear H0;obtain ⟨w1,rfl⟩:∃w1:World,w1=wr:=⟨_,rfl⟩;obtain ⟨sk,f,mk,kk,hf,PO,hol⟩:=hrel;have d3:=mk.dI;have hp:=mk.qm.1;have LG:=ah mk.XR;have hlk:=hl.ch kk (fun k hk h=>h (hDl k hk));have hdk:=hd.ch kk (fun k hk h=>h (hDd k hk));obtain ⟨f,rfl⟩:∃f',f=f'+1:=⟨f-1,by omega⟩;by_cases he:sk.e=0
  ·rw[he]at d3
   have hst:bH bs most zl zd (8 * bs.length+1) s=if (EU bs most zl zd sk).1 then bH bs most zl zd f (EU bs most zl zd sk).2 else (EU bs most zl zd sk).2:=by
    rw[PO.out,bH,if_neg (by simp[he])]
   have hrg:=z2v (bs:=bs) (s:=sk) hzl;have hpp:=ZC (zs:=zl) (bs:=bs) he;have hoo:=z43 (zs:=zl) (bs:=bs) (s:=sk);have hcs:EU bs most zl zd sk=EU bs most zl zd sk:=rfl;have jv:=ah hst;have Hoo:=ah hoo;have Hpp:=ah hpp;clear hst he PO hoo hpp hcs;go_wp2_with fail;refine (zk mk Dl tl zl hlk hDl).mono ?_;rintro e w2 ⟨rfl,m2,k2⟩;have kk2:=kk.trans k2 fun _ _ h=>h;have hd2:=hdk.ch k2 (fun k hk h=>h (hDd k hk));have aeh:EU bs most zl zd sk=Fe bs most zd (dF bs zl sk).1 (dF bs zl sk).2:=rfl;have nI:=ah aeh;clear aeh kk k2 mk hlk hdk;generalize dF bs zl sk=q at *;obtain ⟨x,s1⟩:=q;simp only at hrg m2 Hoo Hpp nI ⊢;have d31:=m2.dI;have adW:(s1.out.length:Int)<=most:=by rw[Hoo.out];exact hol
   obtain ⟨hx0,hx1⟩:=hrg;obtain ⟨x,rfl⟩:=Int.eq_ofNat_of_zero_le hx0;by_cases he1:s1.e=0
   ·have hp1:=Hpp.out he1
    rw[he1]at d31;by_cases h256:x=256
    ·have h256':((x:Int)==256)=true:=by rw[beq_iff_eq];omega
     have hfin:bH bs most zl zd (8 * bs.length+1) s=s1:=by rw[jv.out,nI.out,Lm (.inr (by omega))];simp
     have fG:=ah hfin;clear hfin he1 h256;go_wp2_with fail;refine bodyPost_ret (results_none rfl _ _ _) rfl ?_;rw[fG.out];exact ⟨rfl,m2,kk2⟩
    ·have h256':((x:Int)==256)=false:=by rw[beq_eq_false_iff_ne];omega
     by_cases hlt:x<256
     ·have hfin:bH bs most zl zd (8 * bs.length+1) s=bH bs most zl zd f (if (aV most 1 s1).e=0 then { aV most 1 s1 with out:=(aV most 1 s1).out++[x]} else aV most 1 s1):=by
       rw[jv.out,nI.out,XA he1 hlt];simp
      have hro:=z3r (most:=most) (n:=1) he1;have hrp:=(z2x (most:=most) (n:=1) (s:=s1)).2;have adQ:=(z2x (most:=most) (n:=1) (s:=s1)).1;have fG:=ah hfin;have Vt:=ah hro;have Hrp:=ah hrp;have aeQ:=ah adQ;clear hfin hro hrp he1 h256 adQ;go_wp2_with fail;refine (qF m2 1 (by omega) (by omega) hm0 hm (by omega)).mono ?_;rintro e w3 ⟨rfl,m3,k3⟩;have kk3:=kk2.trans k3 fun _ _ h=>h;by_cases hr:(aV most 1 s1).e=0
      ·obtain ⟨hr1,hr2⟩:=Vt.out hr
       rw[show decide ((aV most 1 s1).e=0)=true by simp[hr]];have UQ:Hid (bH bs most zl zd (8 * bs.length+1) s=bH bs most zl zd f { s1 with out:=s1.out++[x]}):=ah (by rw[fG.out,if_pos hr,hr1]);rw[hr1]at m3;obtain ⟨vo3,m3⟩:=m3;obtain ⟨A3,c3,rfl,hA1,hA2⟩:=z04 m3.own;have d13:w3.cell? ⟨r,1,none⟩=some (.slice A3 s1.out.length c3):=m3.blk.cell 1;have M3:=ah m3;have hx8:x<256:=hlt;have hrd:Rd (w3.alloc (.cells #[.int .u8 (x:Int)] 5)) (fun i=>i=w3.heap.size) 1 (some ⟨w3.heap.size,0,none⟩) 1 [.int .u8 (x:Int)]:=⟨rfl,fun _=>⟨_,rfl,rfl,cell_one_new _ _ _⟩⟩;clear m3 hr hr1 fG Vt Hrp aeQ m2 k3;go_wp2_with (at_builtin;refine z03 _ rfl (.tmp 36) (.tmp 39) _ rfl 0 5 i0 _ 1 1 Tryz.underlying26 hi0 hz0 hz1 hz2 rfl (by omega) (.slice A3 s1.out.length c3) s1.out.length (bl s1.out) rfl (M3.out.own.alloc _) (fun i=>i=w3.heap.size) (some ⟨w3.heap.size,0,none⟩) 1 1 [.int .u8 (x:Int)] rfl hrd (by intro u hu;simp at hu;subst hu;rfl) (by simp only[maxLen];omega) (by omega) (by omega) ?_;intro v' w4 hown4 hg4 aer;obtain ⟨A4,c4,hv4,f1,f2,m5⟩:=M3.out.push (.cells #[.int .u8 (x:Int)] 5) hx8 hown4 hg4 aer;subst hv4;have M5:=ah m5;clear hown4 hg4 aer m5)
       have aep:=M5.out.1.XR;have abk:=ah aep;clear aep;go_roundw
       case rel=>exact ⟨{ s1 with out:=s1.out++[x]},f,M5.out.1,kk3.trans M5.out.2 fun _ _ h=>h,(by simp only;omega),UQ,(by simp only[List.length_append,List.length_singleton];omega)⟩
       case measure=>rw[abk.out,LG.out];simp only;omega
      ·rw[show decide ((aV most 1 s1).e=0)=false by simp[hr]]
       have UQ:Hid (bH bs most zl zd (8 * bs.length+1) s=bH bs most zl zd f (aV most 1 s1)):=ah (by rw[fG.out,if_neg hr]);have abk:=ah m3.XR;clear hr fG;go_wp2_with fail;go_roundw
       case rel=>exact ⟨aV most 1 s1,f,m3,kk3,(by rw[Hrp.out];omega),UQ,(by rw[aeQ.out];exact adW)⟩
       case measure=>rw[abk.out,LG.out,Hrp.out];omega
     ·by_cases h285:285<x
      ·have hfin:bH bs most zl zd (8 * bs.length+1) s=aN 4 s1:=by
        rw[jv.out,nI.out,aaQ he1 h285];simp
       have fG:=ah hfin;clear hfin he1 h256;go_wp2_with fail;refine (PY m2 4).mono ?_;rintro e w3 ⟨rfl,m3,k3⟩;go_wp2_with fail;refine bodyPost_ret (results_none rfl _ _ _) rfl ?_;rw[fG.out];exact ⟨rfl,m3,kk2.trans k3 fun _ _ h=>h⟩
      ·have hcf:=aaP (bs:=bs) (most:=most) (zd:=zd) he1 h256 hlt h285
       have hlo:=z5Z (bs:=bs) (k:=x-257) (s:=s1);have hll:=Ig (bs:=bs) (k:=x-257) (s:=s1) (by omega);have hx257:(x:Int)-257=((x-257:Nat):Int):=(by omega);obtain ⟨y,hy⟩:∃y,x-257=y:=⟨_,rfl⟩;rw[hy]at hcf hlo hll hx257;have hy29:y<29:=(by omega);have Yc:=ah hcf;have Hlo:=ah hlo;clear hcf hlo he1 h256 hy;go_wp2_with fail;refine (Ip m2 y hy29).mono ?_;rintro e w3 ⟨rfl,m3,k3⟩;have kk3:=kk2.trans k3 fun _ _ h=>h;have hd3:=hd2.ch k3 (fun k hk h=>h (hDd k hk));generalize b_ bs y s1=ql at *;obtain ⟨n,s2⟩:=ql;simp only at hll m3 Hlo Yc ⊢;have hso:=z43 (zs:=zd) (bs:=bs) (s:=s2);have hsr:=z2v (bs:=bs) (s:=s2) hzd;have hsp:=nO (zs:=zd) (bs:=bs) (s:=s2);have Hso:=ah hso;have aeN:=ah hsp;clear hso hsp kk2 k3 m2 hd2;go_wp2_with fail;refine (zk m3 Dd td zd hd3 hDd).mono ?_;rintro e w4 ⟨rfl,m4,k4⟩;have kk4:=kk3.trans k4 fun _ _ h=>h;generalize dF bs zd s2=qd at *;obtain ⟨d,s3⟩:=qd;simp only at hsr m4 Hso aeN Yc ⊢;obtain ⟨d,rfl⟩:=Int.eq_ofNat_of_zero_le hsr.1;have hd320:d<320:=(by omega);have NT:(s3.out.length:Int)<=most:=by rw[Hso.out,Hlo.out.1];exact adW
       have hp3:s1.p<=s3.p:=by have h1:=Hlo.out.2;have h2:=aeN.out;omega
       have d34:=m4.dI;clear hsr kk3 k4 m3 hd3;by_cases he3:s3.e=0
       ·rw[he3]at d34
        by_cases hd29:29<d
        ·have hfin:bH bs most zl zd (8 * bs.length+1) s=aN 4 s3:=by rw[jv.out,nI.out,Yc.out,Qz he3 (by omega)];simp
         have he4:=z4G (e:=4) he3;have fG:=ah hfin;have He4:=ah he4;clear hfin he4 he3;go_wp2_with fail;refine (PY m4 4).mono ?_;rintro e w5 ⟨rfl,m5,k5⟩;have d35:=m5.dI;rw[He4.out]at d35;go_wp2_with fail;refine bodyPost_ret (results_none rfl _ _ _) rfl ?_;rw[fG.out];exact ⟨rfl,m5,kk4.trans k5 fun _ _ h=>h⟩
        ·have hsn:=yg (bs:=bs) (most:=most) (n:=n) he3 (show d<=29 by omega)
         have hdo:=wS (bs:=bs) (k:=d) (s:=s3);have hdg:=TT (bs:=bs) (k:=d) (s:=s3);have hdl:=TS (bs:=bs) (k:=d) (s:=s3) (by omega);have Vs:=ah hsn;have Hdo:=ah hdo;clear hsn hdo he3;go_wp2_with fail;refine (zn m4 d (by omega)).mono ?_;rintro e w5 ⟨rfl,m5,k5⟩;have kk5:=kk4.trans k5 fun _ _ h=>h;generalize fP bs d s3=qq at *;obtain ⟨dd,s5⟩:=qq;simp only at hdg hdl m5 Vs Hdo ⊢;have d35:=m5.dI;have hol5:(s5.out.length:Int)<=most:=by rw[Hdo.out.1];exact NT
         have hp5:s1.p<=s5.p:=by have:=Hdo.out.2;omega
         clear kk4 k5 m4;by_cases he5:s5.e=0
         ·rw[he5]at d35
          obtain ⟨vo5,m5⟩:=m5;obtain ⟨A5,c5,rfl,hA5,hA5'⟩:=z04 m5.own;have d15:w5.cell? ⟨r,1,none⟩=some (.slice A5 s5.out.length c5):=m5.blk.cell 1;have M5:=ah m5;clear m5;by_cases Iu:s5.out.length<dd
          ·have hfin:bH bs most zl zd (8 * bs.length+1) s=aN 4 s5:=by rw[jv.out,nI.out,Yc.out,Vs.out,QI he5 Iu];simp
           have he4:=z4G (e:=4) he5;have fG:=ah hfin;have He4:=ah he4;clear hfin he4 he5;go_wp2_with fail;refine (PY ⟨_,M5.out⟩ 4).mono ?_;rintro e w6 ⟨rfl,m6,k6⟩;have d36:=m6.dI;rw[He4.out]at d36;go_wp2_with fail;refine bodyPost_ret (results_none rfl _ _ _) rfl ?_;rw[fG.out];exact ⟨rfl,m6,kk5.trans k6 fun _ _ h=>h⟩
          ·have hsg:=yt (most:=most) (n:=n) he5 Iu
           have hro:=z3r (most:=most) (n:=(n:Int)) he5;have Vt:=ah hro;have He5:=ah he5;clear hro he5;go_wp2_with fail;refine (qF ⟨_,M5.out⟩ (n:Int) (by omega) (by omega) hm0 hm (by omega)).mono ?_;rintro e w6 ⟨rfl,m6,k6⟩;have kk6:=kk5.trans k6 fun _ _ h=>h;by_cases hr:(aV most n s5).e=0
           ·rw[show decide ((aV most n s5).e=0)=true by simp[hr]]
            obtain ⟨hr1,hr2⟩:=Vt.out hr;have fG:Hid (bH bs most zl zd (8 * bs.length+1) s=bH bs most zl zd f { s5 with out:=iL n dd s5.out}):=ah (by rw[jv.out,nI.out,Yc.out,Vs.out,QH He5.out Iu hr];simp);rw[hr1]at m6;clear hr hr1 Vt Vs Yc nI jv d35 d34 d31 d3 d15 k6 kk5;go_wp2_with fail;go_loopw [102] (fun i wr=>CopL K w r g h bs most n dd s5 i wr) (fun i _=>n-(intOf i).toNat)
            case atStart=>exact ⟨0,s5.out,by omega,rfl,m6,kk6,ah rfl,rfl⟩
            case round=>
             clear m6 kk6;obtain ⟨w8,rfl⟩:∃w8:World,w8=wr:=⟨_,rfl⟩;obtain ⟨k,l,hk,rfl,⟨vo8,m8⟩,kk8,Hcp,Xe⟩:=hrel;by_cases hlt8:k<n
             ·obtain ⟨j,rfl⟩:∃j,n=k+(j+1):=⟨n-k-1,by omega⟩
              obtain ⟨A8,c8,rfl,hA8,hA8'⟩:=z04 m8.own;simp only at hA8 m8;obtain ⟨z,hz⟩:∃z,l.length-dd=z:=⟨_,rfl⟩;have hzl:z<l.length:=(by omega);have hzi:(l.length:Int)-(dd:Int)=(z:Int):=(by omega);obtain ⟨ad,u,hA8e,IB,hu,hcx⟩:=(Rd.dh m8.own).at_ hzl;have hx8:=z19 m8.okb z;rw[Pn hzl]at hu;injection hu with hu;subst hu;subst hA8e;have aei:iL (k+(j+1)) dd s5.out=iL j dd (l++[l.getD z 0]):=(by rw[Hcp.out,show k+(j+1)-k=j+1 by omega,iL,hz]);have Hcpn:=ah aei;have Yb:=ah Xe;clear aei hz Xe;simp only at hx8;generalize l.getD z 0=x at *;have d18:w8.cell? ⟨r,1,none⟩=some (.slice (some ad) l.length c8):=m8.blk.cell 1;have aes:=World.block_lt_of_cell? w8 _ hcx;rw[Ak]at aes;have hrlt:=m8.blk.lt;have M8:=ah m8;have M8d:=ah (M8.out.nx ((Ch.refl _ w8).drew));have hrd:Rd (w8.drew.alloc (.cells #[.int .u8 (x:Int)] 5)) (fun i=>i=w8.heap.size) 1 (some ⟨w8.heap.size,0,none⟩) 1 [.int .u8 (x:Int)]:=⟨rfl,fun _=>⟨_,rfl,rfl,cell_one_new w8.drew _ _⟩⟩;have Hrd:=ah hrd;have hll9:l.length<=70000:=by have:=Yb.out;omega
              have hzz:(0:Int)<=(z:Int):=(by omega);have hzl2:(z:Int)<(l.length:Int):=(by omega);have mX:IntKind.i64.wrap (z:Int)=(z:Int):=(by exact IntWalk.i64_in _ (by omega));clear m8 hrd;go_wp2_with fail;refine Qc (fun _=>True) (fun _=>false) rfl trivial (fun hS0=>?_);refine z00 (i:=0) (oi:=_) (v:=?_) rfl (fun _ _ _ h=>h) (Or.inl ⟨by rfl,?_⟩) ?_;rotate_left
              ·(intro w hSw;(try dsimp only at hSw);go_split_ands;go_simp;try with_reducible rfl)
              try simp only[Act.put,List.setIfInBounds_toArray]
              refine z2E (fun w'=>w'.cell? ⟨r,1,none⟩=some (.slice (some ad) l.length c8)/\w'.cell? (ad.add z)=some (.int .u8 (x:Int))) (fun i=>decide (19<=i)) (fun _=>trivial) ?_;have hSS:(fun w'=>w'.cell? ⟨r,1,none⟩=some (.slice (some ad) l.length c8)/\w'.cell? (ad.add z)=some (.int .u8 (x:Int))) w8.drew:=⟨d18,hcx⟩;refine z00 (i:=1) (oi:=_) (v:=?_) rfl (fun _ _ _ h=>h) (Or.inl ⟨by rfl,?_⟩) ?_;rotate_left
              ·(intro w hSw;(try dsimp only at hSw);go_split_ands;go_simp;try with_reducible rfl)
              try simp only[Act.put]
              refine z00 (i:=2) (oi:=_) (v:=?_) rfl (fun _ _ _ h=>h) (Or.inl ⟨by rfl,?_⟩) ?_;rotate_left
              ·(intro w hSw;(try dsimp only at hSw);go_split_ands;go_simp;try with_reducible rfl)
              try simp only[Act.put]
              refine z00 (i:=3) (oi:=_) (v:=?_) rfl (fun _ _ _ h=>h) (Or.inl ⟨by rfl,?_⟩) ?_;rotate_left
              ·(intro w hSw;(try dsimp only at hSw);go_split_ands;go_simp;try with_reducible rfl)
              try simp only[Act.put]
              refine z00 (i:=4) (oi:=_) (v:=?_) rfl (fun _ _ _ h=>h) (Or.inl ⟨by rfl,?_⟩) ?_;rotate_left
              ·(intro w hSw;(try dsimp only at hSw);go_split_ands;go_simp;try with_reducible rfl)
              try simp only[Act.put]
              refine z00 (i:=5) (oi:=_) (v:=?_) rfl (fun _ _ _ h=>h) (Or.inl ⟨by rfl,?_⟩) ?_;rotate_left
              ·(intro w hSw;(try dsimp only at hSw);go_split_ands;go_simp;try with_reducible rfl)
              try simp only[Act.put]
              refine z00 (i:=6) (oi:=_) (v:=?_) rfl (fun _ _ _ h=>h) (Or.inl ⟨by rfl,?_⟩) ?_;rotate_left
              ·(intro w hSw;(try dsimp only at hSw);go_split_ands;go_simp;try with_reducible rfl)
              try simp only[Act.put]
              refine z00 (i:=7) (oi:=_) (v:=?_) rfl (fun _ _ _ h=>h) (Or.inl ⟨by rfl,?_⟩) ?_;rotate_left
              ·(intro w hSw;(try dsimp only at hSw);go_split_ands;go_simp;try with_reducible rfl)
              try simp only[Act.put]
              refine z00 (i:=8) (oi:=_) (v:=?_) rfl (fun _ _ _ h=>h) (Or.inl ⟨by rfl,?_⟩) ?_;rotate_left
              ·(intro w hSw;(try dsimp only at hSw);go_split_ands;go_simp;try with_reducible rfl)
              try simp only[Act.put]
              refine z00 (i:=9) (oi:=_) (v:=?_) rfl (fun _ _ _ h=>h) (Or.inl ⟨by rfl,?_⟩) ?_;rotate_left
              ·(intro w hSw;(try dsimp only at hSw);go_split_ands;go_simp;try with_reducible rfl)
              try simp only[Act.put]
              refine z00 (i:=10) (oi:=_) (v:=?_) rfl (fun _ _ _ h=>h) (Or.inl ⟨by rfl,?_⟩) ?_;rotate_left
              ·(intro w hSw;(try dsimp only at hSw);go_split_ands;go_simp;try with_reducible rfl)
              try simp only[Act.put]
              refine z00 (i:=11) (oi:=_) (v:=?_) rfl (fun _ _ _ h=>h) (Or.inl ⟨by rfl,?_⟩) ?_;rotate_left
              ·(intro w hSw;(try dsimp only at hSw);go_split_ands;go_simp;try with_reducible rfl)
              try simp only[Act.put]
              refine z00 (i:=12) (oi:=_) (v:=?_) rfl (fun _ _ _ h=>h) (Or.inl ⟨by rfl,?_⟩) ?_;rotate_left
              ·(intro w hSw;(try dsimp only at hSw);go_split_ands;go_simp;try with_reducible rfl)
              try simp only[Act.put]
              refine z00 (i:=13) (oi:=_) (v:=?_) rfl (fun _ _ _ h=>h) (Or.inl ⟨by rfl,?_⟩) ?_;rotate_left
              ·(intro w hSw;(try dsimp only at hSw);go_split_ands;go_simp;try with_reducible rfl)
              try simp only[Act.put]
              refine z00 (i:=14) (oi:=_) (v:=?_) rfl (fun _ _ _ h=>h) (Or.inl ⟨by rfl,?_⟩) ?_;rotate_left
              ·(intro w hSw;(try dsimp only at hSw);go_split_ands;go_simp;try with_reducible rfl)
              try simp only[Act.put]
              refine z00 (i:=15) (oi:=_) (v:=?_) rfl (fun _ _ _ h=>h) (Or.inl ⟨by rfl,?_⟩) ?_;rotate_left
              ·(intro w hSw;(try dsimp only at hSw);go_split_ands;go_simp;try with_reducible rfl)
              try simp only[Act.put]
              refine z00 (i:=16) (oi:=_) (v:=?_) rfl (fun _ _ _ h=>h) (Or.inl ⟨by rfl,?_⟩) ?_;rotate_left
              ·(intro w hSw;(try dsimp only at hSw);go_split_ands;go_simp;try with_reducible rfl)
              try simp only[Act.put]
              refine z00 (i:=17) (oi:=_) (v:=?_) rfl (fun _ _ _ h=>h) (Or.inl ⟨by rfl,?_⟩) ?_;rotate_left
              ·(intro w hSw;(try dsimp only at hSw);go_split_ands;go_simp;try with_reducible rfl)
              try simp only[Act.put]
              refine z02 (rs:=[18]) (by kernel_rfl) (by simp) (z01.cons (o:=_) rfl (fun K hK=>?_) z01.nil);go_simp;refine hK.out _ _ (fun _=>⟨(by go_keep),(by go_keep)⟩) (fun aj=>?_);have hHeld:=aj (by decide);clear hK K aj
              try simp only[Act.put,eu,dY,dZ]
              refine z02 (rs:=[19]) (by kernel_rfl) (by simp) (z01.cons (o:=_) rfl (fun K hK=>?_) z01.nil);refine PG _ rfl (.tmp 108) (.tmp 122) _ rfl 0 5 i0 _ 1 1 Tryz.underlying26 hi0 hz0 hz1 hz2 rfl (by omega) (.slice (some ad) l.length c8) l.length (bl l) rfl (M8d.out.own.alloc _) (fun i=>i=w8.heap.size) (some ⟨w8.heap.size,0,none⟩) 1 1 [.int .u8 (x:Int)] rfl Hrd.out (by intro u hu;simp at hu;subst hu;rfl) (by simp only[maxLen];omega) (by omega) (by omega) ?_;intro v' w9 YM hg9 aen;obtain ⟨A9,c9,hv9,f1,f2,m9⟩:=M8d.out.push (.cells #[.int .u8 (x:Int)] 5) hx8 YM hg9 aen;subst hv9;have M9:=ah m9;clear YM hg9 aen m9;refine hK.out _ _ (fun h=>absurd h (by decide)) (fun aj=>?_);clear hK K aj
              try simp only[Act.put,List.setIfInBounds_toArray]
              refine z02 (rs:=[20]) (by kernel_rfl) (by simp) (z01.cons (o:=_) rfl (fun K hK=>?_) z01.nil);go_simp;refine hK.out _ _ (fun h=>absurd h (by decide)) (fun aj=>?_);clear hK K aj
              try simp only[Act.put,eu,dY,dZ]
              refine z02 (rs:=[21]) (by kernel_rfl) (by simp) (z01.cons (o:=_) rfl (fun K hK=>?_) z01.nil);go_simp;refine hK.out _ _ (fun h=>absurd h (by decide)) (fun aj=>?_);clear hK K aj
              try simp only[Act.put,eu,dY,dZ]
              refine z02 (rs:=[22]) (by kernel_rfl) (by simp) (z01.cons (o:=_) rfl (fun K hK=>?_) z01.nil);go_simp;refine hK.out _ _ (fun h=>absurd h (by decide)) (fun aj=>?_);clear hK K aj
              try simp only[Act.put,eu,dY,dZ]
              refine JU (by kernel_rfl) ?_ _;go_wp2_with fail;go_roundw
              case rel=>exact ⟨k+1,l++[x],by omega,by go_num,M9.out.nR.1,kk8.trans M9.out.nR.2 fun _ _ h=>h,ah (by rw[Hcpn.out];congr 1;omega),(by simp only[List.length_append,List.length_singleton];have:=Yb.out;omega)⟩
              case measure=>simp only[intOf];omega
             ·obtain rfl:k=n:=by omega
              have aej:iL k dd s5.out=l:=by rw[Hcp.out,Nat.sub_self];rfl
              have Hcp0:=ah aej;have Yb:=ah Xe;have Hat8:=ah (fV.c1 m8);have hp8:=(fV.qm m8).1;have M8:Hid (bG K w8 r g h bs most { s5 with out:=l}):=ah ⟨_,m8⟩;clear aej Xe m8 Hcp;go_wp2_with fail;go_roundw
              case rel=>exact ⟨{ s5 with out:=l},f,M8.out,kk8,(by simp only;omega),ah (by rw[fG.out,Hcp0.out]),(by simp only;have:=Yb.out;omega)⟩
              case measure=>rw[Hat8.out,LG.out];simp only at hp8 ⊢;omega
           ·rw[show decide ((aV most n s5).e=0)=false by simp[hr]]
            have fG:Hid (bH bs most zl zd (8 * bs.length+1) s=aV most n s5):=ah (by rw[jv.out,nI.out,Yc.out,Vs.out,KA He5.out Iu hr];simp);clear hr Vt;go_wp2_with fail;refine bodyPost_ret (results_none rfl _ _ _) rfl ?_;rw[fG.out];exact ⟨rfl,m6,kk6⟩
         ·have he6:(s5.e !=0)=true:=by rw[bne_iff_ne];exact he5
          have he7:(s5.e==0)=false:=by rw[beq_eq_false_iff_ne];exact he5
          have hfin:bH bs most zl zd (8 * bs.length+1) s=s5:=by rw[jv.out,nI.out,Yc.out,Vs.out,QJ he5];simp
          have fG:=ah hfin;clear hfin he5;go_wp2_with fail;refine bodyPost_ret (results_none rfl _ _ _) rfl ?_;rw[fG.out];exact ⟨rfl,m5,kk5⟩
       ·have he6:(s3.e !=0)=true:=by rw[bne_iff_ne];exact he3
        have he7:(s3.e==0)=false:=by rw[beq_eq_false_iff_ne];exact he3
        have hfin:bH bs most zl zd (8 * bs.length+1) s=s3:=by rw[jv.out,nI.out,Yc.out,QA he3];simp
        have fG:=ah hfin;clear hfin he3;go_wp2_with fail;refine bodyPost_ret (results_none rfl _ _ _) rfl ?_;rw[fG.out];exact ⟨rfl,m4,kk4⟩
   ·have he2:(s1.e !=0)=true:=by rw[bne_iff_ne];exact he1
    have hfin:bH bs most zl zd (8 * bs.length+1) s=s1:=by rw[jv.out,nI.out,Lm (.inl he1)];simp
    have fG:=ah hfin;clear hfin he1;go_wp2_with fail;refine bodyPost_ret (results_none rfl _ _ _) rfl ?_;rw[fG.out];exact ⟨rfl,m2,kk2⟩
  ·have he2:(sk.e==0)=false:=by rw[beq_eq_false_iff_ne];exact he
   have hfin:bH bs most zl zd (8 * bs.length+1) s=sk:=(by rw[PO.out,bH,if_pos he]);have fG:=ah hfin;clear hfin he;go_wp2_with fail;go_end0
   rw[fG.out];exact ⟨rfl,mk,kk⟩
end
end Go.Proofs.YtpakjclpjcngmaaGreat
