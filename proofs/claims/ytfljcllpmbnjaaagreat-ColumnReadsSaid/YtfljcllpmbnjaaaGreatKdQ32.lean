/- Contracts and plain laws that the last text rests on. Conditions: each theorem states its own. -/
import Derived.Test.YtfljcllpmbnjaaaGreatKdQ22
import Derived.Test.YtfljcllpmbnjaaaGreatKdQ8
set_option maxRecDepth 100000
set_option maxHeartbeats 16000000
set_option linter.unusedVariables false
namespace Go.Proofs.YtfljcllpmbnjaaaGreat
open Go.RowKit
structure fB (w:World) (D:Nat->Prop) (g:Nat) (A:Option Addr) (c:Nat) (xs:List Nat) (p:Nat) (e:Int):Prop where
 blk:dD w g 87 #[.slice A xs.length c,.int .i64 (p:Int),.int .i64 e]
 rd:Rd w D 1 A xs.length (bl xs)
 out:∀k,D k->k≠g
 bnd:∀k,D k->k<w.heap.size
 ok:okB xs
 len:xs.length<=1000000000
 cap:xs.length<=c
 pos:p<=xs.length
theorem fB.nx {w w':World} {D:Nat->Prop} {g:Nat} {A:Option Addr} {c:Nat} {xs:List Nat} {p:Nat} {e:Int} (h:fB w D g A c xs p e) (n:Nx w w'):fB w' D g A c xs p e:=
 ⟨h.blk.nx n,h.rd.nx (by decide) n,h.out,fun k hk=>Nat.lt_of_lt_of_le (h.bnd k hk) n.size,h.ok,h.len,h.cap,h.pos⟩
theorem fB.ch {w w':World} {D S:Nat->Prop} {g:Nat} {A:Option Addr} {c:Nat} {xs:List Nat} {p:Nat} {e:Int} (h:fB w D g A c xs p e) (n:Ch S w w') (hg:¬S g) (hD:∀k,D k->¬S k):fB w' D g A c xs p e:=
 ⟨h.blk.ch n hg,h.rd.ch (by decide) n (fun k _ hk=>hD k hk),h.out,fun k hk=>Nat.lt_of_lt_of_le (h.bnd k hk) n.size,h.ok,h.len,h.cap,h.pos⟩
theorem fB.dZ {w:World} {D:Nat->Prop} {g:Nat} {A:Option Addr} {c:Nat} {xs:List Nat} {p:Nat} {e:Int} (h:fB w D g A c xs p e) (p':Nat) (hp:p'<=xs.length):
 fB (w.setCell ⟨g,1,none⟩ (.int .i64 (p':Int))) D g A c xs p' e/\Ch (· =g) w (w.setCell ⟨g,1,none⟩ (.int .i64 (p':Int))):=by
 have hc:Ch (fun k=>k=g) w (w.setCell ⟨g,1,none⟩ (.int .i64 (p':Int))):=Ch.setCell (S:=fun k=>k=g) (Ch.refl _ w) (p:=⟨g,1,none⟩) (fun _=>rfl) _;exact ⟨⟨h.blk.dZ 1 _,h.rd.ch (by decide) hc (fun k _ hk e=>h.out k hk e),h.out,fun k hk=>Nat.lt_of_lt_of_le (h.bnd k hk) hc.size,h.ok,h.len,h.cap,hp⟩,hc⟩
theorem fB.Iw {w:World} {D:Nat->Prop} {g:Nat} {A:Option Addr} {c:Nat} {xs:List Nat} {p:Nat} {e:Int} (h:fB w D g A c xs p e) (e':Int):
 fB (w.setCell ⟨g,2,none⟩ (.int .i64 e')) D g A c xs p e'/\Ch (· =g) w (w.setCell ⟨g,2,none⟩ (.int .i64 e')):=by
 have hc:Ch (fun k=>k=g) w (w.setCell ⟨g,2,none⟩ (.int .i64 e')):=Ch.setCell (S:=fun k=>k=g) (Ch.refl _ w) (p:=⟨g,2,none⟩) (fun _=>rfl) _;exact ⟨⟨h.blk.dZ 2 _,h.rd.ch (by decide) hc (fun k _ hk e=>h.out k hk e),h.out,fun k hk=>Nat.lt_of_lt_of_le (h.bnd k hk) hc.size,h.ok,h.len,h.cap,h.pos⟩,hc⟩
def jw (w:World) (D:Nat->Prop) (g:Nat) (A:Option Addr) (c:Nat) (xs:List Nat) (p:Nat) (e:Int) (w':World):Prop:=fB w' D g A c xs p e/\Ch (· =g) w w'
theorem jw.cur {w w':World} {D:Nat->Prop} {g:Nat} {A:Option Addr} {c:Nat} {xs:List Nat} {p:Nat} {e:Int} (h:jw w D g A c xs p e w'):fB w' D g A c xs p e:=h.1
theorem jw.dN {w w':World} {D:Nat->Prop} {g:Nat} {A:Option Addr} {c:Nat} {xs:List Nat} {p:Nat} {e:Int} (h:jw w D g A c xs p e w'):Ch (· =g) w w':=h.2
theorem jw.trans {a b d:World} {D:Nat->Prop} {g:Nat} {A:Option Addr} {c:Nat} {xs:List Nat} {p p':Nat} {e e':Int} (h:jw a D g A c xs p e b) (k:jw b D g A c xs p' e' d):jw a D g A c xs p' e' d:=⟨k.1,h.2.trans k.2 fun _ _ e=>e⟩
theorem jw.drewN {a b:World} {D:Nat->Prop} {g:Nat} {A:Option Addr} {c:Nat} {xs:List Nat} {p:Nat} {e:Int} (h:jw a D g A c xs p e b) (q:Nat):jw a D g A c xs p e (b.drewN q):=⟨h.1.nx ((Ch.refl _ b).drewN q),h.2.drewN q⟩
theorem jw.refl {w:World} {D:Nat->Prop} {g:Nat} {A:Option Addr} {c:Nat} {xs:List Nat} {p:Nat} {e:Int} (h:fB w D g A c xs p e):jw w D g A c xs p e w:=⟨h,Ch.refl _ _⟩
theorem jw.put {a b:World} {D:Nat->Prop} {g:Nat} {A:Option Addr} {c:Nat} {xs:List Nat} {p:Nat} {e:Int} (h:jw a D g A c xs p e b) (p':Nat) (hp:p'<=xs.length) (e':Int):
 jw a D g A c xs p' e' ((b.setCell ⟨g,1,none⟩ (.int .i64 (p':Int))).setCell ⟨g,2,none⟩ (.int .i64 e')):=by
 obtain ⟨h1,c1⟩:=h.1.dZ p' hp;obtain ⟨h2,c2⟩:=h1.Iw e';exact ⟨h2,h.2.trans (c1.trans c2 fun _ _ e=>e) fun _ _ e=>e⟩
theorem jw.WQ {a b:World} {D:Nat->Prop} {g:Nat} {A:Option Addr} {c:Nat} {xs:List Nat} {p:Nat} {e:Int} (h:jw a D g A c xs p e b) (e':Int):jw a D g A c xs p e' (b.setCell ⟨g,2,none⟩ (.int .i64 e')):=by
 obtain ⟨h2,c2⟩:=h.1.Iw e';exact ⟨h2,h.2.trans c2 fun _ _ e=>e⟩
section
variable {w : World} {D : Nat → Prop} {g : Nat} {A : Option Addr} {c : Nat} {xs : List Nat} {p : Nat} {e : Int}
theorem yD (h:fB w D g A c xs p e):Calls Tryz.prog 64 #[.pointer (some ⟨g,0,none⟩)] w fun en w'=>en=.returned (.int .i64 (bn xs.length p e))/\Dr w w':=by
 have d0:w.cell? ⟨g,0,none⟩=some (.slice A xs.length c):=h.blk.cell 0;have d1:w.cell? ⟨g,1,none⟩=some (.int .i64 (p:Int)):=h.blk.cell 1;have d2:w.cell? ⟨g,2,none⟩=some (.int .i64 e):=h.blk.cell 2;have hcap:=h.cap;clear h;by_cases he:e=0
 ·have hE:bn xs.length p e=if p<xs.length then 5 else 0:=by unfold bn;rw[if_neg (by simpa using he)]
  have HE:=ah hE;subst he;clear hE;by_cases hp:p<xs.length
  ·have hq:decide ((p:Int)<(xs.length:Int))=true:=by simp;omega
   go_enter Tryz.func64,Tryz.ntmps64;go_wp2_with fail;go_quiet (fail)
   go_wp2_with fail;go_ret;exact ⟨by rw[HE.out,if_pos hp];rfl,Dr.jG _ _⟩
  ·have hq:decide ((p:Int)<(xs.length:Int))=false:=by simp;omega
   go_enter Tryz.func64,Tryz.ntmps64;go_wp2_with fail;go_quiet (fail)
   go_wp2_with fail;go_ret;exact ⟨by rw[HE.out,if_neg hp];rfl,Dr.jG _ _⟩
 ·have hE:bn xs.length p e=e:=by unfold bn;rw[if_pos (by simpa using he)]
  have HE:=ah hE;have hne:(e==0)=false:=by rw[beq_eq_false_iff_ne];exact he
  clear hE he;go_enter Tryz.func64,Tryz.ntmps64;go_wp2_with fail;go_quiet (fail)
  go_wp2_with fail;go_ret;exact ⟨by rw[HE.out];rfl,Dr.jG _ _⟩
theorem KG (h:fB w D g A c xs p e):Calls Tryz.prog 101 #[.pointer (some ⟨g,0,none⟩)] w fun en w'=>en=.returned (.int .u64 ((uF xs p e).1:Int))/\jw w D g A c xs (uF xs p e).2.1 (uF xs p e).2.2 w':=by
 have d2:w.cell? ⟨g,2,none⟩=some (.int .i64 e):=h.blk.cell 2;by_cases he:e=0
 ·have hE:uF xs p e=((ay xs p).1,p+(ay xs p).2.1,(ay xs p).2.2):=by unfold uF;rw[if_neg (by simpa using he)]
  subst he;have hu:=fun q=>mQ D A xs.length c xs p (w.drewN q) (h.rd.drewN q) h.ok rfl h.len (Nat.le_trans h.pos h.len);unfold Ai at hu;have hrl:=Ba h.pos;have hle:=h.len;have d0:w.cell? ⟨g,0,none⟩=some (.slice A xs.length c):=h.blk.cell 0;have d1:w.cell? ⟨g,1,none⟩=some (.int .i64 (p:Int)):=h.blk.cell 1;have hf:=h.blk.frozen;have HE:=ah hE;generalize ay xs p=t at *;obtain ⟨v,k,er⟩:=t;simp only at hu hrl;have Hu:=ah hu;have H:=ah h;clear hE hu h;go_enter Tryz.func101,Tryz.ntmps101;go_wp2_with fail;go_quiet ((go_at_call 20;exact z47 (Hu.out _)))
  go_wp2_with fail;go_ret;rw[HE.out];obtain ⟨h1,c1⟩:=(H.out.nx ((Ch.refl _ w).drewN nq)).dZ (p+k) hrl;obtain ⟨h2,c2⟩:=h1.Iw er;have e1:(.int .i64 ((p:Int)+(k:Int)):Value)=.int .i64 ((p+k:Nat):Int):=by simp
  rw[e1];exact ⟨rfl,h2,((Ch.refl _ w).drewN nq).trans (c1.trans c2 fun _ _ e=>e) fun _ _ e=>e⟩
 ·have hE:uF xs p e=(0,p,e):=by unfold uF;rw[if_pos (by simpa using he)]
  have hne:(e !=0)=true:=by rw[bne_iff_ne];exact he
  have HE:=ah hE;have H:=ah h;clear hE he h;go_enter Tryz.func101,Tryz.ntmps101;go_wp2_with fail;go_ret;rw[HE.out];exact ⟨rfl,jw.refl H.out⟩
theorem z33 (h:fB w D g A c xs p e) (m:Nat) (hm2:m<=9223372036854775807):Calls Tryz.prog 62 #[.pointer (some ⟨g,0,none⟩),.int .i64 (m:Int)] w fun en w'=>en=.returned (.int .i64 ((aB xs p e m).1:Int))/\jw w D g A c xs (aB xs p e m).2.1 (aB xs p e m).2.2 w':=by
 have d1:w.cell? ⟨g,1,none⟩=some (.int .i64 (p:Int)):=h.blk.cell 1;have hpos:=h.pos;have hu:=KG h;have kw:IntKind.u64.wrap (m:Int)=(m:Int):=by rw[IntKind.wrap_u64];omega
 have hm0:¬(m:Int)<0:=by omega
 by_cases he:e=0
 ·subst he
  have hE:aB xs p 0 m=if (ay xs p).2.2≠0 then (0,p,(ay xs p).2.2) else if (m:Int)<0∨(m:Int)<((ay xs p).1:Int) then (0,p,2) else ((ay xs p).1,p+(ay xs p).2.1,0):=by unfold aB;rw[if_neg (by simp)]
  have hU:uF xs p 0=((ay xs p).1,p+(ay xs p).2.1,(ay xs p).2.2):=by unfold uF;rw[if_neg (by simp)]
  rw[hU]at hu;have hlt:=OU h.ok p;have herr:=OM xs p;generalize ay xs p=t at *;obtain ⟨v,k,er⟩:=t;simp only at hu hlt herr hE;have HE:=ah hE;have Hu:=ah hu;clear hE hu h hU;by_cases h0:er=0
  ·subst h0
   clear herr;by_cases hmv:m<v
   ·have hR:aB xs p 0 m=(0,p,2):=by rw[HE.out,if_neg (by simp),if_pos (.inr (by omega))]
    have HR:=ah hR;have t1:decide ((m:Int)<(v:Int))=true:=by rw[decide_eq_true_iff];omega
    clear hR;go_enter Tryz.func62,Tryz.ntmps62;go_wp2_with fail;with_reducible refine Hu.out.mono ?_
    rintro e w1 ⟨rfl,h1⟩;have d2:w1.cell? ⟨g,2,none⟩=some (.int .i64 0):=h1.cur.blk.cell 2;have d1:w1.cell? ⟨g,1,none⟩=some (.int .i64 ((p+k:Nat):Int)):=h1.cur.blk.cell 1;have hf:=h1.cur.blk.frozen;have H1:=ah h1;clear h1;go_wp2_with fail;go_ret;rw[HR.out];exact ⟨rfl,H1.out.put p hpos 2⟩
   ·have hR:aB xs p 0 m=(v,p+k,0):=by rw[HE.out,if_neg (by simp),if_neg (by omega)]
    have HR:=ah hR;have t1:decide ((m:Int)<(v:Int))=false:=by rw[decide_eq_false_iff_not];omega
    clear hR;go_enter Tryz.func62,Tryz.ntmps62;go_wp2_with fail;with_reducible refine Hu.out.mono ?_
    rintro e w1 ⟨rfl,h1⟩;have d2:w1.cell? ⟨g,2,none⟩=some (.int .i64 0):=h1.cur.blk.cell 2;go_wp2_with fail;go_ret;rw[HR.out];exact ⟨rfl,h1⟩
  ·obtain ⟨rfl,rfl, -⟩:=herr.resolve_left h0
   have hR:aB xs p 0 m=(0,p,er):=(by rw[HE.out,if_pos h0]);have HR:=ah hR;have hne:(er !=0)=true:=by rw[bne_iff_ne];exact h0
   clear hR herr h0;go_enter Tryz.func62,Tryz.ntmps62;go_wp2_with fail;with_reducible refine Hu.out.mono ?_
   rintro e w1 ⟨rfl,h1⟩;have d2:w1.cell? ⟨g,2,none⟩=some (.int .i64 er):=h1.cur.blk.cell 2;go_wp2_with fail;go_ret;rw[HR.out];exact ⟨rfl,h1⟩
 ·have hE:aB xs p e m=(0,p,e):=by unfold aB;rw[if_pos (by simpa using he)]
  rw[show uF xs p e=(0,p,e) by unfold uF;rw[if_pos (by simpa using he)]]at hu;have HE:=ah hE;have Hu:=ah hu;have hne:(e !=0)=true:=by rw[bne_iff_ne];exact he
  clear hE hu he h;go_enter Tryz.func62,Tryz.ntmps62;go_wp2_with fail;with_reducible refine Hu.out.mono ?_
  rintro e w1 ⟨rfl,h1⟩;have d2:w1.cell? ⟨g,2,none⟩=some (.int .i64 e):=h1.cur.blk.cell 2;go_wp2_with fail;go_ret;rw[HE.out];exact ⟨rfl,h1⟩
def o_ (w:World) (D:Nat->Prop) (g:Nat) (A:Option Addr) (c:Nat) (xs:List Nat) (p n:Nat) (en:Ending) (w':World):Prop:=
 ∃k cap,en=.returned (.slice (some ⟨k,0,none⟩) n cap)/\jw w D g A c xs (p+n) 0 w'/\w'.ownsRow w.heap.size 5 1 (.slice (some ⟨k,0,none⟩) n cap) n (bl ((xs.drop p).take n))/\n<=cap/\w.heap.size<=k
theorem mY (h:fB w D g A c xs p 0) (n:Nat) (hn:p+n<=xs.length):Calls Tryz.prog 66 #[.pointer (some ⟨g,0,none⟩),.int .i64 (n:Int)] w (o_ w D g A c xs p n):=by
 have hle:=h.len;have hpos:=h.pos;have hcap:=h.cap;have d0:w.cell? ⟨g,0,none⟩=some (.slice A xs.length c):=h.blk.cell 0;have d1:w.cell? ⟨g,1,none⟩=some (.int .i64 (p:Int)):=h.blk.cell 1;have d2:w.cell? ⟨g,2,none⟩=some (.int .i64 0):=h.blk.cell 2;have k0:IntKind.i64.wrap ((xs.length:Int)-(p:Int))=(xs.length:Int)-(p:Int):=IntWalk.i64_in _ (by omega);have q1:decide ((n:Int)<0)=false:=by rw[decide_eq_false_iff_not];omega
 have q2:decide ((xs.length:Int)-(p:Int)<(n:Int))=false:=by rw[decide_eq_false_iff_not];omega
 have hrd:=(h.rd.cut (k:=p) (cap:=c) (by omega) hcap).take (k:=n) (by omega);rw[Nat.mul_one,Nat.mul_one,show ((bl xs).drop p).take n=bl ((xs.drop p).take n) by simp[bl,List.map_drop,List.map_take]]at hrd;have hlen:((xs.drop p).take n).length=n:=by rw[List.length_take,List.length_drop];omega
 have Hlen:=ah hlen;have H:=ah h;have hglt:=h.blk.lt;clear h hlen;unfold o_;generalize (xs.drop p).take n=T at *;have b1:(0:Int)<=(p:Int):=by omega
 have b2:(p:Int)<=(p:Int)+(n:Int):=by omega
 have b3:(p:Int)+(n:Int)<=(c:Int):=by omega
 have b4:((p:Int)+(n:Int)).toNat=p+n:=by omega
 have b5:p+n-p=n:=by omega
 have k1:IntKind.i64.wrap (p:Int)=(p:Int):=IntWalk.i64_in _ (by omega);have k2:IntKind.i64.wrap ((p:Int)+(n:Int))=(p:Int)+(n:Int):=IntWalk.i64_in _ (by omega);go_enter Tryz.func66,Tryz.ntmps66;go_wp2_with fail;go_quiet (fail)
 go_wp2_with fail;have n1:Nx w (w.drewN nq):=(Ch.refl _ w).drewN nq;have HN1:=ah n1;have H1:=ah (H.out.nx n1);clear d0 d1 d2 q1 q2;have hsz:w.heap.size<=(w.drewN nq).heap.size:=n1.size;clear n1;generalize w.drewN nq=w1 at *;have KEEP:=ah (fun w' (c':Nx w1 w')=>show w'.cell? ⟨g,0,none⟩=some (.slice A xs.length c)/\w'.cell? ⟨g,1,none⟩=some (.int .i64 (p:Int)) from ⟨(H1.out.nx c').blk.cell 0,(H1.out.nx c').blk.cell 1⟩);obtain ⟨c0,c1⟩:=KEEP.out _ (Ch.refl _ _)
 have Xy:Hid (∀(k cap:Nat) (w5:World),w1.drew.heap.size<=k->w5.ownsRow w1.drew.heap.size 5 1 (.slice (some ⟨k,0,none⟩) n cap) n (bl T)->Nx w1 w5->jw w D g A c xs (p+n) 0 (w5.setCell ⟨g,1,none⟩ (.int .i64 ((p:Int)+(n:Int))))/\(w5.setCell ⟨g,1,none⟩ (.int .i64 ((p:Int)+(n:Int)))).ownsRow w.heap.size 5 1 (.slice (some ⟨k,0,none⟩) n cap) n (bl T)/\n<=cap/\w.heap.size<=k):=ah fun k cap w5 hk ho n5=>by
  have hk1:w1.heap.size<=k:=hk;obtain ⟨h2,c2⟩:=(H1.out.nx n5).dZ (p+n) hn;have e1:(.int .i64 ((p+n:Nat):Int):Value)=.int .i64 ((p:Int)+(n:Int)):=by simp
  rw[e1]at h2 c2;have hg1:g<w1.heap.size:=by omega
  obtain ⟨_,_,hv,hcp,_⟩:=z05 ho;injection hv with _ _ hv;subst hv;refine ⟨⟨h2,(HN1.out.tr n5).mono (fun _ _ hf=>hf.elim) |>.trans c2 fun _ _ e=>e⟩,z06 (iT ho hsz) c2 (fun j hj e=>?_),hcp,by omega⟩;simp[Value.ownBlock]at hj;omega
 have htw:=fun (A':Option Addr) (c2:Nat) (hr:Rd w D 1 A' n (bl T)) (w':World) (c':Nx w w')=>RH D A' n c2 T w' (hr.nx (by decide) c') (by omega);unfold pJ at htw;rw[Hlen.out]at htw;have HTW:=ah htw;clear htw;have Ro:=ah hrd;clear hrd;by_cases hcp:c=p
 ·rw[if_pos hcp]at Ro
  have hn0:n=0:=by omega
  subst hn0;obtain rfl:p=c:=hcp.symm;go_region_held3 (fun w'=>w'.cell? ⟨g,0,none⟩=some (.slice A xs.length p)/\w'.cell? ⟨g,1,none⟩=some (.int .i64 (p:Int))) (first|(with_reducible exact ⟨c0,c1⟩)|go_keep) ((go_at_call 19;refine (HTW.out _ _ Ro.out _ (HN1.out.drew)).mono ?_;rintro e w5 ⟨k,cap,rfl,hk1,hk2,ho, -,n5⟩;have M5:=ah (((Ch.refl (fun _=>False) _).drew).tr n5);obtain ⟨c0,c1⟩:=KEEP.out w5 M5.out;have HO:=ah ho;clear n5 ho))
  have hf5:=(H1.out.nx M5.out).blk.frozen;go_wp2_with fail;go_ret;exact ⟨k,cap,rfl,Xy.out k cap w5 hk1 HO.out M5.out⟩
 ·rw[if_neg hcp]at Ro
  go_region_held3 (fun w'=>w'.cell? ⟨g,0,none⟩=some (.slice A xs.length c)/\w'.cell? ⟨g,1,none⟩=some (.int .i64 (p:Int))) (first|(with_reducible exact ⟨c0,c1⟩)|go_keep) ((go_at_call 19;refine (HTW.out _ _ Ro.out _ (HN1.out.drew)).mono ?_;rintro e w5 ⟨k,cap,rfl,hk1,hk2,ho, -,n5⟩;have M5:=ah (((Ch.refl (fun _=>False) _).drew).tr n5);obtain ⟨c0,c1⟩:=KEEP.out w5 M5.out;have HO:=ah ho;clear n5 ho))
  have hf5:=(H1.out.nx M5.out).blk.frozen;go_wp2_with fail;go_ret;exact ⟨k,cap,rfl,Xy.out k cap w5 hk1 HO.out M5.out⟩
theorem mV (h:fB w D g A c xs p e) (he:e≠0) (n:Int):Calls Tryz.prog 66 #[.pointer (some ⟨g,0,none⟩),.int .i64 n] w fun en w'=>en=.returned (.slice none 0 0)/\w=w':=by
 have d2:w.cell? ⟨g,2,none⟩=some (.int .i64 e):=h.blk.cell 2;have hne:(e !=0)=true:=by rw[bne_iff_ne];exact he
 clear he h;go_enter Tryz.func66,Tryz.ntmps66;go_wp2_with fail;go_ret;exact ⟨rfl,rfl⟩
theorem mW (h:fB w D g A c xs p 0) (n:Nat) (hn:xs.length<p+n) (hn2:n<=1000000000):Calls Tryz.prog 66 #[.pointer (some ⟨g,0,none⟩),.int .i64 (n:Int)] w fun en w'=>en=.returned (.slice none 0 0)/\jw w D g A c xs p 3 w':=by
 have hle:=h.len;have hpos:=h.pos;have hcap:=h.cap;have d0:w.cell? ⟨g,0,none⟩=some (.slice A xs.length c):=h.blk.cell 0;have d1:w.cell? ⟨g,1,none⟩=some (.int .i64 (p:Int)):=h.blk.cell 1;have d2:w.cell? ⟨g,2,none⟩=some (.int .i64 0):=h.blk.cell 2;have k0:IntKind.i64.wrap ((xs.length:Int)-(p:Int))=(xs.length:Int)-(p:Int):=IntWalk.i64_in _ (by omega);have q1:decide ((n:Int)<0)=false:=by rw[decide_eq_false_iff_not];omega
 have q2:decide ((xs.length:Int)-(p:Int)<(n:Int))=true:=by rw[decide_eq_true_iff];omega
 have H:=ah h;clear h;go_enter Tryz.func66,Tryz.ntmps66;go_wp2_with fail;go_quiet (fail)
 have H1:=ah ((jw.refl H.out).drewN nq);have hf:=H1.out.cur.blk.frozen;have d2:(w.drewN nq).cell? ⟨g,2,none⟩=some (.int .i64 0):=H1.out.cur.blk.cell 2;generalize w.drewN nq=w1 at *;go_wp2_with fail;go_ret;exact ⟨rfl,H1.out.WQ 3⟩
theorem Gz (h:fB w D g A c xs p e) (m:Nat) (hm2:m<9223372036854775808):Calls Tryz.prog 63 #[.pointer (some ⟨g,0,none⟩),.int .i64 (m:Int)] w fun en w'=>en=.returned (.string (b_ (bM xs p e m).1))/\jw w D g A c xs (bM xs p e m).2.1 (bM xs p e m).2.2 w':=by
 have d1:w.cell? ⟨g,1,none⟩=some (.int .i64 (p:Int)):=h.blk.cell 1;have hpos:=h.pos;have hu:=KG h;have kw:IntKind.u64.wrap (m:Int)=(m:Int):=by rw[IntKind.wrap_u64];omega
 have hm0:¬(m:Int)<0:=by omega
 have hstr0:Value.string (b_ [])=.string ⟨#[]⟩:=rfl;have Hs0:=ah hstr0;clear hstr0;by_cases he:e=0
 ·subst he
  have hE:bM xs p 0 m=if (ay xs p).2.2≠0 then ([],p,(ay xs p).2.2) else if m<(ay xs p).1 then ([],p,5)
   else if xs.length-(p+(ay xs p).2.1)<(ay xs p).1 then ([],p,3)
   else ((xs.drop (p+(ay xs p).2.1)).take (ay xs p).1,p+(ay xs p).2.1+(ay xs p).1,0):=by unfold bM;rw[if_neg (by simp)]
  have hU:uF xs p 0=((ay xs p).1,p+(ay xs p).2.1,(ay xs p).2.2):=by unfold uF;rw[if_neg (by simp)]
  rw[hU]at hu;have hrl:=Ba h.pos;have hle:=h.len;have hlt:=OU h.ok p;have herr:=OM xs p;have hcap:=h.cap;have hby:=fun (w':World) (q v:Nat) (hq:q+v<=xs.length) (h':fB w' D g A c xs q 0)=>mY h' v hq;unfold o_ at hby;generalize ay xs p=t at *;obtain ⟨v,k,er⟩:=t;simp only at hu hrl hlt herr hE;have HE:=ah hE;have Hu:=ah hu;have kG:=ah hby;clear hE hu h hU hby;by_cases h0:er=0
  ·subst h0
   clear herr;have k1:IntKind.i64.wrap ((xs.length:Int)-((p+k:Nat):Int))=((xs.length-(p+k):Nat):Int):=by rw[IntWalk.i64_in _ (by omega)];omega
   have k2:IntKind.u64.wrap ((xs.length-(p+k):Nat):Int)=((xs.length-(p+k):Nat):Int):=by rw[IntKind.wrap_u64];omega
   by_cases hmv:m<v
   ·have hR:bM xs p 0 m=([],p,5):=by rw[HE.out,if_neg (by simp),if_pos hmv]
    have HR:=ah hR;have q2:decide ((m:Int)<(v:Int))=true:=by rw[decide_eq_true_eq];omega
    clear hR;go_enter Tryz.func63,Tryz.ntmps63;go_wp2_with fail;with_reducible refine Hu.out.mono ?_
    rintro e w1 ⟨rfl,h1⟩;have d1:w1.cell? ⟨g,1,none⟩=some (.int .i64 ((p+k:Nat):Int)):=h1.cur.blk.cell 1;have d2:w1.cell? ⟨g,2,none⟩=some (.int .i64 0):=h1.cur.blk.cell 2;have hf:=h1.cur.blk.frozen;have HT:=ah h1;clear h1;go_wp2_with fail;go_ret;rw[HR.out];exact ⟨rfl,HT.out.put p hpos 5⟩
   ·have q2:decide ((m:Int)<(v:Int))=false:=by rw[decide_eq_false_iff_not];omega
    by_cases hlv:xs.length-(p+k)<v
    ·have hR:bM xs p 0 m=([],p,3):=by rw[HE.out,if_neg (by simp),if_neg hmv,if_pos hlv]
     have HR:=ah hR;have q3:decide (((xs.length-(p+k):Nat):Int)<(v:Int))=true:=by rw[decide_eq_true_eq];omega
     clear hR;go_enter Tryz.func63,Tryz.ntmps63;go_wp2_with fail;with_reducible refine Hu.out.mono ?_
     rintro e w1 ⟨rfl,h1⟩;have d0:w1.cell? ⟨g,0,none⟩=some (.slice A xs.length c):=h1.cur.blk.cell 0;have d1:w1.cell? ⟨g,1,none⟩=some (.int .i64 ((p+k:Nat):Int)):=h1.cur.blk.cell 1;have d2:w1.cell? ⟨g,2,none⟩=some (.int .i64 0):=h1.cur.blk.cell 2;have HT:=ah h1;clear h1;go_wp2_with fail;go_quiet (fail)
     have HT2:=ah (HT.out.drewN nq);have hf:=HT2.out.cur.blk.frozen;have d1:(w1.drewN nq).cell? ⟨g,1,none⟩=some (.int .i64 ((p+k:Nat):Int)):=HT2.out.cur.blk.cell 1;have d2:(w1.drewN nq).cell? ⟨g,2,none⟩=some (.int .i64 0):=HT2.out.cur.blk.cell 2;generalize w1.drewN nq=w2 at *;go_wp2_with fail;go_ret;rw[HR.out];exact ⟨rfl,HT2.out.put p hpos 3⟩
    ·have hR:bM xs p 0 m=((xs.drop (p+k)).take v,p+k+v,0):=by rw[HE.out,if_neg (by simp),if_neg hmv,if_neg hlv]
     have HR:=ah hR;have q3:decide (((xs.length-(p+k):Nat):Int)<(v:Int))=false:=by rw[decide_eq_false_iff_not];omega
     have k3:IntKind.i64.wrap (v:Int)=(v:Int):=IntWalk.i64_in _ (by omega);have hub:xs.length-(p+k)<=1000000000:=(by omega);have SI:p+k+v<=xs.length:=(by omega);have hlen:((xs.drop (p+k)).take v).length=v:=by rw[List.length_take,List.length_drop];omega
     have hstr:=fun (D:Nat->Prop) (A:Option Addr) (c:Nat) (w:World) (h:Rd w D 1 A v (bl ((xs.drop (p+k)).take v)))=>xB (P:=Tryz.prog) w 27 9 5 Tryz.underlying27 Tryz.underlying5 Tryz.underlying9 D A v c _ h;have eU:=ah hstr;have kG:=ah (fun w' h'=>kG.out w' (p+k) v SI h');clear hR hstr hlen;generalize (xs.drop (p+k)).take v=T at *;go_enter Tryz.func63,Tryz.ntmps63;go_wp2_with fail;with_reducible refine Hu.out.mono ?_
     rintro e w1 ⟨rfl,h1⟩;have d0:w1.cell? ⟨g,0,none⟩=some (.slice A xs.length c):=h1.cur.blk.cell 0;have d1:w1.cell? ⟨g,1,none⟩=some (.int .i64 ((p+k:Nat):Int)):=h1.cur.blk.cell 1;have d2:w1.cell? ⟨g,2,none⟩=some (.int .i64 0):=h1.cur.blk.cell 2;have HT:=ah h1;clear h1;go_wp2_with fail;go_quiet (fail)
     go_wp2_with fail;have h2:=HT.out.drewN nq;with_reducible refine (kG.out _ h2.cur).mono ?_
     rintro e w3 ⟨kk,cap,rfl,t3,o3,sQ,hk3⟩;have r3:=Rd.bY o3;have e3:=eU.out _ _ cap w3 r3;have hT3:=h2.trans t3;go_wp2_with fail;go_ret;rw[HR.out];exact ⟨rfl,hT3⟩
  ·obtain ⟨rfl,rfl, -⟩:=herr.resolve_left h0
   have hR:bM xs p 0 m=([],p,er):=(by rw[HE.out,if_pos h0]);have HR:=ah hR;have hne:(er !=0)=true:=by rw[bne_iff_ne];exact h0
   clear hR herr h0;go_enter Tryz.func63,Tryz.ntmps63;go_wp2_with fail;with_reducible refine Hu.out.mono ?_
   rintro e w1 ⟨rfl,h1⟩;have d2:w1.cell? ⟨g,2,none⟩=some (.int .i64 er):=h1.cur.blk.cell 2;go_wp2_with fail;go_ret;rw[HR.out];exact ⟨rfl,h1⟩
 ·have hE:bM xs p e m=([],p,e):=by unfold bM;rw[if_pos (by simpa using he)]
  rw[show uF xs p e=(0,p,e) by unfold uF;rw[if_pos (by simpa using he)]]at hu;have HE:=ah hE;have Hu:=ah hu;have hne:(e !=0)=true:=by rw[bne_iff_ne];exact he
  clear hE hu he h;go_enter Tryz.func63,Tryz.ntmps63;go_wp2_with fail;with_reducible refine Hu.out.mono ?_
  rintro e w1 ⟨rfl,h1⟩;have d2:w1.cell? ⟨g,2,none⟩=some (.int .i64 e):=h1.cur.blk.cell 2;go_wp2_with fail;go_ret;rw[HE.out];exact ⟨rfl,h1⟩
end
theorem qE {b:List Nat} (h:4<=b.length):z15 b↔dL (b.take (b.length-4))=b:=by
 constructor
 ·intro ho
  unfold dL;rw[←ho.2,List.take_append_drop]
 ·intro e
  rw[←e];exact Yk _
theorem Gx (D:Nat->Prop) (A:Option Addr) (n c:Nat) (b:List Nat) (W:World) (hr:Rd W D 1 A n (bl b)) (ok:okB b) (hl:b.length=n) (hn:n<=1000000) (hc:n<=c):
 Calls Tryz.prog 97 #[.slice A n c] W (OH W b):=by
 by_cases h4:n<4
 ·have hno:¬z15 b:=fun h=>by have:=h.1;omega
  have hb4:b.length<4:=by omega
  clear hl;go_enter Tryz.func97,Tryz.ntmps97;go_wp2_with fail;go_ret2;exact ⟨fun h=>absurd h hno,fun _=>⟨by rw[if_pos hb4];rfl,Ch.refl _ _⟩⟩
 ·obtain ⟨m,hm⟩:∃m,n=m+4:=⟨n-4,by omega⟩
  subst hm;have htk:=hr.take (k:=m) (by omega);rw[Nat.mul_one,show (bl b).take m=bl (b.take m) by simp[bl,List.map_take]]at htk;have hoe:=qE (b:=b) (by omega);have hlen:b.length-4=m:=by omega
  rw[hlen]at hoe;have hT:(b.take m).length=m:=by rw[List.length_take];omega
  have YC:okB (b.take m):=fun x hx=>ok x (List.mem_of_mem_take hx);unfold OH;rw[hlen,if_neg (show ¬b.length<4 by omega)];have Hoe:=ah hoe;have hsl:=AY (b.take m);rw[hT]at hsl;have oks:=XF YC;have jg:=yG D A m c (b.take m) W htk YC hT (by omega);rw[hsl]at jg;have htw:=fun (w:World) (nx:Nx W w)=>RH D A m c (b.take m) w (htk.nx (by decide) nx) (by omega);unfold pJ at htw;rw[hT]at htw;have pF:=ah jg;have Htw:=ah htw;have Hr:=ah hr;clear hlen hoe hT jg htw htk hr hsl hl;generalize b.take m=T at *;generalize dL T=S at *;have c1:((m:Int)+4-4)=(m:Int):=by omega
  go_enter Tryz.func97,Tryz.ntmps97;go_wp2_with fail;with_reducible refine pF.out.mono ?_
  rintro e w1 ⟨k1,cap1,rfl,o1,hk1,hk1',hc1,_⟩;have HO1:=ah o1;have r1:=o1.fM;have hsame:=z30 _ D _ A (m+4) cap1 (m+4) c S b w1 r1 (Hr.out.nx (by decide) o1.nx) oks ok;clear o1 r1;by_cases heq:S=b
  ·rw[show decide (S=b)=true by simpa using heq]at hsame
   have fG:=ah hsame;have hopen:z15 b:=Hoe.out.2 heq;have Hop:=ah hopen;clear hsame heq hopen;go_wp2_with fail;refine fG.out.mono ?_;rintro e w2 ⟨rfl,rfl⟩;go_wp2_with fail;refine (Htw.out _ HO1.out.nx).mono ?_;rintro e w3 ⟨k,cap,rfl,hk2,hk3,ho, -,n3⟩;have HO:=ah ho;have N3:=ah n3;clear ho n3;go_wp2_with fail;go_ret2;obtain ⟨_,_,hv,hcp,_⟩:=z05 HO.out;injection hv with _ _ hv;subst hv;exact ⟨fun _=>⟨k,cap,rfl,⟨iT HO.out HO1.out.nx.size,HO1.out.nx.tr N3.out⟩,hcp⟩,fun h=>absurd Hop.out h⟩
  ·rw[show decide (S=b)=false by simpa using heq]at hsame
   have fG:=ah hsame;have hopen:¬z15 b:=fun h=>heq (Hoe.out.1 h);have Hop:=ah hopen;clear hsame heq hopen;go_wp2_with fail;refine fG.out.mono ?_;rintro e w2 ⟨rfl,rfl⟩;go_wp2_with fail;go_ret2;exact ⟨fun h=>absurd h Hop.out,fun _=>⟨rfl,HO1.out.nx⟩⟩
theorem KF (u:Nat) (W:World) (hu:u<18446744073709551616):Calls Tryz.prog 99 #[.int .u64 (u:Int)] W fun e w'=>e=.returned (.int .i64 (zag u))/\W=w':=by
 have hw:IntKind.i64.wrap ((u:Int) / 2)=(u:Int) / 2:=IntWalk.i64_in _ (by omega);by_cases h:u % 2=1
 ·have h1:((u:Int) % 2==1)=true:=by rw[beq_iff_eq];omega
  have hz:zag u= -((u / 2:Nat):Int)-1:=by unfold zag;rw[if_pos h]
  have Hz:=ah hz;clear hz h;go_enter Tryz.func99,Tryz.ntmps99;go_wp2_with fail;go_ret;exact ⟨UY (by rw[Hz.out];omega),rfl⟩
 ·have h1:((u:Int) % 2==1)=false:=by rw[beq_eq_false_iff_ne];omega
  have hz:zag u=((u / 2:Nat):Int):=by unfold zag;rw[if_neg h]
  have Hz:=ah hz;clear hz h;go_enter Tryz.func99,Tryz.ntmps99;go_wp2_with fail;go_ret;exact ⟨UY (by rw[Hz.out];omega),rfl⟩
end Go.Proofs.YtfljcllpmbnjaaaGreat
