/- Contracts and plain laws that the last text rests on. Conditions: each theorem states its own. -/
import Derived.Test.YtpakjclpjcngmaaGreatKbQ13
import Derived.Deep.RegionLaw
import Derived.BigRegion
import Derived.Deep.RegionHeld3
import Derived.Test.YtpakjclpjcngmaaGreatKbQ16
set_option maxRecDepth 100000
set_option maxHeartbeats 16000000
set_option linter.unusedVariables false
namespace Go.Proofs.YtpakjclpjcngmaaGreat
open Go.RowKit
structure aW (w:World) (D:Nat->Prop) (g:Nat) (A:Option Addr) (c:Nat) (xs:List Nat) (p:Nat) (e:Int):Prop where
 blk:aG w g 176 #[.slice A xs.length c,.int .i64 (p:Int),.int .i64 e]
 rd:Rd w D 1 A xs.length (bl xs)
 out:∀k,D k->k≠g
 bnd:∀k,D k->k<w.heap.size
 ok:okB xs
 len:xs.length<=1000000000
 cap:xs.length<=c
 pos:p<=xs.length
theorem aW.nx {w w':World} {D:Nat->Prop} {g:Nat} {A:Option Addr} {c:Nat} {xs:List Nat} {p:Nat} {e:Int} (h:aW w D g A c xs p e) (n:Nx w w'):aW w' D g A c xs p e:=
 ⟨h.blk.nx n,h.rd.nx (by decide) n,h.out,fun k hk=>Nat.lt_of_lt_of_le (h.bnd k hk) n.size,h.ok,h.len,h.cap,h.pos⟩
theorem aW.ch {w w':World} {D S:Nat->Prop} {g:Nat} {A:Option Addr} {c:Nat} {xs:List Nat} {p:Nat} {e:Int} (h:aW w D g A c xs p e) (n:Ch S w w') (hg:¬S g) (hD:∀k,D k->¬S k):aW w' D g A c xs p e:=
 ⟨h.blk.ch n hg,h.rd.ch (by decide) n (fun k _ hk=>hD k hk),h.out,fun k hk=>Nat.lt_of_lt_of_le (h.bnd k hk) n.size,h.ok,h.len,h.cap,h.pos⟩
theorem aW.dK {w:World} {D:Nat->Prop} {g:Nat} {A:Option Addr} {c:Nat} {xs:List Nat} {p:Nat} {e:Int} (h:aW w D g A c xs p e) (p':Nat) (hp:p'<=xs.length):
 aW (w.setCell ⟨g,1,none⟩ (.int .i64 (p':Int))) D g A c xs p' e/\Ch (· =g) w (w.setCell ⟨g,1,none⟩ (.int .i64 (p':Int))):=by
 have hc:Ch (fun k=>k=g) w (w.setCell ⟨g,1,none⟩ (.int .i64 (p':Int))):=Ch.setCell (S:=fun k=>k=g) (Ch.refl _ w) (p:=⟨g,1,none⟩) (fun _=>rfl) _;exact ⟨⟨h.blk.dK 1 _,h.rd.ch (by decide) hc (fun k _ hk e=>h.out k hk e),h.out,fun k hk=>Nat.lt_of_lt_of_le (h.bnd k hk) hc.size,h.ok,h.len,h.cap,hp⟩,hc⟩
theorem aW.aaO {w:World} {D:Nat->Prop} {g:Nat} {A:Option Addr} {c:Nat} {xs:List Nat} {p:Nat} {e:Int} (h:aW w D g A c xs p e) (e':Int):
 aW (w.setCell ⟨g,2,none⟩ (.int .i64 e')) D g A c xs p e'/\Ch (· =g) w (w.setCell ⟨g,2,none⟩ (.int .i64 e')):=by
 have hc:Ch (fun k=>k=g) w (w.setCell ⟨g,2,none⟩ (.int .i64 e')):=Ch.setCell (S:=fun k=>k=g) (Ch.refl _ w) (p:=⟨g,2,none⟩) (fun _=>rfl) _;exact ⟨⟨h.blk.dK 2 _,h.rd.ch (by decide) hc (fun k _ hk e=>h.out k hk e),h.out,fun k hk=>Nat.lt_of_lt_of_le (h.bnd k hk) hc.size,h.ok,h.len,h.cap,h.pos⟩,hc⟩
def dU (w:World) (D:Nat->Prop) (g:Nat) (A:Option Addr) (c:Nat) (xs:List Nat) (p:Nat) (e:Int) (w':World):Prop:=aW w' D g A c xs p e/\Ch (· =g) w w'
theorem dU.cur {w w':World} {D:Nat->Prop} {g:Nat} {A:Option Addr} {c:Nat} {xs:List Nat} {p:Nat} {e:Int} (h:dU w D g A c xs p e w'):aW w' D g A c xs p e:=h.1
theorem dU.lC {w w':World} {D:Nat->Prop} {g:Nat} {A:Option Addr} {c:Nat} {xs:List Nat} {p:Nat} {e:Int} (h:dU w D g A c xs p e w'):Ch (· =g) w w':=h.2
theorem dU.trans {a b d:World} {D:Nat->Prop} {g:Nat} {A:Option Addr} {c:Nat} {xs:List Nat} {p p':Nat} {e e':Int} (h:dU a D g A c xs p e b) (k:dU b D g A c xs p' e' d):dU a D g A c xs p' e' d:=⟨k.1,h.2.trans k.2 fun _ _ e=>e⟩
theorem dU.drewN {a b:World} {D:Nat->Prop} {g:Nat} {A:Option Addr} {c:Nat} {xs:List Nat} {p:Nat} {e:Int} (h:dU a D g A c xs p e b) (q:Nat):dU a D g A c xs p e (b.drewN q):=⟨h.1.nx ((Ch.refl _ b).drewN q),h.2.drewN q⟩
section
variable {w : World} {D : Nat → Prop} {g : Nat} {A : Option Addr} {c : Nat} {xs : List Nat} {p : Nat} {e : Int}
theorem dU.refl (h:aW w D g A c xs p e):dU w D g A c xs p e w:=⟨h,Ch.refl _ _⟩
theorem ZE (h:aW w D g A c xs p e):Calls Tryz.prog 129 #[.pointer (some ⟨g,0,none⟩)] w fun en w'=>en=.returned (.bool (decide (e≠0)))/\w=w':=by
 have d2:w.cell? ⟨g,2,none⟩=some (.int .i64 e):=h.blk.cell 2;clear h;by_cases he:e=0
 ·subst he
  go_enter Tryz.func129,Tryz.ntmps129;go_wp2_with fail;go_ret;exact ⟨by simp,rfl⟩
 ·have hne:(e !=0)=true:=by rw[bne_iff_ne];exact he
  have He:=ah he;clear he;go_enter Tryz.func129,Tryz.ntmps129;go_wp2_with fail;go_ret;exact ⟨by simp[He.out],rfl⟩
theorem z4g (h:aW w D g A c xs p e) (p':Nat) (hp:p'<=xs.length) (e':Int):Calls Tryz.prog 131 #[.pointer (some ⟨g,0,none⟩),.int .i64 (p':Int),.int .i64 e'] w fun en w'=>en=.returned (.tuple #[])/\dU w D g A c xs p' e' w':=by
 have hf:=h.blk.frozen;have d1:w.cell? ⟨g,1,none⟩=some (.int .i64 (p:Int)):=h.blk.cell 1;have d2:w.cell? ⟨g,2,none⟩=some (.int .i64 e):=h.blk.cell 2;have H:=ah h;clear h;go_enter Tryz.func131,Tryz.ntmps131;go_wp2_with fail;go_end0
 obtain ⟨h1,c1⟩:=H.out.dK p' hp;obtain ⟨h2,c2⟩:=h1.aaO e';exact ⟨rfl,h2,c1.trans c2 fun _ _ e=>e⟩
theorem XP (h:aW w D g A c xs p e):Calls Tryz.prog 241 #[.pointer (some ⟨g,0,none⟩)] w fun en w'=>en=.returned (.int .i64 (p:Int))/\w=w':=by
 have d1:w.cell? ⟨g,1,none⟩=some (.int .i64 (p:Int)):=h.blk.cell 1;clear h;go_enter Tryz.func241,Tryz.ntmps241;go_wp2_with fail;go_ret;exact ⟨rfl,rfl⟩
def dh (n p:Nat) (e:Int):Int:=if e≠0 then e else if p<n then 5 else 0
theorem Iu (h:aW w D g A c xs p e):Calls Tryz.prog 65 #[.pointer (some ⟨g,0,none⟩)] w fun en w'=>en=.returned (.int .i64 (dh xs.length p e))/\Dr w w':=by
 have d0:w.cell? ⟨g,0,none⟩=some (.slice A xs.length c):=h.blk.cell 0;have d1:w.cell? ⟨g,1,none⟩=some (.int .i64 (p:Int)):=h.blk.cell 1;have d2:w.cell? ⟨g,2,none⟩=some (.int .i64 e):=h.blk.cell 2;have hcap:=h.cap;clear h;by_cases he:e=0
 ·have hE:dh xs.length p e=if p<xs.length then 5 else 0:=by unfold dh;rw[if_neg (by simpa using he)]
  have HE:=ah hE;subst he;clear hE;by_cases hp:p<xs.length
  ·have hq:decide ((p:Int)<(xs.length:Int))=true:=by simp;omega
   go_enter Tryz.func65,Tryz.ntmps65;go_wp2_with fail;go_quiet (fail)
   go_wp2_with fail;go_ret;exact ⟨by rw[HE.out,if_pos hp];rfl,Dr.rJ _ _⟩
  ·have hq:decide ((p:Int)<(xs.length:Int))=false:=by simp;omega
   go_enter Tryz.func65,Tryz.ntmps65;go_wp2_with fail;go_quiet (fail)
   go_wp2_with fail;go_ret;exact ⟨by rw[HE.out,if_neg hp];rfl,Dr.rJ _ _⟩
 ·have hE:dh xs.length p e=e:=by unfold dh;rw[if_pos (by simpa using he)]
  have HE:=ah hE;have hne:(e !=0)=true:=by rw[bne_iff_ne];exact he
  clear hE he;go_enter Tryz.func65,Tryz.ntmps65;go_wp2_with fail;go_ret;exact ⟨by rw[HE.out];rfl,Dr.refl _⟩
end
theorem z4G {b:List Nat} {p:Nat} (hp:p<=b.length):p+(aS b p).2.1<=b.length:=by
 unfold aS;by_cases h:(p:Int)<0∨(b.length:Int)<=p
 ·rw[if_pos h];simpa using hp
 ·rw[if_neg h,Int.toNat_natCast]
  rcases z3P (b.drop p) 0 0 with e|⟨_,e,_⟩
  ·have:=(wL _ _ _ e).2
   rw[List.length_drop]at this;omega
  ·rw[e];exact hp
theorem yX {b:List Nat} (ok:okB b) (p:Int):(aS b p).1<18446744073709551616:=by
 unfold aS;split
 ·decide
 ·exact z4H _ 0 0 (fun x hx=>ok x (List.mem_of_mem_drop hx)) (by omega) (by decide)
theorem t_ (b:List Nat) (p:Int):(aS b p).2.2=0∨((aS b p).1=0/\(aS b p).2.1=0/\((aS b p).2.2=3∨(aS b p).2.2=4)):=by
 unfold aS;split
 ·exact .inr ⟨rfl,rfl,.inl rfl⟩
 ·exact z3P _ _ _
def uF (xs:List Nat) (p:Nat) (e:Int):Nat×Nat×Int:=if e≠0 then (0,p,e) else ((aS xs p).1,p+(aS xs p).2.1,(aS xs p).2.2)
section
variable {w : World} {D : Nat → Prop} {g : Nat} {A : Option Addr} {c : Nat} {xs : List Nat} {p : Nat} {e : Int}
theorem Pg (h:aW w D g A c xs p e):Calls Tryz.prog 130 #[.pointer (some ⟨g,0,none⟩)] w fun en w'=>en=.returned (.int .u64 ((uF xs p e).1:Int))/\dU w D g A c xs (uF xs p e).2.1 (uF xs p e).2.2 w':=by
 have hov:=ZE h;by_cases he:e=0
 ·have hE:uF xs p e=((aS xs p).1,p+(aS xs p).2.1,(aS xs p).2.2):=by unfold uF;rw[if_neg (by simpa using he)]
  subst he;rw[show decide ((0:Int)≠0)=false by simp]at hov;have hu:=fun q=>oU D A xs.length c xs p (w.drewN q) (h.rd.drewN q) h.ok rfl h.len h.cap (Nat.le_trans h.pos h.len);unfold Vy at hu;have hrl:=z4G h.pos;have hle:=h.len;have d0:w.cell? ⟨g,0,none⟩=some (.slice A xs.length c):=h.blk.cell 0;have d1:w.cell? ⟨g,1,none⟩=some (.int .i64 (p:Int)):=h.blk.cell 1;have d2:w.cell? ⟨g,2,none⟩=some (.int .i64 0):=h.blk.cell 2;have hf:=h.blk.frozen;have HE:=ah hE;generalize aS xs p=t at *;obtain ⟨v,k,er⟩:=t;simp only at hu hrl;have Hu:=ah hu;have qQ:=ah hov;have H:=ah h;clear hE hu hov h;go_enter Tryz.func130,Tryz.ntmps130;go_wp2_with fail;with_reducible refine qQ.out.mono ?_
  rintro e w1 ⟨rfl,rfl⟩;go_wp2_with fail;go_quiet ((go_at_call 196;exact z19 (Hu.out _)))
  go_wp2_with fail;go_ret;rw[HE.out];obtain ⟨h1,c1⟩:=(H.out.nx ((Ch.refl _ w).drewN nq)).dK (p+k) hrl;obtain ⟨h2,c2⟩:=h1.aaO er;have e1:(.int .i64 ((p:Int)+(k:Int)):Value)=.int .i64 ((p+k:Nat):Int):=by simp
  rw[e1];exact ⟨rfl,h2,((Ch.refl _ w).drewN nq).trans (c1.trans c2 fun _ _ e=>e) fun _ _ e=>e⟩
 ·have hE:uF xs p e=(0,p,e):=by unfold uF;rw[if_pos (by simpa using he)]
  rw[show decide (e≠0)=true by simpa using he]at hov;have HE:=ah hE;have qQ:=ah hov;have H:=ah h;clear hE hov he h;go_enter Tryz.func130,Tryz.ntmps130;go_wp2_with fail;with_reducible refine qQ.out.mono ?_
  rintro e w1 ⟨rfl,rfl⟩;go_wp2_with fail;go_ret;rw[HE.out];exact ⟨rfl,dU.refl H.out⟩
def bF (xs:List Nat) (p:Nat) (e:Int) (most:Int):Nat×Nat×Int:=
 if e≠0 then (0,p,e) else if (aS xs p).2.2≠0 then (0,p,(aS xs p).2.2) else if most<0∨most<((aS xs p).1:Int) then (0,p,2) else ((aS xs p).1,p+(aS xs p).2.1,0)
theorem UY (h:aW w D g A c xs p e) (most:Int) (hm: -9223372036854775808<=most) (hm2:most<=9223372036854775807):Calls Tryz.prog 76 #[.pointer (some ⟨g,0,none⟩),.int .i64 most] w fun en w'=>en=.returned (.int .i64 ((bF xs p e most).1:Int))/\dU w D g A c xs (bF xs p e most).2.1 (bF xs p e most).2.2 w':=by
 have hov:=ZE h;by_cases he:e=0
 ·subst he
  rw[show decide ((0:Int)≠0)=false by simp]at hov;have hu:=Pg h;have hE:bF xs p 0 most=if (aS xs p).2.2≠0 then (0,p,(aS xs p).2.2) else if most<0∨most<((aS xs p).1:Int) then (0,p,2) else ((aS xs p).1,p+(aS xs p).2.1,0):=by unfold bF;rw[if_neg (by simp)]
  have hU:uF xs p 0=((aS xs p).1,p+(aS xs p).2.1,(aS xs p).2.2):=by unfold uF;rw[if_neg (by simp)]
  rw[hU]at hu;have hrl:=z4G h.pos;have hle:=h.len;have hlt:=yX h.ok p;have herr:=t_ xs p;have d1:w.cell? ⟨g,1,none⟩=some (.int .i64 (p:Int)):=h.blk.cell 1;have hpos:=h.pos;generalize aS xs p=t at *;obtain ⟨v,k,er⟩:=t;simp only at hu hrl hlt herr hE;have HE:=ah hE;have Hu:=ah hu;have qQ:=ah hov;clear hE hu hov h hU;by_cases h0:er=0
  ·subst h0
   clear herr;by_cases hmn:most<0
   ·have hR:bF xs p 0 most=(0,p,2):=by rw[HE.out,if_neg (by simp),if_pos (.inl hmn)]
    have HR:=ah hR;clear hR;go_enter Tryz.func76,Tryz.ntmps76;go_wp2_with fail;with_reducible refine qQ.out.mono ?_
    rintro e w1 ⟨rfl,rfl⟩;go_wp2_with fail;with_reducible refine Hu.out.mono ?_
    rintro e w1 ⟨rfl,h1⟩;have d2:w1.cell? ⟨g,2,none⟩=some (.int .i64 0):=h1.cur.blk.cell 2;go_wp2_with fail;with_reducible refine (z4g h1.cur p hpos 2).mono ?_
    rintro e w2 ⟨rfl,h2⟩;have d2:w2.cell? ⟨g,2,none⟩=some (.int .i64 2):=h2.cur.blk.cell 2;go_wp2_with fail;go_ret;rw[HR.out];exact ⟨rfl,h1.trans h2⟩
   ·obtain ⟨m,rfl⟩:=Int.eq_ofNat_of_zero_le (show 0<=most by omega)
    have kw:IntKind.u64.wrap (m:Int)=(m:Int):=by rw[IntKind.wrap_u64];omega
    by_cases hmv:m<v
    ·have hR:bF xs p 0 m=(0,p,2):=by rw[HE.out,if_neg (by simp),if_pos (.inr (by omega))]
     have HR:=ah hR;clear hR;go_enter Tryz.func76,Tryz.ntmps76;go_wp2_with fail;with_reducible refine qQ.out.mono ?_
     rintro e w1 ⟨rfl,rfl⟩;go_wp2_with fail;with_reducible refine Hu.out.mono ?_
     rintro e w1 ⟨rfl,h1⟩;have d2:w1.cell? ⟨g,2,none⟩=some (.int .i64 0):=h1.cur.blk.cell 2;go_wp2_with fail;with_reducible refine (z4g h1.cur p hpos 2).mono ?_
     rintro e w2 ⟨rfl,h2⟩;have d2:w2.cell? ⟨g,2,none⟩=some (.int .i64 2):=h2.cur.blk.cell 2;go_wp2_with fail;go_ret;rw[HR.out];exact ⟨rfl,h1.trans h2⟩
    ·have hR:bF xs p 0 m=(v,p+k,0):=by rw[HE.out,if_neg (by simp),if_neg (by omega)]
     have HR:=ah hR;clear hR;go_enter Tryz.func76,Tryz.ntmps76;go_wp2_with fail;with_reducible refine qQ.out.mono ?_
     rintro e w1 ⟨rfl,rfl⟩;go_wp2_with fail;with_reducible refine Hu.out.mono ?_
     rintro e w1 ⟨rfl,h1⟩;have d2:w1.cell? ⟨g,2,none⟩=some (.int .i64 0):=h1.cur.blk.cell 2;go_wp2_with fail;go_ret;rw[HR.out];exact ⟨rfl,h1⟩
  ·obtain ⟨rfl,rfl, -⟩:=herr.resolve_left h0
   have hR:bF xs p 0 most=(0,p,er):=(by rw[HE.out,if_pos h0]);have HR:=ah hR;have hne:(er !=0)=true:=by rw[bne_iff_ne];exact h0
   have hne2:(er==0)=false:=by rw[beq_eq_false_iff_ne];exact h0
   clear hR herr h0;go_enter Tryz.func76,Tryz.ntmps76;go_wp2_with fail;with_reducible refine qQ.out.mono ?_
   rintro e w1 ⟨rfl,rfl⟩;go_wp2_with fail;with_reducible refine Hu.out.mono ?_
   rintro e w1 ⟨rfl,h1⟩;have d2:w1.cell? ⟨g,2,none⟩=some (.int .i64 er):=h1.cur.blk.cell 2;go_wp2_with fail;go_ret;rw[HR.out];exact ⟨rfl,h1⟩
 ·have hE:bF xs p e most=(0,p,e):=by unfold bF;rw[if_pos (by simpa using he)]
  rw[show decide (e≠0)=true by simpa using he]at hov;have HE:=ah hE;have qQ:=ah hov;have H:=ah h;clear hE hov he h;go_enter Tryz.func76,Tryz.ntmps76;go_wp2_with fail;with_reducible refine qQ.out.mono ?_
  rintro e w1 ⟨rfl,rfl⟩;go_wp2_with fail;go_ret;rw[HE.out];exact ⟨rfl,dU.refl H.out⟩
def Yz (w:World) (D:Nat->Prop) (g:Nat) (A:Option Addr) (c:Nat) (xs:List Nat) (p n:Nat) (en:Ending) (w':World):Prop:=
 ∃k cap,en=.returned (.slice (some ⟨k,0,none⟩) n cap)/\dU w D g A c xs (p+n) 0 w'/\w'.ownsRow w.heap.size 5 1 (.slice (some ⟨k,0,none⟩) n cap) n (bl ((xs.drop p).take n))/\n<=cap/\w.heap.size<=k
theorem VY (h:aW w D g A c xs p 0) (n:Nat) (hn:p+n<=xs.length):Calls Tryz.prog 132 #[.pointer (some ⟨g,0,none⟩),.int .i64 (n:Int)] w (Yz w D g A c xs p n):=by
 obtain ⟨i0,hi0,hz0,hz1,hz2⟩:=info_parts Tryz.info5;have hov:=ZE h;rw[show decide ((0:Int)≠0)=false by simp]at hov;have hle:=h.len;have hpos:=h.pos;have hcap:=h.cap;have d0:w.cell? ⟨g,0,none⟩=some (.slice A xs.length c):=h.blk.cell 0;have d1:w.cell? ⟨g,1,none⟩=some (.int .i64 (p:Int)):=h.blk.cell 1;have hf:=h.blk.frozen;have k0:IntKind.i64.wrap ((xs.length:Int)-(p:Int))=(xs.length:Int)-(p:Int):=IntWalk.i64_in _ (by omega);have q1:decide ((n:Int)<0)=false:=by rw[decide_eq_false_iff_not];omega
 have q2:decide ((xs.length:Int)-(p:Int)<(n:Int))=false:=by rw[decide_eq_false_iff_not];omega
 have qQ:=ah hov;have H:=ah h;clear hov h;go_enter Tryz.func132,Tryz.ntmps132;go_wp2_with fail;with_reducible refine qQ.out.mono ?_
 rintro e w1 ⟨rfl,rfl⟩;go_wp2_with fail;go_quiet (fail)
 go_wp2_with fail;have hn0:Nx w (w.drewN nq):=(Ch.refl _ w).drewN nq;obtain ⟨h2,c2⟩:=(H.out.nx hn0).dK (p+n) hn;have e1:(.int .i64 ((p+n:Nat):Int):Value)=.int .i64 ((p:Int)+(n:Int)):=by simp
 rw[e1]at h2 c2;have c02:Ch (fun k=>k=g) w ((w.drewN nq).setCell ⟨g,1,none⟩ (.int .i64 ((p:Int)+(n:Int)))):=(hn0.mono (fun _ _ hf=>hf.elim)).trans c2 fun _ _ e=>e;have hT2:dU w D g A c xs (p+n) 0 ((w.drewN nq).setCell ⟨g,1,none⟩ (.int .i64 ((p:Int)+(n:Int)))):=⟨h2,c02⟩;clear h2 c2 c02 e1 hn0 d0 d1 hf q1 q2 k0;generalize (w.drewN nq).setCell ⟨g,1,none⟩ (.int .i64 ((p:Int)+(n:Int)))=w2 at *;have d0:w2.cell? ⟨g,0,none⟩=some (.slice A xs.length c):=hT2.cur.blk.cell 0
 have d1:w2.cell? ⟨g,1,none⟩=some (.int .i64 ((p:Int)+(n:Int))):=by
  have:=hT2.cur.blk.cell 1;simpa using this
 have k1:IntKind.i64.wrap (p:Int)=(p:Int):=IntWalk.i64_in _ (by omega);have HT:=ah hT2;clear hT2;have jy:=HT.out.lC.size;have H1:Hid ((w2.alloc (.cells #[] 5)).drew.ownsRow w.heap.size 5 1 (.slice (some ⟨w2.heap.size,0,none⟩) 0 0) 0 []):=ah (World.ownsRow_made w2 #[] 0 jy (by simp[maxLen]) rfl);have hN:Nx w2 (w2.alloc (.cells #[] 5)).drew:=((Ch.refl _ w2).alloc _).drew
 have hfin:∀(v':Value) (w3:World),w3.ownsRow w.heap.size 5 1 v' (0+n) ([]++bl ((xs.drop p).take n))->(w2.alloc (.cells #[] 5)).drew.grownBy w3 (Value.ownBlock (.slice (some ⟨w2.heap.size,0,none⟩) 0 0))->
  (v'.ownBlock=Value.ownBlock (.slice (some ⟨w2.heap.size,0,none⟩) 0 0)∨v'.ownBlock=some (w2.alloc (.cells #[] 5)).drew.heap.size)->
  ∃k cap,v'=.slice (some ⟨k,0,none⟩) n cap/\Nx w2 w3/\w3.ownsRow w.heap.size 5 1 (.slice (some ⟨k,0,none⟩) n cap) n (bl ((xs.drop p).take n))/\n<=cap/\w.heap.size<=k:=fun v' w3 ho hg hat=>by
  have hnx:Nx w2 w3:=((Ch.refl _ w2).alloc (.cells #[] 5)).grown ⟨hg.os,hg.tape,hg.output,hg.size,hg.block⟩ (fun k hk hlt=>by simp[Value.ownBlock]at hk;omega)
  obtain ⟨k,hk⟩:∃k,v'.ownBlock=some k:=by
   rcases hat with e|e
   ·exact ⟨_,e⟩
   ·exact ⟨_,e⟩
  simp only[Nat.zero_add,List.nil_append]at ho;obtain ⟨cap,hv,h1,h2⟩:=z2m ho hk;have hlt:=(ho.lt k hk).1;subst hv;exact ⟨k,cap,rfl,hnx,ho,h1,hlt⟩
 have UF:=ah hfin;clear hfin;have hrd:=(HT.out.cur.rd.cut (k:=p) (cap:=c) (by omega) hcap).take (k:=n) (by omega);rw[Nat.mul_one,Nat.mul_one,show ((bl xs).drop p).take n=bl ((xs.drop p).take n) by simp[bl,List.map_drop,List.map_take]]at hrd;have Hrd:=ah (hrd.nx (by decide) hN);have KY:=ah (iL ((xs.drop p).take n));clear hrd;have b1:(0:Int)<=(p:Int):=by omega
 have b2:(p:Int)<=(p:Int)+(n:Int):=by omega
 have b3:(p:Int)+(n:Int)<=(c:Int):=by omega
 have b4:((p:Int)+(n:Int)).toNat=p+n:=by omega
 have b5:p+n-p=n:=by omega
 by_cases hcp:c=p
 ·rw[if_pos hcp]at Hrd
  have hn0:n=0:=by omega
  subst hn0;obtain rfl:p=c:=hcp.symm;go_region_held3 (fun w'=>w'.cell? ⟨g,0,none⟩=some (.slice A xs.length p)/\w'.cell? ⟨g,1,none⟩=some (.int .i64 ((p:Int)+((0:Nat):Int)))) (first|exact ⟨f0,f1⟩|go_keep) ((refine Ru _ (by rfl) (.tmp 37) (.tmp 52) _ (by rfl) w.heap.size 5 i0 _ 1 1 Tryz.underlying26 hi0 hz0 hz1 hz2 (by rfl) (by omega) (.slice (some ⟨w2.heap.size,0,none⟩) 0 0) 0 [] (by rfl) H1.out D _ 0 _ _ (by rfl) Hrd.out KY.out (by simp only[maxLen];omega) (by omega) (by simp;omega) ?_;intro v' w3 ho hg hat;obtain ⟨k,cap,hv,hnx,ho3,zY,hk3⟩:=UF.out v' w3 ho hg hat;clear ho hg hat;rw[hv];clear hv;have f0:w3.cell? ⟨g,0,none⟩=some (.slice A xs.length p):=(hnx.cell (World.block_lt_of_cell? w2 _ d0)).trans d0;have f1:w3.cell? ⟨g,1,none⟩=some (.int .i64 ((p:Int)+((0:Nat):Int))):=(hnx.cell (World.block_lt_of_cell? w2 _ d1)).trans d1))
  go_wp2_with fail;go_ret;exact ⟨k,cap,rfl,⟨HT.out.cur.nx hnx,HT.out.lC.tr hnx⟩,ho3,zY,hk3⟩
 ·rw[if_neg hcp]at Hrd
  go_region_held3 (fun w'=>w'.cell? ⟨g,0,none⟩=some (.slice A xs.length c)/\w'.cell? ⟨g,1,none⟩=some (.int .i64 ((p:Int)+(n:Int)))) (first|exact ⟨f0,f1⟩|go_keep) ((refine Ru _ (by rfl) (.tmp 37) (.tmp 52) _ (by rfl) w.heap.size 5 i0 _ 1 1 Tryz.underlying26 hi0 hz0 hz1 hz2 (by rfl) (by omega) (.slice (some ⟨w2.heap.size,0,none⟩) 0 0) 0 [] (by rfl) H1.out D _ n _ _ (by rfl) Hrd.out KY.out (by simp only[maxLen];omega) (by omega) (by simp;omega) ?_;intro v' w3 ho hg hat;obtain ⟨k,cap,hv,hnx,ho3,zY,hk3⟩:=UF.out v' w3 ho hg hat;clear ho hg hat;rw[hv];clear hv;have f0:w3.cell? ⟨g,0,none⟩=some (.slice A xs.length c):=(hnx.cell (World.block_lt_of_cell? w2 _ d0)).trans d0;have f1:w3.cell? ⟨g,1,none⟩=some (.int .i64 ((p:Int)+(n:Int))):=(hnx.cell (World.block_lt_of_cell? w2 _ d1)).trans d1))
  go_wp2_with fail;go_ret;exact ⟨k,cap,rfl,⟨HT.out.cur.nx hnx,HT.out.lC.tr hnx⟩,ho3,zY,hk3⟩
end
def XZ (W:World) (xs:List Nat) (e:Ending) (w':World):Prop:=
 ∃g A c,e=.returned (.pointer (some ⟨g,0,none⟩))/\aW w' (fun k=>W.heap.size<=k/\k<g) g A c xs 0 0/\Nx W w'/\W.heap.size<=g
theorem z4d (D:Nat->Prop) (A:Option Addr) (n c:Nat) (xs:List Nat) (W:World) (hr:Rd W D 1 A n (bl xs)) (ok:okB xs) (hl:xs.length=n) (hn:n<=1000000000):
 Calls Tryz.prog 58 #[.slice A n c] W (XZ W xs):=by
 obtain ⟨i0,hi0,hz0,hz1,hz2⟩:=info_parts Tryz.info5;have hlit:=ak.lit W W 5 (Ch.refl _ W) 1;have hr1:=hr.nx (by decide) hlit.nx;have Hl:=ah hl;have hb1:(Value.slice (some ⟨W.heap.size,0,none⟩) 0 0).ownBlock≠none:=by simp[Value.ownBlock]
 clear hl hr;go_enter Tryz.func58,Tryz.ntmps58;go_wp2_with (at_builtin;refine z05 rfl (.tmp 3) (.tmp 4) _ rfl 5 i0 _ 1 1 Tryz.underlying26 hi0 hz0 hz1 hz2 rfl (by omega) rfl hlit D A n c (bl xs) rfl hr1 (iL _) (by simp only[maxLen];omega) (by omega) ?_;intro v3 w3 o3 m3;obtain ⟨k,cap,hv,o4,hk1,hk2,hcap,hmx⟩:=gQ.rJ o3 (m3.some_ hb1);injection hv with hv;rw[hv])
 go_ret;have hnx:Nx w3 (w3.alloc (.cells #[.slice (some ⟨k,0,none⟩) n cap,.int .i64 0,.int .i64 0] 176)):=(Ch.refl _ w3).alloc _;rw[Nat.zero_add]at o4 hcap;refine ⟨w3.heap.size,some ⟨k,0,none⟩,cap,rfl,⟨?_,?_,fun j hj=>by omega,fun j hj=>by simp;omega,ok,by rw[Hl.out];exact hn,by rw[Hl.out];exact hcap,Nat.zero_le _⟩,o4.nx.tr hnx,o4.nx.size⟩
 ·have:=aG.new w3 176 #[.slice (some ⟨k,0,none⟩) n cap,.int .i64 0,.int .i64 0]
  rw[Hl.out];exact this
 ·have:=(o4.iy.nx (by decide) hnx).more (D':=fun j=>W.heap.size<=j/\j<w3.heap.size) fun j hj=>by omega
  rw[Hl.out];simpa using this
section
variable {w : World} {D : Nat → Prop} {g : Nat} {A : Option Addr} {c : Nat} {xs : List Nat} {p : Nat} {e : Int}
end
theorem Rd.below_ {w:World} {D:Nat->Prop} {size n:Nat} {A:Option Addr} {xs:List Value} (h:Rd w D size A n xs) (hs:0<size):Rd w (· <w.heap.size) size A n xs:=
 ⟨h.1,fun hn=>by
   obtain ⟨ad,e,hb,hc⟩:=h.2 hn;obtain ⟨ad',e',_,hlt⟩:=h.lt_ hs hn;rw[e]at e';injection e' with e';subst e';exact ⟨ad,e,hlt,hc⟩⟩
theorem z4c (l:List Bool):okB (pack l):=by
 intro x hx;unfold pack at hx;obtain ⟨i,_,rfl⟩:=List.mem_map.1 hx;exact z5e l i
theorem SK {xs:List Nat} (ok:okB xs) (hl:xs.length<=65535):okB (cO xs):=by
 intro x hx;unfold cO QG at hx;simp only[List.cons_append,List.nil_append,List.mem_cons]at hx;rcases hx with rfl|rfl|rfl|rfl|rfl|h
 ·omega
 ·omega
 ·omega
 ·omega
 ·omega
 ·exact ok x h
theorem Nu {xs:List Nat} (ok:okB xs) (hl:xs.length<=65535):okB (cZ xs):=by
 unfold cZ;split
 ·exact z4c _
 ·exact SK ok hl
theorem uP (xs:List Nat):(cZ xs).length<=xs.length+5:=by
 unfold cZ;split
 ·next h=>have:(cO xs).length=xs.length+5:=by simp[cO,QG]
          omega
 ·simp[cO,QG]
def gU (xs:List Nat):Nat:=if (cZ xs).length<xs.length then 1 else 0
def gB (xs:List Nat):List Nat:=if (cZ xs).length<xs.length then cZ xs else xs
def lH (kind:Nat) (xs:List Nat):List Nat:=[kind,gU xs]++aj xs.length++gB xs
def ay (kind:Nat) (xs:List Nat):List Nat:=dR (lH kind xs)
theorem Nv {xs:List Nat} (ok:okB xs) (hl:xs.length<=65536):okB (gB xs):=by
 unfold gB;split
 ·next h=>
  by_cases h5:xs.length<=65535
  ·exact Nu ok h5
  ·have hs:=nN xs
   unfold cZ at h ⊢;split
   ·exact z4c _
   ·next h2=>rw[if_neg h2]at h;omega
 ·exact ok
theorem z4M {kind:Nat} (hk:kind<256) {xs:List Nat} (ok:okB xs) (hl:xs.length<=65536):okB (lH kind xs):=by
 intro x hx;unfold lH at hx;rcases List.mem_append.1 hx with h|h
 ·rcases List.mem_append.1 h with h|h
  ·simp only[List.mem_cons,List.not_mem_nil,or_false]at h
   rcases h with rfl|rfl
   ·exact hk
   ·unfold gU;split<;>omega
  ·exact jJ (by omega) x h
 ·exact Nv ok hl x h
theorem z3e {kind:Nat} (hk:kind<256) {xs:List Nat} (ok:okB xs) (hl:xs.length<=65536):okB (ay kind xs):=n_ (z4M hk ok hl)
theorem KQ (xs:List Nat):(gB xs).length<=xs.length:=by
 unfold gB;split<;>omega
theorem qx {kind:Nat} {xs:List Nat} (hl:xs.length<=65536):(ay kind xs).length<=xs.length+16:=by
 unfold ay lH;rw[Iz,List.length_append,List.length_append];have h1:=KQ xs;have h2:=(z04 (n:=xs.length) (by omega)).2;simp only[List.length_cons,List.length_nil];omega
theorem ak.store {W w:World} {e:TypeId} {n g c:Nat} {xs:List Value} {size:Nat} (h:ak W w e size (.slice (some ⟨g,0,none⟩) n c) n xs) (j:Nat) (u:Value):
 ak W (w.setCell ⟨g,j,none⟩ u) e size (.slice (some ⟨g,0,none⟩) n c) n (xs.set j u):=
 ⟨(h.own.stored j u).1,h.nx.setCell (fun hlt=>absurd hlt (Nat.not_lt.2 (h.lt g rfl).1)) u⟩
def UW (W:World) (xs:List Nat) (e:Ending) (w':World):Prop:=
 ∃k cap,e=.returned (.tuple #[.slice (some ⟨k,0,none⟩) xs.length cap,.int .i64 0])/\ak W w' 5 1 (.slice (some ⟨k,0,none⟩) xs.length cap) xs.length (bl xs)/\xs.length<=cap
theorem z56 (D:Nat->Prop) (A:Option Addr) (n c kind:Nat) (xs:List Nat) (W:World) (hr:Rd W D 1 A n (bl xs)) (QS:∀k,D k->k<W.heap.size) (ok:okB xs) (hl:xs.length=n) (hc:n<=c) (hn:n<=65536) (hk:kind<256):
 Calls Tryz.prog 165 #[.int .u8 (kind:Int),.slice A n c] W (UW W (ay kind xs)):=by
 obtain ⟨i0,hi0,hz0,hz1,hz2⟩:=info_parts Tryz.info5;subst hl;have Tn:=z4M hk ok hn;have hdl:=uP xs;have hcl:(lH kind xs).length+4=(ay kind xs).length:=by unfold ay;rw[Iz]
 have HI:Hid (lH kind xs=[kind,gU xs]++aj xs.length++gB xs):=ah rfl;have HF:Hid (gU xs=if (cZ xs).length<xs.length then 1 else 0):=ah rfl;have HB:Hid (gB xs=if (cZ xs).length<xs.length then cZ xs else xs):=ah rfl;have HC:Hid (ay kind xs=dR (lH kind xs)):=ah rfl;have hdf:=ru D A xs.length c xs W hr ok rfl hc hn;unfold VI at hdf;have hpl:=z04 (n:=xs.length) (by omega);have hpu:=fun w=>U_ xs.length w (by omega);have okU:okB (aj xs.length):=jJ (by omega);generalize aj xs.length=pu at *;generalize cZ xs=ds at *;have Zn:=ah hdf;have mD:=ah hpu;clear hdf hpu;go_enter Tryz.func165,Tryz.ntmps165;go_wp2_with fail;with_reducible refine Zn.out.mono ?_
 rintro e w1 ⟨A1,c1,L,rfl,n1,hA,hB⟩;have HA:=ah hA;have HB2:=ah hB;clear hA hB;have o0:ak W (w1.alloc (.cells #[.int .u8 (kind:Int),.int .u8 1] 5)) 5 1 (.slice (some ⟨w1.heap.size,0,none⟩) 2 2) 2 (bl [kind,1]):=⟨YS w1 _ _ 1 _ 2 n1.size (by simp[maxLen]) (by simp),n1.alloc _⟩;have hb0:(Value.slice (some ⟨w1.heap.size,0,none⟩) 2 2).ownBlock≠none:=by simp[Value.ownBlock]
 go_wp2_with fail;with_reducible refine (mD.out _).mono ?_
 rintro e w2 ⟨k2,cap2,rfl,o2,hk2,hk2',hc2,_⟩;have o1:=o0.tr o2.nx;have r2:=o2.iy;have n2:Nx W w2:=o1.nx;have hrx:=hr.nx (by decide) n2;have hN1:=((Ch.refl (fun _=>False) w1).alloc (.cells #[.int .u8 (kind:Int),.int .u8 1] 5)).tr o2.nx;clear n1 o0
 have fin:∀(w5:World) (v5:Value),ak W w5 5 1 v5 (lH kind xs).length (bl (lH kind xs))->v5.ownBlock≠none->∃k cap,v5=.slice (some ⟨k,0,none⟩) (lH kind xs).length cap/\
  Calls Tryz.prog 114 #[.slice (some ⟨k,0,none⟩) (lH kind xs).length cap] w5 (gQ W 5 1 (ay kind xs).length (bl (ay kind xs))):=fun w5 v5 o hb=>by
  obtain ⟨k,cap,hv,o4,hk1,hk2,_,_⟩:=gQ.rJ o hb;injection hv with hv;subst hv
  have hil:(lH kind xs).length<=1000000000:=by
   have:=qx (kind:=kind) hn;omega
  refine ⟨k,cap,rfl,(Bh (fun j=>j=k) (some ⟨k,0,none⟩) _ cap (lH kind xs) w5 o4.iy (fun j e=>by omega) Tn rfl hil).mono ?_⟩;rintro e w6 ⟨k6,cap6,rfl,o6,h1,h2,h3,h4⟩;rw[hcl]at o6 h3 ⊢;exact ⟨k6,cap6,rfl,⟨jM o6.own o4.nx.size,o4.nx.tr o6.nx⟩,Nat.le_trans o4.nx.size h1,h2,h3,h4⟩
 have Fin:=ah fin;clear fin hcl;by_cases hlt:ds.length<xs.length
 ·obtain ⟨hL,D1,hr1⟩:=HA.out hlt
  subst hL;have hrd:=(hr1.below_ (by decide)).nx (by decide) hN1;clear hr1 HA HB2;have HF1:Hid (gU xs=1):=ah (by rw[HF.out,if_pos hlt]);have HB1:Hid (gB xs=ds):=ah (by rw[HB.out,if_pos hlt]);have hq:¬((xs.length:Int)<=(ds.length:Int)):=by omega
  clear HF HB
  go_wp2_with (at_builtin;first
   |(refine z05 rfl (.tmp 18) (.tmp 22) _ rfl 5 i0 _ 1 1 Tryz.underlying26 hi0 hz0 hz1 hz2 rfl (by omega) rfl o1 _ (some ⟨k2,0,none⟩) pu.length cap2 (bl pu) rfl r2 (iL _) (by simp only[maxLen];omega) (by omega) ?_;intro v3 w3 o3 m3;have m3:Moved w2 w3 (.slice (some ⟨w1.heap.size,0,none⟩) 2 2) v3:=m3;have hb3:=m3.some_ hb0;have Xq:=hrd.ch (by decide) m3.ch (fun k hk hd e=>by have hd2:k<w1.heap.size:=hd;have e2:w1.heap.size=k:=(by simpa [Value.ownBlock]using e);omega))
   |(refine z05 rfl (.tmp 32) (.tmp 33) _ rfl 5 i0 _ 1 1 Tryz.underlying26 hi0 hz0 hz1 hz2 rfl (by omega) rfl o3 _ A1 ds.length c1 (bl ds) rfl Xq (iL _) (by simp only[maxLen];omega) (by omega) ?_;intro v5 w5 o5 m5;obtain ⟨k5,cap5,hv5,hcall⟩:=Fin.out w5 v5 (by rw[HI.out,HF1.out,HB1.out,List.length_append,List.length_append,show bl ([kind,1]++pu++ds)=bl [kind,1]++bl pu++bl ds by simp[bl]];exact o5) (m5.some_ hb3);rw[hv5]))
  with_reducible refine hcall.mono ?_
  rintro e w6 ⟨k6,cap6,rfl,o6,_,_,h6,_⟩;go_wp2_with fail;go_ret2;exact ⟨k6,cap6,rfl,o6,h6⟩
 ·have hL:=HB2.out hlt
  clear HA HB2;have HF1:Hid (gU xs=0):=ah (by rw[HF.out,if_neg hlt]);have HB1:Hid (gB xs=xs):=ah (by rw[HB.out,if_neg hlt]);have hq:((xs.length:Int)<=(L:Int)):=by omega
  clear HF HB
  go_wp2_with (at_builtin;first
   |(refine z05 rfl (.tmp 18) (.tmp 22) _ rfl 5 i0 _ 1 1 Tryz.underlying26 hi0 hz0 hz1 hz2 rfl (by omega) rfl o1 _ (some ⟨k2,0,none⟩) pu.length cap2 (bl pu) rfl r2 (iL _) (by simp only[maxLen];omega) (by omega) ?_;intro v3 w3 o3 m3;obtain ⟨k3,cap3,hv3,o4,hk3,hk3',hc3,_⟩:=gQ.rJ o3 (m3.some_ hb0);injection hv3 with hv3;rw[hv3];have e31:w3.cell? ⟨k3,1,none⟩=some (.int .u8 1):=(o4.own.cellAt 1 (by omega)).trans rfl;have e3f:=o4.own.frozenAt 1;have o5:=o4.store 1 (.int .u8 0);have nx5:=o5.nx;have hrx5:=hr.nx (by decide) nx5)
   |(refine z05 rfl (.tmp 32) (.tmp 33) _ rfl 5 i0 _ 1 1 Tryz.underlying26 hi0 hz0 hz1 hz2 rfl (by omega) rfl o5 _ A xs.length c (bl xs) rfl hrx5 (iL _) (by simp only[maxLen];omega) (by omega) ?_;intro v5 w5 o6 m5;obtain ⟨k5,cap5,hv5,hcall⟩:=Fin.out w5 v5 (by rw[HI.out,HF1.out,HB1.out,List.length_append,List.length_append,show bl ([kind,0]++pu++xs)=(([]++bl [kind,1]++bl pu).set 1 (.int .u8 0))++bl xs by simp[bl]];exact o6) (Moved.some_ (v:=.slice (some ⟨k3,0,none⟩) (2+pu.length) cap3) m5 (by simp[Value.ownBlock]));rw[hv5]))
  with_reducible refine hcall.mono ?_
  rintro e w6 ⟨k6,cap6,rfl,o6,_,_,h6,_⟩;go_wp2_with fail;go_ret2;exact ⟨k6,cap6,rfl,o6,h6⟩
theorem ql (A:Option Addr) (n c kind:Nat) (W:World) (hn:65536<n):
 Calls Tryz.prog 165 #[.int .u8 (kind:Int),.slice A n c] W fun e w'=>e=.returned (.tuple #[.slice none 0 0,.int .i64 5])/\Nx W w':=by
 have Hd:=ah (z4A A n c W hn);go_enter Tryz.func165,Tryz.ntmps165;go_wp2_with fail;with_reducible refine Hd.out.mono ?_
 rintro e w1 ⟨rfl,n1⟩;go_wp2_with fail;go_ret2;exact ⟨rfl,n1⟩
def lu (l:List Bool):List Value:=l.map Value.bool
theorem EP (l:List Bool):(lu l).length=l.length:=by simp[lu]
theorem TN {l:List Bool} {k:Nat} (h:k<l.length):(lu l)[k]?=some (.bool l[k]):=by simp[lu,h]
def aP (l:List Bool):List Nat:=aj l.length++pack l
theorem z3h {l:List Bool} (h:l.length<=2048):okB (aP l):=fun x hx=>by
 rcases List.mem_append.1 hx with h1|h1
 ·exact jJ (by omega) x h1
 ·exact z4c l x h1
theorem VU {l:List Bool} (h:l.length<=2048):(aP l).length<=300:=by
 unfold aP;rw[List.length_append,Iy];have:=(z04 (n:=l.length) (by omega)).2;omega
theorem z3X (D:Nat->Prop) (A:Option Addr) (n c:Nat) (l:List Bool) (W:World) (hr:Rd W D 1 A n (lu l)) (hl:l.length=n) (hn:n<=2048):
 Calls Tryz.prog 104 #[.slice A n c] W (UW W (ay 4 (aP l))):=by
 obtain ⟨i0,hi0,hz0,hz1,hz2⟩:=info_parts Tryz.info5;subst hl;have hok:=z3h hn;have hcl:=VU hn;have HC:Hid (aP l=aj l.length++pack l):=ah rfl;have hpu:=fun w=>U_ l.length w (by omega);have hpl:=z04 (n:=l.length) (by omega);have mD:=ah hpu;have hw0:=iU.new W;have nw0:Nx W (W.alloc (.cells #[.slice none 0 0,.int .i64 0] 215)):=(Ch.refl _ W).alloc _;have h0:fO W (W.alloc (.cells #[.slice none 0 0,.int .i64 0] 215)) W.heap.size []:=⟨none,hw0,(fun j hj=>by cases hj),nw0⟩;clear hpu hw0 nw0;go_enter Tryz.func104,Tryz.ntmps104;go_wp2_with fail;go_loopw [12] (fun i wr=>∃k:Nat,k<=l.length/\i=.int .i64 (k:Int)/\fO W wr W.heap.size (l.take k)) (fun i _=>l.length-(intOf i).toNat)
 case atStart=>exact ⟨0,Nat.zero_le _,rfl,h0⟩
 case round=>
  clear h0;obtain ⟨w1,rfl⟩:∃w1:World,w1=wr:=⟨_,rfl⟩;obtain ⟨k,hk,rfl,h1,rw1,hh1,nx1⟩:=hrel;have hl1:(l.take k).length<=10000:=by rw[List.length_take];omega
  by_cases hlt:k<l.length
  ·obtain ⟨ad,u,rfl,Ht,hu,hcx⟩:=(hr.nx (by decide) nx1).at_ hlt
   rw[TN hlt]at hu;injection hu with hu;subst hu;have hsucc:l.take (k+1)=l.take k++[l[k]]:=List.take_succ_eq_append_getElem hlt;have Hs:=ah hsucc;clear hsucc;generalize l[k]=x at *;cases x
   ·go_wp2_with fail
    refine (VR W.heap.size h1 _ 0 1 w1 rw1 (by omega) (by omega) (by omega)).mono ?_;rintro e w2 ⟨rfl,t2⟩;have h2:=fO.next nx1 (Nat.le_refl _) hh1 t2;rw[show numBits 0 1=[false] by decide]at h2;go_wp2_with fail;go_roundw
    case rel=>exact ⟨k+1,by omega,by go_num,by rw[Hs.out];exact h2⟩
    case measure=>simp[intOf];omega
   ·go_wp2_with fail
    refine (VR W.heap.size h1 _ 1 1 w1 rw1 (by omega) (by omega) (by omega)).mono ?_;rintro e w2 ⟨rfl,t2⟩;have h2:=fO.next nx1 (Nat.le_refl _) hh1 t2;rw[show numBits 1 1=[true] by decide]at h2;go_wp2_with fail;go_roundw
    case rel=>exact ⟨k+1,by omega,by go_num,by rw[Hs.out];exact h2⟩
    case measure=>simp[intOf];omega
  ·have hkn:k=l.length:=by omega
   have htk:l.take k=l:=List.take_of_length_le (by omega);rw[htk]at rw1;clear htk;go_wp2_with fail;with_reducible refine (mD.out _).mono ?_
   rintro e w2 ⟨k2,cap2,rfl,o2,hk2,hk2',hc2,_⟩;have rw2:=rw1.ch o2.nx (fun hf=>hf) (fun _ _ hf=>hf);go_wp2_with fail;with_reducible refine (z42 W.heap.size h1 l w2 rw2 (by omega)).mono ?_
   rintro e w3 ⟨k3,cap3,rfl,hk3,hk3',ho3,Xq,nx3⟩;have o2':ak W w3 5 1 (.slice (some ⟨k2,0,none⟩) (aj l.length).length cap2) (aj l.length).length (bl (aj l.length)):=⟨jM (o2.tr nx3).own nx1.size,nx1.tr (o2.nx.tr nx3)⟩
   have fin:∀(w5:World) (v5:Value),ak W w5 5 1 v5 (aP l).length (bl (aP l))->v5.ownBlock≠none->∃k cap,v5=.slice (some ⟨k,0,none⟩) (aP l).length cap/\
    Calls Tryz.prog 165 #[.int .u8 4,.slice (some ⟨k,0,none⟩) (aP l).length cap] w5 (UW W (ay 4 (aP l))):=fun w5 v5 o hb=>by
    obtain ⟨k,cap,hv,o4,hk1,hk2,hcp,_⟩:=gQ.rJ o hb;injection hv with hv;subst hv;refine ⟨k,cap,rfl,(z56 (fun j=>j=k) (some ⟨k,0,none⟩) _ cap 4 (aP l) w5 o4.iy (fun j e=>by omega) hok rfl hcp (by omega) (by omega)).mono ?_⟩;rintro e w6 ⟨k6,cap6,rfl,o6,h6⟩;exact ⟨k6,cap6,rfl,⟨jM o6.own o4.nx.size,o4.nx.tr o6.nx⟩,h6⟩
   have Fin:=ah fin;clear fin ho3 o2 nx3;generalize aj l.length=pu at *;have hpkl:(pack l).length<=300:=by rw[Iy];omega
   generalize pack l=pk at *;go_wp2_with (at_builtin;refine z05 rfl (.tmp 23) (.tmp 24) _ rfl 5 i0 _ 1 1 Tryz.underlying26 hi0 hz0 hz1 hz2 rfl (by omega) rfl o2' _ (some ⟨k3,0,none⟩) pk.length cap3 (bl pk) rfl Xq (iL _) (by simp only[maxLen];omega) (by omega) ?_;intro v5 w5 o5 m5;obtain ⟨k5,cap5,hv5,hcall⟩:=Fin.out w5 v5 (by rw[HC.out,List.length_append,show bl (pu++pk)=bl pu++bl pk by simp[bl]];exact o5) (Moved.some_ (v:=.slice (some ⟨k2,0,none⟩) pu.length cap2) m5 (by simp[Value.ownBlock]));rw[hv5])
   with_reducible refine hcall.mono ?_
   rintro e w6 ⟨k6,cap6,rfl,o6,h6⟩;go_wp2_with fail;go_ret2;exact ⟨k6,cap6,rfl,o6,h6⟩
def QC (W:World) (xs:List Nat) (e:Ending) (w':World):Prop:=
 ∃g A c D,e=.returned (.tuple #[.pointer (some ⟨g,0,none⟩),.int .i64 0])/\aW w' D g A c xs 0 0/\Nx W w'/\W.heap.size<=g/\∀k,D k->W.heap.size<=k
theorem z54 (D:Nat->Prop) (A:Option Addr) (n c:Nat) (kind:Nat) (xs b:List Nat) (W:World) (hb:b=dR ([kind,0]++aj xs.length++xs)) (hr:Rd W D 1 A n (bl b)) (QS:∀k,D k->k<W.heap.size) (okx:okB xs) (hk:kind<256) (hl:b.length=n) (hc:n<=c) (hx:xs.length<=65536) (hx0:0<xs.length):
 Calls Tryz.prog 197 #[.int .u8 (kind:Int),.slice A n c] W (QC W xs):=by
 obtain ⟨pl,hpl⟩:∃pl,(aj xs.length).length=pl:=⟨_,rfl⟩;have kD:=z04 (n:=xs.length) (by omega);rw[hpl]at kD;obtain ⟨t,ht⟩:∃t,[kind,0]++aj xs.length++xs=t:=⟨_,rfl⟩;have htl:t.length=2+pl+xs.length:=by rw[←ht,List.length_append,List.length_append,hpl];rfl
 have okt:okB t:=by
  rw[←ht];intro x h;rcases List.mem_append.1 h with h|h
  ·rcases List.mem_append.1 h with h|h
   ·simp only[List.mem_cons,List.not_mem_nil,or_false]at h
    rcases h with rfl|rfl<;>omega
   ·exact jJ (by omega) x h
  ·exact okx x h
 have hnum:bF t 2 0 65536=(xs.length,2+pl,0):=by
  have h1:aS t (2:Nat)=(xs.length,pl,0):=by
   have:=z4F (v:=xs.length) (by omega) [kind,0] xs;rw[hpl,ht]at this;exact this
  unfold bF;rw[if_neg (by simp),h1,if_neg (by simp),if_neg (by simp only;omega)]
 have hdrop:t.drop (2+pl)=xs:=by
  rw[←ht];have e:([kind,0]++aj xs.length).length=2+pl:=by rw[List.length_append,hpl];rfl
  rw[←e,List.drop_left]
 have hhead:(t.drop 0).take 2=[kind,0]:=by rw[←ht];rfl
 rw[ht]at hb;have hbl:b.length-4=t.length:=by rw[hb,Iz];omega
 have hbt:b.take (b.length-4)=t:=by rw[hbl,hb];unfold dR;rw[List.take_left]
 have okb:okB b:=by rw[hb];exact n_ okt
 have hopen:Cj b:=by rw[hb];exact z4L t
 have hbn:b.length=t.length+4:=by rw[hb,Iz]
 have hop:=Bj D A n c b W hr QS okb hl (by omega) hc;unfold FC at hop;rw[hbt,hbl]at hop;have Hop:=ah hop;have lQ:=ah hopen;have FH:=ah hnum;have Qu:=ah hdrop;have VD:=ah hhead;have htl1:2+pl+xs.length<=t.length:=by omega
 have htl2:t.length<=2+pl+xs.length:=by omega
 clear htl;clear hop hopen hnum hdrop hhead hbt hbl hb ht hpl hbn hl hr okb;go_enter Tryz.func197,Tryz.ntmps197;go_wp2_with fail;with_reducible refine Hop.out.mono ?_
 rintro e w1 ⟨h1, -⟩;obtain ⟨k1,cap1,rfl,o1,hcap1⟩:=h1 lQ.out;have n1:=o1.nx;have r1:=o1.iy;go_wp2_with fail;with_reducible refine (z4d _ _ _ _ t w1 r1 okt rfl (by omega)).mono ?_
 rintro e w2 ⟨g,A2,c2,rfl,cu2,n2,hg⟩;have r2:=r1.nx (by decide) n2;go_wp2_with fail;refine (VY cu2 2 (by omega)).mono ?_;rintro e w3 ⟨k3,cap3,rfl,t3,o3,hc3,hk3⟩;rw[VD.out]at o3;rw[Nat.zero_add]at t3;have aay:k1≠g:=by have:=(o1.lt k1 rfl).2;omega
 have r3:=r2.ch (by decide) t3.lC (fun k _ e1 e2=>aay (by rw[←e1,←e2]));have n3:Nx W w3:=(n1.tr n2).trans t3.lC fun i hi e=>by have:=n1.size;omega
 go_wp2_with fail;have hnm:=UY t3.cur 65536 (by omega) (by omega);rw[FH.out]at hnm;with_reducible refine hnm.mono ?_
 rintro e w4 ⟨rfl,t4⟩;have t4:dU w3 _ g A2 c2 t (2+pl) 0 w4:=t4;clear hnm;have hk3g:k3≠g:=by have:=cu2.blk.lt;omega
 have o4:=iq o3 t4.lC (fun k hk e=>by simp[Value.ownBlock]at hk;omega);have r4:=r3.ch (by decide) t4.lC (fun k _ e1 e2=>aay (by rw[←e1,←e2]));have n4:Nx W w4:=n3.trans t4.lC fun i hi e=>by have:=n1.size;omega
 have cu4:=t4.cur
 have tail:∀w6,Nx w4 w6->w6.cell? ⟨k3,0,none⟩=some (.int .u8 (kind:Int))/\w6.cell? ⟨k3,1,none⟩=some (.int .u8 0)/\aW w6 _ g A2 c2 t (2+pl) 0/\Rd w6 (fun k=>k=k1) 1 (some ⟨k1,0,none⟩) t.length (bl t)/\Nx W w6:=fun w6 n6=>
  ⟨(iq o4 n6 (fun _ _ hf=>hf)).cellAt 0 (by omega),(iq o4 n6 (fun _ _ hf=>hf)).cellAt 1 (by omega),cu4.nx n6,r4.nx (by decide) n6,n4.tr n6⟩
 have Tail:=ah tail;have hend:=fun w6 (n6:Nx w4 w6)=>Iu (cu4.nx n6);have abh:=ah hend;have hk3w:k3<w4.heap.size:=(o4.lt k3 rfl).2;clear tail hend o4 r4 n4 cu4 t4 t3 o3 r3 n3 n1 n2 r1 r2 o1 cu2 Hop lQ FH VD;have ne1:(5:Int)≠0:=by decide
 ·have hE:dh t.length (2+pl) 0=5:=by unfold dh;rw[if_neg (by simp),if_pos (by omega)]
  have hcc:¬cap1=2+pl:=by omega
  go_wp2_with fail;have he1:=abh.out _ (Ch.refl _ w4);rw[hE]at he1;with_reducible refine he1.mono ?_
  rintro e w5 ⟨rfl,d5⟩;have n5:=d5.nx;clear he1 d5;go_wp2_with fail;have he2:=abh.out _ n5;rw[hE]at he2;with_reducible refine he2.mono ?_
  rintro e w6 ⟨rfl,d6⟩;obtain ⟨c0,c1,cu6,r6,n6⟩:=Tail.out w6 (n5.tr d6.nx);clear he2 d6 n5;go_wp2_with fail;with_reducible refine (XP cu6).mono ?_
  rintro e w7 ⟨rfl,rfl⟩;have b1:(0:Int)<=((2+pl:Nat):Int):=by omega
  have b2:((2+pl:Nat):Int)<=(t.length:Int):=by omega
  have hct:=r6.cut (k:=2+pl) (cap:=cap1) (by omega) hcap1;rw[Nat.mul_one,show (bl t).drop (2+pl)=bl (t.drop (2+pl)) by simp[bl,List.map_drop],Qu.out,if_neg hcc,show t.length-(2+pl)=xs.length by omega]at hct;have hle:t.length-(2+pl)=xs.length:=by omega
  have ha:Option.map (fun x=>Addr.add x (2+pl)) (some ⟨k1,0,none⟩)=some ⟨k1,2+pl,none⟩:=by
   simp only[Option.map_some,Option.some.injEq];unfold Addr.add;rw[if_neg (by omega)];simp
  rw[ha]at hct;clear ha h1;go_wp2_with fail;with_reducible refine (z4d _ _ _ _ xs w6 hct okx rfl (by omega)).mono ?_
  rintro e w7 ⟨g7,A7,c7,rfl,cu7,n7,hg7⟩;go_wp2_with fail;go_ret2;have hs6:=n6.size;exact ⟨g7,A7,c7,_,rfl,cu7,n6.tr n7,by omega,fun k hk=>by omega⟩
theorem Tryz.Og:(Tryz.prog.info? 4).map (fun i=>(i.zero,i.size,i.bytes))=some (some (.bool false),1,1):=by kernel_rfl
def Yw (w:World) (D:Nat->Prop) (g:Nat) (A:Option Addr) (c:Nat) (xs:List Nat) (l:List Bool) (e:Ending) (w':World):Prop:=
 ∃v,e=.returned v/\w'.ownsRow w.heap.size 4 1 v l.length (lu l)/\aW w' D g A c xs xs.length 0/\Ch (· =g) w w'
theorem Fe (D:Nat->Prop) (g:Nat) (A:Option Addr) (c:Nat) (l:List Bool) (W:World) (h:aW W D g A c (aP l) 0 0) (hn:l.length<=2048):
 Calls Tryz.prog 140 #[.pointer (some ⟨g,0,none⟩)] W (Yw W D g A c (aP l) l):=by
 obtain ⟨i0,hi0,hz0,hz1,hz2⟩:=info_parts Tryz.Og;obtain ⟨pl,hpl⟩:∃pl,(aj l.length).length=pl:=⟨_,rfl⟩;have kD:=z04 (n:=l.length) (by omega);rw[hpl]at kD;have hpk:=Iy l;have hfl:(aP l).length=pl+(l.length+7) / 8:=by unfold aP;rw[List.length_append,hpl,hpk]
 have hnum:bF (aP l) 0 0 2048=(l.length,pl,0):=by
  have h1:aS (aP l) (0:Nat)=(l.length,pl,0):=by
   have:=z4F (v:=l.length) (by omega) [] (pack l);rw[hpl]at this;exact this
  unfold bF;rw[if_neg (by simp),h1,if_neg (by simp),if_neg (by simp only;omega)];simp
 have hdrop:((aP l).drop pl).take ((l.length+7) / 8)=pack l:=by
  unfold aP;rw[←hpl,List.drop_left,List.take_of_length_le (by rw[hpk];exact Nat.le_refl _)]
 have hbit:∀k (hk:k<l.length),kH (pack l) k 1=kJ l[k]:=fun k hk=>by
  have e:kH (pack l) k 1=lN (pack l) k:=by simp[kH]
  rw[e,Fq];simp[List.getD,hk]
 have okp:okB (pack l):=z4c l;have FH:=ah hnum;have Qu:=ah hdrop;have Hbit:=ah hbit;have Hpk:=ah hpk;have Hfl:=ah hfl;have hm1:pl+(l.length+7) / 8<=(aP l).length:=by omega
 clear hnum hdrop hbit hpk hfl;have hnm:=UY h 2048 (by omega) (by omega);rw[FH.out]at hnm;have vC:=ah hnm;have lq:=h.bnd;clear hnm h hpl;generalize aP l=fc at *;go_enter Tryz.func140,Tryz.ntmps140;go_wp2_with fail;with_reducible refine vC.out.mono ?_
 rintro e w1 ⟨rfl,t1⟩;have t1:dU W D g A c fc pl 0 w1:=t1;have kd:((l.length:Int)+7) / 8=(((l.length+7) / 8:Nat):Int):=by omega
 obtain ⟨m,hm⟩:∃m,(l.length+7) / 8=m:=⟨_,rfl⟩;rw[hm]at kd hm1;have Hm:=ah hm;clear hm;go_wp2_with fail;with_reducible refine (VY t1.cur m hm1).mono ?_
 rintro e w2 ⟨k2,cap2,rfl,t2,o2,hc2,hk2⟩;rw[←Hm.out,Qu.out,Hm.out]at o2;have r2:=Rd.fH o2;have hpm:(pack l).length=m:=by rw[Hpk.out,Hm.out]
 go_wp2_with fail;with_reducible refine (rH _ _ m cap2 (pack l) w2 r2 (by omega) okp).mono ?_
 rintro e w3 ⟨rg,rh,rfl,rd3,hrg,hrh,hrg',hrh',n3⟩;have t3:dU W D g A c fc (pl+m) 0 w3:=⟨(t1.trans t2).cur.nx n3,(t1.trans t2).lC.tr n3⟩;have hsz:=(t1.trans t2).lC.size;have hgw:g<w2.heap.size:=(t1.trans t2).cur.blk.lt;have hs3:=n3.size;clear t1 t2 r2 o2;go_wp2_with fail;go_loopw [5,17] (fun v i wr=>∃k:Nat,k<=l.length/\i=.int .i64 (k:Int)/\h_ wr rg rh (pack l) k/\wr.ownsRow w3.heap.size 4 1 v k (lu (l.take k))/\Ch (· =rg) w3 wr) (fun _ i _=>l.length-(intOf i).toNat)
 case atStart=>exact ⟨0,Nat.zero_le _,rfl,rd3,World.ownsRow_nil _ _ _ _,Ch.refl _ _⟩
 case round=>
  obtain ⟨w4,rfl⟩:∃w4:World,w4=wr:=⟨_,rfl⟩;obtain ⟨k,hk,rfl,rd4,o4,c4⟩:=hrel;by_cases hlt:k<l.length
  ·have hbk:=Hbit.out k hlt
   have hsucc:lu (l.take (k+1))=lu (l.take k)++[.bool l[k]]:=by
    rw[List.take_succ_eq_append_getElem hlt];unfold lu;rw[List.map_append];rfl
   have Hs:=ah hsucc;clear hsucc;generalize l[k]=x at *;have hrb:=MW rg rh (pack l) k 1 w4 rd4 (by omega) (by omega);rw[hbk]at hrb;have Hrb:=ah hrb;clear hrb hbk
   have one:∀(w5:World) (u5:Value),Ch (· =rg) w4 w5->h_ w5 rg rh (pack l) (k+1)->∀(v':Value) (w6:World) (X:Obj),(w5.alloc X).grownBy w6 u5.ownBlock->(∀j,u5.ownBlock=some j->w3.heap.size<=j)->h_ w6 rg rh (pack l) (k+1)/\Ch (· =rg) w3 w6:=fun w5 u5 c5 rd5 v' w6 X hg hu=>by
    have c6:Ch (fun j=>u5.ownBlock=some j) w5 w6:=((Ch.refl _ w5).alloc X).grown hg fun j hj _=>hj;exact ⟨rd5.ch c6 (fun e=>by have:=hu _ e;omega) (fun e=>by have:=hu _ e;omega),(c4.trans c5 fun _ _ e=>e).trans c6 fun i hi e=>by have:=hu _ e;omega⟩
   have One:=ah one;clear one;cases x
   all_goals
    go_wp2_with fail;refine Hrb.out.mono ?_;rintro e w5 ⟨rfl,rd5,c5⟩;have o5:=iq o4 c5 (fun j hj e=>by have:=(o4.lt j hj).1;omega);have hu5:∀j,u5.ownBlock=some j->w3.heap.size<=j:=fun j hj=>(o4.lt j hj).1;have hw5:=(c4.trans c5 fun _ _ e=>e).size;simp only[kJ];go_wp2_with (at_builtin;refine z07 _ rfl (.tmp 24) (.tmp 27) _ rfl w3.heap.size 4 i0 _ 1 1 Tryz.underlying120 hi0 hz0 hz1 hz2 rfl (by omega) _ k (lu (l.take k)) rfl (iq o5 ((Ch.refl (fun _=>False) w5).alloc _) (fun _ _ hf=>hf)) (fun _=>True) _ 1 1 [_] rfl ⟨rfl,fun _=>⟨⟨w5.heap.size,0,none⟩,rfl,trivial,cell_one_new _ _ _⟩⟩ (by intro u hu;simp at hu;subst hu;rfl) (by simp only[maxLen];omega) (by omega) (by simp;omega) ?_;intro v' w6 h2 h3 h4)
    go_roundw
    case rel=>
     obtain ⟨q1,q2⟩:=One.out w5 u5 c5 rd5 v' w6 _ h3 hu5;exact ⟨k+1,by omega,by go_num,q1,by rw[Hs.out];exact h2,q2⟩
    case measure=>simp[intOf];omega
  ·obtain rfl:k=l.length:=by omega
   rw[List.take_length]at o4;have hfc:pl+m=fc.length:=(by rw[Hfl.out,Hm.out]);have hgr:g≠rg:=(by omega);go_wp2_with fail;go_ret;rw[hfc]at t3;exact ⟨_,rfl,jM o4 (by omega),t3.cur.ch c4 hgr (fun j hj e=>by have:=lq j hj;omega),t3.lC.trans c4 fun i hi e=>by omega⟩
def Io (W:World) (l:List Bool) (e:Ending) (w':World):Prop:=
 ∃v,e=.returned (.tuple #[v,.int .i64 0])/\ak W w' 4 1 v l.length (lu l)
theorem KA (D:Nat->Prop) (A:Option Addr) (n c:Nat) (l:List Bool) (W:World) (hr:Rd W D 1 A n (bl (ay 4 (aP l)))) (hl:(ay 4 (aP l)).length=n) (hn:l.length<=2048)
 (hcont:Calls Tryz.prog 197 #[.int .u8 4,.slice A n c] W (QC W (aP l))):
 Calls Tryz.prog 139 #[.int .u8 4,.slice A n c,.func (.func 140) #[] #[],.func (.func 104) #[] #[]] W (Io W l):=by
 have hput:=fun (D:Nat->Prop) (A:Option Addr) (c:Nat) (w:World) (h:Rd w D 1 A l.length (lu l))=>z3X D A l.length c l w h rfl hn;have hcl:=fun (D:Nat->Prop) (g:Nat) (A:Option Addr) (c:Nat) (w:World) (h:aW w D g A c (aP l) 0 0)=>Fe D g A c l w h hn;have hstr:=fun (D:Nat->Prop) (A:Option Addr) (c:Nat) (w:World) (h:Rd w D 1 A n (bl (ay 4 (aP l))))=>vI (P:=Tryz.prog) w 26 9 5 Tryz.underlying26 Tryz.underlying5 Tryz.underlying9 D A n c _ h;have FD:=ah hput;have Ll:=ah hcl;have jA:=ah hstr;have Hc:=ah hcont;clear hput hcl hstr hcont;generalize aP l=fc at *;generalize ay 4 fc=ch at *;subst hl;go_enter Tryz.func139,Tryz.ntmps139;go_wp2_with fail;with_reducible refine Hc.out.mono ?_
 rintro e w1 ⟨g,A1,c1,D1,rfl,cu1,n1,hg,hD1⟩;go_wp2_with fail;with_reducible refine (Ll.out _ _ _ _ _ cu1).mono ?_
 rintro e w2 ⟨v2,rfl,o2,cu2,c2⟩;have n2:Nx W w2:=n1.trans c2 fun i hi e=>by omega
 have hs1:=n1.size;have WR:ak W w2 4 1 v2 l.length (lu l):=⟨jM o2 hs1,n2⟩;obtain ⟨A2,cc2,rfl,_,_⟩:=z08 o2;have hen:=Iu cu2;rw[show dh fc.length fc.length 0=0 by unfold dh;rw[if_neg (by simp),if_neg (by omega)]]at hen;have lS:=ah hen;clear hen o2 c2 cu1 cu2;go_wp2_with fail;with_reducible refine lS.out.mono ?_
 rintro e w3 ⟨rfl,d3⟩;have o3:=WR.tr d3.nx;clear d3 lS;go_wp2_with fail;with_reducible refine (FD.out _ _ _ _ o3.rd).mono ?_
 rintro e w4 ⟨k4,cap4,rfl,o4,h4⟩;have o5:=o3.tr o4.nx;have n5:=o5.nx;have e1:=jA.out _ _ cap4 w4 o4.iy;have e2:=jA.out D A c w4 (hr.nx (by decide) n5);generalize bf ch=sx at *;go_wp2_with fail;go_ret2;exact ⟨_,rfl,o5⟩
theorem KF (D:Nat->Prop) (A:Option Addr) (n c:Nat) (l:List Bool) (W:World) (hr:Rd W D 1 A n (bl (ay 4 (aP l)))) (hl:(ay 4 (aP l)).length=n) (hn:l.length<=2048)
 (hcont:Calls Tryz.prog 197 #[.int .u8 4,.slice A n c] W (QC W (aP l))):
 Calls Tryz.prog 64 #[.slice A n c] W (Io W l):=by
 have Hr:=ah (KA D A n c l W hr hl hn hcont);clear hr hcont hl;go_enter Tryz.func64,Tryz.ntmps64;go_wp2_with fail;with_reducible refine Hr.out.mono ?_
 rintro e w1 ⟨v,rfl,h⟩;go_wp2_with fail;go_ret2;exact ⟨_,rfl,h⟩
end Go.Proofs.YtpakjclpjcngmaaGreat
