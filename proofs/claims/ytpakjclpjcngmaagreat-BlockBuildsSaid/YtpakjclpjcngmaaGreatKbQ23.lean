/- Contracts and plain laws that the last text rests on. Conditions: each theorem states its own. -/
import Derived.Test.YtpakjclpjcngmaaGreatKbQ17
import Derived.Test.YtpakjclpjcngmaaGreatKbQ8
set_option maxRecDepth 100000
set_option maxHeartbeats 16000000
set_option linter.unusedVariables false
namespace Go.Proofs.YtpakjclpjcngmaaGreat
open Go.RowKit
section
variable {w : World} {D : Nat → Prop} {g : Nat} {A : Option Addr} {c : Nat} {xs : List Nat} {p : Nat} {e : Int}
theorem YQ (h:aW w D g A c xs p 0) (v:Nat) (rest:List Nat) (hd:xs.drop p=aj v++rest) (most:Int) (hv:(v:Int)<=most) (hm2:most<=9223372036854775807):
 Calls Tryz.prog 76 #[.pointer (some ⟨g,0,none⟩),.int .i64 most] w fun en w'=>en=.returned (.int .i64 (v:Int))/\dU w D g A c xs (p+(aj v).length) 0 w':=by
 have hr:=QI (v:=v) (by omega) h.pos hd
 have hE:bF xs p 0 most=(v,p+(aj v).length,0):=by
  unfold bF;rw[if_neg (by simp),hr,if_neg (by simp),if_neg (by simp only;omega)]
 have:=UY h most (by omega) hm2;rw[hE]at this;exact this
theorem Bd (h:aW w D g A c xs p 0) (t rest:List Nat) (hd:xs.drop p=aj t.length++t++rest) (most:Int) (hv:(t.length:Int)<=most) (hm2:most<=9223372036854775807):
 Calls Tryz.prog 60 #[.pointer (some ⟨g,0,none⟩),.int .i64 most] w fun en w'=>en=.returned (.string (bf t))/\dU w D g A c xs (p+(aj t.length).length+t.length) 0 w':=by
 have hov:=ZE h;rw[show decide ((0:Int)≠0)=false by simp]at hov;have hlen:=h.len;have hdl:(xs.drop p).length=(aj t.length).length+t.length+rest.length:=by rw[hd];simp[Nat.add_assoc]
 rw[List.length_drop]at hdl;have hpos:=h.pos;have hr:=QI (v:=t.length) (rest:=t++rest) (by omega) h.pos (by rw[hd,List.append_assoc]);have hu:=Pg h;rw[show uF xs p 0=(t.length,p+(aj t.length).length,0) by unfold uF;rw[if_neg (by simp),hr]]at hu
 have hd2:(xs.drop (p+(aj t.length).length)).take t.length=t:=by
  rw[vJ (rest:=t++rest) (by rw[hd,List.append_assoc]),List.take_left]
 have hcap:=h.cap;have d0:w.cell? ⟨g,0,none⟩=some (.slice A xs.length c):=h.blk.cell 0;have d1:w.cell? ⟨g,1,none⟩=some (.int .i64 (p:Int)):=h.blk.cell 1;have hby:=fun (w':World) (h':aW w' D g A c xs (p+(aj t.length).length) 0)=>VY h' t.length (by omega);have hpl:=z04 (n:=t.length) (by omega);have hstr:=fun (D:Nat->Prop) (A:Option Addr) (c:Nat) (w:World) (h:Rd w D 1 A t.length (bl t))=>vI (P:=Tryz.prog) w 26 9 5 Tryz.underlying26 Tryz.underlying5 Tryz.underlying9 D A t.length c _ h;unfold Yz at hby;rw[hd2]at hby;have CG:=ah hby;have Hu:=ah hu;have qQ:=ah hov;have jA:=ah hstr;have H:=ah h;clear hby hu hov h hr hd hd2 hstr;obtain ⟨m,hm⟩:∃m,t.length=m:=⟨_,rfl⟩;obtain ⟨q,hq⟩:∃q,(aj t.length).length=q:=⟨_,rfl⟩;rw[hq]at CG Hu hdl hpl ⊢;clear hq;rw[hm]at CG Hu hdl hv jA ⊢;clear hm;have kw:IntKind.u64.wrap most=most:=by rw[IntKind.wrap_u64];omega
 have k1:IntKind.i64.wrap ((xs.length:Int)-((p+q:Nat):Int))=((xs.length-(p+q):Nat):Int):=by rw[IntWalk.i64_in _ (by omega)];omega
 have k2:IntKind.u64.wrap ((xs.length-(p+q):Nat):Int)=((xs.length-(p+q):Nat):Int):=by rw[IntKind.wrap_u64];omega
 have k3:IntKind.i64.wrap (m:Int)=(m:Int):=IntWalk.i64_in _ (by omega);have q1:decide (most<0)=false:=by rw[decide_eq_false_iff_not];omega
 have q2:decide (most<(m:Int))=false:=by rw[decide_eq_false_iff_not];omega
 have q3:decide (((xs.length-(p+q):Nat):Int)<(m:Int))=false:=by rw[decide_eq_false_iff_not];omega
 go_enter Tryz.func60,Tryz.ntmps60;go_wp2_with fail;with_reducible refine qQ.out.mono ?_
 rintro e w1 ⟨rfl,rfl⟩;go_wp2_with fail;with_reducible refine Hu.out.mono ?_
 rintro e w1 ⟨rfl,h1⟩;have d0:w1.cell? ⟨g,0,none⟩=some (.slice A xs.length c):=h1.cur.blk.cell 0;have d1:w1.cell? ⟨g,1,none⟩=some (.int .i64 ((p+q:Nat):Int)):=h1.cur.blk.cell 1;have d2:w1.cell? ⟨g,2,none⟩=some (.int .i64 0):=h1.cur.blk.cell 2;have hub:xs.length-(p+q)<=1000000000:=by omega
 have HT:=ah h1;clear h1 Hu qQ;go_wp2_with fail;go_quiet (fail)
 go_wp2_with fail;have h2:=HT.out.drewN nq;with_reducible refine (CG.out _ h2.cur).mono ?_
 rintro e w3 ⟨k,cap,rfl,t3,o3,zY,hk3⟩;have r3:=Rd.fH o3;have e3:=jA.out _ _ cap w3 r3;have hT3:=h2.trans t3;go_wp2_with fail;go_ret;exact ⟨rfl,hT3⟩
end
def dn (xs:List Nat) (p:Nat) (e:Int) (m:Nat):List Nat×Nat×Int:=
 if e≠0 then ([],p,e) else if (aS xs p).2.2≠0 then ([],p,(aS xs p).2.2) else if m<(aS xs p).1 then ([],p,5)
 else if xs.length-(p+(aS xs p).2.1)<(aS xs p).1 then ([],p,3)
 else ((xs.drop (p+(aS xs p).2.1)).take (aS xs p).1,p+(aS xs p).2.1+(aS xs p).1,0)
section
variable {w : World} {D : Nat → Prop} {g : Nat} {A : Option Addr} {c : Nat} {xs : List Nat} {p : Nat} {e : Int}
theorem Bf (h:aW w D g A c xs p e) (m:Nat) (hm2:m<9223372036854775808):Calls Tryz.prog 60 #[.pointer (some ⟨g,0,none⟩),.int .i64 (m:Int)] w fun en w'=>en=.returned (.string (bf (dn xs p e m).1))/\dU w D g A c xs (dn xs p e m).2.1 (dn xs p e m).2.2 w':=by
 have hov:=ZE h;have kw:IntKind.u64.wrap (m:Int)=(m:Int):=by rw[IntKind.wrap_u64];omega
 have hstr0:Value.string (bf [])=.string ⟨#[]⟩:=rfl;by_cases he:e=0
 ·subst he
  rw[show decide ((0:Int)≠0)=false by simp]at hov;have hu:=Pg h;have hE:dn xs p 0 m=if (aS xs p).2.2≠0 then ([],p,(aS xs p).2.2) else if m<(aS xs p).1 then ([],p,5)
 else if xs.length-(p+(aS xs p).2.1)<(aS xs p).1 then ([],p,3)
 else ((xs.drop (p+(aS xs p).2.1)).take (aS xs p).1,p+(aS xs p).2.1+(aS xs p).1,0):=by unfold dn;rw[if_neg (by simp)]
  have hU:uF xs p 0=((aS xs p).1,p+(aS xs p).2.1,(aS xs p).2.2):=by unfold uF;rw[if_neg (by simp)]
  rw[hU]at hu;have hrl:=z4G h.pos;have hle:=h.len;have hlt:=yX h.ok p;have herr:=t_ xs p;have hcap:=h.cap;have hpos:=h.pos;have d0:w.cell? ⟨g,0,none⟩=some (.slice A xs.length c):=h.blk.cell 0;have d1:w.cell? ⟨g,1,none⟩=some (.int .i64 (p:Int)):=h.blk.cell 1;have hby:=fun (w':World) (q v:Nat) (hq:q+v<=xs.length) (h':aW w' D g A c xs q 0)=>VY h' v hq;unfold Yz at hby;generalize aS xs p=t at *;obtain ⟨v,k,er⟩:=t;simp only at hu hrl hlt herr hE;have HE:=ah hE;have Hu:=ah hu;have qQ:=ah hov;have CG:=ah hby;clear hE hu hov h hU hby;by_cases h0:er=0
  ·subst h0
   clear herr;have k1:IntKind.i64.wrap ((xs.length:Int)-((p+k:Nat):Int))=((xs.length-(p+k):Nat):Int):=by rw[IntWalk.i64_in _ (by omega)];omega
   have k2:IntKind.u64.wrap ((xs.length-(p+k):Nat):Int)=((xs.length-(p+k):Nat):Int):=by rw[IntKind.wrap_u64];omega
   have q1:decide ((m:Int)<0)=false:=by rw[decide_eq_false_iff_not];omega
   by_cases hmv:m<v
   ·have hR:dn xs p 0 m=([],p,5):=by rw[HE.out,if_neg (by simp),if_pos hmv]
    have HR:=ah hR;have q2:decide ((m:Int)<(v:Int))=true:=by rw[decide_eq_true_eq];omega
    clear hR;go_enter Tryz.func60,Tryz.ntmps60;go_wp2_with fail;with_reducible refine qQ.out.mono ?_
    rintro e w1 ⟨rfl,rfl⟩;go_wp2_with fail;with_reducible refine Hu.out.mono ?_
    rintro e w1 ⟨rfl,h1⟩;have d0:w1.cell? ⟨g,0,none⟩=some (.slice A xs.length c):=h1.cur.blk.cell 0;have d1:w1.cell? ⟨g,1,none⟩=some (.int .i64 ((p+k:Nat):Int)):=h1.cur.blk.cell 1;have d2:w1.cell? ⟨g,2,none⟩=some (.int .i64 0):=h1.cur.blk.cell 2;have HT:=ah h1;clear h1;go_wp2_with fail;have h2:=HT.out;with_reducible refine (z4g h2.cur p hpos 5).mono ?_
    rintro e w2 ⟨rfl,h3⟩;go_wp2_with fail;go_ret;rw[HR.out];exact ⟨rfl,h2.trans h3⟩
   ·have q2:decide ((m:Int)<(v:Int))=false:=by rw[decide_eq_false_iff_not];omega
    by_cases hlv:xs.length-(p+k)<v
    ·have hR:dn xs p 0 m=([],p,3):=by rw[HE.out,if_neg (by simp),if_neg hmv,if_pos hlv]
     have HR:=ah hR;have q3:decide (((xs.length-(p+k):Nat):Int)<(v:Int))=true:=by rw[decide_eq_true_eq];omega
     clear hR;go_enter Tryz.func60,Tryz.ntmps60;go_wp2_with fail;with_reducible refine qQ.out.mono ?_
     rintro e w1 ⟨rfl,rfl⟩;go_wp2_with fail;with_reducible refine Hu.out.mono ?_
     rintro e w1 ⟨rfl,h1⟩;have d0:w1.cell? ⟨g,0,none⟩=some (.slice A xs.length c):=h1.cur.blk.cell 0;have d1:w1.cell? ⟨g,1,none⟩=some (.int .i64 ((p+k:Nat):Int)):=h1.cur.blk.cell 1;have d2:w1.cell? ⟨g,2,none⟩=some (.int .i64 0):=h1.cur.blk.cell 2;have HT:=ah h1;clear h1;go_wp2_with fail;go_quiet (fail)
     go_wp2_with fail;have h2:=HT.out.drewN nq;with_reducible refine (z4g h2.cur p hpos 3).mono ?_
     rintro e w2 ⟨rfl,h3⟩;go_wp2_with fail;go_ret;rw[HR.out];exact ⟨rfl,h2.trans h3⟩
    ·have hR:dn xs p 0 m=((xs.drop (p+k)).take v,p+k+v,0):=by rw[HE.out,if_neg (by simp),if_neg hmv,if_neg hlv]
     have HR:=ah hR;have q3:decide (((xs.length-(p+k):Nat):Int)<(v:Int))=false:=by rw[decide_eq_false_iff_not];omega
     have k3:IntKind.i64.wrap (v:Int)=(v:Int):=IntWalk.i64_in _ (by omega);have hub:xs.length-(p+k)<=1000000000:=(by omega);have hpkv:p+k+v<=xs.length:=(by omega);have hlen:((xs.drop (p+k)).take v).length=v:=by rw[List.length_take,List.length_drop];omega
     have hstr:=fun (D:Nat->Prop) (A:Option Addr) (c:Nat) (w:World) (h:Rd w D 1 A v (bl ((xs.drop (p+k)).take v)))=>vI (P:=Tryz.prog) w 26 9 5 Tryz.underlying26 Tryz.underlying5 Tryz.underlying9 D A v c _ h;have jA:=ah hstr;have CG:=ah (fun w' h'=>CG.out w' (p+k) v hpkv h');clear hR hstr hlen;generalize (xs.drop (p+k)).take v=T at *;go_enter Tryz.func60,Tryz.ntmps60;go_wp2_with fail;with_reducible refine qQ.out.mono ?_
     rintro e w1 ⟨rfl,rfl⟩;go_wp2_with fail;with_reducible refine Hu.out.mono ?_
     rintro e w1 ⟨rfl,h1⟩;have d0:w1.cell? ⟨g,0,none⟩=some (.slice A xs.length c):=h1.cur.blk.cell 0;have d1:w1.cell? ⟨g,1,none⟩=some (.int .i64 ((p+k:Nat):Int)):=h1.cur.blk.cell 1;have d2:w1.cell? ⟨g,2,none⟩=some (.int .i64 0):=h1.cur.blk.cell 2;have HT:=ah h1;clear h1;go_wp2_with fail;go_quiet (fail)
     go_wp2_with fail;have h2:=HT.out.drewN nq;with_reducible refine (CG.out _ h2.cur).mono ?_
     rintro e w3 ⟨kk,cap,rfl,t3,o3,zY,hk3⟩;have r3:=Rd.fH o3;have e3:=jA.out _ _ cap w3 r3;have hT3:=h2.trans t3;go_wp2_with fail;go_ret;rw[HR.out];exact ⟨rfl,hT3⟩
  ·obtain ⟨rfl,rfl, -⟩:=herr.resolve_left h0
   have hR:dn xs p 0 m=([],p,er):=(by rw[HE.out,if_pos h0]);have HR:=ah hR;have hne:(er !=0)=true:=by rw[bne_iff_ne];exact h0
   have hne2:(er==0)=false:=by rw[beq_eq_false_iff_ne];exact h0
   clear hR herr h0;go_enter Tryz.func60,Tryz.ntmps60;go_wp2_with fail;with_reducible refine qQ.out.mono ?_
   rintro e w1 ⟨rfl,rfl⟩;go_wp2_with fail;with_reducible refine Hu.out.mono ?_
   rintro e w1 ⟨rfl,h1⟩;have d2:w1.cell? ⟨g,2,none⟩=some (.int .i64 er):=h1.cur.blk.cell 2;go_wp2_with fail;go_ret;rw[HR.out];exact ⟨rfl,h1⟩
 ·have hE:dn xs p e m=([],p,e):=by unfold dn;rw[if_pos (by simpa using he)]
  rw[show decide (e≠0)=true by simpa using he]at hov;have HE:=ah hE;have qQ:=ah hov;have H:=ah h;clear hE hov he h;go_enter Tryz.func60,Tryz.ntmps60;go_wp2_with fail;with_reducible refine qQ.out.mono ?_
  rintro e w1 ⟨rfl,rfl⟩;go_wp2_with fail;go_ret;rw[HE.out];exact ⟨rfl,dU.refl H.out⟩
end
end Go.Proofs.YtpakjclpjcngmaaGreat
