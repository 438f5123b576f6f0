/- Contracts and plain laws that the last text rests on. Conditions: each theorem states its own. -/
import Derived.Test.YtpakjclpjcngmaaGreatKdQ7
import Derived.Test.YtpakjclpjcngmaaGreatKdQ8
set_option maxRecDepth 100000
set_option maxHeartbeats 16000000
set_option linter.unusedVariables false
namespace Go.Proofs.YtpakjclpjcngmaaGreat
open Go.RowKit
section
variable {w : World} {D : Nat → Prop} {g : Nat} {A : Option Addr} {c : Nat} {xs : List Nat} {p : Nat} {e : Int}
theorem z2b (h:aH w D g A c xs p 0) (v:Nat) (rest:List Nat) (hd:xs.drop p=ak v++rest) (most:Int) (hv:(v:Int)<=most) (hm2:most<=9223372036854775807):
 Calls Tryz.prog 76 #[.pointer (some ⟨g,0,none⟩),.int .i64 most] w fun en w'=>en=.returned (.int .i64 (v:Int))/\cO w D g A c xs (p+(ak v).length) 0 w':=by
 have hr:=Vh (v:=v) (by omega) h.pos hd
 have hE:aF xs p 0 most=(v,p+(ak v).length,0):=by
  unfold aF;rw[if_neg (by simp),hr,if_neg (by simp),if_neg (by simp only;omega)]
 have:=z17 h most (by omega) hm2;rw[hE]at this;exact this
theorem Ed (h:aH w D g A c xs p 0) (t rest:List Nat) (hd:xs.drop p=ak t.length++t++rest) (most:Int) (hv:(t.length:Int)<=most) (hm2:most<=9223372036854775807):
 Calls Tryz.prog 60 #[.pointer (some ⟨g,0,none⟩),.int .i64 most] w fun en w'=>en=.returned (.string (aX t))/\cO w D g A c xs (p+(ak t.length).length+t.length) 0 w':=by
 have hov:=Zp h;rw[show decide ((0:Int)≠0)=false by simp]at hov;have hlen:=h.len;have hdl:(xs.drop p).length=(ak t.length).length+t.length+rest.length:=by rw[hd];simp[Nat.add_assoc]
 rw[List.length_drop]at hdl;have hpos:=h.pos;have hr:=Vh (v:=t.length) (rest:=t++rest) (by omega) h.pos (by rw[hd,List.append_assoc]);have hu:=T_ h;rw[show uF xs p 0=(t.length,p+(ak t.length).length,0) by unfold uF;rw[if_neg (by simp),hr]]at hu
 have hd2:(xs.drop (p+(ak t.length).length)).take t.length=t:=by
  rw[z15 (rest:=t++rest) (by rw[hd,List.append_assoc]),List.take_left]
 have hcap:=h.cap;have d0:w.cell? ⟨g,0,none⟩=some (.slice A xs.length c):=h.blk.cell 0;have d1:w.cell? ⟨g,1,none⟩=some (.int .i64 (p:Int)):=h.blk.cell 1;have hby:=fun (w':World) (h':aH w' D g A c xs (p+(ak t.length).length) 0)=>z16 h' t.length (by omega);have hpl:=z05 (n:=t.length) (by omega);have hstr:=fun (D:Nat->Prop) (A:Option Addr) (c:Nat) (w:World) (h:Rd w D 1 A t.length (bl t))=>rX (P:=Tryz.prog) w 26 9 5 Tryz.underlying26 Tryz.underlying5 Tryz.underlying9 D A t.length c _ h;unfold Zj at hby;rw[hd2]at hby;have zZ:=ah hby;have Hu:=ah hu;have mM:=ah hov;have gK:=ah hstr;have H:=ah h;clear hby hu hov h hr hd hd2 hstr;obtain ⟨m,hm⟩:∃m,t.length=m:=⟨_,rfl⟩;obtain ⟨q,hq⟩:∃q,(ak t.length).length=q:=⟨_,rfl⟩;rw[hq]at zZ Hu hdl hpl ⊢;clear hq;rw[hm]at zZ Hu hdl hv gK ⊢;clear hm;have kw:IntKind.u64.wrap most=most:=by rw[IntKind.wrap_u64];omega
 have k1:IntKind.i64.wrap ((xs.length:Int)-((p+q:Nat):Int))=((xs.length-(p+q):Nat):Int):=by rw[IntWalk.i64_in _ (by omega)];omega
 have k2:IntKind.u64.wrap ((xs.length-(p+q):Nat):Int)=((xs.length-(p+q):Nat):Int):=by rw[IntKind.wrap_u64];omega
 have k3:IntKind.i64.wrap (m:Int)=(m:Int):=IntWalk.i64_in _ (by omega);have q1:decide (most<0)=false:=by rw[decide_eq_false_iff_not];omega
 have q2:decide (most<(m:Int))=false:=by rw[decide_eq_false_iff_not];omega
 have q3:decide (((xs.length-(p+q):Nat):Int)<(m:Int))=false:=by rw[decide_eq_false_iff_not];omega
 go_enter Tryz.func60,Tryz.ntmps60;go_wp2_with fail;with_reducible refine mM.out.mono ?_
 rintro e w1 ⟨rfl,rfl⟩;go_wp2_with fail;with_reducible refine Hu.out.mono ?_
 rintro e w1 ⟨rfl,h1⟩;have d0:w1.cell? ⟨g,0,none⟩=some (.slice A xs.length c):=h1.cur.blk.cell 0;have d1:w1.cell? ⟨g,1,none⟩=some (.int .i64 ((p+q:Nat):Int)):=h1.cur.blk.cell 1;have d2:w1.cell? ⟨g,2,none⟩=some (.int .i64 0):=h1.cur.blk.cell 2;have hub:xs.length-(p+q)<=1000000000:=by omega
 have HT:=ah h1;clear h1 Hu mM;go_wp2_with fail;go_quiet (fail)
 go_wp2_with fail;have h2:=HT.out.drewN nq;with_reducible refine (zZ.out _ h2.cur).mono ?_
 rintro e w3 ⟨k,cap,rfl,t3,o3,DC,hk3⟩;have r3:=Rd.dh o3;have e3:=gK.out _ _ cap w3 r3;have hT3:=h2.trans t3;go_wp2_with fail;go_ret;exact ⟨rfl,hT3⟩
end
def bT (xs:List Nat) (p:Nat) (e:Int) (m:Nat):List Nat×Nat×Int:=
 if e≠0 then ([],p,e) else if (aO xs p).2.2≠0 then ([],p,(aO xs p).2.2) else if m<(aO xs p).1 then ([],p,5)
 else if xs.length-(p+(aO xs p).2.1)<(aO xs p).1 then ([],p,3)
 else ((xs.drop (p+(aO xs p).2.1)).take (aO xs p).1,p+(aO xs p).2.1+(aO xs p).1,0)
section
variable {w : World} {D : Nat → Prop} {g : Nat} {A : Option Addr} {c : Nat} {xs : List Nat} {p : Nat} {e : Int}
theorem qQ (h:aH w D g A c xs p e) (m:Nat) (hm2:m<9223372036854775808):Calls Tryz.prog 60 #[.pointer (some ⟨g,0,none⟩),.int .i64 (m:Int)] w fun en w'=>en=.returned (.string (aX (bT xs p e m).1))/\cO w D g A c xs (bT xs p e m).2.1 (bT xs p e m).2.2 w':=by
 have hov:=Zp h;have kw:IntKind.u64.wrap (m:Int)=(m:Int):=by rw[IntKind.wrap_u64];omega
 have hstr0:Value.string (aX [])=.string ⟨#[]⟩:=rfl;by_cases he:e=0
 ·subst he
  rw[show decide ((0:Int)≠0)=false by simp]at hov;have hu:=T_ h;have hE:bT xs p 0 m=if (aO xs p).2.2≠0 then ([],p,(aO xs p).2.2) else if m<(aO xs p).1 then ([],p,5)
 else if xs.length-(p+(aO xs p).2.1)<(aO xs p).1 then ([],p,3)
 else ((xs.drop (p+(aO xs p).2.1)).take (aO xs p).1,p+(aO xs p).2.1+(aO xs p).1,0):=by unfold bT;rw[if_neg (by simp)]
  have hU:uF xs p 0=((aO xs p).1,p+(aO xs p).2.1,(aO xs p).2.2):=by unfold uF;rw[if_neg (by simp)]
  rw[hU]at hu;have hrl:=z3a h.pos;have hle:=h.len;have hlt:=z5e h.ok p;have herr:=z5P xs p;have hcap:=h.cap;have hpos:=h.pos;have d0:w.cell? ⟨g,0,none⟩=some (.slice A xs.length c):=h.blk.cell 0;have d1:w.cell? ⟨g,1,none⟩=some (.int .i64 (p:Int)):=h.blk.cell 1;have hby:=fun (w':World) (q v:Nat) (hq:q+v<=xs.length) (h':aH w' D g A c xs q 0)=>z16 h' v hq;unfold Zj at hby;generalize aO xs p=t at *;obtain ⟨v,k,er⟩:=t;simp only at hu hrl hlt herr hE;have HE:=ah hE;have Hu:=ah hu;have mM:=ah hov;have zZ:=ah hby;clear hE hu hov h hU hby;by_cases h0:er=0
  ·subst h0
   clear herr;have k1:IntKind.i64.wrap ((xs.length:Int)-((p+k:Nat):Int))=((xs.length-(p+k):Nat):Int):=by rw[IntWalk.i64_in _ (by omega)];omega
   have k2:IntKind.u64.wrap ((xs.length-(p+k):Nat):Int)=((xs.length-(p+k):Nat):Int):=by rw[IntKind.wrap_u64];omega
   have q1:decide ((m:Int)<0)=false:=by rw[decide_eq_false_iff_not];omega
   by_cases hmv:m<v
   ·have hR:bT xs p 0 m=([],p,5):=by rw[HE.out,if_neg (by simp),if_pos hmv]
    have HR:=ah hR;have q2:decide ((m:Int)<(v:Int))=true:=by rw[decide_eq_true_eq];omega
    clear hR;go_enter Tryz.func60,Tryz.ntmps60;go_wp2_with fail;with_reducible refine mM.out.mono ?_
    rintro e w1 ⟨rfl,rfl⟩;go_wp2_with fail;with_reducible refine Hu.out.mono ?_
    rintro e w1 ⟨rfl,h1⟩;have d0:w1.cell? ⟨g,0,none⟩=some (.slice A xs.length c):=h1.cur.blk.cell 0;have d1:w1.cell? ⟨g,1,none⟩=some (.int .i64 ((p+k:Nat):Int)):=h1.cur.blk.cell 1;have d2:w1.cell? ⟨g,2,none⟩=some (.int .i64 0):=h1.cur.blk.cell 2;have HT:=ah h1;clear h1;go_wp2_with fail;have h2:=HT.out;with_reducible refine (z3C h2.cur p hpos 5).mono ?_
    rintro e w2 ⟨rfl,h3⟩;go_wp2_with fail;go_ret;rw[HR.out];exact ⟨rfl,h2.trans h3⟩
   ·have q2:decide ((m:Int)<(v:Int))=false:=by rw[decide_eq_false_iff_not];omega
    by_cases hlv:xs.length-(p+k)<v
    ·have hR:bT xs p 0 m=([],p,3):=by rw[HE.out,if_neg (by simp),if_neg hmv,if_pos hlv]
     have HR:=ah hR;have q3:decide (((xs.length-(p+k):Nat):Int)<(v:Int))=true:=by rw[decide_eq_true_eq];omega
     clear hR;go_enter Tryz.func60,Tryz.ntmps60;go_wp2_with fail;with_reducible refine mM.out.mono ?_
     rintro e w1 ⟨rfl,rfl⟩;go_wp2_with fail;with_reducible refine Hu.out.mono ?_
     rintro e w1 ⟨rfl,h1⟩;have d0:w1.cell? ⟨g,0,none⟩=some (.slice A xs.length c):=h1.cur.blk.cell 0;have d1:w1.cell? ⟨g,1,none⟩=some (.int .i64 ((p+k:Nat):Int)):=h1.cur.blk.cell 1;have d2:w1.cell? ⟨g,2,none⟩=some (.int .i64 0):=h1.cur.blk.cell 2;have HT:=ah h1;clear h1;go_wp2_with fail;go_quiet (fail)
     go_wp2_with fail;have h2:=HT.out.drewN nq;with_reducible refine (z3C h2.cur p hpos 3).mono ?_
     rintro e w2 ⟨rfl,h3⟩;go_wp2_with fail;go_ret;rw[HR.out];exact ⟨rfl,h2.trans h3⟩
    ·have hR:bT xs p 0 m=((xs.drop (p+k)).take v,p+k+v,0):=by rw[HE.out,if_neg (by simp),if_neg hmv,if_neg hlv]
     have HR:=ah hR;have q3:decide (((xs.length-(p+k):Nat):Int)<(v:Int))=false:=by rw[decide_eq_false_iff_not];omega
     have k3:IntKind.i64.wrap (v:Int)=(v:Int):=IntWalk.i64_in _ (by omega);have hub:xs.length-(p+k)<=1000000000:=(by omega);have hpkv:p+k+v<=xs.length:=(by omega);have hlen:((xs.drop (p+k)).take v).length=v:=by rw[List.length_take,List.length_drop];omega
     have hstr:=fun (D:Nat->Prop) (A:Option Addr) (c:Nat) (w:World) (h:Rd w D 1 A v (bl ((xs.drop (p+k)).take v)))=>rX (P:=Tryz.prog) w 26 9 5 Tryz.underlying26 Tryz.underlying5 Tryz.underlying9 D A v c _ h;have gK:=ah hstr;have zZ:=ah (fun w' h'=>zZ.out w' (p+k) v hpkv h');clear hR hstr hlen;generalize (xs.drop (p+k)).take v=T at *;go_enter Tryz.func60,Tryz.ntmps60;go_wp2_with fail;with_reducible refine mM.out.mono ?_
     rintro e w1 ⟨rfl,rfl⟩;go_wp2_with fail;with_reducible refine Hu.out.mono ?_
     rintro e w1 ⟨rfl,h1⟩;have d0:w1.cell? ⟨g,0,none⟩=some (.slice A xs.length c):=h1.cur.blk.cell 0;have d1:w1.cell? ⟨g,1,none⟩=some (.int .i64 ((p+k:Nat):Int)):=h1.cur.blk.cell 1;have d2:w1.cell? ⟨g,2,none⟩=some (.int .i64 0):=h1.cur.blk.cell 2;have HT:=ah h1;clear h1;go_wp2_with fail;go_quiet (fail)
     go_wp2_with fail;have h2:=HT.out.drewN nq;with_reducible refine (zZ.out _ h2.cur).mono ?_
     rintro e w3 ⟨kk,cap,rfl,t3,o3,DC,hk3⟩;have r3:=Rd.dh o3;have e3:=gK.out _ _ cap w3 r3;have hT3:=h2.trans t3;go_wp2_with fail;go_ret;rw[HR.out];exact ⟨rfl,hT3⟩
  ·obtain ⟨rfl,rfl, -⟩:=herr.resolve_left h0
   have hR:bT xs p 0 m=([],p,er):=(by rw[HE.out,if_pos h0]);have HR:=ah hR;have hne:(er !=0)=true:=by rw[bne_iff_ne];exact h0
   have hne2:(er==0)=false:=by rw[beq_eq_false_iff_ne];exact h0
   clear hR herr h0;go_enter Tryz.func60,Tryz.ntmps60;go_wp2_with fail;with_reducible refine mM.out.mono ?_
   rintro e w1 ⟨rfl,rfl⟩;go_wp2_with fail;with_reducible refine Hu.out.mono ?_
   rintro e w1 ⟨rfl,h1⟩;have d2:w1.cell? ⟨g,2,none⟩=some (.int .i64 er):=h1.cur.blk.cell 2;go_wp2_with fail;go_ret;rw[HR.out];exact ⟨rfl,h1⟩
 ·have hE:bT xs p e m=([],p,e):=by unfold bT;rw[if_pos (by simpa using he)]
  rw[show decide (e≠0)=true by simpa using he]at hov;have HE:=ah hE;have mM:=ah hov;have H:=ah h;clear hE hov he h;go_enter Tryz.func60,Tryz.ntmps60;go_wp2_with fail;with_reducible refine mM.out.mono ?_
  rintro e w1 ⟨rfl,rfl⟩;go_wp2_with fail;go_ret;rw[HE.out];exact ⟨rfl,cO.refl H.out⟩
end
end Go.Proofs.YtpakjclpjcngmaaGreat
