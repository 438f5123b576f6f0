/- Contracts and plain laws that the last text rests on. Conditions: each theorem states its own. -/
import Derived.Test.YtfljcllpmbnjaaaGreatKdQ9
import Derived.Test.YtfljcllpmbnjaaaGreatKdPdPlainWd
set_option maxRecDepth 100000
set_option maxHeartbeats 16000000
set_option linter.unusedVariables false
namespace Go.Proofs.YtfljcllpmbnjaaaGreat
open Go.RowKit
section
variable {w : World} {D : Nat → Prop} {g : Nat} {A : Option Addr} {c : Nat} {xs : List Nat} {p : Nat} {e : Int}
theorem Ul (h:aJ w D g A c xs p 0) (v:Nat) (rest:List Nat) (hd:xs.drop p=aj v++rest) (most:Int) (hv:(v:Int)<=most) (hm2:most<=9223372036854775807):
 Calls Tryz.prog 60 #[.pointer (some ⟨g,0,none⟩),.int .i64 most] w fun en w'=>en=.returned (.int .i64 (v:Int))/\dA w D g A c xs (p+(aj v).length) 0 w':=by
 have hr:=Jk (v:=v) (by omega) h.pos hd
 have hE:aB xs p 0 most=(v,p+(aj v).length,0):=by
  unfold aB;rw[if_neg (by simp),hr,if_neg (by simp),if_neg (by simp only;omega)]
 have:=FT h most (by omega) hm2;rw[hE]at this;exact this
theorem zN (h:aJ w D g A c xs p 0) (t rest:List Nat) (hd:xs.drop p=aj t.length++t++rest) (most:Int) (hv:(t.length:Int)<=most) (hm2:most<=9223372036854775807):
 Calls Tryz.prog 61 #[.pointer (some ⟨g,0,none⟩),.int .i64 most] w fun en w'=>en=.returned (.string (b_ t))/\dA w D g A c xs (p+(aj t.length).length+t.length) 0 w':=by
 have hov:=RF h;rw[show decide ((0:Int)≠0)=false by simp]at hov;have hlen:=h.len;have hdl:(xs.drop p).length=(aj t.length).length+t.length+rest.length:=by rw[hd];simp[Nat.add_assoc]
 rw[List.length_drop]at hdl;have hpos:=h.pos;have hr:=Jk (v:=t.length) (rest:=t++rest) (by omega) h.pos (by rw[hd,List.append_assoc]);have hu:=Nj h;rw[show uF xs p 0=(t.length,p+(aj t.length).length,0) by unfold uF;rw[if_neg (by simp),hr]]at hu
 have hd2:(xs.drop (p+(aj t.length).length)).take t.length=t:=by
  rw[Aw (rest:=t++rest) (by rw[hd,List.append_assoc]),List.take_left]
 have hcap:=h.cap;have d0:w.cell? ⟨g,0,none⟩=some (.slice A xs.length c):=h.blk.cell 0;have d1:w.cell? ⟨g,1,none⟩=some (.int .i64 (p:Int)):=h.blk.cell 1;have hby:=fun (w':World) (h':aJ w' D g A c xs (p+(aj t.length).length) 0)=>z12 h' t.length (by omega);have hpl:=z07 (n:=t.length) (by omega);have hstr:=fun (D:Nat->Prop) (A:Option Addr) (c:Nat) (w:World) (h:Rd w D 1 A t.length (bl t))=>xB (P:=Tryz.prog) w 27 9 5 Tryz.underlying27 Tryz.underlying5 Tryz.underlying9 D A t.length c _ h;unfold Rx at hby;rw[hd2]at hby;have kG:=ah hby;have Hu:=ah hu;have jS:=ah hov;have eU:=ah hstr;have H:=ah h;clear hby hu hov h hr hd hd2 hstr;obtain ⟨m,hm⟩:∃m,t.length=m:=⟨_,rfl⟩;obtain ⟨q,hq⟩:∃q,(aj t.length).length=q:=⟨_,rfl⟩;rw[hq]at kG Hu hdl hpl ⊢;clear hq;rw[hm]at kG Hu hdl hv eU ⊢;clear hm;have kw:IntKind.u64.wrap most=most:=by rw[IntKind.wrap_u64];omega
 have k1:IntKind.i64.wrap ((xs.length:Int)-((p+q:Nat):Int))=((xs.length-(p+q):Nat):Int):=by rw[IntWalk.i64_in _ (by omega)];omega
 have k2:IntKind.u64.wrap ((xs.length-(p+q):Nat):Int)=((xs.length-(p+q):Nat):Int):=by rw[IntKind.wrap_u64];omega
 have k3:IntKind.i64.wrap (m:Int)=(m:Int):=IntWalk.i64_in _ (by omega);have q1:decide (most<0)=false:=by rw[decide_eq_false_iff_not];omega
 have q2:decide (most<(m:Int))=false:=by rw[decide_eq_false_iff_not];omega
 have q3:decide (((xs.length-(p+q):Nat):Int)<(m:Int))=false:=by rw[decide_eq_false_iff_not];omega
 go_enter Tryz.func61,Tryz.ntmps61;go_wp2_with fail;with_reducible refine jS.out.mono ?_
 rintro e w1 ⟨rfl,rfl⟩;go_wp2_with fail;with_reducible refine Hu.out.mono ?_
 rintro e w1 ⟨rfl,h1⟩;have d0:w1.cell? ⟨g,0,none⟩=some (.slice A xs.length c):=h1.cur.blk.cell 0;have d1:w1.cell? ⟨g,1,none⟩=some (.int .i64 ((p+q:Nat):Int)):=h1.cur.blk.cell 1;have d2:w1.cell? ⟨g,2,none⟩=some (.int .i64 0):=h1.cur.blk.cell 2;have hub:xs.length-(p+q)<=1000000000:=by omega
 have HT:=ah h1;clear h1 Hu jS;go_wp2_with fail;go_quiet (fail)
 go_wp2_with fail;have h2:=HT.out.drewN nq;with_reducible refine (kG.out _ h2.cur).mono ?_
 rintro e w3 ⟨k,cap,rfl,t3,o3,sQ,hk3⟩;have r3:=Rd.bY o3;have e3:=eU.out _ _ cap w3 r3;have hT3:=h2.trans t3;go_wp2_with fail;go_ret;exact ⟨rfl,hT3⟩
end
def bM (xs:List Nat) (p:Nat) (e:Int) (m:Nat):List Nat×Nat×Int:=
 if e≠0 then ([],p,e) else if (ay xs p).2.2≠0 then ([],p,(ay xs p).2.2) else if m<(ay xs p).1 then ([],p,5)
 else if xs.length-(p+(ay xs p).2.1)<(ay xs p).1 then ([],p,3)
 else ((xs.drop (p+(ay xs p).2.1)).take (ay xs p).1,p+(ay xs p).2.1+(ay xs p).1,0)
section
variable {w : World} {D : Nat → Prop} {g : Nat} {A : Option Addr} {c : Nat} {xs : List Nat} {p : Nat} {e : Int}
theorem Nk (h:aJ w D g A c xs p e) (m:Nat) (hm2:m<9223372036854775808):Calls Tryz.prog 61 #[.pointer (some ⟨g,0,none⟩),.int .i64 (m:Int)] w fun en w'=>en=.returned (.string (b_ (bM xs p e m).1))/\dA w D g A c xs (bM xs p e m).2.1 (bM xs p e m).2.2 w':=by
 have hov:=RF h;have kw:IntKind.u64.wrap (m:Int)=(m:Int):=by rw[IntKind.wrap_u64];omega
 have hstr0:Value.string (b_ [])=.string ⟨#[]⟩:=rfl;by_cases he:e=0
 ·subst he
  rw[show decide ((0:Int)≠0)=false by simp]at hov;have hu:=Nj h;have hE:bM xs p 0 m=if (ay xs p).2.2≠0 then ([],p,(ay xs p).2.2) else if m<(ay xs p).1 then ([],p,5)
 else if xs.length-(p+(ay xs p).2.1)<(ay xs p).1 then ([],p,3)
 else ((xs.drop (p+(ay xs p).2.1)).take (ay xs p).1,p+(ay xs p).2.1+(ay xs p).1,0):=by unfold bM;rw[if_neg (by simp)]
  have hU:uF xs p 0=((ay xs p).1,p+(ay xs p).2.1,(ay xs p).2.2):=by unfold uF;rw[if_neg (by simp)]
  rw[hU]at hu;have hrl:=Ba h.pos;have hle:=h.len;have hlt:=OU h.ok p;have herr:=OM xs p;have hcap:=h.cap;have hpos:=h.pos;have d0:w.cell? ⟨g,0,none⟩=some (.slice A xs.length c):=h.blk.cell 0;have d1:w.cell? ⟨g,1,none⟩=some (.int .i64 (p:Int)):=h.blk.cell 1;have hby:=fun (w':World) (q v:Nat) (hq:q+v<=xs.length) (h':aJ w' D g A c xs q 0)=>z12 h' v hq;unfold Rx at hby;generalize ay xs p=t at *;obtain ⟨v,k,er⟩:=t;simp only at hu hrl hlt herr hE;have HE:=ah hE;have Hu:=ah hu;have jS:=ah hov;have kG:=ah hby;clear hE hu hov h hU hby;by_cases h0:er=0
  ·subst h0
   clear herr;have k1:IntKind.i64.wrap ((xs.length:Int)-((p+k:Nat):Int))=((xs.length-(p+k):Nat):Int):=by rw[IntWalk.i64_in _ (by omega)];omega
   have k2:IntKind.u64.wrap ((xs.length-(p+k):Nat):Int)=((xs.length-(p+k):Nat):Int):=by rw[IntKind.wrap_u64];omega
   have q1:decide ((m:Int)<0)=false:=by rw[decide_eq_false_iff_not];omega
   by_cases hmv:m<v
   ·have hR:bM xs p 0 m=([],p,5):=by rw[HE.out,if_neg (by simp),if_pos hmv]
    have HR:=ah hR;have q2:decide ((m:Int)<(v:Int))=true:=by rw[decide_eq_true_eq];omega
    clear hR;go_enter Tryz.func61,Tryz.ntmps61;go_wp2_with fail;with_reducible refine jS.out.mono ?_
    rintro e w1 ⟨rfl,rfl⟩;go_wp2_with fail;with_reducible refine Hu.out.mono ?_
    rintro e w1 ⟨rfl,h1⟩;have d0:w1.cell? ⟨g,0,none⟩=some (.slice A xs.length c):=h1.cur.blk.cell 0;have d1:w1.cell? ⟨g,1,none⟩=some (.int .i64 ((p+k:Nat):Int)):=h1.cur.blk.cell 1;have d2:w1.cell? ⟨g,2,none⟩=some (.int .i64 0):=h1.cur.blk.cell 2;have HT:=ah h1;clear h1;go_wp2_with fail;have h2:=HT.out;with_reducible refine (Uc h2.cur p hpos 5).mono ?_
    rintro e w2 ⟨rfl,h3⟩;go_wp2_with fail;go_ret;rw[HR.out];exact ⟨rfl,h2.trans h3⟩
   ·have q2:decide ((m:Int)<(v:Int))=false:=by rw[decide_eq_false_iff_not];omega
    by_cases hlv:xs.length-(p+k)<v
    ·have hR:bM xs p 0 m=([],p,3):=by rw[HE.out,if_neg (by simp),if_neg hmv,if_pos hlv]
     have HR:=ah hR;have q3:decide (((xs.length-(p+k):Nat):Int)<(v:Int))=true:=by rw[decide_eq_true_eq];omega
     clear hR;go_enter Tryz.func61,Tryz.ntmps61;go_wp2_with fail;with_reducible refine jS.out.mono ?_
     rintro e w1 ⟨rfl,rfl⟩;go_wp2_with fail;with_reducible refine Hu.out.mono ?_
     rintro e w1 ⟨rfl,h1⟩;have d0:w1.cell? ⟨g,0,none⟩=some (.slice A xs.length c):=h1.cur.blk.cell 0;have d1:w1.cell? ⟨g,1,none⟩=some (.int .i64 ((p+k:Nat):Int)):=h1.cur.blk.cell 1;have d2:w1.cell? ⟨g,2,none⟩=some (.int .i64 0):=h1.cur.blk.cell 2;have HT:=ah h1;clear h1;go_wp2_with fail;go_quiet (fail)
     go_wp2_with fail;have h2:=HT.out.drewN nq;with_reducible refine (Uc h2.cur p hpos 3).mono ?_
     rintro e w2 ⟨rfl,h3⟩;go_wp2_with fail;go_ret;rw[HR.out];exact ⟨rfl,h2.trans h3⟩
    ·have hR:bM xs p 0 m=((xs.drop (p+k)).take v,p+k+v,0):=by rw[HE.out,if_neg (by simp),if_neg hmv,if_neg hlv]
     have HR:=ah hR;have q3:decide (((xs.length-(p+k):Nat):Int)<(v:Int))=false:=by rw[decide_eq_false_iff_not];omega
     have k3:IntKind.i64.wrap (v:Int)=(v:Int):=IntWalk.i64_in _ (by omega);have hub:xs.length-(p+k)<=1000000000:=(by omega);have SI:p+k+v<=xs.length:=(by omega);have hlen:((xs.drop (p+k)).take v).length=v:=by rw[List.length_take,List.length_drop];omega
     have hstr:=fun (D:Nat->Prop) (A:Option Addr) (c:Nat) (w:World) (h:Rd w D 1 A v (bl ((xs.drop (p+k)).take v)))=>xB (P:=Tryz.prog) w 27 9 5 Tryz.underlying27 Tryz.underlying5 Tryz.underlying9 D A v c _ h;have eU:=ah hstr;have kG:=ah (fun w' h'=>kG.out w' (p+k) v SI h');clear hR hstr hlen;generalize (xs.drop (p+k)).take v=T at *;go_enter Tryz.func61,Tryz.ntmps61;go_wp2_with fail;with_reducible refine jS.out.mono ?_
     rintro e w1 ⟨rfl,rfl⟩;go_wp2_with fail;with_reducible refine Hu.out.mono ?_
     rintro e w1 ⟨rfl,h1⟩;have d0:w1.cell? ⟨g,0,none⟩=some (.slice A xs.length c):=h1.cur.blk.cell 0;have d1:w1.cell? ⟨g,1,none⟩=some (.int .i64 ((p+k:Nat):Int)):=h1.cur.blk.cell 1;have d2:w1.cell? ⟨g,2,none⟩=some (.int .i64 0):=h1.cur.blk.cell 2;have HT:=ah h1;clear h1;go_wp2_with fail;go_quiet (fail)
     go_wp2_with fail;have h2:=HT.out.drewN nq;with_reducible refine (kG.out _ h2.cur).mono ?_
     rintro e w3 ⟨kk,cap,rfl,t3,o3,sQ,hk3⟩;have r3:=Rd.bY o3;have e3:=eU.out _ _ cap w3 r3;have hT3:=h2.trans t3;go_wp2_with fail;go_ret;rw[HR.out];exact ⟨rfl,hT3⟩
  ·obtain ⟨rfl,rfl, -⟩:=herr.resolve_left h0
   have hR:bM xs p 0 m=([],p,er):=(by rw[HE.out,if_pos h0]);have HR:=ah hR;have hne:(er !=0)=true:=by rw[bne_iff_ne];exact h0
   have hne2:(er==0)=false:=by rw[beq_eq_false_iff_ne];exact h0
   clear hR herr h0;go_enter Tryz.func61,Tryz.ntmps61;go_wp2_with fail;with_reducible refine jS.out.mono ?_
   rintro e w1 ⟨rfl,rfl⟩;go_wp2_with fail;with_reducible refine Hu.out.mono ?_
   rintro e w1 ⟨rfl,h1⟩;have d2:w1.cell? ⟨g,2,none⟩=some (.int .i64 er):=h1.cur.blk.cell 2;go_wp2_with fail;go_ret;rw[HR.out];exact ⟨rfl,h1⟩
 ·have hE:bM xs p e m=([],p,e):=by unfold bM;rw[if_pos (by simpa using he)]
  rw[show decide (e≠0)=true by simpa using he]at hov;have HE:=ah hE;have jS:=ah hov;have H:=ah h;clear hE hov he h;go_enter Tryz.func61,Tryz.ntmps61;go_wp2_with fail;with_reducible refine jS.out.mono ?_
  rintro e w1 ⟨rfl,rfl⟩;go_wp2_with fail;go_ret;rw[HE.out];exact ⟨rfl,dA.refl H.out⟩
end
def iW (b:List Nat) (p:Nat):Nat->Nat
 |0=>0
 |j+1=>iW b p j+(b.getD (p+j) 0 % 128) * 2 ^ (7 * j)
theorem ZJ {b:List Nat} {q:Nat} (h:q<b.length):b.drop q=b.getD q 0::b.drop (q+1):=by
 rw[List.drop_eq_getElem_cons h];simp[List.getD,h]
theorem Ie {b:List Nat} {p j:Nat} (hl:p+j<b.length) (hj:j<9) (hx:128<=b.getD (p+j) 0) (h:z04 (b.drop p) 0 0=z04 (b.drop (p+j)) j (iW b p j)):
 z04 (b.drop p) 0 0=z04 (b.drop (p+(j+1))) (j+1) (iW b p (j+1)):=by
 rw[h,ZJ hl,z04,if_neg (by omega),if_neg (by omega)];rfl
theorem Du {b:List Nat} {p j:Nat} (hl:b.length<=p+j) (h:z04 (b.drop p) 0 0=z04 (b.drop (p+j)) j (iW b p j)):z04 (b.drop p) 0 0=(0,0,3):=by
 rw[h,List.drop_of_length_le hl,z04]
theorem Ig {b:List Nat} {p j:Nat} (hl:p+j<b.length) (hx:(j=9/\1<b.getD (p+j) 0)∨(0<j/\b.getD (p+j) 0=0)) (h:z04 (b.drop p) 0 0=z04 (b.drop (p+j)) j (iW b p j)):z04 (b.drop p) 0 0=(0,0,4):=by
 rw[h,ZJ hl,z04,if_pos (by omega)]
theorem LJ {b:List Nat} {p j:Nat} (hl:p+j<b.length) (hx:¬((j=9/\1<b.getD (p+j) 0)∨(0<j/\b.getD (p+j) 0=0))) (h128:b.getD (p+j) 0<128) (h:z04 (b.drop p) 0 0=z04 (b.drop (p+j)) j (iW b p j)):
 z04 (b.drop p) 0 0=(iW b p (j+1),j+1,0):=by
 rw[h,ZJ hl,z04,if_neg (by omega),if_pos h128,iW,Nat.mod_eq_of_lt h128]
theorem Ib {T L a d i:Nat} (hT:T<18446744073709551616) (h:T=L+(a * 128+d) * 2 ^ (7 * i)):a * 128+d<18446744073709551616:=by
 have h1:1<=2 ^ (7 * i):=Nat.one_le_two_pow;have h2:(a * 128+d) * 1<=(a * 128+d) * 2 ^ (7 * i):=Nat.mul_le_mul_left _ h1;omega
theorem Lu {b:List Nat} {p i a T:Nat} (h:T=iW b p (i+1)+a * 2 ^ (7 * (i+1))):T=iW b p i+(a * 128+b.getD (p+i) 0 % 128) * 2 ^ (7 * i):=by
 rw[h,iW,KW,Nat.add_mul,Nat.mul_assoc a];omega
def WV (b:List Nat) (p:Nat) (v:Value):Prop:=∃k:Nat,k<=9/\p+k<=b.length/\v=.int .i64 (k:Int)/\z04 (b.drop p) 0 0=z04 (b.drop (p+k)) k (iW b p k)
def WU (b:List Nat) (p k:Nat) (v i:Value):Prop:=∃a j:Nat,j<=k+1/\i=.int .i64 ((j:Int)-1)/\v=.int .u64 (a:Int)/\iW b p (k+1)=iW b p j+a * 2 ^ (7 * j)
theorem mQ (D:Nat->Prop) (A:Option Addr) (n c:Nat) (b:List Nat) (p:Nat) (W:World) (hr:Rd W D 1 A n (bl b)) (ok:okB b) (hl:b.length=n) (hn:n<=1000000000) (hp:p<=1000000000):
 Calls Tryz.prog 20 #[.slice A n c,.int .i64 (p:Int)] W (Ai (ay b p) W):=by
 by_cases hpn:n<=p
 ·have e:ay b p=(0,0,3):=by unfold ay;rw[if_pos (.inr (by omega))]
  rw[e];unfold Ai;go_enter Tryz.func20,Tryz.ntmps20;go_wp2_with fail;go_ret3;exact ⟨rfl,rfl⟩
 ·have e:ay b p=z04 (b.drop p) 0 0:=by unfold ay;rw[if_neg (by omega),Int.toNat_natCast]
  rw[e];have QU:(z04 (b.drop p) 0 0).1<18446744073709551616:=Zy _ 0 0 (fun x hx=>ok x (List.mem_of_mem_drop hx)) (by omega) (by decide);have HT:=ah QU;have Hl:=ah hl;have h0:WV b p (.int .i64 0):=⟨0,by omega,by omega,rfl,rfl⟩;have H0:=ah h0;clear e hl QU h0;unfold Ai;go_enter Tryz.func20,Tryz.ntmps20;go_wp2_with fail;go_loopw [7] (fun s7 wr=>wr=W/\WV b p s7) (fun s7 _=>9-(intOf s7).toNat)
  case atStart=>exact ⟨rfl,H0.out⟩
  case round=>
   obtain ⟨iC,k,hk9,hkl,rfl,hR⟩:=hrel;rw[iC];clear iC H0;have HR:=ah hR;clear hR;have hLn:=Hl.out;rw[hLn]at hkl;clear hLn;by_cases hlt:p+k<n
   ·have hlt2:p+k<b.length:=by rw[Hl.out];exact hlt
    obtain ⟨ad,u,hA,kN,hu,hcx⟩:=hr.at_ hlt;rw[tV hlt2]at hu;injection hu with hu;subst hu;subst hA;have hx:=uf ok (p+k);have HS:=ah (fun (h1:k<9) (h2:128<=b.getD (p+k) 0)=>Ie hlt2 h1 h2 HR.out);have YX:=ah (fun h1=>Ig hlt2 h1 HR.out);have HE:=ah (fun h1 h2=>LJ hlt2 h1 h2 HR.out);have Xn:=ah hlt2;clear hlt2;obtain ⟨x,hxx⟩:∃x,x=b.getD (p+k) 0:=⟨_,rfl⟩;rw[←hxx]at hx hcx HS YX HE;have Hxx:=ah hxx;clear hxx;have hpk:IntKind.i64.wrap ((p:Int)+(k:Int))=((p+k:Nat):Int):=by rw[IntWalk.i64_in _ (by omega)];omega
    have t1:decide ((k:Int)<(n:Int)-(p:Int))=true:=by rw[decide_eq_true_iff];omega
    have t2:decide ((n:Int)-(p:Int)<=(k:Int))=false:=by rw[decide_eq_false_iff_not];omega
    by_cases hgo:k<9/\128<=x
    ·obtain ⟨hk,hx2⟩:=hgo
     have t3:decide ((k:Int)<9)=true:=by rw[decide_eq_true_iff];omega
     have t4:decide ((128:Int)<=(x:Int))=true:=by rw[decide_eq_true_iff];omega
     go_wp2_with fail;go_roundw
     case rel=>exact ⟨trivial,k+1,by omega,by rw[Hl.out];omega,by go_num,HS.out hk hx2⟩
     case measure=>simp[intOf];omega
    ·have hno:k=9∨x<128:=by omega
     have hc:(k=9/\x=1)∨(0<k/\k<9/\0<x/\x<128)∨(k=0/\x<128)∨(k=9/\1<x)∨(k=9/\x=0)∨(0<k/\k<9/\x=0):=(by omega);have HG:=ah (fun (j:Nat) (hj:j<=k)=>show p+j<b.length by rw[Hl.out];omega);clear hgo hno HS t1;have hb9:∀j:Nat,j<=k->IntKind.i64.wrap ((p:Int)+(j:Int))=((p+j:Nat):Int):=fun j hj=>by rw[IntWalk.i64_in _ (by omega)];omega
     have HW:=ah hb9;clear hb9;have t1:decide ((k:Int)<(n:Int)-(p:Int))=true:=by rw[decide_eq_true_iff];omega
     by_cases hbad:(k=9/\1<x)∨(0<k/\x=0)
     ·have HR4:=ah (YX.out hbad)
      clear YX HE HT HR
      have hc2:(decide ((k:Int)<9)=false/\((k:Int)==9)=true/\decide ((1:Int)<(x:Int))=true)∨(decide ((k:Int)<9)=false/\((k:Int)==9)=true/\decide ((1:Int)<(x:Int))=false/\0<k/\((x:Int)==0)=true)∨
       (decide ((k:Int)<9)=true/\decide ((128:Int)<=(x:Int))=false/\((k:Int)==9)=false/\0<k/\((x:Int)==0)=true):=by
       simp only[decide_eq_true_iff,decide_eq_false_iff_not,beq_iff_eq,beq_eq_false_iff_ne];omega
      obtain ⟨q,hq⟩:∃q,q=p+k:=⟨_,rfl⟩;have hqn:q<n:=(by omega);rw[←hq]at hpk hcx;clear hc hbad hq;rcases hc2 with ⟨t3,c1,c2⟩|⟨t3,c1,c2,c3,c4⟩|⟨t3,t4,c1,c3,c4⟩
      all_goals
       go_wp2_with fail;go_ret3;exact ⟨by rw[HR4.out];rfl,rfl⟩
     ·have h128:x<128:=by omega
      have HRe:=ah (HE.out hbad h128);have hT:iW b p (k+1)<18446744073709551616:=by have:=HT.out;rw[HRe.out]at this;exact this
      have HT2:=ah hT;have hc2:(k=9/\x=1)∨(0<k/\k<9/\0<x)∨k=0:=(by omega);have t4:decide ((128:Int)<=(x:Int))=false:=by rw[decide_eq_false_iff_not];omega
      clear YX HE HT HR hc hbad hT;obtain ⟨q,hq⟩:∃q,q=p+k:=⟨_,rfl⟩;have hqn:q<n:=(by omega);rw[←hq]at hpk hcx;clear hq
      have hfin:(decide ((k:Int)<9)=false/\((k:Int)==9)=true/\decide ((1:Int)<(x:Int))=false/\0<k/\((x:Int)==0)=false)∨(decide ((k:Int)<9)=true/\((k:Int)==9)=false/\0<k/\((x:Int)==0)=false)∨(decide ((k:Int)<9)=true/\((k:Int)==9)=false/\¬0<k):=by
       simp only[decide_eq_true_iff,decide_eq_false_iff_not,beq_iff_eq,beq_eq_false_iff_ne];omega
      clear hc2;rcases hfin with ⟨t3,c1,c2,c3,c4⟩|⟨t3,c1,c3,c4⟩|⟨t3,c1,c3⟩
      all_goals
       go_wp2_with fail;go_loopw [9,10] (fun v i wr=>wr=W/\WU b p k v i) (fun _ i _=>(intOf i+1).toNat)
       case atStart=>exact ⟨rfl,0,k+1,Nat.le_refl _,by simp,rfl,by simp⟩
       case round=>
        obtain ⟨iC,a,j,hj,rfl,rfl,hlow⟩:=hrel;rw[iC];clear iC;cases j with
        |zero=>
         have Ha:=ah (show iW b p _=a by rw[hlow];simp[iW]);clear hlow;go_wp2_with fail;go_ret3;exact ⟨by rw[HRe.out,Ha.out];rfl,rfl⟩
        |succ m=>
         have hm1:((m+1:Nat):Int)-1=(m:Int):=(by omega);rw[hm1];have hlow2:=Lu hlow;have hbd:=Ib HT2.out hlow2;have hmk:=HW.out m (by omega);obtain ⟨ad,u,hA,kN,hu,hcx2⟩:=hr.at_ (show p+m<n by rw[←Hl.out];exact HG.out m (by omega));rw[tV (HG.out m (by omega))]at hu;injection hu with hu;subst hu;injection hA with hA;subst hA;have hy:=uf ok (p+m);have HL2:=ah hlow2;clear hlow hlow2 hm1;generalize b.getD (p+m) 0=y at *;go_wp2_with fail;go_roundw
         case rel=>exact ⟨trivial,a * 128+y % 128,m,by omega,rfl,by go_num,HL2.out⟩
         case measure=>simp[intOf]
   ·have hs:b.length<=p+k:=by rw[Hl.out];omega
    have HR3:=ah (Du hs HR.out);have t1:decide ((k:Int)<(n:Int)-(p:Int))=false:=by rw[decide_eq_false_iff_not];omega
    have t2:decide ((n:Int)-(p:Int)<=(k:Int))=true:=by rw[decide_eq_true_iff];omega
    clear HR hs;by_cases h9:k<9
    ·have t3:decide ((k:Int)<9)=true:=by rw[decide_eq_true_iff];omega
     go_wp2_with fail;go_ret3;exact ⟨by rw[HR3.out];rfl,rfl⟩
    ·have t3:decide ((k:Int)<9)=false:=by rw[decide_eq_false_iff_not];omega
     go_wp2_with fail;go_ret3;exact ⟨by rw[HR3.out];rfl,rfl⟩
end Go.Proofs.YtfljcllpmbnjaaaGreat
