/- Contracts and plain laws that the last text rests on. Conditions: each theorem states its own. -/
import Derived.Test.YtfljcllpmbnjaaaGreatKdPdCur
import Derived.Deep.RegionHeld3
set_option maxRecDepth 100000
set_option maxHeartbeats 8000000
set_option linter.unusedVariables false
namespace Go.Proofs.YtfljcllpmbnjaaaGreat
open Go.RowKit
theorem Ba {b:List Nat} {p:Nat} (hp:p<=b.length):p+(ay b p).2.1<=b.length:=by
 unfold ay;by_cases h:(p:Int)<0∨(b.length:Int)<=p
 ·rw[if_pos h];simpa using hp
 ·rw[if_neg h,Int.toNat_natCast]
  rcases z4h (b.drop p) 0 0 with e|⟨_,e,_⟩
  ·have:=(uX _ _ _ e).2
   rw[List.length_drop]at this;omega
  ·rw[e];exact hp
theorem OU {b:List Nat} (ok:okB b) (p:Int):(ay b p).1<18446744073709551616:=by
 unfold ay;split
 ·decide
 ·exact Zy _ 0 0 (fun x hx=>ok x (List.mem_of_mem_drop hx)) (by omega) (by decide)
theorem OM (b:List Nat) (p:Int):(ay b p).2.2=0∨((ay b p).1=0/\(ay b p).2.1=0/\((ay b p).2.2=3∨(ay b p).2.2=4)):=by
 unfold ay;split
 ·exact .inr ⟨rfl,rfl,.inl rfl⟩
 ·exact z4h _ _ _
def uF (xs:List Nat) (p:Nat) (e:Int):Nat×Nat×Int:=if e≠0 then (0,p,e) else ((ay xs p).1,p+(ay xs p).2.1,(ay xs p).2.2)
section
variable {w : World} {D : Nat → Prop} {g : Nat} {A : Option Addr} {c : Nat} {xs : List Nat} {p : Nat} {e : Int}
theorem Nj (h:aJ w D g A c xs p e):Calls Tryz.prog 100 #[.pointer (some ⟨g,0,none⟩)] w fun en w'=>en=.returned (.int .u64 ((uF xs p e).1:Int))/\dA w D g A c xs (uF xs p e).2.1 (uF xs p e).2.2 w':=by
 have hov:=RF h;by_cases he:e=0
 ·have hE:uF xs p e=((ay xs p).1,p+(ay xs p).2.1,(ay xs p).2.2):=by unfold uF;rw[if_neg (by simpa using he)]
  subst he;rw[show decide ((0:Int)≠0)=false by simp]at hov;have hu:=fun q=>jO D A xs.length c xs p (w.drewN q) (h.rd.drewN q) h.ok rfl h.len h.cap (Nat.le_trans h.pos h.len);unfold Ai at hu;have hrl:=Ba h.pos;have hle:=h.len;have d0:w.cell? ⟨g,0,none⟩=some (.slice A xs.length c):=h.blk.cell 0;have d1:w.cell? ⟨g,1,none⟩=some (.int .i64 (p:Int)):=h.blk.cell 1;have d2:w.cell? ⟨g,2,none⟩=some (.int .i64 0):=h.blk.cell 2;have hf:=h.blk.frozen;have HE:=ah hE;generalize ay xs p=t at *;obtain ⟨v,k,er⟩:=t;simp only at hu hrl;have Hu:=ah hu;have jS:=ah hov;have H:=ah h;clear hE hu hov h;go_enter Tryz.func100,Tryz.ntmps100;go_wp2_with fail;with_reducible refine jS.out.mono ?_
  rintro e w1 ⟨rfl,rfl⟩;go_wp2_with fail;go_quiet ((go_at_call 95;exact z47 (Hu.out _)))
  go_wp2_with fail;go_ret;rw[HE.out];obtain ⟨h1,c1⟩:=(H.out.nx ((Ch.refl _ w).drewN nq)).dZ (p+k) hrl;obtain ⟨h2,c2⟩:=h1.Iw er;have e1:(.int .i64 ((p:Int)+(k:Int)):Value)=.int .i64 ((p+k:Nat):Int):=by simp
  rw[e1];exact ⟨rfl,h2,((Ch.refl _ w).drewN nq).trans (c1.trans c2 fun _ _ e=>e) fun _ _ e=>e⟩
 ·have hE:uF xs p e=(0,p,e):=by unfold uF;rw[if_pos (by simpa using he)]
  rw[show decide (e≠0)=true by simpa using he]at hov;have HE:=ah hE;have jS:=ah hov;have H:=ah h;clear hE hov he h;go_enter Tryz.func100,Tryz.ntmps100;go_wp2_with fail;with_reducible refine jS.out.mono ?_
  rintro e w1 ⟨rfl,rfl⟩;go_wp2_with fail;go_ret;rw[HE.out];exact ⟨rfl,dA.refl H.out⟩
def aB (xs:List Nat) (p:Nat) (e:Int) (most:Int):Nat×Nat×Int:=
 if e≠0 then (0,p,e) else if (ay xs p).2.2≠0 then (0,p,(ay xs p).2.2) else if most<0∨most<((ay xs p).1:Int) then (0,p,2) else ((ay xs p).1,p+(ay xs p).2.1,0)
theorem FT (h:aJ w D g A c xs p e) (most:Int) (hm: -9223372036854775808<=most) (hm2:most<=9223372036854775807):Calls Tryz.prog 60 #[.pointer (some ⟨g,0,none⟩),.int .i64 most] w fun en w'=>en=.returned (.int .i64 ((aB xs p e most).1:Int))/\dA w D g A c xs (aB xs p e most).2.1 (aB xs p e most).2.2 w':=by
 have hov:=RF h;by_cases he:e=0
 ·subst he
  rw[show decide ((0:Int)≠0)=false by simp]at hov;have hu:=Nj h;have hE:aB xs p 0 most=if (ay xs p).2.2≠0 then (0,p,(ay xs p).2.2) else if most<0∨most<((ay xs p).1:Int) then (0,p,2) else ((ay xs p).1,p+(ay xs p).2.1,0):=by unfold aB;rw[if_neg (by simp)]
  have hU:uF xs p 0=((ay xs p).1,p+(ay xs p).2.1,(ay xs p).2.2):=by unfold uF;rw[if_neg (by simp)]
  rw[hU]at hu;have hrl:=Ba h.pos;have hle:=h.len;have hlt:=OU h.ok p;have herr:=OM xs p;have d1:w.cell? ⟨g,1,none⟩=some (.int .i64 (p:Int)):=h.blk.cell 1;have hpos:=h.pos;generalize ay xs p=t at *;obtain ⟨v,k,er⟩:=t;simp only at hu hrl hlt herr hE;have HE:=ah hE;have Hu:=ah hu;have jS:=ah hov;clear hE hu hov h hU;by_cases h0:er=0
  ·subst h0
   clear herr;by_cases hmn:most<0
   ·have hR:aB xs p 0 most=(0,p,2):=by rw[HE.out,if_neg (by simp),if_pos (.inl hmn)]
    have HR:=ah hR;clear hR;go_enter Tryz.func60,Tryz.ntmps60;go_wp2_with fail;with_reducible refine jS.out.mono ?_
    rintro e w1 ⟨rfl,rfl⟩;go_wp2_with fail;with_reducible refine Hu.out.mono ?_
    rintro e w1 ⟨rfl,h1⟩;have d2:w1.cell? ⟨g,2,none⟩=some (.int .i64 0):=h1.cur.blk.cell 2;go_wp2_with fail;with_reducible refine (Uc h1.cur p hpos 2).mono ?_
    rintro e w2 ⟨rfl,h2⟩;have d2:w2.cell? ⟨g,2,none⟩=some (.int .i64 2):=h2.cur.blk.cell 2;go_wp2_with fail;go_ret;rw[HR.out];exact ⟨rfl,h1.trans h2⟩
   ·obtain ⟨m,rfl⟩:=Int.eq_ofNat_of_zero_le (show 0<=most by omega)
    have kw:IntKind.u64.wrap (m:Int)=(m:Int):=by rw[IntKind.wrap_u64];omega
    by_cases hmv:m<v
    ·have hR:aB xs p 0 m=(0,p,2):=by rw[HE.out,if_neg (by simp),if_pos (.inr (by omega))]
     have HR:=ah hR;clear hR;go_enter Tryz.func60,Tryz.ntmps60;go_wp2_with fail;with_reducible refine jS.out.mono ?_
     rintro e w1 ⟨rfl,rfl⟩;go_wp2_with fail;with_reducible refine Hu.out.mono ?_
     rintro e w1 ⟨rfl,h1⟩;have d2:w1.cell? ⟨g,2,none⟩=some (.int .i64 0):=h1.cur.blk.cell 2;go_wp2_with fail;with_reducible refine (Uc h1.cur p hpos 2).mono ?_
     rintro e w2 ⟨rfl,h2⟩;have d2:w2.cell? ⟨g,2,none⟩=some (.int .i64 2):=h2.cur.blk.cell 2;go_wp2_with fail;go_ret;rw[HR.out];exact ⟨rfl,h1.trans h2⟩
    ·have hR:aB xs p 0 m=(v,p+k,0):=by rw[HE.out,if_neg (by simp),if_neg (by omega)]
     have HR:=ah hR;clear hR;go_enter Tryz.func60,Tryz.ntmps60;go_wp2_with fail;with_reducible refine jS.out.mono ?_
     rintro e w1 ⟨rfl,rfl⟩;go_wp2_with fail;with_reducible refine Hu.out.mono ?_
     rintro e w1 ⟨rfl,h1⟩;have d2:w1.cell? ⟨g,2,none⟩=some (.int .i64 0):=h1.cur.blk.cell 2;go_wp2_with fail;go_ret;rw[HR.out];exact ⟨rfl,h1⟩
  ·obtain ⟨rfl,rfl, -⟩:=herr.resolve_left h0
   have hR:aB xs p 0 most=(0,p,er):=(by rw[HE.out,if_pos h0]);have HR:=ah hR;have hne:(er !=0)=true:=by rw[bne_iff_ne];exact h0
   have hne2:(er==0)=false:=by rw[beq_eq_false_iff_ne];exact h0
   clear hR herr h0;go_enter Tryz.func60,Tryz.ntmps60;go_wp2_with fail;with_reducible refine jS.out.mono ?_
   rintro e w1 ⟨rfl,rfl⟩;go_wp2_with fail;with_reducible refine Hu.out.mono ?_
   rintro e w1 ⟨rfl,h1⟩;have d2:w1.cell? ⟨g,2,none⟩=some (.int .i64 er):=h1.cur.blk.cell 2;go_wp2_with fail;go_ret;rw[HR.out];exact ⟨rfl,h1⟩
 ·have hE:aB xs p e most=(0,p,e):=by unfold aB;rw[if_pos (by simpa using he)]
  rw[show decide (e≠0)=true by simpa using he]at hov;have HE:=ah hE;have jS:=ah hov;have H:=ah h;clear hE hov he h;go_enter Tryz.func60,Tryz.ntmps60;go_wp2_with fail;with_reducible refine jS.out.mono ?_
  rintro e w1 ⟨rfl,rfl⟩;go_wp2_with fail;go_ret;rw[HE.out];exact ⟨rfl,dA.refl H.out⟩
def Rx (w:World) (D:Nat->Prop) (g:Nat) (A:Option Addr) (c:Nat) (xs:List Nat) (p n:Nat) (en:Ending) (w':World):Prop:=
 ∃k cap,en=.returned (.slice (some ⟨k,0,none⟩) n cap)/\dA w D g A c xs (p+n) 0 w'/\w'.ownsRow w.heap.size 5 1 (.slice (some ⟨k,0,none⟩) n cap) n (bl ((xs.drop p).take n))/\n<=cap/\w.heap.size<=k
theorem z12 (h:aJ w D g A c xs p 0) (n:Nat) (hn:p+n<=xs.length):Calls Tryz.prog 53 #[.pointer (some ⟨g,0,none⟩),.int .i64 (n:Int)] w (Rx w D g A c xs p n):=by
 obtain ⟨i0,hi0,hz0,hz1,hz2⟩:=info_parts Tryz.info5;have hov:=RF h;rw[show decide ((0:Int)≠0)=false by simp]at hov;have hle:=h.len;have hpos:=h.pos;have hcap:=h.cap;have d0:w.cell? ⟨g,0,none⟩=some (.slice A xs.length c):=h.blk.cell 0;have d1:w.cell? ⟨g,1,none⟩=some (.int .i64 (p:Int)):=h.blk.cell 1;have hf:=h.blk.frozen;have k0:IntKind.i64.wrap ((xs.length:Int)-(p:Int))=(xs.length:Int)-(p:Int):=IntWalk.i64_in _ (by omega);have q1:decide ((n:Int)<0)=false:=by rw[decide_eq_false_iff_not];omega
 have q2:decide ((xs.length:Int)-(p:Int)<(n:Int))=false:=by rw[decide_eq_false_iff_not];omega
 have jS:=ah hov;have H:=ah h;clear hov h;go_enter Tryz.func53,Tryz.ntmps53;go_wp2_with fail;with_reducible refine jS.out.mono ?_
 rintro e w1 ⟨rfl,rfl⟩;go_wp2_with fail;go_quiet (fail)
 go_wp2_with fail;have hn0:Nx w (w.drewN nq):=(Ch.refl _ w).drewN nq;obtain ⟨h2,c2⟩:=(H.out.nx hn0).dZ (p+n) hn;have e1:(.int .i64 ((p+n:Nat):Int):Value)=.int .i64 ((p:Int)+(n:Int)):=by simp
 rw[e1]at h2 c2;have c02:Ch (fun k=>k=g) w ((w.drewN nq).setCell ⟨g,1,none⟩ (.int .i64 ((p:Int)+(n:Int)))):=(hn0.mono (fun _ _ hf=>hf.elim)).trans c2 fun _ _ e=>e;have hT2:dA w D g A c xs (p+n) 0 ((w.drewN nq).setCell ⟨g,1,none⟩ (.int .i64 ((p:Int)+(n:Int)))):=⟨h2,c02⟩;clear h2 c2 c02 e1 hn0 d0 d1 hf q1 q2 k0;generalize (w.drewN nq).setCell ⟨g,1,none⟩ (.int .i64 ((p:Int)+(n:Int)))=w2 at *;have d0:w2.cell? ⟨g,0,none⟩=some (.slice A xs.length c):=hT2.cur.blk.cell 0
 have d1:w2.cell? ⟨g,1,none⟩=some (.int .i64 ((p:Int)+(n:Int))):=by
  have:=hT2.cur.blk.cell 1;simpa using this
 have k1:IntKind.i64.wrap (p:Int)=(p:Int):=IntWalk.i64_in _ (by omega);have HT:=ah hT2;clear hT2;have iC:=HT.out.dN.size;have H1:Hid ((w2.alloc (.cells #[] 5)).drew.ownsRow w.heap.size 5 1 (.slice (some ⟨w2.heap.size,0,none⟩) 0 0) 0 []):=ah (World.ownsRow_made w2 #[] 0 iC (by simp[maxLen]) rfl);have hN:Nx w2 (w2.alloc (.cells #[] 5)).drew:=((Ch.refl _ w2).alloc _).drew
 have hfin:∀(v':Value) (w3:World),w3.ownsRow w.heap.size 5 1 v' (0+n) ([]++bl ((xs.drop p).take n))->(w2.alloc (.cells #[] 5)).drew.grownBy w3 (Value.ownBlock (.slice (some ⟨w2.heap.size,0,none⟩) 0 0))->
  (v'.ownBlock=Value.ownBlock (.slice (some ⟨w2.heap.size,0,none⟩) 0 0)∨v'.ownBlock=some (w2.alloc (.cells #[] 5)).drew.heap.size)->
  ∃k cap,v'=.slice (some ⟨k,0,none⟩) n cap/\Nx w2 w3/\w3.ownsRow w.heap.size 5 1 (.slice (some ⟨k,0,none⟩) n cap) n (bl ((xs.drop p).take n))/\n<=cap/\w.heap.size<=k:=fun v' w3 ho hg hat=>by
  have hnx:Nx w2 w3:=((Ch.refl _ w2).alloc (.cells #[] 5)).grown ⟨hg.os,hg.tape,hg.output,hg.size,hg.block⟩ (fun k hk hlt=>by simp[Value.ownBlock]at hk;omega)
  obtain ⟨k,hk⟩:∃k,v'.ownBlock=some k:=by
   rcases hat with e|e
   ·exact ⟨_,e⟩
   ·exact ⟨_,e⟩
  simp only[Nat.zero_add,List.nil_append]at ho;obtain ⟨cap,hv,h1,h2⟩:=Ot ho hk;have hlt:=(ho.lt k hk).1;subst hv;exact ⟨k,cap,rfl,hnx,ho,h1,hlt⟩
 have fF:=ah hfin;clear hfin;have hrd:=(HT.out.cur.rd.cut (k:=p) (cap:=c) (by omega) hcap).take (k:=n) (by omega);rw[Nat.mul_one,Nat.mul_one,show ((bl xs).drop p).take n=bl ((xs.drop p).take n) by simp[bl,List.map_drop,List.map_take]]at hrd;have Ri:=ah (hrd.nx (by decide) hN);have Jc:=ah (iP ((xs.drop p).take n));clear hrd;have b1:(0:Int)<=(p:Int):=by omega
 have b2:(p:Int)<=(p:Int)+(n:Int):=by omega
 have b3:(p:Int)+(n:Int)<=(c:Int):=by omega
 have b4:((p:Int)+(n:Int)).toNat=p+n:=by omega
 have b5:p+n-p=n:=by omega
 by_cases hcp:c=p
 ·rw[if_pos hcp]at Ri
  have hn0:n=0:=by omega
  subst hn0;obtain rfl:p=c:=hcp.symm;go_region_held3 (fun w'=>w'.cell? ⟨g,0,none⟩=some (.slice A xs.length p)/\w'.cell? ⟨g,1,none⟩=some (.int .i64 ((p:Int)+((0:Nat):Int)))) (first|exact ⟨f0,f1⟩|go_keep) ((refine RQ _ (by rfl) (.tmp 37) (.tmp 52) _ (by rfl) w.heap.size 5 i0 _ 1 1 Tryz.underlying27 hi0 hz0 hz1 hz2 (by rfl) (by omega) (.slice (some ⟨w2.heap.size,0,none⟩) 0 0) 0 [] (by rfl) H1.out D _ 0 _ _ (by rfl) Ri.out Jc.out (by simp only[maxLen];omega) (by omega) (by simp;omega) ?_;intro v' w3 ho hg hat;obtain ⟨k,cap,hv,hnx,ho3,sQ,hk3⟩:=fF.out v' w3 ho hg hat;clear ho hg hat;rw[hv];clear hv;have f0:w3.cell? ⟨g,0,none⟩=some (.slice A xs.length p):=(hnx.cell (World.block_lt_of_cell? w2 _ d0)).trans d0;have f1:w3.cell? ⟨g,1,none⟩=some (.int .i64 ((p:Int)+((0:Nat):Int))):=(hnx.cell (World.block_lt_of_cell? w2 _ d1)).trans d1))
  go_wp2_with fail;go_ret;exact ⟨k,cap,rfl,⟨HT.out.cur.nx hnx,HT.out.dN.tr hnx⟩,ho3,sQ,hk3⟩
 ·rw[if_neg hcp]at Ri
  go_region_held3 (fun w'=>w'.cell? ⟨g,0,none⟩=some (.slice A xs.length c)/\w'.cell? ⟨g,1,none⟩=some (.int .i64 ((p:Int)+(n:Int)))) (first|exact ⟨f0,f1⟩|go_keep) ((refine RQ _ (by rfl) (.tmp 37) (.tmp 52) _ (by rfl) w.heap.size 5 i0 _ 1 1 Tryz.underlying27 hi0 hz0 hz1 hz2 (by rfl) (by omega) (.slice (some ⟨w2.heap.size,0,none⟩) 0 0) 0 [] (by rfl) H1.out D _ n _ _ (by rfl) Ri.out Jc.out (by simp only[maxLen];omega) (by omega) (by simp;omega) ?_;intro v' w3 ho hg hat;obtain ⟨k,cap,hv,hnx,ho3,sQ,hk3⟩:=fF.out v' w3 ho hg hat;clear ho hg hat;rw[hv];clear hv;have f0:w3.cell? ⟨g,0,none⟩=some (.slice A xs.length c):=(hnx.cell (World.block_lt_of_cell? w2 _ d0)).trans d0;have f1:w3.cell? ⟨g,1,none⟩=some (.int .i64 ((p:Int)+(n:Int))):=(hnx.cell (World.block_lt_of_cell? w2 _ d1)).trans d1))
  go_wp2_with fail;go_ret;exact ⟨k,cap,rfl,⟨HT.out.cur.nx hnx,HT.out.dN.tr hnx⟩,ho3,sQ,hk3⟩
end
def TI (W:World) (xs:List Nat) (e:Ending) (w':World):Prop:=
 ∃g A c,e=.returned (.pointer (some ⟨g,0,none⟩))/\aJ w' (fun k=>W.heap.size<=k/\k<g) g A c xs 0 0/\Nx W w'/\W.heap.size<=g
theorem RG (D:Nat->Prop) (A:Option Addr) (n c:Nat) (xs:List Nat) (W:World) (hr:Rd W D 1 A n (bl xs)) (ok:okB xs) (hl:xs.length=n) (hn:n<=1000000000):
 Calls Tryz.prog 125 #[.slice A n c] W (TI W xs):=by
 obtain ⟨i0,hi0,hz0,hz1,hz2⟩:=info_parts Tryz.info5;have hlit:=au.lit W W 5 (Ch.refl _ W) 1;have hr1:=hr.nx (by decide) hlit.nx;have Hl:=ah hl;have hb1:(Value.slice (some ⟨W.heap.size,0,none⟩) 0 0).ownBlock≠none:=by simp[Value.ownBlock]
 clear hl hr;go_enter Tryz.func125,Tryz.ntmps125;go_wp2_with (at_builtin;refine z01 rfl (.tmp 3) (.tmp 4) _ rfl 5 i0 _ 1 1 Tryz.underlying27 hi0 hz0 hz1 hz2 rfl (by omega) rfl hlit D A n c (bl xs) rfl hr1 (iP _) (by simp only[maxLen];omega) (by omega) ?_;intro v3 w3 o3 m3;obtain ⟨k,cap,hv,o4,hk1,hk2,hcap,hmx⟩:=fZ.jG o3 (m3.some_ hb1);injection hv with hv;rw[hv])
 go_ret;have hnx:Nx w3 (w3.alloc (.cells #[.slice (some ⟨k,0,none⟩) n cap,.int .i64 0,.int .i64 0] 114)):=(Ch.refl _ w3).alloc _;rw[Nat.zero_add]at o4 hcap;refine ⟨w3.heap.size,some ⟨k,0,none⟩,cap,rfl,⟨?_,?_,fun j hj=>by omega,fun j hj=>by simp;omega,ok,by rw[Hl.out];exact hn,by rw[Hl.out];exact hcap,Nat.zero_le _⟩,o4.nx.tr hnx,o4.nx.size⟩
 ·have:=dD.new w3 114 #[.slice (some ⟨k,0,none⟩) n cap,.int .i64 0,.int .i64 0]
  rw[Hl.out];exact this
 ·have:=(o4.fM.nx (by decide) hnx).more (D':=fun j=>W.heap.size<=j/\j<w3.heap.size) fun j hj=>by omega
  rw[Hl.out];simpa using this
section
variable {w : World} {D : Nat → Prop} {g : Nat} {A : Option Addr} {c : Nat} {xs : List Nat} {p : Nat} {e : Int}
theorem qP (h:aJ w D g A c xs p e) (he:e≠0) (n:Int):Calls Tryz.prog 53 #[.pointer (some ⟨g,0,none⟩),.int .i64 n] w fun en w'=>en=.returned (.slice none 0 0)/\w=w':=by
 have hov:=RF h;rw[show decide (e≠0)=true by simpa using he]at hov;have jS:=ah hov;clear hov he h;go_enter Tryz.func53,Tryz.ntmps53;go_wp2_with fail;with_reducible refine jS.out.mono ?_
 rintro e w1 ⟨rfl,rfl⟩;go_wp2_with fail;go_ret;exact ⟨rfl,rfl⟩
theorem ZE (h:aJ w D g A c xs p 0) (n:Int) (hn:n<0∨(xs.length:Int)-p<n):Calls Tryz.prog 53 #[.pointer (some ⟨g,0,none⟩),.int .i64 n] w fun en w'=>en=.returned (.slice none 0 0)/\dA w D g A c xs p 3 w':=by
 have hov:=RF h;rw[show decide ((0:Int)≠0)=false by simp]at hov;have hle:=h.len;have hpos:=h.pos;have d0:w.cell? ⟨g,0,none⟩=some (.slice A xs.length c):=h.blk.cell 0;have d1:w.cell? ⟨g,1,none⟩=some (.int .i64 (p:Int)):=h.blk.cell 1;have k0:IntKind.i64.wrap ((xs.length:Int)-(p:Int))=(xs.length:Int)-(p:Int):=IntWalk.i64_in _ (by omega);have jS:=ah hov;have H:=ah h;clear hov h;by_cases h0:n<0
 ·have q1:decide (n<0)=true:=by simpa using h0
  clear hn h0;go_enter Tryz.func53,Tryz.ntmps53;go_wp2_with fail;with_reducible refine jS.out.mono ?_
  rintro e w1 ⟨rfl,rfl⟩;go_wp2_with fail;go_quiet (fail)
  have h1:=H.out.nx ((Ch.refl _ w).drewN nq);have d1:(w.drewN nq).cell? ⟨g,1,none⟩=some (.int .i64 (p:Int)):=h1.blk.cell 1;go_wp2_with fail;with_reducible refine (Uc h1 p hpos 3).mono ?_
  rintro e w1 ⟨rfl,h2⟩;go_wp2_with fail;go_ret;exact ⟨rfl,h2.cur,((Ch.refl _ w).drewN nq).trans h2.dN fun _ _ e=>e⟩
 ·have q1:decide (n<0)=false:=by simpa using h0
  have hn2:(xs.length:Int)-p<n:=hn.resolve_left h0;have q2:decide ((xs.length:Int)-(p:Int)<n)=true:=by simpa using hn2
  clear hn h0 hn2;go_enter Tryz.func53,Tryz.ntmps53;go_wp2_with fail;with_reducible refine jS.out.mono ?_
  rintro e w1 ⟨rfl,rfl⟩;go_wp2_with fail;go_quiet (fail)
  have h1:=H.out.nx ((Ch.refl _ w).drewN nq);have d1:(w.drewN nq).cell? ⟨g,1,none⟩=some (.int .i64 (p:Int)):=h1.blk.cell 1;go_wp2_with fail;with_reducible refine (Uc h1 p hpos 3).mono ?_
  rintro e w1 ⟨rfl,h2⟩;go_wp2_with fail;go_ret;exact ⟨rfl,h2.cur,((Ch.refl _ w).drewN nq).trans h2.dN fun _ _ e=>e⟩
end
end Go.Proofs.YtfljcllpmbnjaaaGreat
