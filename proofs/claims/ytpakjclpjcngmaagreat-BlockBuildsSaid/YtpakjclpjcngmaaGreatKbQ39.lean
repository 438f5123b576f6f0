/- Contracts and plain laws that the last text rests on. Conditions: each theorem states its own. -/
import Derived.Test.YtpakjclpjcngmaaGreatKbQ38
import Derived.Test.YtpakjclpjcngmaaGreatKbQ37
import Derived.Test.YtpakjclpjcngmaaGreatKbQ36
import Derived.Test.YtpakjclpjcngmaaGreatKbQ35
set_option maxRecDepth 100000
set_option maxHeartbeats 32000000
set_option linter.unusedVariables false
namespace Go.Proofs.YtpakjclpjcngmaaGreat
open Go.RowKit
theorem GV.ok.more {w:World} {D D':Nat->Prop} {g:GV} (h:g.ok w D) (hD:∀k,D k->D' k):g.ok w D':=
 ⟨h.rd.more hD,fun x hx=>(h.row x hx).ch (Ch.refl (fun _=>False) w) (fun _ _ _ hf=>hf) hD,h.grp,h.ne⟩
section
variable {w w1 W W' : World} {b5 q i7 : Nat} {v v' vs vp vg : Value} {ss : List aK} {ps : List PV} {X Y : List Nat} {gl : List Value} {n : Nat}
theorem kR.WC (h:kR w1 W b5 q vs vp ss ps) (c:Nx w w1):kR w W b5 q vs vp ss ps:=by
 obtain ⟨h1,h2,h3,h4,l1,l2,l3,l4,l5⟩:=h;have:=c.size;exact ⟨h1,⟨jM h2.own this,c.trans h2.nx fun _ _ hf=>hf⟩,⟨jM h3.own this,c.trans h3.nx fun _ _ hf=>hf⟩,fun x hx=>(h4 x hx).more fun k hk=>⟨by omega,hk.2⟩,by omega,l2,l3,l4,l5⟩
theorem kR.byt {S:Nat->Prop} (h:kR w W b5 q vs vp ss ps) (c:Ch S W W') (hS:∀k,S k->w.heap.size<=k/\∃cs fz,W.heap[k]?=some (.cells cs 5 fz)):kR w W' b5 q vs vp ss ps:=by
 obtain ⟨h1,h2,h3,h4,l1,l2,l3,l4,l5⟩:=h
 have no:∀{k:Nat} {T:TypeId} {cs:Array Value},aG W k T cs->5≠T->¬S k:=fun {k T cs} hB hT hk=>by
  obtain ⟨-,c2,fz,hB2⟩:=hS k hk;have hB:W.heap[k]?=some (.cells cs T (0,0)):=hB;rw[hB2]at hB;injection hB with hB;injection hB with _ hB _;exact hT hB
 have lo:∀i,i<w.heap.size->¬S i:=fun i hi hk=>by
  have:=(hS i hk).1;omega
 refine ⟨h1.ch c (no h1 (by decide)),h2.ch c (fun k hk=>?_) lo,h3.ch c (fun k hk=>?_) lo,fun x hx=>?_,l1,l2,by have:=c.size;omega,l4,l5⟩
 ·obtain ⟨cs,hB⟩:=iJ h2.own hk
  exact no hB (by decide)
 ·obtain ⟨cs,hB⟩:=iJ h3.own hk
  exact no hB (by decide)
 ·exact ((h4 x hx).ch (by decide) c (fun k _ hk=>no hk.2.2.choose_spec (by decide))).more fun k hk=>⟨hk.1,hk.2.1,by obtain ⟨cs,hB⟩:=hk.2.2;exact ⟨cs,hB.ch c (no hB (by decide))⟩⟩
structure Q_ (w W:World) (i7 b5:Nat) (v vs vp vg:Value) (X:List Nat) (ss:List aK) (ps:List PV) (n:Nat) (gl:List Value):Prop where
 ix:kR w W b5 W.heap.size vs vp ss ps
 out:jL w W v X
 gr:ak w W 22 1 vg n gl
 b7:aG W i7 100 #[vs,vp]
theorem Q_.nx (h:Q_ w W i7 b5 v vs vp vg X ss ps n gl) (c:Nx W W'):Q_ w W' i7 b5 v vs vp vg X ss ps n gl:=
 ⟨(h.ix.nx c).more c.size (Nat.le_refl _),h.out.ch c (fun _ _ _ _ _ hf=>hf.elim) (fun _ _ hf=>hf),h.gr.tr c,h.b7.nx c⟩
theorem Q_.app (h:Q_ w W i7 b5 v vs vp vg X ss ps n gl) (o:ak w W' 5 1 v' Y.length (bl Y)) (g:W.grownBy W' v.ownBlock):Q_ w W' i7 b5 v' vs vp vg Y ss ps n gl:=by
 have c:Ch (fun k=>v.ownBlock=some k) W W':=(Ch.refl _ _).grown g fun k hk _=>hk;have hS:∀k,v.ownBlock=some k->w.heap.size<=k/\∃cs fz,W.heap[k]?=some (.cells cs 5 fz):=fun k hk=>⟨(h.out.lt k hk).1,(h.out.lt k hk).2.2⟩
 have no:∀{k:Nat} {T:TypeId} {cs:Array Value},aG W k T cs->5≠T->¬v.ownBlock=some k:=fun {k T cs} hB hT hk=>by
  obtain ⟨-,c2,fz,hB2⟩:=hS k hk;have hB:W.heap[k]?=some (.cells cs T (0,0)):=hB;rw[hB2]at hB;injection hB with hB;injection hB with _ hB _;exact hT hB
 refine ⟨(h.ix.byt c hS).more c.size (Nat.le_refl _),.inl o,h.gr.ch c (fun k hk=>?_) (fun i hi hk=>by have:=(hS i hk).1;omega),h.b7.ch c (no h.b7 (by decide))⟩;obtain ⟨cs,hB⟩:=iJ h.gr.own hk;exact no hB (by decide)
theorem Q_.fit {R:List (List aA)} (h:Q_ w W i7 b5 v vs vp vg X (iw 5 R) ps n gl) (he:ps.map PV.e=z13 R) (hp:∀x∈ps,∀g∈x.gs,0<=g) (hR:R.length<=61):∀x∈ps,x.fit W (fun k=>k<W.heap.size):=fun x hx=>by
 have hm:PV.e x∈z13 R:=by rw[←he];exact List.mem_map_of_mem hx
 obtain ⟨t,ht,e⟩:=List.mem_map.1 hm;have e1:t=x.text:=congrArg PostE.text e;have e2:bU t 0 R=x.gs.map Int.toNat:=congrArg PostE.gs e;have hl:x.gs.length=(bU t 0 R).length:=by rw[e2,List.length_map]
 have hl2:=uK t R;refine ⟨(h.ix.rows x hx).more fun k hk=>hk.2.1,?_,by omega,fun g hg=>⟨hp x hx g hg,?_⟩⟩
 ·rw[←e1]
  obtain ⟨r, -,rfl⟩:=List.mem_map.1 (yt.1 ht);have:=z11 r;omega
 ·have hg2:g.toNat∈bU t 0 R:=by rw[e2];exact List.mem_map_of_mem hg
  have:=mZ _ hg2;omega
end
theorem BL {w:World} {D:Nat->Prop} {A:Option Addr} {n c per:Nat} {l:List RV} (hr:Rd w D 9 A n (iE l)) (hD:∀k,D k->k<w.heap.size) (hl:l.length=n) (hc:n<=c) (hcm:c<=maxLen) (hk:∀x∈l,x.ok w D) (hm:fP (l.map fun x=>x.row)=true) (h0:0<per) (h1:per<=256) (hn:n<=61):
 Calls Tryz.prog 18 #[.slice A n c,.int .i64 (per:Int)] w fun e w'=>∃v,e=.returned v/\ak w w' 5 1 v (bg (l.map fun x=>x.row) per).length (bl (bg (l.map fun x=>x.row) per)):=by
 subst hl;obtain ⟨m,hmm⟩:∃m,m=(l.length+per-1) / per:=⟨_,rfl⟩;obtain ⟨gs,hgs⟩:∃gs,gs=Ae A c per l m:=⟨_,rfl⟩;obtain ⟨R,hR⟩:∃R,R=bT per (l.map fun x=>x.row):=⟨_,rfl⟩;have hmf:=IB.1 hm;have hGR:gs.map GV.rows=R:=by rw[hgs,hR,hmm];exact OA A c per l
 have hGV:gs.map GV.v=cutV A c per l.length m:=by rw[hgs];exact (Bc A c per l m).symm
 have hGL:gs.length=m:=by rw[hgs];simp[Ae]
 have hRL:R.length=m:=by rw[←hGR,List.length_map,hGL]
 have hlp:0<l.length:=by have:=hmf.1;rwa [List.length_map]at this
 have hm61:m<=61:=by
  have:=uQ (per:=per) (l:=l) h0 hlp;rw[Ro]at this;omega
 have hfl:R.flatten.length=l.length:=by rw[hR,z26 h0,List.length_map]
 have hgp:∀g∈R,dM g:=fun g hg=>by rw[hR]at hg;exact (Ba h0 h1 hm g hg).1
 have xK:=ah (fun (w':World) (c':Nx w w') (g:GV) (hg:g∈gs)=>(by
  have h:=XH (c:=c) hr hk h0 h1 (fun x hx=>hmf.2.1 x.row (List.mem_map_of_mem hx));rw[←hmm,←hgs]at h;exact ((h g hg).more hD).nx c':g.ok w' (fun k=>k<w.heap.size)))
 have HB:Hid (bg (l.map fun x=>x.row) per=headB++aN R++fE R++four (fE R).length++[69,78,84,82]):=ah (by unfold bg jl;rw[←hR]);have hbs:=z5f (per:=per) h0 h1 hm (by rw[List.length_map];exact hn);have his:=uD hgp (by omega) (by omega);have Zt:=ah hgp;have hcv:=Lib.run_convert_bytes_const (P:=Tryz.prog) w 26 5 #[.int .u8 69,.int .u8 78,.int .u8 84,.int .u8 82,.int .u8 1] 5 5 Tryz.underlying26 Tryz.underlying5;have jo:=ah (fun (w':World) (c':Nx w w')=>Kt (hr.nx (w':=w') (by decide) c') (by omega) hc hcm h0 h1);have Cb:=ah hGR;have HGV:=ah hGV;have HGL:=ah hGL;have jB:=ah hRL;have HFL:=ah hfl;generalize bg (l.map fun x=>x.row) per=bb at *;clear hr hD hk hm hmf hGR hGV hGL hRL hgp hR hgs hfl;go_enter Tryz.func18,Tryz.ntmps18;go_wp2_with fail;have n1:Nx w (w.alloc (.cells #[.int .u8 69,.int .u8 78,.int .u8 84,.int .u8 82,.int .u8 1] 5 (5,6))):=(Ch.refl _ w).alloc _;have U1:Hid (jL w (w.alloc (.cells #[.int .u8 69,.int .u8 78,.int .u8 84,.int .u8 82,.int .u8 1] 5 (5,6))) (.slice (some ⟨w.heap.size,0,none⟩) 5 5) (headB++aN (R.take 0))):=ah (.inr ⟨w.heap.size,_,_,rfl,heap_alloc_new w _,rfl,Nat.le_refl _,n1⟩);have N1:=ah n1;clear n1 hcv;generalize w.alloc (.cells #[.int .u8 69,.int .u8 78,.int .u8 84,.int .u8 82,.int .u8 1] 5 (5,6))=w1 at *;refine (jo.out w1 N1.out).mono ?_;rintro e w2 ⟨vg,rfl,og⟩;rw[←hmm,←HGV.out]at og;have N2:=ah (N1.out.tr og.nx);have U2:=ah (U1.out.ch og.nx (fun _ _ _ _ _ hf=>hf.elim) (fun _ _ hf=>hf));have OG:Hid (ak w w2 22 1 vg m (gs.map GV.v)):=ah ⟨jM og.own N1.out.size,N2.out⟩;clear og U1 hmm jo HGV;obtain ⟨Ag,cg,rfl, -, -⟩:=OG.out.form;have HIX:=ah (zQ (c:=cg) (OG.out.rd.more (D':=fun k=>k<w2.heap.size) fun k hk=>hk.2.2) HGL.out (by omega) (fun g hg=>(xK.out w2 N2.out g hg).more fun k hk=>by have:=N2.out.size;omega) (by rw[Cb.out,HFL.out];omega));rw[Cb.out]at HIX;go_wp2_with fail;refine HIX.out.mono ?_;rintro e w3 ⟨vs,vp,ps,b5,rfl,hix,hps,hpo⟩;have n3:Nx w2 w3:=hix.os.nx
 have B3:Hid (Q_ w (w3.alloc (.cells #[vs,vp] 100)) w3.heap.size b5 (.slice (some ⟨w.heap.size,0,none⟩) 5 5) vs vp (.slice Ag m cg) (headB++aN (R.take 0)) (iw 5 R) ps m (gs.map GV.v)):=ah (by
  have nA:Nx w3 (w3.alloc (.cells #[vs,vp] 100)):=(Ch.refl _ w3).alloc _;have nB:=n3.tr nA;exact ⟨((hix.WC N2.out).nx nA).more nA.size (Nat.le_refl _),U2.out.ch nB (fun _ _ _ _ _ hf=>hf.elim) (fun _ _ hf=>hf),OG.out.tr nB,aG.new w3 _ _⟩)
 have Qv:=ah hps;have QU:=ah hpo;obtain ⟨As,cs,rfl, -, -⟩:=hix.os.form;obtain ⟨Ap,cp,rfl, -, -⟩:=hix.op.form;clear hix hps hpo n3 HIX U2 OG;go_wp2_with fail;generalize hi7:w3.heap.size=i7 at *;go_loopw [5,22] (fun v i wr=>∃k:Nat,k<=m/\i=.int .i64 (k:Int)/\Hid (Q_ w wr i7 b5 v (.slice As (iw 5 R).length cs) (.slice Ap ps.length cp) (.slice Ag m cg) (headB++aN (R.take k)) (iw 5 R) ps m (gs.map GV.v))) (fun _ i _=>m-(intOf i).toNat)
 case atStart=>exact ⟨0,Nat.zero_le _,rfl,B3⟩
 case round=>
  clear B3;obtain ⟨w4,rfl⟩:∃w4:World,w4=wr:=⟨_,rfl⟩;obtain ⟨k,hkm,rfl,HI⟩:=hrel;have N4:=ah HI.out.gr.nx
  have hbl:(aN (R.take k)).length<=100000000:=by
   have:=z3q (gs:=R.take k) (fun g hg=>Zt.out g (List.mem_of_mem_take hg));rw[List.length_take]at this;have:=Nat.min_le_left k R.length;omega
  by_cases hlt:k<m
  ·have hkg:k<gs.length:=by have:=HGL.out;omega
   have hkR:k<R.length:=by have:=jB.out;omega
   obtain ⟨gd,u,rfl, -,hu,hcl⟩:=HI.out.gr.rd.at_ hlt;rw[List.getElem?_map,List.getElem?_eq_getElem hkg]at hu;have HG:=ah (xK.out w4 N4.out _ (List.getElem_mem hkg));have HX:R[k]=gs[k].rows:=(by rw[List.getElem_of_eq Cb.out.symm hkR,List.getElem_map]);generalize gs[k]=g at hu HG HX;obtain ⟨Ak,ck,lk⟩:=g;simp only[Option.map_some,GV.v]at hu;injection hu with hu;subst hu
   have UN:=ah (by
    have h:=pX HG.out;rw[←HX]at h;exact h:Calls Tryz.prog 53 #[.slice Ak lk.length ck] w4 fun e w''=>∃v,e=.returned v/\ak w4 w'' 5 1 v (aF R[k]).length (bl (aF R[k])))
   have hgl:=z20 (Zt.out _ (List.getElem_mem hkR));have hg0:=pW R[k];have HXK:Hid (headB++aN (R.take (k+1))=(headB++aN (R.take k))++aF R[k]):=ah (by rw[List.take_succ_eq_append_getElem hkR,z2W,List.append_assoc]);generalize aF R[k]=Y at *;have Zk:(headB++aN (R.take k)).length<=100000005:=by rw[List.length_append];have:headB.length=5:=rfl;omega
   generalize headB++aN (R.take k)=X at *;clear HX HG;go_wp2_with fail;refine UN.out.mono ?_;rintro e w5 ⟨v5,rfl,o5⟩;obtain ⟨A5,c5,rfl, -, -⟩:=o5.form;have I5:=ah (HI.out.nx o5.nx);obtain ⟨v6,w6,happ,o6,gr6⟩:=I5.out.out.app (c:=c5) o5.rd rfl hg0 (by omega) 26;have I6:=ah (I5.out.app o6 gr6);clear o5 o6 gr6 HI UN hcl;go_wp2_with (at_builtin;refine z2P rfl (.tmp 26) (.tmp 28) 26 rfl rfl rfl happ ?_)
   go_roundw
   case rel=>exact ⟨k+1,hlt,by go_num,by rw[HXK.out];exact I6⟩
   case measure=>simp[intOf];omega
  ·have VF:Hid (R.take k=R):=ah (List.take_of_length_le (by have:=jB.out;omega))
   rw[VF.out]at HI hbl;have c0:w4.cell? ⟨i7,0,none⟩=some (.slice As (iw 5 R).length cs):=HI.out.b7.cell 0;have c1:w4.cell? ⟨i7,1,none⟩=some (.slice Ap ps.length cp):=HI.out.b7.cell 1
   have hps2:ps.length<=2048:=by
    have h1:=congrArg List.length Qv.out;rw[List.length_map]at h1;have h2:=Iw (R.flatten.map aT);unfold z13 at h1;rw[List.length_map]at h1;rw[List.length_map,HFL.out]at h2;omega
   have Zu:=ah (EM (cs:=cs) (cp:=cp) (D:=fun k=>k<w4.heap.size) (HI.out.ix.os.rd.more fun k hk=>hk.2.2) (HI.out.ix.op.rd.more fun k hk=>hk.2.2) (HI.out.fit Qv.out QU.out (by have:=jB.out;omega)) (z36 Zt.out (by omega)) (by rw[FU,jB.out];omega) hps2 (by rw[Qv.out];omega));have Il:Hid (dR (fM (iw 5 R) (ps.map PV.e))=fE R):=ah (by rw[Qv.out];rfl)
   have hFl:(fE R).length<=60004/\0<(fE R).length:=by
    unfold fE;rw[Iz];omega
   rw[Il.out]at Zu;have HXL:(headB++aN R).length<=100000005:=by rw[List.length_append];have:headB.length=5:=rfl;omega
   generalize fE R=F at *;generalize headB++aN R=X at *;have ku:IntKind.u32.wrap (F.length:Int)=(F.length:Int):=by rw[IntKind.wrap_u32];omega
   have HFO:=ah (fun (w':World)=>yS F.length w' (by omega));clear Qv QU VF Il;go_wp2_with fail;refine Zu.out.mono ?_;rintro e w5 ⟨g5,cap5,rfl,o5, -⟩;have I5:=ah (HI.out.nx o5.nx);obtain ⟨v6,w6,happ,o6,gr6⟩:=I5.out.out.app (c:=cap5) o5.rd rfl hFl.2 (by omega) 26;have hTl:(X++F).length<=100060009:=by rw[List.length_append];omega
   generalize X++F=T at *;have O6:=ah o6;obtain ⟨A6,c6,rfl, -, -⟩:=o6.form;clear o5 o6 gr6 HI I5 Zu c0 c1;go_wp2_with (at_builtin;refine z2P rfl (.tmp 33) (.tmp 34) 26 rfl rfl rfl happ ?_)
   refine (HFO.out _).mono ?_;rintro e w7 ⟨g7,kG,rfl,o7, -⟩;have O7:=ah (O6.out.tr o7.nx);have R7:=ah o7.iy;obtain ⟨i0,hi0,hz0,hz1,hz2⟩:=info_parts Tryz.info5;have HF4:Hid ((four F.length).length=4/\(⟨#[69,78,84,82]⟩:ByteArray).size=4/\jg ⟨#[69,78,84,82]⟩=[69,78,84,82]):=ah (by refine ⟨rfl,by decide+kernel,by decide+kernel⟩);clear o7 HFO O6
   go_wp2_with (first
    |(at_builtin;refine z05 rfl (.tmp 36) (.tmp 40) _ rfl 5 i0 _ 1 1 Tryz.underlying26 hi0 hz0 hz1 hz2 rfl (by omega) rfl O7.out _ (some ⟨g7,0,none⟩) 4 kG (bl (four F.length)) rfl R7.out (iL _) (by simp only[maxLen];omega) (by omega) ?_;intro v8 w8 o8 m8;have O8:Hid (ak w w8 5 1 v8 (T.length+4) (bl (T++four F.length))):=ah (by rw[show bl (T++four F.length)=bl T++bl (four F.length) by simp[bl]];exact o8);obtain ⟨A8,c8,rfl, -, -⟩:=o8.form;clear o8 m8)
    |(at_builtin;refine ZO rfl (.tmp 42) (.const (.string ⟨#[69,78,84,82]⟩)) _ _ rfl 5 i0 Tryz.underlying26 Tryz.underlying9 hi0 hz0 hz1 hz2 rfl O8.out ⟨#[69,78,84,82]⟩ rfl (by rw[HF4.out.2.1];simp only[maxLen];omega) (by rw[HF4.out.2.1];omega) ?_;intro v9 w9 o9;have O9:=ah o9;clear o9))
   go_ret;refine ⟨_,rfl,?_⟩;have h:=O9.out;rw[HF4.out.2.1,HF4.out.2.2]at h;rw[HB.out]
   have e2:(T++four F.length++[69,78,84,82]).length=T.length+4+4:=by
    rw[List.length_append,List.length_append,HF4.out.1];rfl
   rw[e2];exact h
theorem z4h {kind:Nat} {xs:List Nat} (hf:gU xs=0) (D:Nat->Prop) (A:Option Addr) (n c:Nat) (W:World) (hr:Rd W D 1 A n (bl (ay kind xs))) (hD:∀k,D k->k<W.heap.size) (ok:okB xs) (hk:kind<256) (hl:(ay kind xs).length=n) (hc:n<=c) (hx:xs.length<=65536) (h0:0<xs.length):
 Calls Tryz.prog 197 #[.int .u8 (kind:Int),.slice A n c] W (QC W xs):=
 z54 D A n c kind xs (ay kind xs) W (by
  have hn:¬(cZ xs).length<xs.length:=fun h=>by unfold gU at hf;rw[if_pos h]at hf;cases hf
  unfold ay lH gB;rw[hf,if_neg hn]) hr hD ok hk hl hc hx h0
theorem zL {l:List aA} {f:aA->Int} (h0:aJ (l.map f)=0) (hf:gU (aX (l.map f))=0) {t:List Nat} (ht:t=ay 1 (aX (l.map f))):∀(D:Nat->Prop) (A:Option Addr) (c:Nat) (W:World),Rd W D 1 A t.length (bl t)->(∀j,D j->j<W.heap.size)->t.length<=c->
 Calls Tryz.prog 61 #[.slice A t.length c] W fun e w'=>∃v x er,e=.returned (.tuple #[v,.int .i64 er])/\ak W w' 2 1 v x.length (il x)/\(∀z∈x,i64 z)/\x=l.map f:=by
 intro D A c W hr hD hc;subst ht;refine (Px D A _ c (l.map f) W hr rfl h0 (z4h hf D A _ c W hr hD (YH h0) (by decide) rfl hc (by have:=z14 h0;have:=(xQ h0).1;omega) (by have:=z14 h0;omega))).mono ?_;rintro e w' ⟨v,rfl,o⟩;exact ⟨v,_,0,rfl,o,fun z hz=>Td ((xQ h0).2 z hz),rfl⟩
structure UC (l:List aA):Prop where
 ints:∀k,k<6->gU (aX ((CU l).n k))=0
 words:gU (aQ (l.map aT))=0
 texts:gU (aU (l.map fun x=>x.text))=0
 flags:gU (aP (l.map fun x=>x.null))=0
theorem Pj {l:List aA} (hg:dM l) (hw:UC l):VJ (aF l) (fun k x=>x=(CU l).n k) (fun x=>x=l.map aT) (fun x=>x=l.map fun x=>x.text) (fun x=>x=l.map fun x=>x.null):=by
 have hl:=hg.few;refine ⟨fun k hk=>?_,fun D A c W hr hD hc=>?_,fun D A c W hr hD hc=>?_,fun D A c W hr hD hc=>?_⟩
 ·have hf:=hw.ints k hk
  by_cases h5:k=5
  ·subst h5
   rw[tn_5,Ie];rw[Ie]at hf;exact zL hg.value hf ((ZN hg (k:=7) (by decide)).trans (Po l))
  ·have hk5:k<5:=by omega
   rw[ZP hk5,Pm l hk5];rw[Pm l hk5]at hf;exact zL (grpI hg hk5) hf ((ZN hg (k:=k) (by omega)).trans (qj hk5))
 ·have ht:eH (aF l) 5=ay 2 (aQ (l.map aT)):=(ZN hg (k:=5) (by decide)).trans (Pv l)
  rw[ht]at hr hc ⊢;have hn:(l.map aT).length<=2048:=by rw[List.length_map];omega
  refine (KC D A _ c (l.map aT) W hr rfl hn (Zx l) hg.words (z4h hw.words D A _ c W hr hD (z30 hn (Zx l)) (by decide) rfl hc hg.words (C_ _))).mono ?_;rintro e w' ⟨v,rfl,o⟩;exact ⟨v,_,0,rfl,o,fun s hs=>Nat.le_trans (Zx l s hs) (by decide),rfl⟩
 ·have ht:eH (aF l) 6=ay 3 (aU (l.map fun x=>x.text)):=(ZN hg (k:=6) (by decide)).trans (Pq l)
  rw[ht]at hr hc ⊢;have n1:(l.map fun x=>x.text).length<=2048:=by rw[List.length_map];omega
  have n2:=hg.text;have n3:=hg.texts;have n4:=hw.texts;generalize (l.map fun x=>x.text)=T at *;refine (KD D A _ c T W hr rfl n1 n2 n3 (z4h n4 D A _ c W hr hD (YP n1 n2).1 (by decide) rfl hc n3 (YP n1 n2).2.2)).mono ?_;rintro e w' ⟨v,rfl,o⟩;exact ⟨v,_,0,rfl,o,fun s hs=>Nat.le_trans (n2 s hs) (by decide),rfl⟩
 ·have ht:eH (aF l) 8=ay 4 (aP (l.map fun x=>x.null)):=(ZN hg (k:=8) (by decide)).trans (Pn l)
  rw[ht]at hr hc ⊢;have hn:(l.map fun x=>x.null).length<=2048:=by rw[List.length_map];omega
  have n4:=hw.flags;generalize (l.map fun x=>x.null)=T at *;have hlen:=VU hn
  have hpos:0<(aP T).length:=by
   have h:=zi T.length;unfold aP;rw[List.length_append];omega
  refine (KF D A _ c T W hr rfl hn (z4h n4 D A _ c W hr hD (z3h hn) (by decide) rfl hc (by omega) hpos)).mono ?_;rintro e w' ⟨v,rfl,o⟩;exact ⟨v,_,0,rfl,o,rfl⟩
theorem TI {w:World} {D:Nat->Prop} {A:Option Addr} {n c:Nat} {l:List aA} (hm:fP l=true) (hf:l.length<=256) (hw:UC l) (hr:Rd w D 1 A n (bl (aF l))) (hl:(aF l).length=n) (hc:n<=c) (hD:∀k,D k->k<w.heap.size) (mm:Int) (hz:w.cell? ⟨0,0,none⟩=some (.int .i64 mm)):
 Calls Tryz.prog 25 #[.slice A n c] w (vF w (some l)):=by
 have hg:dM l:=⟨hf,(IB.1 hm).2.1⟩;refine (TJ hr (z4N hg) hl (by have:=z20 hg;omega) hc hD mm hz (Pj hg hw)).mono ?_;rintro e w' ⟨cs,h1,h2,h3,h4,h5⟩;rw[aY.Aq (d:=CU l) (aF l) h1 h2 h3 h4,E_ hm hg]at h5;exact h5
theorem MR {w:World} {D:Nat->Prop} {A:Option Addr} {n c:Nat} {l:List aA} {per:Int} (h:kP l per=0) (hw:∀g∈bT per.toNat l,UC g) (hr:Rd w D 1 A n (bl (bg l per.toNat))) (hl:(bg l per.toNat).length=n) (ok:okB (bg l per.toNat)) (hc:n<=c) (hD:∀k,D k->k<w.heap.size) (mm:Int) (hz:w.cell? ⟨0,0,none⟩=some (.int .i64 mm)):
 Calls Tryz.prog 21 #[.slice A n c] w (vF w (some l)):=by
 obtain ⟨gs,e,a1,a2,a3,a4,a5,a6,a7,a8,a9,a10,a11⟩:=ZL h;have hgr:∀k (hk:k<(bT per.toNat l).length),(fun k=>(bT per.toNat l)[k]?) k=some (bT per.toNat l)[k]:=fun k hk=>List.getElem?_eq_getElem hk;have hn:n<=1000000000:=by rw[←hl,a1];omega
 have h1:=MS (gr:=fun k=>(bT per.toNat l)[k]?) hr hD ok hl hn hc (fun k g hg=>?_) (fun k hk W hW D' A' c' hr' hc' hD'=>?_)
 ·rw[Jm h hgr]at h1
  exact h1
 ·have:=(a5 g (by rw[e];exact List.mem_of_getElem? hg)).1.few
  exact this
 ·rw[yY h]at hk
  rw[M_ h hk]at hr' hc' ⊢;have hgm:=a5 _ (by rw[e];exact List.getElem_mem hk);have:=TI hgm.2 hgm.1.few (hw _ (List.getElem_mem hk)) hr' rfl hc' hD' mm ((hW.cell (p:=⟨0,0,none⟩) (World.block_lt_of_cell? w _ hz)).trans hz);simpa [List.getElem?_eq_getElem hk]using this
theorem Jd:bT (4:Int).toNat [row0]=[[row0]]:=rfl
theorem MJ:UC [row0]:=by
 refine ⟨fun k hk=>?_,by decide+kernel,by decide+kernel,by decide+kernel⟩;rcases (show k=0∨k=1∨k=2∨k=3∨k=4∨k=5 by omega) with rfl|rfl|rfl|rfl|rfl|rfl
 all_goals decide+kernel
theorem zF (W:World) (mm:Int) (hz:W.cell? ⟨0,0,none⟩=some (.int .i64 mm)):Calls Tryz.prog 11 #[] W fun e W'=>e=.returned (.bool true)/\Nx W W':=
 Eu W mm hz fun w D A c hr hc hD hz=>MR (w:=w) (D:=D) (A:=A) (c:=c) z4e (fun g hg=>by rw[Jd,List.mem_singleton]at hg;rw[hg];exact MJ) hr rfl (z4O z4e) hc hD mm hz
end Go.Proofs.YtpakjclpjcngmaaGreat
