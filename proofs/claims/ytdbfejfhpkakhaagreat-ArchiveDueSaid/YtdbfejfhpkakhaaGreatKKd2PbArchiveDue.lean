/- ArchiveDue: one batch alone is carried on as soon as it has enough rows of one window and part, or has waited long enough, and not ahead of that. Conditions: none. -/
import Derived.Test.YtdbfejfhpkakhaaGreatKKd2Q37
import Derived.Test.YtdbfejfhpkakhaaGreatKKd2PbArE
import Derived.Test.YtdbfejfhpkakhaaGreatKKd2Q38
import Derived.Test.YtdbfejfhpkakhaaGreatKKd2Q36
import Derived.Test.YtdbfejfhpkakhaaGreatKKd2Q24
import Derived.Test.YtdbfejfhpkakhaaGreatKKd2Q23
import Derived.Test.YtdbfejfhpkakhaaGreatKKd2Q12
import Derived.Test.YtdbfejfhpkakhaaGreatKKd2Q4
import Derived.Shelf.Vars
import Derived.SliceStrings
import Derived.Deep.CutBlock
import Derived.StillTailTactics
set_option maxRecDepth 100000
set_option maxHeartbeats 64000000
set_option linter.unusedVariables false
set_option linter.unusedSimpArgs false
namespace Go.Proofs.YtdbfejfhpkakhaaGreat.ArchiveDue
open Go.RowKit Go.Proofs.YtdbfejfhpkakhaaGreat Ps
theorem qI {r:aC} (h:aT r=true):gQ r.ak=true/\0<=r.time/\r.time<=1099511627776:=by
 unfold aT at h;simp only[Bool.and_eq_true,decide_eq_true_eq]at h;exact ⟨h.1.2,by omega,by omega⟩
def Nl (C:aV) (cnt:ByteArray->Nat):Prop:=∃s,fC s/\C.flush<=(cnt s:Int)
theorem walk (C:aV) (A:Option Addr) (q:Nat) (b:dF) (at_:Int) (w:World) (hr:Rd w (· <w.heap.size) 1 A C.aH.length (dK C.aH)) (hn:C.aH.length<=9223372036854775807) (hs:∀s∈C.aH,s.size<=9223372036854775807)
 (hb:b.ok w (· <w.heap.size)) (hat:i64 at_):
 Calls Tryz.prog 5 #[iY C A q,oG b,.int .i64 at_] w fun e w'=>e=.returned (.bool true)/\Nx w w':=by
 have Nc:=ah (fun w' (n:Nx w w')=>new_any 1 1 C A q w' (hr.nx (by decide) n) hn hs);have jd:=ah hr;have QV:=ah hb;have HL:=ah (fun w=>Gw w);obtain ⟨mk,sq,Ab,cc,lb⟩:=b;obtain ⟨m,hm⟩:∃m,lb.length=m:=⟨_,rfl⟩;have YD:=ah hm;unfold iY oG at *;simp only[hm];clear hr hs hb hm;have HB:=ah ((aG.new w 24 #[.int .i64 C.window,.slice A C.aH.length q,.int .i64 C.group,.int .i64 C.buffer,.int .i64 C.flush,.int .i64 C.age,.int .i64 C.piece,.int .i64 C.tries,.int .i64 C.wait,.int .i64 C.small,.int .i64 C.most,.int .i64 C.gG]).alloc (.cells #[.int .i64 mk,.int .i64 sq,.slice Ab m cc] 37))
 have WG:=ah (show aG ((w.alloc (.cells #[.int .i64 C.window,.slice A C.aH.length q,.int .i64 C.group,.int .i64 C.buffer,.int .i64 C.flush,.int .i64 C.age,.int .i64 C.piece,.int .i64 C.tries,.int .i64 C.wait,.int .i64 C.small,.int .i64 C.most,.int .i64 C.gG] 24)).alloc (.cells #[.int .i64 mk,.int .i64 sq,.slice Ab m cc] 37)) (w.heap.size+1) 37 #[.int .i64 mk,.int .i64 sq,.slice Ab m cc] from by
  have h:=aG.new (w.alloc (.cells #[.int .i64 C.window,.slice A C.aH.length q,.int .i64 C.group,.int .i64 C.buffer,.int .i64 C.flush,.int .i64 C.age,.int .i64 C.piece,.int .i64 C.tries,.int .i64 C.wait,.int .i64 C.small,.int .i64 C.most,.int .i64 C.gG] 24)) 37 #[.int .i64 mk,.int .i64 sq,.slice Ab m cc];rw[World.size_alloc w]at h;exact h)
 have NA:=ah (((Ch.refl (fun _=>False) w).alloc (.cells #[.int .i64 C.window,.slice A C.aH.length q,.int .i64 C.group,.int .i64 C.buffer,.int .i64 C.flush,.int .i64 C.age,.int .i64 C.piece,.int .i64 C.tries,.int .i64 C.wait,.int .i64 C.small,.int .i64 C.most,.int .i64 C.gG] 24)).alloc (.cells #[.int .i64 mk,.int .i64 sq,.slice Ab m cc] 37));have HS1:=ah (show ((w.alloc (.cells #[.int .i64 C.window,.slice A C.aH.length q,.int .i64 C.group,.int .i64 C.buffer,.int .i64 C.flush,.int .i64 C.age,.int .i64 C.piece,.int .i64 C.tries,.int .i64 C.wait,.int .i64 C.small,.int .i64 C.most,.int .i64 C.gG] 24)).alloc (.cells #[.int .i64 mk,.int .i64 sq,.slice Ab m cc] 37)).heap.size=w.heap.size+2 from by rw[World.size_alloc,World.size_alloc]);obtain ⟨w1,hW⟩:∃w1,(w.alloc (.cells #[.int .i64 C.window,.slice A C.aH.length q,.int .i64 C.group,.int .i64 C.buffer,.int .i64 C.flush,.int .i64 C.age,.int .i64 C.piece,.int .i64 C.tries,.int .i64 C.wait,.int .i64 C.small,.int .i64 C.most,.int .i64 C.gG] 24)).alloc (.cells #[.int .i64 mk,.int .i64 sq,.slice Ab m cc] 37)=w1:=⟨_,rfl⟩;obtain ⟨g,hg⟩:∃g,w.heap.size=g:=⟨_,rfl⟩;rw[hW]at HB NA HS1 WG;rw[hg]at HB HS1 WG;have HG:=ah hg;have HKA:=ah (fun w' (c:Nx w1 w')=>(⟨(HB.out.nx c).cell 0,(HB.out.nx c).cell 1,(HB.out.nx c).cell 2,(HB.out.nx c).cell 3,(HB.out.nx c).cell 4,(HB.out.nx c).cell 5,(HB.out.nx c).cell 6,(HB.out.nx c).cell 7,(HB.out.nx c).cell 8,(HB.out.nx c).cell 9,(HB.out.nx c).cell 10,(HB.out.nx c).cell 11⟩:w'.cell? ⟨g,0,none⟩=some (.int .i64 C.window)/\w'.cell? ⟨g,1,none⟩=some (.slice A C.aH.length q)/\w'.cell? ⟨g,2,none⟩=some (.int .i64 C.group)/\w'.cell? ⟨g,3,none⟩=some (.int .i64 C.buffer)/\w'.cell? ⟨g,4,none⟩=some (.int .i64 C.flush)/\w'.cell? ⟨g,5,none⟩=some (.int .i64 C.age)/\w'.cell? ⟨g,6,none⟩=some (.int .i64 C.piece)/\w'.cell? ⟨g,7,none⟩=some (.int .i64 C.tries)/\w'.cell? ⟨g,8,none⟩=some (.int .i64 C.wait)/\w'.cell? ⟨g,9,none⟩=some (.int .i64 C.small)/\w'.cell? ⟨g,10,none⟩=some (.int .i64 C.most)/\w'.cell? ⟨g,11,none⟩=some (.int .i64 C.gG)));have HKB:=ah (fun w' (c:Nx w1 w')=>(⟨(WG.out.nx c).cell 0,(WG.out.nx c).cell 1,(WG.out.nx c).cell 2⟩:w'.cell? ⟨g+1,0,none⟩=some (.int .i64 mk)/\w'.cell? ⟨g+1,1,none⟩=some (.int .i64 sq)/\w'.cell? ⟨g+1,2,none⟩=some (.slice Ab m cc)));obtain ⟨q0,q1,q2,q3,q4,q5,q6,q7,q8,q9,q10,q11⟩:=HKA.out w1 (Ch.refl _ w1);go_enter Tryz.func5,Tryz.ntmps5;go_wp2_with fail;clear hW hg q0 q1 q2 q3 q4 q5 q6 q7 q8 q9 q10 q11;refine (Nc.out _ NA.out).mono ?_;rintro e w2 ⟨n2,hbad,hgood⟩;have N2:=ah n2;clear n2;cases hok:okA 1 1 C
 ·have h0:=hbad hok
  subst h0;clear hbad hgood;go_wp2_with fail;refine (HL.out _).mono ?_;rintro e w3 ⟨rfl,n3⟩;have N3:=ah (N2.out.tr n3);clear n3;go_wp2_with fail;refine (HL.out _).mono ?_;rintro e w4 ⟨rfl,n4⟩;have N4:=ah (N3.out.tr n4);clear n4;go_wp2_with fail;go_ret;exact ⟨rfl,NA.out.tr N4.out⟩
 ·obtain ⟨a,A2,k2,bb2,m2,rfl,ha2,hM⟩:=hgood hok
  have HM:=ah hM;have HA2:=ah ha2;have NM:=ah hok;clear hbad hgood hM ha2 hok;go_wp2_with fail;refine (HL.out _).mono ?_;rintro e w3 ⟨rfl,n3⟩;have N3:=ah n3;have N13:=ah (N2.out.tr n3);clear n3;obtain ⟨r0,r1,r2⟩:=HKB.out w3 N13.out;have q5:=(HKA.out w3 N13.out).2.2.2.2.2.1;by_cases h70:70<m
  ·go_wp2_with fail
   refine (HL.out _).mono ?_;rintro e w4 ⟨rfl,n4⟩;have N4:=ah (N13.out.tr n4);clear n4;go_wp2_with fail;go_ret;exact ⟨rfl,NA.out.tr N4.out⟩
  ·by_cases hag:2000<C.age
   ·go_wp2_with fail
    refine (HL.out _).mono ?_;rintro e w4 ⟨rfl,n4⟩;have N4:=ah (N13.out.tr n4);clear n4;go_wp2_with fail;go_ret;exact ⟨rfl,NA.out.tr N4.out⟩
   ·have Vj:=ah (show gI w w3 g w1.heap.size w3.heap.size a C A q none [] [] [] [] (.slice none 0 0) (.slice none 0 0) 0 from by
     have h1:=HG.out;have h2:=HS1.out;have h3:=HA2.out;have h4:=(HM.out.nx N3.out).blk.lt
     exact ⟨by omega,by omega,by omega,h4,Nat.le_refl _,HB.out.nx N13.out,(jd.out.nx (by decide) NA.out).nx (by decide) N13.out,Rd.none_ _ _ _ _,fun b hb=>by (cases hb),NA.out.tr N13.out,
      ⟨0,je.made (HM.out.nx N3.out)⟩,World.ownsRow_nil _ _ _ _,fun z hz=>by (cases hz),fun b hb=>by (cases hb),fun z hz=>by (cases hz),fun s _=>Nat.zero_le _⟩)
    have HAS:=ah (je.made (HM.out.nx N3.out));have ZB:=ah (N_ HM.out.fits);have HBM:=ah (WG.out.nx N13.out);have iw:=ah ((QV.out.nx NA.out).nx N13.out);obtain ⟨B,hB⟩:∃B,w3.heap.size=B:=⟨_,rfl⟩;rw[hB]at Vj;have IU:=ah (show g+1<w1.heap.size/\w.heap.size<=g from by have:=HS1.out;have:=HG.out;omega);have HA3:=ah (show w1.heap.size<=a from HA2.out);obtain ⟨ξ,hξ⟩:∃ξ,w1.heap.size=ξ:=⟨_,rfl⟩;rw[hξ]at Vj HM IU HA3 HAS;clear hB hξ HM HA2 Nc
    obtain ⟨u,hu⟩:∃u:Nat,IntKind.u64.wrap at_=(u:Int):=⟨(IntKind.u64.wrap at_).toNat,by
     have:0<=IntKind.u64.wrap at_:=by simp[IntKind.wrap,IntKind.bits,IntKind.signed];omega
     omega⟩
    obtain ⟨r,hr⟩:∃r,u % 100=r:=⟨_,rfl⟩;have hr1:(u:Int) % 100=(r:Int):=(by omega);have hr2:(u:Int).tmod 100=(r:Int):=by rw[Int.tmod_eq_emod_of_nonneg (by omega)];omega
    have hr3:IntKind.u64.wrap (r:Int)=(r:Int):=by simp[IntKind.wrap,IntKind.bits,IntKind.signed];omega
    have hr4:IntKind.i64.wrap (r:Int)=(r:Int):=IntWalk.i64_in _ (by omega);have hr99:r<=99:=(by omega);have hun:0<=(u:Int):=(by omega);clear hr
    have Wy:Hid (∀w',Nx w3 w'->Calls Tryz.prog 11 #[.pointer (some ⟨a,0,none⟩),.agg #[.int .i64 mk,.int .i64 sq,.slice Ab m cc],.int .i64 (r:Int)] w' (jT ξ w' a 1 1 C [] (fun _=>0) 0 false 0 (.slice none 0 0) ⟨mk,sq,Ab,cc,lb⟩ (r:Int))):=ah (fun w' c=>by
     have h:=lI (HAS.out.nx c) ⟨mk,sq,Ab,cc,lb⟩ (iw.out.nx c) (fun i hi e=>by have h1:=IU.out;have h2:=HA3.out;have hi:i<w.heap.size:=hi;omega) (by decide) (by decide) (r:Int);unfold oG at h;simp only[YD.out]at h;exact h)
    go_wp2_with fail;clear hu hr1 hr2 hr3 hr4 hun r0 r1 r2 q5;refine (Wy.out _ (by first|exact Ch.refl _ _|exact (Ch.refl _ _).drew)).mono ?_;rintro e w8 ⟨er,rfl,hiff,hc8,hbd,hgd⟩
    have B8:=ah (HBM.out.ch hc8 (fun hs=>by
     have h1:=IU.out;have h2:=HA3.out;rcases hs with hs|hs|hs
     ·exact hs.2 HBM.out.Qg
     ·omega
     ·cases hs))
    by_cases he:er=0
    ·subst he
     obtain ⟨b',wt', -, -,hbl,UC,Xw,hb8⟩:=hgd rfl;have hso:=hiff.1 rfl;have HR8:=ah (Vj.out.good hc8 (show je ξ w3 a 1 1 C [] (dD C []) 0 false 0 (.slice none 0 0) from HAS.out) hso UC Xw hb8)
     have Vz:=ah (show je ξ w8 a 1 1 C [b'] (dD C (lb.map fun x=>x.row)) (r:Int) false 1 wt' from by
      have h:=UC;rw[if_pos rfl,List.nil_append]at h
      have e:(fun s=>(fun _=>0) s+dD C (lb.map fun x=>x.row) s)=dD C (lb.map fun x=>x.row):=by
       funext s
       exact Nat.zero_add _
      rw[←e];exact h)
     have j_:=ah (z1n hso.1).2.2.2.2.2.2;have XH:lb.map (fun x=>x.row)≠[]:=(z1n hso.1).2.1
     have hm64:m<=64:=by
      have h1:=(z1n hso.1).1;rw[List.length_map]at h1;have h2:=YD.out;have h3:lb.length<=64:=h1;omega
     have HRB:=ah (show bQ [b']=lb.map fun x=>x.row from by
      unfold bQ;rw[List.flatMap_cons,List.flatMap_nil,List.append_nil,hbl])
     have QS:=ah (show (lb.map fun x=>x.row).length=m from by rw[List.length_map];exact YD.out);have QO:=ah XH;have HBX8:=ah (iw.out.sub hc8 fun k hk=>⟨by have h1:=IU.out;have h2:=HA3.out;have hk:k<w.heap.size:=hk;omega,fun e=>by cases e⟩)
     have HRW:Hid (∀w',Nx w8 w'->Calls Tryz.prog 12 #[.agg #[.int .i64 mk,.int .i64 sq,.slice Ab m cc]] w' (CQ (lb.map fun x=>x.row) w')):=ah (fun w' c=>by
      have h:=FH ⟨mk,sq,Ab,cc,lb⟩ (HBX8.out.nx c) (by show lb.length<=_;rw[YD.out];omega) (fun x hx=>by
       have h1:=(qI (j_.out x.row (List.mem_map_of_mem hx))).1;have h2:=(Nu h1).1;have h3:x.row.ak.length<=4:=h2;omega)
      unfold oG at h;simp only[YD.out]at h;exact h)
     have uZ:=ah (fun w' (c:Nx w8 w') (k:Nat) (h1:r<=k) (h2:k<=3000)=>Gm (a:=a) (ag:=1) (life:=1) (M:=99) (K:=1) (fun n w h=>XZ n w h) (by decide) (by decide) (by decide) (Vz.out.nx c) (by simp) (by decide) (by rw[HRB.out,QS.out];omega) (by rw[HRB.out,QS.out];omega) (by rw[HRB.out];exact QO.out) (k:Int) (by omega) (by omega) (by omega) (by omega));have SV:=ah HR8.out.cfg;have Wx:=ah (fun w' (c:Nx w8 w')=>(⟨(B8.out.nx c).cell 0,(B8.out.nx c).cell 1,(B8.out.nx c).cell 2,(SV.out.nx c).cell 0,(SV.out.nx c).cell 1⟩:w'.cell? ⟨g+1,0,none⟩=some (.int .i64 mk)/\w'.cell? ⟨g+1,1,none⟩=some (.int .i64 sq)/\w'.cell? ⟨g+1,2,none⟩=some (.slice Ab m cc)/\w'.cell? ⟨g,0,none⟩=some (.int .i64 C.window)/\w'.cell? ⟨g,1,none⟩=some (.slice A C.aH.length q)));clear hiff hbd hgd UC Xw hb8 hso hc8 hbl XH;go_wp2_with fail;refine sD (fun w'=>w'.cell? ⟨g+1,0,none⟩=some (.int .i64 mk)/\w'.cell? ⟨g+1,1,none⟩=some (.int .i64 sq)/\w'.cell? ⟨g+1,2,none⟩=some (.slice Ab m cc)/\w'.cell? ⟨g,0,none⟩=some (.int .i64 C.window)/\w'.cell? ⟨g,1,none⟩=some (.slice A C.aH.length q)) (fun _=>false) rfl (Wx.out w8.drew (Ch.refl _ w8).drew) (fun hS0=>?_)
     try simp only[Act.put,aA,au,ay]
     refine z00 (i:=0) (oi:=_) (v:=?_) rfl (fun _ _ _ h=>h) (Or.inl ⟨by rfl,?_⟩) ?_;rotate_left
     ·(intro w hSw;(try dsimp only at hSw);go_split_ands;go_simp;try with_reducible rfl)
     simp only[List.getElem_toArray,List.getElem_cons_zero,List.getElem_cons_succ,Act.put,aA,au,ay];refine z00 (i:=2) (oi:=_) (v:=?_) rfl (fun _ _ _ h=>h) (Or.inl ⟨by rfl,?_⟩) ?_;rotate_left
     ·(intro w hSw;(try dsimp only at hSw);go_split_ands;go_simp;try with_reducible rfl)
     simp only[List.getElem_toArray,List.getElem_cons_zero,List.getElem_cons_succ,Act.put,aA,au,ay];refine z00 (i:=3) (oi:=_) (v:=?_) rfl (fun _ _ _ h=>h) (Or.inl ⟨by rfl,?_⟩) ?_;rotate_left
     ·(intro w hSw;(try dsimp only at hSw);go_split_ands;go_simp;try with_reducible rfl)
     simp only[List.getElem_toArray,List.getElem_cons_zero,List.getElem_cons_succ,Act.put,aA,au,ay];refine z00 (i:=4) (oi:=_) (v:=?_) rfl (fun _ _ _ h=>h) (Or.inl ⟨by rfl,?_⟩) ?_;rotate_left
     ·(intro w hSw;(try dsimp only at hSw);go_split_ands;go_simp;try with_reducible rfl)
     simp only[List.getElem_toArray,List.getElem_cons_zero,List.getElem_cons_succ,Act.put,aA,au,ay];refine z00 (i:=5) (oi:=_) (v:=?_) rfl (fun _ _ _ h=>h) (Or.inl ⟨by rfl,?_⟩) ?_;rotate_left
     ·(intro w hSw;(try dsimp only at hSw);go_split_ands;go_simp;try with_reducible rfl)
     simp only[List.getElem_toArray,List.getElem_cons_zero,List.getElem_cons_succ,Act.put,aA,au,ay];refine z00 (i:=8) (oi:=_) (v:=?_) rfl (fun _ _ _ h=>h) (Or.inl ⟨by rfl,?_⟩) ?_;rotate_left
     ·(intro w hSw;(try dsimp only at hSw);go_split_ands;go_simp;try with_reducible rfl)
     simp only[List.getElem_toArray,List.getElem_cons_zero,List.getElem_cons_succ,Act.put,aA,au,ay];refine z02 (rs:=[1]) (by kernel_rfl) (by simp) (z01.cons (o:=_) rfl (fun K hK=>?_) z01.nil);go_simp;refine (HRW.out _ (Ch.refl _ w8).drew).mono ?_;rintro e w9 ⟨v9,ys,rfl,hro,hym⟩;obtain ⟨A9,c9,rfl, -, -⟩:=hro.form;have N9:=ah ((Ch.refl (fun _=>False) w8).drew.tr hro.own.nx)
     have hyl:ys.length<=64:=by
      have h1:=congrArg List.length hym;rw[List.length_map,QS.out]at h1;omega
     have HYC:=ah (show ∀y∈ys,aT y.row=true from fun y hy=>by
      have h1:y.row∈ys.map fun x=>x.row:=List.mem_map_of_mem hy;rw[hym]at h1;exact j_.out _ h1)
     have HYM:=ah hym;have hfb:=ZB.out;have Wv:=ah (fun w' (c:Nx w9 w')=>zZ (c:=c9) (d:=q) (((Rd.bW hro.own.own).more (D':=fun _=>True) fun _ _=>trivial).nx (by decide) c) rfl (by omega) (fun z hz=>⟨(hro.ok z hz).ch c (fun _ _ _ hf=>hf) fun _ _=>trivial,qI (HYC.out z hz)⟩) (window:=C.window) (by omega) (by omega) ((HR8.out.nx N9.out).aH.nx (by decide) c) (by omega));clear hro hym hfb;go_wp2_with fail;refine hK.out _ _ (fun _=>Wx.out _ N9.out) (fun aj=>?_);have hHeld:=aj (by decide);clear hK K aj
     try simp only[Act.put,aA,au,ay]
     refine z02 (rs:=[6]) (by kernel_rfl) (by simp) (z01.cons (o:=_) rfl (fun K hK=>?_) z01.nil);go_simp;with_reducible refine (Wv.out _ (Ch.refl _ _)).mono ?_
     rintro e w10 ⟨A10,c10,gs,zs2,rfl,hrd,hsp,hpm,n10,hgl⟩;have N10:=ah (N9.out.tr n10)
     have Vx:=ah (fun (h:Nl C (dD C (lb.map fun x=>x.row)))=>by
      obtain ⟨s, -,hs⟩:=h;have hfl:=ZB.out.2.2.2.2.1;obtain ⟨v,hv,hle⟩:=Qu (f:=C.flush.toNat) (by have:=ZB.out.1;omega) hsp hpm HYC.out (s:=s) (by omega) (by rw[HYM.out];omega);exact (⟨v,hv,by omega⟩:∃v∈gs,C.flush<=(v.g.rows.length:Int)))
     have HRG:=ah hrd;obtain ⟨G,hG⟩:∃G,gs.length=G:=⟨_,rfl⟩;have II:=ah hG;rw[hG]at HRG hgl;simp only[hG];clear hrd hsp hpm n10 hG;go_wp2_with fail;refine hK.out _ _ (fun _=>Wx.out _ N10.out) (fun aj=>?_);have hHeld:=aj (by decide);clear hK K aj
     try simp only[Act.put,aA,au,ay]
     refine z00 (i:=7) (oi:=_) (v:=?_) rfl (fun _ _ _ h=>h) (Or.inl ⟨by rfl,?_⟩) ?_;rotate_left
     ·(intro w hSw;(try dsimp only at hSw);go_split_ands;go_simp;try with_reducible rfl)
     simp only[List.getElem_toArray,List.getElem_cons_zero,List.getElem_cons_succ,Act.put,aA,au,ay];refine kE (by kernel_rfl) ?_ _;go_wp2_with fail;go_loopw [10,66] (fun s10 s66 wr=>∃i mo:Nat,i<=G/\s66=.int .i64 (i:Int)/\s10=.int .i64 (mo:Int)/\Hid (Nx w10 wr)/\Hid (∀j (hj:j<gs.length),j<i->gs[j].g.rows.length<=mo)) (fun _ s66 _=>G-(intOf s66).toNat)
     case atStart=>exact ⟨0,0,Nat.zero_le _,rfl,rfl,ah (Ch.refl _ _),ah (fun j _ h=>by omega)⟩
     case round=>
      obtain ⟨w11,rfl⟩:∃w11:World,w11=wr:=⟨_,rfl⟩;obtain ⟨i,mo,hi,rfl,rfl,N11,HM9⟩:=hrel;by_cases hlt:i<G
      ·have hil:i<gs.length:=by rw[II.out];exact hlt
       obtain ⟨ad,rfl,p0,p1,p2⟩:=BH (HRG.out.nx (by decide) N11.out) hil
       have YB:=ah (fun (M:Nat) (h1:mo<=M) (h2:gs[i].g.rows.length<=M) j (hj:j<gs.length) (hji:j<i+1)=>show gs[j].g.rows.length<=M from by
        by_cases e:j=i
        ·subst e;exact h2
        ·exact Nat.le_trans (HM9.out j hj (by omega)) h1)
       generalize gs[i]=x at *;obtain ⟨⟨X,Y,rows⟩,An,cn⟩:=x;simp only at p0 p1 p2 YB;obtain ⟨rl,hrl⟩:∃rl,rows.length=rl:=⟨_,rfl⟩;rw[hrl]at p2 YB;have N12:=ah (N11.out.alloc (.cells #[.int .i64 X,.string Y,.slice An rl cn] 44));clear hrl;go_wp2_with fail;go_roundw
       case rel=>exact ⟨i+1,max mo rl,by omega,by go_num,by rw[show ((max mo rl:Nat):Int)=max (mo:Int) (rl:Int) from by omega],N12,ah (YB.out _ (Nat.le_max_left _ _) (Nat.le_max_right _ _))⟩
       case measure=>simp[intOf];omega
      ·have HMB:=ah (fun (h:Nl C (dD C (lb.map fun x=>x.row)))=>show C.flush<=(mo:Int) from by
        obtain ⟨v,hv,hle⟩:=Vx.out h;obtain ⟨j,hj,rfl⟩:=List.getElem_of_mem hv;have h1:=HM9.out j hj (by have:=II.out;omega);omega)
       have N8x:=ah (N10.out.tr N11.out);have hag0:=ZB.out.2.2.2.2.2.2.2.1;go_wp2_with fail;go_loopw [13] (fun s13 wr=>∃k:Nat,r<=k/\(k:Int)-(r:Int)<=C.age/\s13=.int .i64 (k:Int)/\Hid (r<k->¬Nl C (dD C (lb.map fun x=>x.row)))/\Hid (Nx w8 wr)) (fun s13 _=>r+2001-(intOf s13).toNat)
       case atStart=>exact ⟨r,Nat.le_refl _,by omega,rfl,ah (fun h=>absurd h (Nat.lt_irrefl _)),N8x⟩
       case round=>
        obtain ⟨w12,rfl⟩:∃w12:World,w12=wr:=⟨_,rfl⟩;obtain ⟨k,hrk,hka,rfl,HNB,N12⟩:=hrel;have hk2:(k:Int)<=(r:Int)+2000:=(by omega);have hkw:IntKind.i64.wrap ((r:Int)+2000)=(r:Int)+2000:=IntWalk.i64_in _ (by omega);have HX:=ah (uZ.out w12 N12.out k hrk (by omega));go_wp2_with fail;refine HX.out.mono ?_;rintro e w13 ⟨hyes,hno⟩;by_cases xH:yU C (dD C (lb.map fun x=>x.row)) (k:Int) (r:Int)
        ·obtain ⟨key,rfl, -,ct, -⟩:=hyes xH
         have HCT:=ah ct
         have BC:=ah ((SV.out.nx N12.out).ch ct (fun hs=>by
          have h1:=IU.out;have h2:=HA3.out;rcases hs with hs|hs
          ·have:=hs.1;omega
          ·omega))
         have NF:=ah (show Nx w w13 from (HR8.out.nx0.tr N12.out).trans ct fun i hi hs=>by
          have h1:=IU.out;have h2:=HA3.out;rcases hs with hs|hs
          ·have:=hs.1;omega
          ·omega)
         have NF2:=ah (NF.out.alloc (.cells #[.int .i64 7,.string key,.slice none 0 0,.int .i64 0,.int .i64 0,.int .i64 0,.int .i64 0] 49));have c4:w13.cell? ⟨g,4,none⟩=some (.int .i64 C.flush):=BC.out.cell 4;have c5:w13.cell? ⟨g,5,none⟩=some (.int .i64 C.age):=BC.out.cell 5;have hgl13:=BC.out.lt;have hra:IntKind.i64.wrap ((r:Int)+C.age)=(r:Int)+C.age:=IntWalk.i64_in _ (by omega);by_cases hke:(k:Int)=(r:Int)+C.age
         ·have hkb:((k:Int)==(r:Int)+C.age)=true:=by rw[beq_iff_eq];exact hke
          clear hyes hno hke xH ct;unfold cO;go_wp2_with fail;go_ret;exact ⟨rfl,NF2.out⟩
         ·have hkb:((k:Int)==(r:Int)+C.age)=false:=by rw[beq_eq_false_iff_ne];exact hke
          have hbig:Nl C (dD C (lb.map fun x=>x.row)):=by
           rcases xH with h|h
           ·exact h
           ·omega
          have hkr:k=r:=by
           rcases Nat.lt_or_ge r k with h|h
           ·exact absurd hbig (HNB.out h)
           ·omega
          subst hkr;have hfm:=HMB.out hbig;clear hyes hno hke xH ct hbig;unfold cO;go_wp2_with fail;go_ret;exact ⟨rfl,NF2.out⟩
        ·obtain ⟨rfl,n13⟩:=hno xH
         have N13:=ah (N12.out.tr n13);have N14:=ah ((N12.out.tr n13).alloc (.cells #[.int .i64 0,.string ⟨#[]⟩,.slice none 0 0,.int .i64 0,.int .i64 0,.int .i64 0,.int .i64 0] 49))
         have hlta:(k:Int)-(r:Int)<C.age:=by
          rcases Int.lt_or_le ((k:Int)-(r:Int)) C.age with h|h
          ·exact h
          ·exact absurd (Or.inr h) xH
         have HB2:=ah (show r<k+1->¬Nl C (dD C (lb.map fun x=>x.row)) from fun _ h=>xH (Or.inl h));clear hyes hno xH n13;unfold cO;go_wp2_with fail;go_roundw
         case rel=>exact ⟨k+1,by omega,by omega,by go_num,HB2,N14⟩
         case measure=>simp[intOf];omega
    ·have Vz:=ah (hbd he)
     have HR8:=ah (Vj.out.bad hc8 (show je ξ w3 a 1 1 C [] (dD C []) 0 false 0 (.slice none 0 0) from HAS.out) (show je ξ w8 a 1 1 C [] (dD C []) 0 false 1 (.slice none 0 0) from Vz.out));have heb:(er !=0)=true:=by rw[bne_iff_ne];exact he
     have uZ:=ah (fun w' (c:Nx w8 w')=>Gl (a:=a) (ag:=1) (life:=1) (Vz.out.nx c) (r:Int))
     have HWA:=ah (fun w' (c:Nx w8 w')=>by
      obtain ⟨A',k',bb,m',n',ch,R,h1, -⟩:=Vz.out.nx c;exact z3d (h1.blk.cell 15) (h1.blk.cell 16) (by decide) (by decide))
     clear hiff hbd hgd hc8 he;go_wp2_with fail;refine (uZ.out _ (by first|exact Ch.refl _ _|exact (Ch.refl _ _).drew)).mono ?_;rintro e w9 ⟨rfl,n9⟩;have N9:=ah n9;have N10:=ah (n9.alloc (.cells #[.int .i64 0,.string ⟨#[]⟩,.slice none 0 0,.int .i64 0,.int .i64 0,.int .i64 0,.int .i64 0] 49));clear n9;unfold cO;go_wp2_with fail;refine (HWA.out _ (by first|exact N10.out|exact N10.out.drew)).mono ?_;rintro e w11 ⟨rfl,n11⟩;have N11:=ah (N10.out.tr n11);clear n11;go_wp2_with fail;go_ret;exact ⟨rfl,HR8.out.nx0.tr N11.out⟩
theorem walks:Walks 5 Tryz.f5:=by
 intro H enc W args ds ps h;rw[Tryz.params5]at h;obtain ⟨C,A,c,vs,ds1,p1,rfl,hr,hs,hc,hc2,h1⟩:=Told.conf h;obtain ⟨b,vs2,ds2,p2,e2,hb,h2⟩:=h1.bt;obtain ⟨at_,vs3,ds3,p3,e3,i3,h3⟩:=h2.int;have e1:=h3.nil;simp at e1 e2 e3;subst e1;subst e3;subst e2;unfold maxLen at hc2 hs;exact walk C A c b at_ W hr (by omega) (fun s h=>Nat.le_trans (hs s h) (by decide)) hb i3
theorem proved:Rows.ArchiveDueSaid:=
 OpenClaim.holds_of_wide 5 Tryz.f5 rfl rfl rfl rfl rfl rfl rfl ⟨rfl,rfl,rfl,rfl,rfl⟩ rfl rfl rfl rfl rfl (by as_aux_lemma=>kernel_rfl) Tryz.func5 (by as_aux_lemma=>kernel_rfl)
  (of_decide_eq_true (by as_aux_lemma=>kernel_rfl)) (by as_aux_lemma=>(unfold Func.isWrapper;first|(rw[if_pos (by decide+kernel)];kernel_rfl)|(rw[if_neg (by decide+kernel)];exact ⟨rfl,rfl⟩)))
  (fun os started H enc _=>law_lifted (s:=Rows.archiveDueSpec) Tryz.func5 (by as_aux_lemma=>kernel_rfl) rfl rfl
    (by intro H ds h;rw[Tryz.params5]at h;match ds,h with|[d1,d2,d3],_=>rfl)
    (by rw[Tryz.params5];intro t ht;simp at ht;rcases ht with rfl|rfl|rfl<;>exact ⟨by kernel_rfl,of_decide_eq_true (by as_aux_lemma=>kernel_rfl)⟩) walks os started H enc
    (ChangeSpec.witness6 (enc:=enc) (C:=Tryz.checked) false ⟨#[], #[.agg #[.int .i64 0,.slice none 0 0,.int .i64 0,.int .i64 0,.int .i64 0,.int .i64 0,.int .i64 0,.int .i64 0,.int .i64 0,.int .i64 0,.int .i64 0,.int .i64 0],.agg #[.int .i64 0,.int .i64 0,.slice none 0 0],.int .i64 0],[]⟩ 8 (by as_aux_lemma=>kernel_rfl) (by as_aux_lemma=>kernel_rfl) (by as_aux_lemma=>kernel_rfl) (by as_aux_lemma=>kernel_rfl)))
end Go.Proofs.YtdbfejfhpkakhaaGreat.ArchiveDue
