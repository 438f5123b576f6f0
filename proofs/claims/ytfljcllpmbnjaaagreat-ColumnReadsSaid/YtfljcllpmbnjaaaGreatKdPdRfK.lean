/- Contracts and plain laws that the last text rests on. Conditions: each theorem states its own. -/
import Derived.Test.YtfljcllpmbnjaaaGreatKdQ17
import Derived.Test.YtfljcllpmbnjaaaGreatKdQ16
import Derived.Test.YtfljcllpmbnjaaaGreatKdPdRef6
import Derived.Test.YtfljcllpmbnjaaaGreatKdPdOrd
import Derived.IntWalk
set_option maxRecDepth 100000
set_option maxHeartbeats 32000000
set_option linter.unusedVariables false
namespace Go.Proofs.YtfljcllpmbnjaaaGreat
open Go.RowKit R2
theorem lM.wide {K K2:Nat->Prop} {w:World} {t g h:Nat} {bs:List Nat} {N p most:Nat} {xs:List Nat} {vo:Value} (m:lM K w t g h bs N p xs most vo) (hK:∀k,K2 k->k<w.heap.size/\k≠t/\k≠g/\vo.ownBlock≠some k) (hh:K2 h):lM K2 w t g h bs N p xs most vo:=
 ⟨m.blk,m.fH,m.own,m.okb,hh,hK,m.len⟩
def Oa (bs:List Nat) (most:Nat) (zl zd:List Int) (F:Inf) (p:Nat) (xs:List Nat):Prop:=F.e=0->∃k,8 * bs.length<p+k/\F=aP bs most zl zd k ⟨p,xs,0⟩
theorem Eh {bs:List Nat} {most p s q:Nat} {zl zd:List Int} {F:Inf} {xs:List Nat} {er:Int} (he:bH zl=0) (hc:Oa bs most zl zd F p xs) (hp:p<=8 * bs.length)
 (hex:∀s0 x,wE (strs zl) bs (8 * bs.length) p s0 x->s=s0/\er=0/\q=p+x.length) (hF:F.e=0):
 ∃k,8 * bs.length<p+(k+1)/\F=aP bs most zl zd (k+1) ⟨p,xs,0⟩/\(aP bs most zl zd (k+1) ⟨p,xs,0⟩).e=0/\er=0/\bg zl bs p 15 0=((s:Int),0,q):=by
 obtain ⟨k,hk,e⟩:=hc hF;obtain ⟨k,rfl⟩:∃j,k=j+1:=⟨k-1,by omega⟩;have h:=hF;rw[e]at h;obtain ⟨s0,x,hx,hn⟩:=zS he (Ue h).1;obtain ⟨rfl,h1,rfl⟩:=hex s0 x hx;exact ⟨k,hk,e,h,h1,hn⟩
theorem E_ {K:Nat->Prop} {w:World} {t g h:Nat} {bs:List Nat} {N p most:Nat} {xs:List Nat} {vo:Value} (m:lM K w t g h bs N p xs most vo) {k:Nat} (hk:w.heap.size<=k):k≠t/\k≠g/\vo.ownBlock≠some k:=by
 have h1:=m.blk.lt;obtain ⟨A,c,b,_⟩:=m.fH;have h2:=b.lt;refine ⟨by omega,by omega,fun e=>?_⟩;have:=(m.own.lt k e).2;omega
theorem n_:∀d,0<bD d
 |0=>by decide
 |d+1=>Nat.lt_of_lt_of_le (n_ d) (Nat.le_add_right _ _)
def CopR (K2:Nat->Prop) (w2:World) (t g h:Nat) (bs:List Nat) (N P most n far:Nat) (xs:List Nat) (i:Value) (wr:World):Prop:=
 ∃(k:Nat) (l:List Nat),k<=n/\i=.int .i64 (k:Int)/\kP K2 w2 t g h bs N P l most wr/\Hid (dQ n far xs=dQ (n-k) far l)/\l.length=xs.length+k
theorem KA {K:Nat->Prop} {w:World} {t g h:Nat} {bs:List Nat} {p most k:Nat} {xs:List Nat} {zl zd:List Int} (m:Ey K w t g h bs (8 * bs.length) p xs most) (hm:most<=65536) (hk:8 * bs.length<p+k)
 {D1 D2:Nat->Prop} {A1 A2:Option Addr} {n1 n2 c1 c2:Nat} (hr1:Rd w D1 1 A1 n1 (il zl)) (hl1:zl.length=n1) (he1:bH zl=0) (hr2:Rd w D2 1 A2 n2 (il zd)) (hl2:zd.length=n2) (he2:bH zd=0):
 Calls Tryz.prog 132 #[.pointer (some ⟨t,0,none⟩),.slice A1 n1 c1,.slice A2 n2 c2] w (FN K w t g h bs (8 * bs.length) most (aP bs most zl zd k ⟨p,xs,0⟩)):=by
 obtain ⟨i0,hi0,hz0,hz1,hz2⟩:=info_parts Tryz.info5;obtain ⟨vo,m⟩:=m;have hn1:n1<=320:=by have:=(JA he1).1;omega
 have hn2:n2<=320:=by have:=(JA he2).1;omega
 have HW1:=ah (Vm D1 A1 n1 c1 zl w hr1 hl1 he1);have HW2:=ah (fun (w':World) (c':Nx w w')=>Vm D2 A2 n2 c2 zd w' (hr2.nx (by decide) c') hl2 he2);have HE1:=ah he1;have HE2:=ah he2;have HF0:Hid (Oa bs most zl zd (aP bs most zl zd k ⟨p,xs,0⟩) p xs):=ah fun _=>⟨k,hk,rfl⟩;have hs1:(strs zl).length=n1:=by rw[Yl];exact hl1
 have hs2:(strs zd).length=n2:=by rw[Yl];exact hl2
 have HS1:=ah hs1;have HS2:=ah hs2;generalize aP bs most zl zd k ⟨p,xs,0⟩=F at *;obtain ⟨N,hN⟩:∃N,N=8 * bs.length:=⟨_,rfl⟩;rw[←hN]at m ⊢;have HN:=ah hN;have M:=ah m;clear hN hr1 hl1 he1 hr2 hl2 he2 hk hs1 hs2 m;go_enter Tryz.func132,Tryz.ntmps132;go_wp2_with fail;refine HW1.out.mono ?_;rintro e w1 ⟨ka,ca,rfl,oa,ha1,ha2,ha3,ha4⟩;have OA:=ah oa;clear oa HW1;go_wp2_with fail;refine (HW2.out w1 OA.out.nx).mono ?_;rintro e w2 ⟨kb,cb,rfl,ob,hb1,hb2,hb3,hb4⟩;have OC:=ah (OA.out.nx.tr ob.nx);have hka:=E_ M.out ha1;have hkb:=E_ M.out (k:=kb) (by have:=OA.out.nx.size;omega);obtain ⟨K2,hK2⟩:∃K2:Nat->Prop,∀j,K2 j↔(K j∨j=ka∨j=kb):=⟨fun j=>K j∨j=ka∨j=kb,fun _=>Iff.rfl⟩;have HA:Hid (∀w',Ch (fun j=>¬K2 j) w2 w'->Rd w' (· =ka) 1 (some ⟨ka,0,none⟩) n1 (sl (strs zl))):=ah fun w' c'=>((OA.out.tr ob.nx).fM).ch (by decide) c' fun j _ e hn=>hn ((hK2 j).2 (.inr (.inl e)));have HB:Hid (∀w',Ch (fun j=>¬K2 j) w2 w'->Rd w' (· =kb) 1 (some ⟨kb,0,none⟩) n2 (sl (strs zd))):=ah fun w' c'=>(ob.fM).ch (by decide) c' fun j _ e hn=>hn ((hK2 j).2 (.inr (.inr e)))
 have M2:Hid (lM K2 w2 t g h bs N p xs most vo):=ah ((M.out.nx OC.out).wide (fun j hj=>by
  rcases (hK2 j).1 hj with hj|rfl|rfl
  ·have:=M.out.far j hj
   have:=OC.out.size;exact ⟨by omega,(M.out.far j hj).2⟩
  ·exact ⟨by have:=ob.nx.size;omega,hka⟩
  ·exact ⟨hb2,hkb⟩) ((hK2 h).2 (.inl M.out.kh)))
 have HG:Hid (ka≠g/\kb≠g):=ah ⟨hka.2.1,hkb.2.1⟩
 have kS:Hid (∀(er:Int) (p':Nat) (xs':List Nat) (w':World),kP K2 w2 t g h bs N p' xs' most w'->(F.e=0->er=0/\p'=F.p/\xs'=F.out)->FN K w t g h bs N most F (.returned (.int .i64 er)) w'):=ah fun er p' xs' w' ht hf=>by
  obtain ⟨⟨v',m'⟩,c'⟩:=ht;exact ⟨er,p',xs',rfl,⟨⟨v',m'.wide (fun j hj=>m'.far j ((hK2 j).2 (.inl hj))) M.out.kh⟩,Ch.trans (OC.out.mono fun _ _ f=>f.elim) (c'.mono fun j _ hn hj=>hn ((hK2 j).2 (.inl hj))) fun _ _ h=>h⟩,hf⟩
 clear ob hka hkb;clear hK2;go_wp2_with fail;go_loopw [16] (fun _ wr=>∃(p:Nat) (xs:List Nat),kP K2 w2 t g h bs N p xs most wr/\Oa bs most zl zd F p xs) (fun _ wr=>N-(Jv wr g 1).toNat)
 case atStart=>exact ⟨p,xs,⟨⟨_,M2.out⟩,Ch.refl _ _⟩,HF0.out⟩
 case round=>
  clear M HF0 M2 HW2;obtain ⟨w3,rfl⟩:∃w3:World,w3=wr:=⟨_,rfl⟩;obtain ⟨p,xs,⟨⟨vo,m⟩,c3⟩,Wx⟩:=hrel;have M:=ah m;have C3:=ah c3;have HC:=ah Wx;have hxl:=m.len;have hat:=m.fH.at_;obtain ⟨A3,cc3,hv3,hA1,hA2⟩:=z05 m.own;have d0:w3.cell? ⟨t,0,none⟩=some (.pointer (some ⟨g,0,none⟩)):=m.blk.cell 0;have d1:w3.cell? ⟨t,1,none⟩=some (.slice A3 xs.length cc3):=hv3▸m.blk.cell 1;have d2:w3.cell? ⟨t,2,none⟩=some (.int .i64 (most:Int)):=m.blk.cell 2;have hxi:(xs.length:Int)<=(most:Int):=by omega
  have Qz:=ah (fun (w':World) (c':Nx w3 w')=>Zn (· =ka) (some ⟨ka,0,none⟩) n1 ca (strs zl) bs g h N p w' (HA.out w' (C3.out.tr c')) (fun j e=>by rw[e];exact HG.out.1) HS1.out (by omega) ((M.out.nx c').fH));have HV:=ah hv3;clear m c3 Wx hv3;go_wp2_with fail;go_quiet (fail)
  go_wp2_with fail;refine (Qz.out _ ((Ch.refl _ _).drewN _)).mono ?_;rintro e w4 ⟨s,er,q,rfl,r4,c4,hpq,hok,hex⟩;have hpN:=(M.out.fH.le).1;have VL:=(r4.le).1
  have HX:Hid (F.e=0->∃k,N<p+(k+1)/\F=aP bs most zl zd (k+1) ⟨p,xs,0⟩/\(aP bs most zl zd (k+1) ⟨p,xs,0⟩).e=0/\er=0/\bg zl bs p 15 0=((s:Int),0,q)):=ah (by
   rw[HN.out]at hex hpN ⊢;exact Eh HE1.out HC.out hpN hex)
  have m4:=(M.out.nx ((Ch.refl _ _).drewN _)).bits r4 c4;have k4:=C3.out.trans (Ch.trans ((Ch.refl _ w3).drewN _) ((M.out.nx ((Ch.refl _ _).drewN _)).kW c4 fun k h=>.inr (.inl h)) fun _ _ h=>h) fun _ _ h=>h;have M4:=ah m4;have K4:=ah k4;clear hex m4 k4 r4 c4;by_cases her:er=0
  ·subst her
   obtain ⟨hs1,hq1⟩:=hok rfl;rw[HS1.out]at hs1;by_cases h256:s=256
   ·subst h256
    go_wp2_with fail;go_ret
    exact kS.out 0 q xs w4 ⟨⟨_,M4.out⟩,K4.out⟩ fun h=>by
     obtain ⟨k,h1,h2,h3,_,h5⟩:=HX.out h;have:=((Ue h3).2 256 q h5 (by rw[←HN.out];exact VL)).1 rfl;rw[h2,this];exact ⟨rfl,rfl,rfl⟩
   ·have h256i:((s:Int)==256)=false:=by rw[beq_eq_false_iff_ne];omega
    by_cases h285:285<s
    ·have WO:(285:Int)<(s:Int):=by omega
     go_wp2_with fail;go_ret
     exact kS.out 4 q xs w4 ⟨⟨_,M4.out⟩,K4.out⟩ fun h=>by
      obtain ⟨k,h1,h2,h3,_,h5⟩:=HX.out h;have:=(((Ue h3).2 s q h5 (by rw[←HN.out];exact VL)).2.2 (by omega)).1;omega
    ·have WO:¬(285:Int)<(s:Int):=by omega
     have e1:w4.cell? ⟨t,1,none⟩=some (.slice A3 xs.length cc3):=HV.out▸M4.out.blk.cell 1;have e2:w4.cell? ⟨t,2,none⟩=some (.int .i64 (most:Int)):=M4.out.blk.cell 2;have e0:w4.cell? ⟨t,0,none⟩=some (.pointer (some ⟨g,0,none⟩)):=M4.out.blk.cell 0;by_cases hlit:s<256
     ·have hli:(s:Int)<256:=by omega
      by_cases hfull:xs.length=most
      ·have hfi:((xs.length:Int)==(most:Int))=true:=by rw[beq_iff_eq];omega
       go_wp2_with fail;go_quiet (fail)
       go_wp2_with fail;go_ret
       exact kS.out 5 q xs _ ⟨⟨_,M4.out.nx ((Ch.refl _ _).drewN _)⟩,K4.out.drewN _⟩ fun h=>by
        obtain ⟨k,h1,h2,h3,_,h5⟩:=HX.out h;have:=(((Ue h3).2 s q h5 (by rw[←HN.out];exact VL)).2.1 hlit).1;omega
      ·have hfi:((xs.length:Int)==(most:Int))=false:=by rw[beq_eq_false_iff_ne];omega
       go_wp2_with fail;go_quiet (fail)
       have M5:=ah (M4.out.nx (w':=w4.drewN nq) ((Ch.refl _ _).drewN nq));have K5:=ah (K4.out.drewN nq);have hatq:Jv w3 g 1=(p:Int):=hat;generalize w4.drewN nq=w5 at *;have hlt:xs.length<most:=(by omega);have hx9:s<256:=hlit;have hwr:IntKind.u8.wrap (s:Int)=(s:Int):=by rw[IntKind.wrap_u8];omega
       have f1:w5.cell? ⟨t,1,none⟩=some (.slice A3 xs.length cc3):=HV.out▸M5.out.blk.cell 1;have hown:w5.ownsRow 0 5 1 (.slice A3 xs.length cc3) xs.length (bl xs):=HV.out▸M5.out.own;have HO:=ah hown;clear hown e0 e1 e2 d0 d1 d2;have hrd:Rd (w5.alloc (.cells #[.int .u8 (s:Int)] 5)) (fun i=>i=w5.heap.size) 1 (some ⟨w5.heap.size,0,none⟩) 1 [.int .u8 (s:Int)]:=⟨rfl,fun _=>⟨_,rfl,rfl,cell_one_new _ _ _⟩⟩;go_wp2_with (at_builtin;refine z00 _ rfl (.tmp 63) (.tmp 66) _ rfl 0 5 i0 _ 1 1 Tryz.underlying27 hi0 hz0 hz1 hz2 rfl (by omega) (.slice A3 xs.length cc3) xs.length (bl xs) rfl (z06 HO.out ((Ch.refl (fun _=>False) _).alloc _) (fun _ _ hf=>hf)) (fun i=>i=w5.heap.size) (some ⟨w5.heap.size,0,none⟩) 1 1 [.int .u8 (s:Int)] rfl hrd (by intro u hu;simp at hu;subst hu;rfl) (by simp only[maxLen];omega) (by omega) (by omega) ?_;intro v' w7 j_ hg7 zB;obtain ⟨A7,c7,hv7,g1,g2,m8⟩:=M5.out.push (.cells #[.int .u8 (s:Int)] 5) hx9 hlt j_ (HV.out▸hg7) (HV.out▸zB);subst hv7;clear j_ hg7 zB)
       have M8:=ah m8;clear m8;go_roundw
       case rel=>
        refine ⟨q,xs++[s],⟨M8.out.1,K5.out.trans M8.out.2 fun _ _ h=>h⟩,fun h=>?_⟩;obtain ⟨k,h1,h2,h3,_,h5⟩:=HX.out h;have:=(((Ue h3).2 s q h5 (by rw[←HN.out];exact VL)).2.1 hlit).2;exact ⟨k,by rw[←HN.out];omega,h2.trans this⟩
       case measure=>
        obtain ⟨_,m9⟩:=M8.out.1;have:=m9.fH.at_;rw[this,hatq];omega
     ·have hli:¬(s:Int)<256:=by omega
      obtain ⟨u,hu⟩:∃u,s=u+257:=⟨s-257,by omega⟩;subst hu;have hu29:u<29:=(by omega);have Rq:=ah (fun w'=>z4X u w' hu29);have hsub:((u+257:Nat):Int)-257=(u:Int):=(by omega);obtain ⟨ht1,ht2⟩:=z4n u hu29;go_wp2_with fail;refine (Rq.out _).mono ?_;rintro e w5 ⟨rfl,rfl⟩
      have HX2:Hid (F.e=0->∃k,N<p+(k+1)/\F=aP bs most zl zd (k+1) ⟨p,xs,0⟩/\q+(fO u).2<=N/\(bg zd bs (q+(fO u).2) 15 0).2.1=0/\
       ∀(d:Nat) (q2:Nat),bg zd bs (q+(fO u).2) 15 0=((d:Int),0,q2)->q2<=N->d<=29/\q2+extra d<=N/\bD d+aS bs q2 (extra d)<=xs.length/\xs.length+((fO u).1+aS bs q (fO u).2)<=most/\
        F=aP bs most zl zd k ⟨q2+extra d,dQ ((fO u).1+aS bs q (fO u).2) (bD d+aS bs q2 (extra d)) xs,0⟩):=ah fun h=>by
       obtain ⟨k,h1,h2,h3,_,h5⟩:=HX.out h;obtain ⟨_,g2,g3,g4⟩:=((Ue h3).2 _ q h5 (by rw[←HN.out];exact VL)).2.2 (by omega);rw[Nat.add_sub_cancel]at g2 g3 g4;rw[←HN.out]at g2 g4;refine ⟨k,h1,h2,g2,g3,fun d q2 e1 e2=>?_⟩;obtain ⟨a1,a2,a3,a4,a5⟩:=g4 d q2 e1 e2;exact ⟨a1,a2,a3,a4,h2.trans a5⟩
      by_cases hb1:q+(fO u).2<=N
      ·have OE:=ah (Ol g h bs N q (fO u).2 w4 M4.out.fH (by omega) hb1)
       go_wp2_with fail;refine OE.out.mono ?_;rintro e w5 ⟨rfl,r5,c5⟩;have M5:=ah (M4.out.bits r5 c5);have K5:=ah (K4.out.trans (M4.out.kW c5 fun k h=>.inr (.inl h)) fun _ _ h=>h);have hv1:aS bs q (fO u).2<64:=Nat.lt_of_lt_of_le (AU bs q (fO u).2) (Nat.pow_le_pow_right (n:=2) (by omega) ht2);have hqq:q<=q+(fO u).2:=(by omega);clear Rq OE e0 e1 e2 r5 c5 hsub;generalize aS bs q (fO u).2=v1 at *;generalize q+(fO u).2=q1 at *;generalize (fO u).2=X at *;generalize (fO u).1=L at *;have e5:w5.cell? ⟨t,0,none⟩=some (.pointer (some ⟨g,0,none⟩)):=M5.out.blk.cell 0;have HN2:=ah (Zn (· =kb) (some ⟨kb,0,none⟩) n2 cb (strs zd) bs g h N q1 w5 (HB.out w5 K5.out) (fun j e=>by rw[e];exact HG.out.2) HS2.out (by omega) M5.out.fH);go_wp2_with fail;refine HN2.out.mono ?_;rintro e w6 ⟨d,er,q2,rfl,r6,c6,hpq2,hok2,Ws⟩;have M6:=ah (M5.out.bits r6 c6);have K6:=ah (K5.out.trans (M5.out.kW c6 fun k h=>.inr (.inl h)) fun _ _ h=>h);have hq2N:=(r6.le).1
       have HX3:Hid (F.e=0->er=0/\d<=29/\q2+extra d<=N/\bD d+aS bs q2 (extra d)<=xs.length/\xs.length+(L+v1)<=most/\∃k,N<p+(k+1)/\F=aP bs most zl zd k ⟨q2+extra d,dQ (L+v1) (bD d+aS bs q2 (extra d)) xs,0⟩):=ah fun h=>by
        obtain ⟨k,h1,h2,h3,h4,h5⟩:=HX2.out h;obtain ⟨s0,x,hx,hn⟩:=zS HE2.out h4;rw[←HN.out]at hx;obtain ⟨rfl,h6,h7⟩:=Ws s0 x hx;rw[←h7]at hn;obtain ⟨a1,a2,a3,a4,a5⟩:=h5 d q2 hn hq2N;exact ⟨h6,a1,a2,a3,a4,k,h1,a5⟩
       clear Ws HX2 HX HN2 r6 c6 e5;by_cases SV:er=0
       ·subst SV
        obtain ⟨hd1,hq12⟩:=hok2 rfl;clear hok2 hd1;by_cases hd29:d<=29
        ·have Wu:¬(29:Int)<(d:Int):=by omega
         have HDD:=ah (fun w'=>z3J d w' (by omega));obtain ⟨hT1,hT2⟩:=z27 d (by omega);have HT0:Hid (0<bD d):=ah (n_ d);have e6:w6.cell? ⟨t,0,none⟩=some (.pointer (some ⟨g,0,none⟩)):=M6.out.blk.cell 0;go_wp2_with fail;refine (HDD.out _).mono ?_;rintro e w7 ⟨rfl,rfl⟩;by_cases hb3:q2+extra d<=N
         ·have QA:=ah (Ol g h bs N q2 (extra d) w6 M6.out.fH (by omega) hb3)
          go_wp2_with fail;refine QA.out.mono ?_;rintro e w7 ⟨rfl,r7,c7⟩;have hv2:aS bs q2 (extra d)<16384:=Nat.lt_of_lt_of_le (AU bs q2 (extra d)) (Nat.pow_le_pow_right (n:=2) (by omega) hT2);have M7:=ah (M6.out.bits r7 c7);have K7:=ah (K6.out.trans (M6.out.kW c7 fun k h=>.inr (.inl h)) fun _ _ h=>h);have hP1:p<q2+extra d:=(by omega);clear HDD QA r7 c7 e6;generalize aS bs q2 (extra d)=v2 at *;generalize q2+extra d=P at *;generalize bD d=T at *;have e7:w7.cell? ⟨t,1,none⟩=some (.slice A3 xs.length cc3):=HV.out▸M7.out.blk.cell 1;have e72:w7.cell? ⟨t,2,none⟩=some (.int .i64 (most:Int)):=M7.out.blk.cell 2;by_cases jQ:T+v2<=xs.length
          ·have hfi:¬(xs.length:Int)<(T:Int)+(v2:Int):=by omega
           by_cases hroom:xs.length+(L+v1)<=most
           ·have UG:¬((most:Int)-(xs.length:Int)<(L:Int)+(v1:Int)):=by omega
            go_wp2_with fail;go_quiet (fail)
            go_wp2_with fail;clear e7 e72 UG hfi d0 d1 d2;go_loopw [16] (fun i wr=>CopR K2 w2 t g h bs N P most (L+v1) (T+v2) xs i wr) (fun i _=>L+v1-(intOf i).toNat)
            case atStart=>exact ⟨0,xs,by omega,rfl,⟨⟨_,M7.out.nx ((Ch.refl _ _).drewN _)⟩,K7.out.drewN _⟩,ah rfl,rfl⟩
            case round=>
             clear M7 K7 M6 K6 M5 K5 M4 K4 M;obtain ⟨w8,rfl⟩:∃w8:World,w8=wr:=⟨_,rfl⟩;obtain ⟨k,l,hk,rfl,⟨⟨vo8,m8⟩,kk8⟩,TQ,zx⟩:=hrel;by_cases hlt8:k<L+v1
             ·have VX:(k:Int)<(L:Int)+(v1:Int):=by omega
              obtain ⟨A8,c8,rfl,hA8,hA8'⟩:=z05 m8.own;obtain ⟨z,hz⟩:∃z,l.length-(T+v2)=z:=⟨_,rfl⟩;have hpos:0<T+v2:=Nat.lt_of_lt_of_le HT0.out (Nat.le_add_right _ _);have hzl:z<l.length:=(by omega);have hzi:(l.length:Int)-((T:Int)+(v2:Int))=(z:Int):=(by omega);obtain ⟨ad,u8,Td,kN,hu,hcx⟩:=(Rd.bY m8.own).at_ hzl;have hx8:=uf m8.okb z;rw[tV hzl]at hu;injection hu with hu;subst hu;subst Td;have L_:dQ (L+v1) (T+v2) xs=dQ (L+v1-(k+1)) (T+v2) (l++[l.getD z 0]):=(by rw[TQ.out,show L+v1-k=L+v1-(k+1)+1 by omega,dQ,hz]);have TN:=ah L_;have hlm:l.length<most:=(by omega);have Jd:=ah zx;clear L_ hz zx;generalize l.getD z 0=x at *;have d18:w8.cell? ⟨t,1,none⟩=some (.slice (some ad) l.length c8):=m8.blk.cell 1;have MG:=World.block_lt_of_cell? w8 _ hcx;rw[xC]at MG;have hrlt:=m8.blk.lt;have M8:=ah m8;have Xc:=ah (M8.out.nx ((Ch.refl _ w8).drew));have hrd:Rd (w8.drew.alloc (.cells #[.int .u8 (x:Int)] 5)) (fun i=>i=w8.heap.size) 1 (some ⟨w8.heap.size,0,none⟩) 1 [.int .u8 (x:Int)]:=⟨rfl,fun _=>⟨_,rfl,rfl,cell_one_new w8.drew _ _⟩⟩;have Ri:=ah hrd;have hll9:l.length<=70000:=(by omega);have hzz:(0:Int)<=(z:Int):=(by omega);have ZX:(z:Int)<(l.length:Int):=(by omega);have iC:IntKind.i64.wrap (z:Int)=(z:Int):=(by exact IntWalk.i64_in _ (by omega));clear m8 hrd;go_wp2_with fail;refine z4K (fun _=>True) (fun _=>false) rfl trivial (fun hS0=>?_);refine z09 (i:=0) (oi:=_) (v:=?_) rfl (fun _ _ _ h=>h) (Or.inl ⟨by rfl,?_⟩) ?_;rotate_left
              ·(intro w hSw;(try dsimp only at hSw);go_split_ands;go_simp;try with_reducible rfl)
              try simp only[Act.put,jM]
              refine ZH (fun w'=>w'.cell? ⟨t,1,none⟩=some (.slice (some ad) l.length c8)/\w'.cell? (ad.add z)=some (.int .u8 (x:Int))) (fun i=>decide (19<=i)) (fun _=>trivial) ?_;have hSS:(fun w'=>w'.cell? ⟨t,1,none⟩=some (.slice (some ad) l.length c8)/\w'.cell? (ad.add z)=some (.int .u8 (x:Int))) w8.drew:=⟨d18,hcx⟩;refine z09 (i:=1) (oi:=_) (v:=?_) rfl (fun _ _ _ h=>h) (Or.inl ⟨by rfl,?_⟩) ?_;rotate_left
              ·(intro w hSw;(try dsimp only at hSw);go_split_ands;go_simp;try with_reducible rfl)
              try simp only[Act.put]
              refine z09 (i:=2) (oi:=_) (v:=?_) rfl (fun _ _ _ h=>h) (Or.inl ⟨by rfl,?_⟩) ?_;rotate_left
              ·(intro w hSw;(try dsimp only at hSw);go_split_ands;go_simp;try with_reducible rfl)
              try simp only[Act.put]
              refine z09 (i:=3) (oi:=_) (v:=?_) rfl (fun _ _ _ h=>h) (Or.inl ⟨by rfl,?_⟩) ?_;rotate_left
              ·(intro w hSw;(try dsimp only at hSw);go_split_ands;go_simp;try with_reducible rfl)
              try simp only[Act.put]
              refine z09 (i:=4) (oi:=_) (v:=?_) rfl (fun _ _ _ h=>h) (Or.inl ⟨by rfl,?_⟩) ?_;rotate_left
              ·(intro w hSw;(try dsimp only at hSw);go_split_ands;go_simp;try with_reducible rfl)
              try simp only[Act.put]
              refine z09 (i:=5) (oi:=_) (v:=?_) rfl (fun _ _ _ h=>h) (Or.inl ⟨by rfl,?_⟩) ?_;rotate_left
              ·(intro w hSw;(try dsimp only at hSw);go_split_ands;go_simp;try with_reducible rfl)
              try simp only[Act.put]
              refine z09 (i:=6) (oi:=_) (v:=?_) rfl (fun _ _ _ h=>h) (Or.inl ⟨by rfl,?_⟩) ?_;rotate_left
              ·(intro w hSw;(try dsimp only at hSw);go_split_ands;go_simp;try with_reducible rfl)
              try simp only[Act.put]
              refine z09 (i:=7) (oi:=_) (v:=?_) rfl (fun _ _ _ h=>h) (Or.inl ⟨by rfl,?_⟩) ?_;rotate_left
              ·(intro w hSw;(try dsimp only at hSw);go_split_ands;go_simp;try with_reducible rfl)
              try simp only[Act.put]
              refine z09 (i:=8) (oi:=_) (v:=?_) rfl (fun _ _ _ h=>h) (Or.inl ⟨by rfl,?_⟩) ?_;rotate_left
              ·(intro w hSw;(try dsimp only at hSw);go_split_ands;go_simp;try with_reducible rfl)
              try simp only[Act.put]
              refine z09 (i:=9) (oi:=_) (v:=?_) rfl (fun _ _ _ h=>h) (Or.inl ⟨by rfl,?_⟩) ?_;rotate_left
              ·(intro w hSw;(try dsimp only at hSw);go_split_ands;go_simp;try with_reducible rfl)
              try simp only[Act.put]
              refine z09 (i:=10) (oi:=_) (v:=?_) rfl (fun _ _ _ h=>h) (Or.inl ⟨by rfl,?_⟩) ?_;rotate_left
              ·(intro w hSw;(try dsimp only at hSw);go_split_ands;go_simp;try with_reducible rfl)
              try simp only[Act.put]
              refine z09 (i:=11) (oi:=_) (v:=?_) rfl (fun _ _ _ h=>h) (Or.inl ⟨by rfl,?_⟩) ?_;rotate_left
              ·(intro w hSw;(try dsimp only at hSw);go_split_ands;go_simp;try with_reducible rfl)
              try simp only[Act.put]
              refine z09 (i:=12) (oi:=_) (v:=?_) rfl (fun _ _ _ h=>h) (Or.inl ⟨by rfl,?_⟩) ?_;rotate_left
              ·(intro w hSw;(try dsimp only at hSw);go_split_ands;go_simp;try with_reducible rfl)
              try simp only[Act.put]
              refine z09 (i:=13) (oi:=_) (v:=?_) rfl (fun _ _ _ h=>h) (Or.inl ⟨by rfl,?_⟩) ?_;rotate_left
              ·(intro w hSw;(try dsimp only at hSw);go_split_ands;go_simp;try with_reducible rfl)
              try simp only[Act.put]
              refine z09 (i:=14) (oi:=_) (v:=?_) rfl (fun _ _ _ h=>h) (Or.inl ⟨by rfl,?_⟩) ?_;rotate_left
              ·(intro w hSw;(try dsimp only at hSw);go_split_ands;go_simp;try with_reducible rfl)
              try simp only[Act.put]
              refine z09 (i:=15) (oi:=_) (v:=?_) rfl (fun _ _ _ h=>h) (Or.inl ⟨by rfl,?_⟩) ?_;rotate_left
              ·(intro w hSw;(try dsimp only at hSw);go_split_ands;go_simp;try with_reducible rfl)
              try simp only[Act.put]
              refine z09 (i:=16) (oi:=_) (v:=?_) rfl (fun _ _ _ h=>h) (Or.inl ⟨by rfl,?_⟩) ?_;rotate_left
              ·(intro w hSw;(try dsimp only at hSw);go_split_ands;go_simp;try with_reducible rfl)
              try simp only[Act.put]
              refine z09 (i:=17) (oi:=_) (v:=?_) rfl (fun _ _ _ h=>h) (Or.inl ⟨by rfl,?_⟩) ?_;rotate_left
              ·(intro w hSw;(try dsimp only at hSw);go_split_ands;go_simp;try with_reducible rfl)
              try simp only[Act.put]
              refine Ou (rs:=[18]) (by kernel_rfl) (by simp) (jW.cons (o:=_) rfl (fun K hK=>?_) jW.nil);go_simp;refine hK.out _ _ (fun _=>⟨(by go_keep),(by go_keep)⟩) (fun dK=>?_);have hHeld:=dK (by decide);clear hK K dK
              try simp only[Act.put,jM,jK,jL]
              refine Ou (rs:=[19]) (by kernel_rfl) (by simp) (jW.cons (o:=_) rfl (fun K hK=>?_) jW.nil);refine RQ _ rfl (.tmp 155) (.tmp 169) _ rfl 0 5 i0 _ 1 1 Tryz.underlying27 hi0 hz0 hz1 hz2 rfl (by omega) (.slice (some ad) l.length c8) l.length (bl l) rfl (Xc.out.own.alloc _) (fun i=>i=w8.heap.size) (some ⟨w8.heap.size,0,none⟩) 1 1 [.int .u8 (x:Int)] rfl Ri.out (by intro u hu;simp at hu;subst hu;rfl) (by simp only[maxLen];omega) (by omega) (by omega) ?_;intro v' w9 zu hg9 MF;obtain ⟨A9,c9,hv9,f1,f2,m9⟩:=Xc.out.push (.cells #[.int .u8 (x:Int)] 5) hx8 hlm zu hg9 MF;subst hv9;have M9:=ah m9;clear zu hg9 MF m9;refine hK.out _ _ (fun h=>absurd h (by decide)) (fun dK=>?_);clear hK K dK
              try simp only[Act.put,jM]
              refine Ou (rs:=[20]) (by kernel_rfl) (by simp) (jW.cons (o:=_) rfl (fun K hK=>?_) jW.nil);go_simp;refine hK.out _ _ (fun h=>absurd h (by decide)) (fun dK=>?_);clear hK K dK
              try simp only[Act.put,jM,jK,jL]
              refine Ou (rs:=[21]) (by kernel_rfl) (by simp) (jW.cons (o:=_) rfl (fun K hK=>?_) jW.nil);go_simp;refine hK.out _ _ (fun h=>absurd h (by decide)) (fun dK=>?_);clear hK K dK
              try simp only[Act.put,jM,jK,jL]
              refine Ou (rs:=[22]) (by kernel_rfl) (by simp) (jW.cons (o:=_) rfl (fun K hK=>?_) jW.nil);go_simp;refine hK.out _ _ (fun h=>absurd h (by decide)) (fun dK=>?_);clear hK K dK
              try simp only[Act.put,jM,jK,jL]
              refine z4L (by kernel_rfl) ?_ _;go_wp2_with fail;go_roundw
              case rel=>exact ⟨k+1,l++[x],by omega,by go_num,⟨M9.out.1,kk8.drew.trans M9.out.2 fun _ _ h=>h⟩,ah (by rw[TN.out]),(by simp only[List.length_append,List.length_singleton];have:=Jd.out;omega)⟩
              case measure=>simp only[intOf];omega
             ·have hkn:k=L+v1:=by omega
              have VX:¬(k:Int)<(L:Int)+(v1:Int):=(by omega);have Mc:dQ (L+v1) (T+v2) xs=l:=by rw[TQ.out,hkn,Nat.sub_self];rfl
              have TP:=ah Mc;have PX:=m8.fH.at_;have TS:=ah PX;have hPN:=(m8.fH.le).1;have M8:Hid (kP K2 w2 t g h bs N P l most w8):=ah ⟨⟨_,m8⟩,kk8⟩;clear Mc m8 TQ PX hkn zx;go_wp2_with fail;go_roundw
              case rel=>
               refine ⟨P,l,M8.out,fun h=>?_⟩;obtain ⟨_,_,_,_,_,k',h1,h2⟩:=HX3.out h;rw[TP.out]at h2;exact ⟨k',by rw[←HN.out];omega,h2⟩
              case measure=>rw[TS.out,hat];omega
           ·have UG:(most:Int)-(xs.length:Int)<(L:Int)+(v1:Int):=by omega
            go_wp2_with fail;go_quiet (fail)
            go_wp2_with fail;go_ret
            exact kS.out 5 P xs _ ⟨⟨_,M7.out.nx ((Ch.refl _ _).drewN _)⟩,K7.out.drewN _⟩ fun h=>by
             obtain ⟨_,_,_,_,h1,_⟩:=HX3.out h;exact absurd h1 hroom
          ·have hfi:(xs.length:Int)<(T:Int)+(v2:Int):=by omega
           go_wp2_with fail;go_ret
           exact kS.out 4 P xs _ ⟨⟨_,M7.out⟩,K7.out⟩ fun h=>by
            obtain ⟨_,_,_,h1,_⟩:=HX3.out h;exact absurd h1 jQ
         ·have QA:=ah (Oo g h bs N q2 (extra d:Nat) w6 M6.out.fH (by omega) (by omega) (by omega))
          go_wp2_with fail;refine QA.out.mono ?_;rintro e w7 ⟨rfl,n7⟩;go_wp2_with fail;go_ret
          exact kS.out 3 q2 xs _ ⟨⟨_,M6.out.nx n7.nx⟩,K6.out.tr n7.nx⟩ fun h=>by
           obtain ⟨_,_,h1,_⟩:=HX3.out h;exact absurd h1 hb3
        ·have Wu:(29:Int)<(d:Int):=by omega
         go_wp2_with fail;go_ret
         exact kS.out 4 q2 xs _ ⟨⟨_,M6.out⟩,K6.out⟩ fun h=>by
          obtain ⟨_,h1,_⟩:=HX3.out h;exact absurd h1 hd29
       ·have herd2:(er !=0)=true:=by rw[bne_iff_ne];exact SV
        clear hok2;go_wp2_with fail;go_ret
        exact kS.out er q2 xs _ ⟨⟨_,M6.out⟩,K6.out⟩ fun h=>by
         obtain ⟨h1,_⟩:=HX3.out h;exact absurd h1 SV
      ·have OE:=ah (Oo g h bs N q ((fO u).2:Nat) w4 M4.out.fH (by omega) (by omega) (by omega))
       go_wp2_with fail;refine OE.out.mono ?_;rintro e w5 ⟨rfl,n5⟩;go_wp2_with fail;go_ret
       exact kS.out 3 q xs _ ⟨⟨_,M4.out.nx n5.nx⟩,K4.out.tr n5.nx⟩ fun h=>by
        obtain ⟨_,_,_,h1,_⟩:=HX2.out h;exact absurd h1 hb1
  ·have qI:(er !=0)=true:=by rw[bne_iff_ne];exact her
   clear hok;go_wp2_with fail;go_ret
   exact kS.out er q xs w4 ⟨⟨_,M4.out⟩,K4.out⟩ fun h=>by
    obtain ⟨_,_,_,_,h1,_⟩:=HX.out h;exact absurd h1 her
end Go.Proofs.YtfljcllpmbnjaaaGreat
