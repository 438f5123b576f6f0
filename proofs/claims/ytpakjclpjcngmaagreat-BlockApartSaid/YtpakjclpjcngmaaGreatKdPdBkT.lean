/- Contracts and plain laws that the last text rests on. Conditions: each theorem states its own. -/
import Derived.Test.YtpakjclpjcngmaaGreatKdQ36
import Derived.Test.YtpakjclpjcngmaaGreatKdQ35
import Derived.Test.YtpakjclpjcngmaaGreatKdQ7
set_option maxRecDepth 100000
set_option maxHeartbeats 32000000
set_option linter.unusedVariables false
namespace Go.Proofs.YtpakjclpjcngmaaGreat
open Go.RowKit
theorem aal (l:List Int):(il l).length=l.length:=by simp[il]
theorem xC {W:World} {D:Nat->Prop} {A:Option Addr} {n k:Nat} {l:List Int} (h:Rd W D 1 A n (il l)) (hl:l.length=n) (hk:k<n):∃ad,A=some ad/\W.cell? (ad.add k)=some (.int .i64 (l.getD k 0)):=by
 obtain ⟨ad,u,e, -,hu,hc⟩:=h.at_ hk;refine ⟨ad,e,hc.trans ?_⟩;rw[←hu];simp[il,show k<l.length by omega]
theorem UG {W:World} {D:Nat->Prop} {A:Option Addr} {n k:Nat} {l:List ByteArray} (h:Rd W D 1 A n (dM l)) (hl:l.length=n) (hk:k<n):∃ad,A=some ad/\W.cell? (ad.add k)=some (.string (l.getD k ByteArray.empty)):=by
 obtain ⟨ad,u,e, -,hu,hc⟩:=h.at_ hk;refine ⟨ad,e,hc.trans ?_⟩;rw[←hu];simp[dM,show k<l.length by omega]
theorem aaX {W:World} {D:Nat->Prop} {A:Option Addr} {n k:Nat} {l:List Bool} (h:Rd W D 1 A n (lu l)) (hl:l.length=n) (hk:k<n):∃ad,A=some ad/\W.cell? (ad.add k)=some (.bool (l.getD k false)):=by
 obtain ⟨ad,u,e, -,hu,hc⟩:=h.at_ hk;refine ⟨ad,e,hc.trans ?_⟩;rw[←hu];simp[lu,show k<l.length by omega]
theorem xE.rd {W:World} {m0:Nat} {A:Option Addr} {n c:Nat} {xs:List Value} (h:xE W m0 (.slice A n c) xs) (hn:xs.length=n):Rd W (fun k=>m0<=k/\k<W.heap.size) 1 A n xs:=by
 obtain ⟨A',c',e, -, -,hr⟩:=h;injection e with e1 e2 e3;subst e1;rw[←hn];exact hr
theorem aU.IE {c:aU} {b:List Nat} (h:¬(c.fit/\bg b.length (oG b 9).1 (oG b 9).2=0)):c.group b=none:=by
 unfold aU.group;rw[if_neg h]
theorem aU.DT {c:aU} {b:List Nat} (h:c.rows c.fs.length=none):c.group b=none:=by
 unfold aU.group;rw[h];split<;>rfl
theorem aU.Oi {c:aU} {b:List Nat} {l:List au} (h1:c.fit) (h2:bg b.length (oG b 9).1 (oG b 9).2=0) (h:c.rows c.fs.length=some l):c.group b=if iP l=true/\fZ l=b then some l else none:=by
 unfold aU.group;rw[if_pos ⟨h1,h2⟩,h];rfl
theorem aat (s0 s1 s2 s3 s4 s5:Value) (W:World):(Instr.index 115 (.agg #[s0,s1,s2,s3,s4,s5]) (.int .i64 0)).run Tryz.prog W=.ok s0 W:=by kernel_rfl
theorem aas (s0 s1 s2 s3 s4 s5:Value) (W:World):(Instr.index 115 (.agg #[s0,s1,s2,s3,s4,s5]) (.int .i64 1)).run Tryz.prog W=.ok s1 W:=by kernel_rfl
theorem aar (s0 s1 s2 s3 s4 s5:Value) (W:World):(Instr.index 115 (.agg #[s0,s1,s2,s3,s4,s5]) (.int .i64 2)).run Tryz.prog W=.ok s2 W:=by kernel_rfl
theorem aaq (s0 s1 s2 s3 s4 s5:Value) (W:World):(Instr.index 115 (.agg #[s0,s1,s2,s3,s4,s5]) (.int .i64 3)).run Tryz.prog W=.ok s3 W:=by kernel_rfl
theorem aap (s0 s1 s2 s3 s4 s5:Value) (W:World):(Instr.index 115 (.agg #[s0,s1,s2,s3,s4,s5]) (.int .i64 4)).run Tryz.prog W=.ok s4 W:=by kernel_rfl
theorem aao (s0 s1 s2 s3 s4 s5:Value) (W:World):(Instr.index 115 (.agg #[s0,s1,s2,s3,s4,s5]) (.int .i64 5)).run Tryz.prog W=.ok s5 W:=by kernel_rfl
def nK (w:World) (b:List Nat) (ic:Nat->List Int->Prop) (wc tc:List ByteArray->Prop) (fc:List Bool->Prop) (e:Ending) (w':World):Prop:=
 ∃cs:aU,(∀k,k<6->ic k (cs.n k))/\wc cs.ws/\tc cs.ts/\fc cs.fs/\kU w (cs.group b) e w'
theorem nK.bad {w w':World} {b:List Nat} {ic:Nat->List Int->Prop} {wc tc:List ByteArray->Prop} {fc:List Bool->Prop} {cs:aU} (h1:∀k,k<6->ic k (cs.n k)) (h2:wc cs.ws) (h3:tc cs.ts) (h4:fc cs.fs) (hg:cs.group b=none) (n:Nx w w'):nK w b ic wc tc fc (.returned (.tuple #[.slice none 0 0,.int .i64 4])) w':=by
 refine ⟨cs,h1,h2,h3,h4,?_⟩;rw[hg];exact ⟨rfl,n⟩
theorem La {w:World} {D:Nat->Prop} {A:Option Addr} {n c:Nat} {b:List Nat} (hr:Rd w D 1 A n (bl b)) (ok:okB b) (hl:b.length=n) (hn:n<=1000000000) (hc:n<=c) (hD:∀k,D k->k<w.heap.size) (mm:Int) (hm:w.cell? ⟨0,0,none⟩=some (.int .i64 mm))
 {ic:Nat->List Int->Prop} {wc tc:List ByteArray->Prop} {fc:List Bool->Prop} (HC:Va b ic wc tc fc):
 Calls Tryz.prog 25 #[.slice A n c] w (nK w b ic wc tc fc):=by
 have HNW:=ah (z21 D A n c b w hr ok hl hn);have Vw:=ah (fun (w':World) (c':Nx w w')=>rX (P:=Tryz.prog) w' 26 9 5 Tryz.underlying26 Tryz.underlying5 Tryz.underlying9 D A n c _ (hr.nx (by decide) c'));have HM:=ah (fun (w':World) (c':Nx w w')=>(c'.cell (p:=⟨0,0,none⟩) (World.block_lt_of_cell? w _ hm)).trans hm);have HL:=ah hl;have mO:=ah ok;clear hr hm ok hD hc;go_enter Tryz.func25,Tryz.ntmps25;go_wp2_with fail;with_reducible refine HNW.out.mono ?_
 rintro e w2 ⟨g,Ac,cc,rfl,Vo,hn2,hg⟩;have hs2:g<w2.heap.size:=Vo.blk.lt;have FS:=ah (AP.start Vo hn2 ⟨hg,hs2⟩);clear Vo HNW hn2 hg hs2;go_wp2_with fail;generalize w2.heap.size=m at *;go_loopw [24] (fun i wr=>∃(k:Nat) (v:Nat->Value) (nn:Nat->List Int),k<=5/\i=.int .i64 (k:Int)/\Hid (AP w g m (m+1) (m+1+1) Ac cc b k v nn wr)/\Hid (∀j,j<k->(∀z∈nn j,i64 z)/\ic j (nn j))) (fun i _=>5-(intOf i).toNat)
 case atStart=>exact ⟨0,_,_,Nat.zero_le _,rfl,FS,ah (by intro j hj;omega)⟩
 case round=>
  clear FS;obtain ⟨w4,rfl⟩:∃w4:World,w4=wr:=⟨_,rfl⟩;obtain ⟨k,v,nn,hk5,rfl,HI,HN⟩:=hrel;by_cases hlt:k<5
  ·have HX:=ah HI.out.next
   go_wp2_with fail;refine HX.out.mono ?_;rintro e w5 ⟨A5,c5,rfl,r5,hc5,I5,t5⟩;have hci:=HC.ints k (by omega);rw[show tn k=k by unfold tn;rw[if_neg (by omega)]]at hci;have HC5:=ah (hci _ A5 c5 w5 r5 (fun _ h=>h) hc5);have I5':=ah I5;clear hci HX r5 I5 t5;go_wp2_with fail;refine HC5.out.mono ?_;rintro e w6 ⟨x,l,er,rfl,o6,hz6,hi6⟩;have I6:=ah (I5'.out.nS o6.nx);have SX:=ah (xE.own o6 (m0:=m+1+1) (by have:=I5'.out.lay;omega));have c6:w6.cell? ⟨m+1,k,none⟩=some (v k):=I6.out.cell (by omega);have f6:w6.frozen? ⟨m+1,k,none⟩=false:=I6.out.arr.frozen k;have HZ:=ah hz6;have HI6:=ah hi6;obtain ⟨Ax,cx,rfl, -, -⟩:=o6.form;clear o6 hz6 hi6 HC5 I5' HI;go_wp2_with fail;have I7:=ah (I6.out.set (i:=k) (by omega) SX.out);clear I6 SX c6 f6;go_roundw
   case rel=>
    refine ⟨k+1,_,_,hlt,by go_num,I7,ah fun j hj=>?_⟩;unfold upd;by_cases hjk:j=k
    ·rw[if_pos hjk,hjk]
     exact ⟨HZ.out,HI6.out⟩
    ·rw[if_neg hjk]
     exact HN.out j (by omega)
   case measure=>simp[intOf];omega
  ·have hk5:k=5:=by omega
   subst hk5;have HX:=ah HI.out.next;go_wp2_with fail;refine HX.out.mono ?_;rintro e w5 ⟨A5,c5,rfl,r5,hc5,I5,t5⟩;have HC5:=ah (HC.words _ A5 c5 w5 r5 (fun _ h=>h) hc5);have I5':=ah I5;clear HX r5 I5 t5 HI;go_wp2_with fail;refine HC5.out.mono ?_;rintro e w6 ⟨xw,ws,er,rfl,o6,hz6,hi6⟩;have I6:=ah (I5'.out.nS o6.nx);have SW6:=ah (xE.own o6 (m0:=m+1+1) (by have:=I5'.out.lay;omega));have HZW:=ah hz6;have Vx:=ah hi6;obtain ⟨Aw,cw,rfl, -, -⟩:=o6.form;have HX:=ah I6.out.next;clear o6 hz6 hi6 HC5 I5';go_wp2_with fail;refine HX.out.mono ?_;rintro e w7 ⟨A7,c7,rfl,r7,hc7,I7,t7⟩;have SW7:=ah (SW6.out.ch t7 (fun i e=>by have:=I6.out.lay;omega));have HC7:=ah (HC.texts _ A7 c7 w7 r7 (fun _ h=>h) hc7);have I7':=ah I7;clear HX r7 I7 t7 I6 SW6;go_wp2_with fail;refine HC7.out.mono ?_;rintro e w8 ⟨xt,ts,er2,rfl,o8,hz8,hi8⟩;have I8:=ah (I7'.out.nS o8.nx);have SW8:=ah (SW7.out.nx o8.nx);have ST8:=ah (xE.own o8 (m0:=m+1+1) (by have:=I7'.out.lay;omega));have HZT:=ah hz8;have HIT:=ah hi8;obtain ⟨At,ct,rfl, -, -⟩:=o8.form;have HX:=ah I8.out.next;clear o8 hz8 hi8 HC7 I7' SW7;go_wp2_with fail;refine HX.out.mono ?_;rintro e w9 ⟨A9,c9,rfl,r9,hc9,I9,t9⟩;have SW9:=ah (SW8.out.ch t9 (fun i e=>by have:=I8.out.lay;omega));have ST9:=ah (ST8.out.ch t9 (fun i e=>by have:=I8.out.lay;omega));have HC9:=ah (HC.ints 5 (by decide) _ A9 c9 w9 r9 (fun _ h=>h) hc9);have I9':=ah I9;clear HX r9 I9 t9 I8 SW8 ST8;go_wp2_with fail;refine HC9.out.mono ?_;rintro e w10 ⟨x5,l5,er3,rfl,o10,hz10,hi10⟩;have I10:=ah (I9'.out.nS o10.nx);have SW10:=ah (SW9.out.nx o10.nx);have ST10:=ah (ST9.out.nx o10.nx);have SX10:=ah (xE.own o10 (m0:=m+1+1) (by have:=I9'.out.lay;omega))
   have HN6:Hid (∀j,j<6->(∀z∈upd nn 5 l5 j,i64 z)/\ic j (upd nn 5 l5 j)):=ah (fun j hj=>by
    unfold upd;by_cases hj5:j=5
    ·rw[if_pos hj5,hj5];exact ⟨hz10,hi10⟩
    ·rw[if_neg hj5];exact HN.out j (by omega))
   obtain ⟨Ax5,cx5,rfl, -, -⟩:=o10.form;have c10:w10.cell? ⟨m+1,5,none⟩=some (v 5):=I10.out.cell (by decide);have f10:w10.frozen? ⟨m+1,5,none⟩=false:=I10.out.arr.frozen 5;clear o10 hz10 hi10 HC9 I9' SW9 ST9 HN;have I11:=ah (I10.out.set (i:=5) (by decide) SX10.out);have t11:Ch (· =m+1) w10 (w10.setCell ⟨m+1,5,none⟩ (.slice Ax5 l5.length cx5)):=Ch.setCell (Ch.refl (· =m+1) _) (p:=⟨m+1,5,none⟩) (fun _=>rfl) _;have SW11:=ah (SW10.out.ch t11 (fun i e=>by omega));have ST11:=ah (ST10.out.ch t11 (fun i e=>by omega));have HX:=ah I11.out.next;clear I10 SW10 ST10 SX10 t11;obtain ⟨n6,hn6⟩:∃n6,n6=upd nn 5 l5:=⟨_,rfl⟩;obtain ⟨v6,hv6⟩:∃v6,v6=upd v 5 (.slice Ax5 l5.length cx5):=⟨_,rfl⟩;rw[←hn6,←hv6]at I11 HX;rw[←hn6]at HN6;clear hn6 hv6;go_wp2_with fail;refine HX.out.mono ?_;rintro e w12 ⟨A12,c12,rfl,r12,hc12,I12,t12⟩;have SW12:=ah (SW11.out.ch t12 (fun i e=>by have:=I11.out.lay;omega));have ST12:=ah (ST11.out.ch t12 (fun i e=>by have:=I11.out.lay;omega));have HC12:=ah (HC.flags _ A12 c12 w12 r12 (fun _ h=>h) hc12);have I12':=ah I12;clear HX r12 I12 t12 I11 SW11 ST11 c10 f10 HC;go_wp2_with fail;refine HC12.out.mono ?_;rintro e y ⟨xf,fs,er4,rfl,o13,hi13⟩;have HI:=ah (I12'.out.nS o13.nx);have SW:=ah (SW12.out.nx o13.nx);have ST:=ah (ST12.out.nx o13.nx);have SF:=ah (xE.own o13 (m0:=m+1+1) (by have:=I12'.out.lay;omega));have Vy:=ah hi13;obtain ⟨Af,cf,rfl, -, -⟩:=o13.form;clear o13 hi13 HC12 I12' SW12 ST12;obtain ⟨A0,c0,e0,q0,p0,R0⟩:=HI.out.cols 0 (by decide);obtain ⟨A1,c1,e1,q1,p1,R1⟩:=HI.out.cols 1 (by decide);obtain ⟨A2,c2,e2,q2,p2,R2⟩:=HI.out.cols 2 (by decide);obtain ⟨A3,c3,e3,q3,p3,R3⟩:=HI.out.cols 3 (by decide);obtain ⟨A4,c4,e4,q4,p4,R4⟩:=HI.out.cols 4 (by decide);obtain ⟨A5,c5,e5,q5,p5,R5⟩:=HI.out.cols 5 (by decide);rw[aal]at e0 e1 e2 e3 e4 e5 R0 R1 R2 R3 R4 R5;have b0:y.cell? ⟨m+1,0,none⟩=some (.slice A0 (n6 0).length c0):=(HI.out.cell (i:=0) (by decide)).trans (by rw[e0]);have b1:y.cell? ⟨m+1,1,none⟩=some (.slice A1 (n6 1).length c1):=(HI.out.cell (i:=1) (by decide)).trans (by rw[e1]);have b2:y.cell? ⟨m+1,2,none⟩=some (.slice A2 (n6 2).length c2):=(HI.out.cell (i:=2) (by decide)).trans (by rw[e2]);have b3:y.cell? ⟨m+1,3,none⟩=some (.slice A3 (n6 3).length c3):=(HI.out.cell (i:=3) (by decide)).trans (by rw[e3]);have b4:y.cell? ⟨m+1,4,none⟩=some (.slice A4 (n6 4).length c4):=(HI.out.cell (i:=4) (by decide)).trans (by rw[e4]);have b5:y.cell? ⟨m+1,5,none⟩=some (.slice A5 (n6 5).length c5):=(HI.out.cell (i:=5) (by decide)).trans (by rw[e5]);have hR:Hid (Rd y (fun k=>m+1+1<=k/\k<y.heap.size) 1 A0 (n6 0).length (il (n6 0))/\Rd y (fun k=>m+1+1<=k/\k<y.heap.size) 1 A1 (n6 1).length (il (n6 1))/\Rd y (fun k=>m+1+1<=k/\k<y.heap.size) 1 A2 (n6 2).length (il (n6 2))/\Rd y (fun k=>m+1+1<=k/\k<y.heap.size) 1 A3 (n6 3).length (il (n6 3))/\Rd y (fun k=>m+1+1<=k/\k<y.heap.size) 1 A4 (n6 4).length (il (n6 4))/\Rd y (fun k=>m+1+1<=k/\k<y.heap.size) 1 A5 (n6 5).length (il (n6 5))):=ah ⟨R0,R1,R2,R3,R4,R5⟩;have HB:Hid (y.cell? ⟨m+1,0,none⟩=some (.slice A0 (n6 0).length c0)/\y.cell? ⟨m+1,1,none⟩=some (.slice A1 (n6 1).length c1)/\y.cell? ⟨m+1,2,none⟩=some (.slice A2 (n6 2).length c2)/\y.cell? ⟨m+1,3,none⟩=some (.slice A3 (n6 3).length c3)/\y.cell? ⟨m+1,4,none⟩=some (.slice A4 (n6 4).length c4)/\y.cell? ⟨m+1,5,none⟩=some (.slice A5 (n6 5).length c5)):=ah ⟨b0,b1,b2,b3,b4,b5⟩;clear e0 e1 e2 e3 e4 e5 q0 q1 q2 q3 q4 q5 p0 p1 p2 p3 p4 p5 R0 R1 R2 R3 R4 R5;go_wp2_with fail;have x0:=aat (.slice A0 (n6 0).length c0) (.slice A1 (n6 1).length c1) (.slice A2 (n6 2).length c2) (.slice A3 (n6 3).length c3) (.slice A4 (n6 4).length c4) (.slice A5 (n6 5).length c5);have x1:=aas (.slice A0 (n6 0).length c0) (.slice A1 (n6 1).length c1) (.slice A2 (n6 2).length c2) (.slice A3 (n6 3).length c3) (.slice A4 (n6 4).length c4) (.slice A5 (n6 5).length c5);have x2:=aar (.slice A0 (n6 0).length c0) (.slice A1 (n6 1).length c1) (.slice A2 (n6 2).length c2) (.slice A3 (n6 3).length c3) (.slice A4 (n6 4).length c4) (.slice A5 (n6 5).length c5);have x3:=aaq (.slice A0 (n6 0).length c0) (.slice A1 (n6 1).length c1) (.slice A2 (n6 2).length c2) (.slice A3 (n6 3).length c3) (.slice A4 (n6 4).length c4) (.slice A5 (n6 5).length c5);have x4:=aap (.slice A0 (n6 0).length c0) (.slice A1 (n6 1).length c1) (.slice A2 (n6 2).length c2) (.slice A3 (n6 3).length c3) (.slice A4 (n6 4).length c4) (.slice A5 (n6 5).length c5);have x5:=aao (.slice A0 (n6 0).length c0) (.slice A1 (n6 1).length c1) (.slice A2 (n6 2).length c2) (.slice A3 (n6 3).length c3) (.slice A4 (n6 4).length c4) (.slice A5 (n6 5).length c5)
   have hfl:∀cs:aU,cs.fs=fs->cs.n=n6->(∃j,j<6/\(n6 j).length≠fs.length)->cs.group b=none:=fun cs h1 h2 h3=>by
    obtain ⟨j,hj,hne⟩:=h3;unfold aU.group;rw[if_neg];intro hh;have:=hh.1.n j hj;rw[h1,h2]at this;exact hne this
   have HBAD:=ah hfl;have Vz:Hid (∀j,j<6->ic j (n6 j)):=ah (fun j hj=>(HN6.out j hj).2);clear hfl;go_loopw [64] (fun i wr=>∃k:Nat,k<=6/\i=.int .i64 (k:Int)/\wr=y/\Hid (∀j,j<k->(n6 j).length=fs.length)) (fun i _=>6-(intOf i).toNat)
   case atStart=>exact ⟨0,Nat.zero_le _,rfl,rfl,ah (by intro j hj;omega)⟩
   case round=>
    obtain ⟨k,hk6,rfl,mX,HK⟩:=hrel;rw[mX];clear mX;by_cases hlt:k<6
    ·by_cases hq:(n6 k).length=fs.length
     ·have HK2:Hid (∀j,j<k+1->(n6 j).length=fs.length):=ah (fun j hj=>by
       by_cases e:j=k
       ·rw[e];exact hq
       ·exact HK.out j (by omega))
      have q1:(((n6 k).length:Int) !=(fs.length:Int))=false:=(by rw[bne_eq_false_iff_eq,hq]);clear HK hq;obtain rfl|rfl|rfl|rfl|rfl|rfl:k=0∨k=1∨k=2∨k=3∨k=4∨k=5:=by omega
      all_goals
       go_wp2_with fail;go_roundw
       case rel=>exact ⟨_,by decide,rfl,trivial,HK2⟩
       case measure=>simp[intOf]
     ·have q1:(((n6 k).length:Int) !=(fs.length:Int))=true:=by rw[bne_iff_ne];omega
      have HB2:=ah (HBAD.out ⟨n6,ws,ts,fs⟩ rfl rfl ⟨k,hlt,hq⟩);clear HK HBAD hq;obtain rfl|rfl|rfl|rfl|rfl|rfl:k=0∨k=1∨k=2∨k=3∨k=4∨k=5:=by omega
      all_goals
       go_wp2_with fail;refine bodyPost_ret (v:=.tuple #[.slice none 0 0,.int .i64 4]) (by simp[results,Tryz.results25,go_sem]) rfl ?_;exact nK.bad Vz.out Vx.out HIT.out Vy.out HB2.out HI.out.nx
    ·have hk:k=6:=by omega
     subst hk;clear HBAD;have LJ:Hid (∀j,j<6->(n6 j).length=fs.length):=HK;have HE0:=su HI.out.cur;have ct4:y.cell? ⟨m,0,none⟩=some (.pointer (some ⟨g,0,none⟩)):=HI.out.r4.cell 0;rw[show (5+1+1+1+1:Nat)=9 from rfl]at HE0;obtain ⟨ce,hce⟩:∃t,t=bg b.length (oG b 9).1 (oG b 9).2:=⟨_,rfl⟩;rw[←hce]at HE0;have HE:=ah HE0;have Ae:=ah hce;clear HE0 hce HK x0 x1 x2 x3 x4 x5;by_cases hgood:ce=0/\1<=fs.length/\fs.length<=256/\ws.length=fs.length/\ts.length=fs.length
     ·obtain ⟨g1,g2,g3,g4,g5⟩:=hgood
      have q1:(ce !=0)=false:=by rw[g1];rfl
      have q2:decide ((fs.length:Int)<1)=false:=by rw[decide_eq_false_iff_not];omega
      have q3:decide ((256:Int)<(fs.length:Int))=false:=by rw[decide_eq_false_iff_not];omega
      have q4:((ws.length:Int) !=(fs.length:Int))=false:=by rw[bne_eq_false_iff_eq];omega
      have q5:((ts.length:Int) !=(fs.length:Int))=false:=by rw[bne_eq_false_iff_eq];omega
      have HC0:Hid (bg b.length (oG b 9).1 (oG b 9).2=0):=ah (Ae.out.symm.trans g1);have G4:=ah g4;have G5:=ah g5;have hf2:=g2;have hf3:=g3;clear g1 g4 g5 Ae g2 g3;go_wp2_with fail;refine HE.out.mono ?_;rintro e y2 ⟨rfl,nd,rfl⟩;have N1:=ah ((Ch.refl (fun _=>False) y).drewN nd);go_wp2_with fail;generalize y.drewN nd=y1 at *;have RW:=ah (SW.out.rd (oV ws));have RT:=ah (ST.out.rd (oV ts));have RF:=ah (SF.out.rd (IV fs));obtain ⟨r0,r1,r2,r3,r4,r5⟩:=hR.out;obtain ⟨s0,s1,s2,s3,s4,s5⟩:=HB.out;rw[LJ.out 0 (by decide)]at r0 s0;rw[LJ.out 1 (by decide)]at r1 s1;rw[LJ.out 2 (by decide)]at r2 s2;rw[LJ.out 3 (by decide)]at r3 s3;rw[LJ.out 4 (by decide)]at r4 s4;rw[LJ.out 5 (by decide)]at r5 s5;have X0:=ah (And.intro r0 s0);have X1:=ah (And.intro r1 s1);have X2:=ah (And.intro r2 s2);have X3:=ah (And.intro r3 s3);have X4:=ah (And.intro r4 s4);have X5:=ah (And.intro r5 s5);clear r0 r1 r2 r3 r4 r5 s0 s1 s2 s3 s4 s5 b0 b1 b2 b3 b4 b5 hR HB HE ct4 q1 q2 q3 q4 q5 SW ST SF;go_loopw [17,96] (fun out i wr=>∃(k:Nat) (zs:List RV),k<=fs.length/\i=.int .i64 (k:Int)/\Hid (zs.length=k)/\Hid (fE y1 wr out zs)/\Hid ((⟨n6,ws,ts,fs⟩:aU).rows k=some (zs.map fun x=>x.row))/\Hid (∀z∈zs,z.row.few)) (fun _ i _=>fs.length-(intOf i).toNat)
      case atStart=>exact ⟨0,[],Nat.zero_le _,rfl,ah rfl,ah (fE.nil y1 y1 (Ch.refl _ _)),ah rfl,ah (by simp)⟩
      case round=>
       obtain ⟨w4,rfl⟩:∃w4:World,w4=wr:=⟨_,rfl⟩;obtain ⟨k,zs,hkn,rfl,HZL,uH,HRW,HFW⟩:=hrel;obtain ⟨Ao,co,rfl,hco,hcm⟩:=uH.out.form;have N4:=ah (N1.out.trans uH.out.own.nx (fun _ _ hf=>hf));have NW4:=ah (HI.out.nx.trans N4.out (fun _ _ hf=>hf));by_cases hlt:k<fs.length
       ·obtain ⟨aw,rfl,cw4⟩:=UG (RW.out.nx (by decide) N4.out) rfl (k:=k) (by rw[G4.out];exact hlt)
        have hw1:(k:Int)<(ws.length:Int):=by rw[G4.out];omega
        obtain ⟨wk,hwk⟩:∃t,t=ws.getD k ByteArray.empty:=⟨_,rfl⟩;rw[←hwk]at cw4
        have HPA:=ah (parse_any (w:=w4) wk (by
         rw[hwk];refine HZW.out _ ?_;rw[List.getD_eq_getElem?_getD,List.getElem?_eq_getElem (by rw[G4.out];exact hlt)];exact List.getElem_mem _) mm (HM.out w4 NW4.out))
        have HWK:=ah hwk;clear hwk hco;go_wp2_with fail;refine HPA.out.mono ?_;rintro e w5 hst;rcases iM.cases hst with ⟨l,Al,cl,hp,rfl,ol,hsm,hl4⟩|⟨hp,rfl,hn5⟩
        ·have N5:=ah (N4.out.trans ol.nx (fun _ _ hf=>hf))
         have Yg:=ah (uH.out.tr ol.nx);have HOL:=ah ol;have HP:=ah hp
         have HCL:Hid (l.length<=cl/\cl<=maxLen):=ah (by
          obtain ⟨_,_,ee,h1,h2⟩:=ol.form;injection ee with _ _ ee;subst ee;exact ⟨h1,h2⟩)
         obtain ⟨a0,rfl,i0⟩:=xC (X0.out.1.nx (by decide) N5.out) (LJ.out 0 (by decide)) hlt;obtain ⟨a1,rfl,i1⟩:=xC (X1.out.1.nx (by decide) N5.out) (LJ.out 1 (by decide)) hlt;obtain ⟨a2,rfl,i2⟩:=xC (X2.out.1.nx (by decide) N5.out) (LJ.out 2 (by decide)) hlt;obtain ⟨a3,rfl,i3⟩:=xC (X3.out.1.nx (by decide) N5.out) (LJ.out 3 (by decide)) hlt;obtain ⟨a4,rfl,i4⟩:=xC (X4.out.1.nx (by decide) N5.out) (LJ.out 4 (by decide)) hlt;obtain ⟨a5,rfl,i5⟩:=xC (X5.out.1.nx (by decide) N5.out) (LJ.out 5 (by decide)) hlt;obtain ⟨at_,rfl,it⟩:=UG (RT.out.nx (by decide) N5.out) rfl (k:=k) (by rw[G5.out];exact hlt);obtain ⟨af,rfl,jf⟩:=aaX (RF.out.nx (by decide) N5.out) rfl hlt;have d0:=(Nx.cell N5.out (p:=⟨m+1,0,none⟩) (World.block_lt_of_cell? y _ X0.out.2)).trans X0.out.2;have d1:=(Nx.cell N5.out (p:=⟨m+1,1,none⟩) (World.block_lt_of_cell? y _ X1.out.2)).trans X1.out.2;have d2:=(Nx.cell N5.out (p:=⟨m+1,2,none⟩) (World.block_lt_of_cell? y _ X2.out.2)).trans X2.out.2;have d3:=(Nx.cell N5.out (p:=⟨m+1,3,none⟩) (World.block_lt_of_cell? y _ X3.out.2)).trans X3.out.2;have d4:=(Nx.cell N5.out (p:=⟨m+1,4,none⟩) (World.block_lt_of_cell? y _ X4.out.2)).trans X4.out.2;have d5:=(Nx.cell N5.out (p:=⟨m+1,5,none⟩) (World.block_lt_of_cell? y _ X5.out.2)).trans X5.out.2
         have hmem:∀j,j<6->i64 ((n6 j).getD k 0):=fun j hj=>by
          refine (HN6.out j hj).1 _ ?_;have hlj:=LJ.out j hj;rw[List.getD_eq_getElem?_getD,List.getElem?_eq_getElem (by omega)];exact List.getElem_mem _
         have htx:(ts.getD k ByteArray.empty).size<=1000000000:=by
          refine HZT.out _ ?_;rw[List.getD_eq_getElem?_getD,List.getElem?_eq_getElem (by rw[G5.out];exact hlt)];exact List.getElem_mem _
         have e0:(⟨n6,ws,ts,fs⟩:aU).rowOf k l=⟨(n6 4).getD k 0,(n6 0).getD k 0,l,ts.getD k ByteArray.empty,(n6 5).getD k 0,fs.getD k false,(n6 1).getD k 0,(n6 2).getD k 0,(n6 3).getD k 0⟩:=rfl
         have e1:au.few ⟨(n6 4).getD k 0,(n6 0).getD k 0,l,ts.getD k ByteArray.empty,(n6 5).getD k 0,fs.getD k false,(n6 1).getD k 0,(n6 2).getD k 0,(n6 3).getD k 0⟩:=
          ⟨⟨hsm,by show (ts.getD k ByteArray.empty).size<=_;omega,hmem 4 (by decide),hmem 0 (by decide),hmem 5 (by decide),hmem 1 (by decide),hmem 2 (by decide),hmem 3 (by decide)⟩,by show l.length<=1000000;omega⟩
         generalize (n6 0).getD k 0=z0 at *;generalize (n6 1).getD k 0=z1 at *;generalize (n6 2).getD k 0=z2 at *;generalize (n6 3).getD k 0=z3 at *;generalize (n6 4).getD k 0=z4 at *;generalize (n6 5).getD k 0=z5 at *;generalize ts.getD k ByteArray.empty=tk at *;generalize fs.getD k false=fk at *;have HXR:=ah e0;have HXF:=ah e1;have ht1:(k:Int)<(ts.length:Int):=by rw[G5.out];omega
         have hk1:(k:Int)<(fs.length:Int):=(by omega);have adK:zs.length<=256:=by rw[HZL.out];omega
         obtain ⟨q0,hq0,hz0,hz1,hz2⟩:=info_parts Tryz.zi;clear hmem htx e0 e1 ol hp hst hsm HPA cw4;go_wp2_with fail;refine Qc (fun w'=>w'.cell? ⟨m+1,0,none⟩=some (.slice (some a0) fs.length c0)/\w'.cell? ⟨m+1,1,none⟩=some (.slice (some a1) fs.length c1)/\w'.cell? ⟨m+1,2,none⟩=some (.slice (some a2) fs.length c2)/\w'.cell? ⟨m+1,3,none⟩=some (.slice (some a3) fs.length c3)/\w'.cell? ⟨m+1,4,none⟩=some (.slice (some a4) fs.length c4)/\w'.cell? ⟨m+1,5,none⟩=some (.slice (some a5) fs.length c5)/\w'.cell? (a0.add k)=some (.int .i64 z0)/\w'.cell? (a1.add k)=some (.int .i64 z1)/\w'.cell? (a2.add k)=some (.int .i64 z2)/\w'.cell? (a3.add k)=some (.int .i64 z3)/\w'.cell? (a4.add k)=some (.int .i64 z4)/\w'.cell? (a5.add k)=some (.int .i64 z5)/\w'.cell? (at_.add k)=some (.string tk)/\w'.cell? (af.add k)=some (.bool fk)) (fun i=>decide (43<=i)) rfl ⟨d0,d1,d2,d3,d4,d5,i0,i1,i2,i3,i4,i5,it,jf⟩ (fun hS0=>?_)
         try simp only[Act.put,eu,dY,dZ]
         refine z00 (i:=0) (oi:=_) (v:=?_) rfl (fun _ _ _ h=>h) (Or.inl ⟨by rfl,?_⟩) ?_;rotate_left
         ·(intro w hSw;(try dsimp only at hSw);go_split_ands;go_simp;try with_reducible rfl)
         try simp only[Act.put,List.setIfInBounds_toArray]
         refine z00 (i:=1) (oi:=_) (v:=?_) rfl (fun _ _ _ h=>h) (Or.inl ⟨by rfl,?_⟩) ?_;rotate_left
         ·(intro w hSw;(try dsimp only at hSw);go_split_ands;go_simp;try with_reducible rfl)
         try simp only[Act.put]
         refine z00 (i:=2) (oi:=_) (v:=?_) rfl (fun _ _ _ h=>h) (Or.inl ⟨by rfl,?_⟩) ?_;rotate_left
         ·(intro w hSw;(try dsimp only at hSw);go_split_ands;go_simp;try with_reducible rfl)
         try simp only[Act.put]
         refine z00 (i:=3) (oi:=_) (v:=?_) rfl (fun _ _ _ h=>h) (Or.inl ⟨by rfl,?_⟩) ?_;rotate_left
         ·(intro w hSw;(try dsimp only at hSw);go_split_ands;go_simp;try with_reducible rfl)
         try simp only[Act.put]
         refine z00 (i:=4) (oi:=_) (v:=?_) rfl (fun _ _ _ h=>h) (Or.inl ⟨by rfl,?_⟩) ?_;rotate_left
         ·(intro w hSw;(try dsimp only at hSw);go_split_ands;go_simp;try with_reducible rfl)
         try simp only[Act.put]
         refine z00 (i:=5) (oi:=_) (v:=?_) rfl (fun _ _ _ h=>h) (Or.inl ⟨by rfl,?_⟩) ?_;rotate_left
         ·(intro w hSw;(try dsimp only at hSw);go_split_ands;go_simp;try with_reducible rfl)
         try simp only[Act.put]
         refine z00 (i:=6) (oi:=_) (v:=?_) rfl (fun _ _ _ h=>h) (Or.inl ⟨by rfl,?_⟩) ?_;rotate_left
         ·(intro w hSw;(try dsimp only at hSw);go_split_ands;go_simp;try with_reducible rfl)
         try simp only[Act.put]
         refine z00 (i:=7) (oi:=_) (v:=?_) rfl (fun _ _ _ h=>h) (Or.inl ⟨by rfl,?_⟩) ?_;rotate_left
         ·(intro w hSw;(try dsimp only at hSw);go_split_ands;go_simp;try with_reducible rfl)
         try simp only[Act.put]
         refine z00 (i:=8) (oi:=_) (v:=?_) rfl (fun _ _ _ h=>h) (Or.inl ⟨by rfl,?_⟩) ?_;rotate_left
         ·(intro w hSw;(try dsimp only at hSw);go_split_ands;go_simp;try with_reducible rfl)
         try simp only[Act.put]
         refine z00 (i:=9) (oi:=_) (v:=?_) rfl (fun _ _ _ h=>h) (Or.inl ⟨by rfl,?_⟩) ?_;rotate_left
         ·(intro w hSw;(try dsimp only at hSw);go_split_ands;go_simp;try with_reducible rfl)
         try simp only[Act.put]
         refine z00 (i:=10) (oi:=_) (v:=?_) rfl (fun _ _ _ h=>h) (Or.inl ⟨by rfl,?_⟩) ?_;rotate_left
         ·(intro w hSw;(try dsimp only at hSw);go_split_ands;go_simp;try with_reducible rfl)
         try simp only[Act.put]
         refine z00 (i:=11) (oi:=_) (v:=?_) rfl (fun _ _ _ h=>h) (Or.inl ⟨by rfl,?_⟩) ?_;rotate_left
         ·(intro w hSw;(try dsimp only at hSw);go_split_ands;go_simp;try with_reducible rfl)
         try simp only[Act.put]
         refine z00 (i:=12) (oi:=_) (v:=?_) rfl (fun _ _ _ h=>h) (Or.inl ⟨by rfl,?_⟩) ?_;rotate_left
         ·(intro w hSw;(try dsimp only at hSw);go_split_ands;go_simp;try with_reducible rfl)
         try simp only[Act.put]
         refine z00 (i:=13) (oi:=_) (v:=?_) rfl (fun _ _ _ h=>h) (Or.inl ⟨by rfl,?_⟩) ?_;rotate_left
         ·(intro w hSw;(try dsimp only at hSw);go_split_ands;go_simp;try with_reducible rfl)
         try simp only[Act.put]
         refine z00 (i:=14) (oi:=_) (v:=?_) rfl (fun _ _ _ h=>h) (Or.inl ⟨by rfl,?_⟩) ?_;rotate_left
         ·(intro w hSw;(try dsimp only at hSw);go_split_ands;go_simp;try with_reducible rfl)
         try simp only[Act.put]
         refine z00 (i:=15) (oi:=_) (v:=?_) rfl (fun _ _ _ h=>h) (Or.inl ⟨by rfl,?_⟩) ?_;rotate_left
         ·(intro w hSw;(try dsimp only at hSw);go_split_ands;go_simp;try with_reducible rfl)
         try simp only[Act.put]
         refine z00 (i:=16) (oi:=_) (v:=?_) rfl (fun _ _ _ h=>h) (Or.inl ⟨by rfl,?_⟩) ?_;rotate_left
         ·(intro w hSw;(try dsimp only at hSw);go_split_ands;go_simp;try with_reducible rfl)
         try simp only[Act.put]
         refine z00 (i:=17) (oi:=_) (v:=?_) rfl (fun _ _ _ h=>h) (Or.inl ⟨by rfl,?_⟩) ?_;rotate_left
         ·(intro w hSw;(try dsimp only at hSw);go_split_ands;go_simp;try with_reducible rfl)
         try simp only[Act.put]
         refine z00 (i:=18) (oi:=_) (v:=?_) rfl (fun _ _ _ h=>h) (Or.inl ⟨by rfl,?_⟩) ?_;rotate_left
         ·(intro w hSw;(try dsimp only at hSw);go_split_ands;go_simp;try with_reducible rfl)
         try simp only[Act.put]
         refine z00 (i:=19) (oi:=_) (v:=?_) rfl (fun _ _ _ h=>h) (Or.inl ⟨by rfl,?_⟩) ?_;rotate_left
         ·(intro w hSw;(try dsimp only at hSw);go_split_ands;go_simp;try with_reducible rfl)
         try simp only[Act.put]
         refine z00 (i:=20) (oi:=_) (v:=?_) rfl (fun _ _ _ h=>h) (Or.inl ⟨by rfl,?_⟩) ?_;rotate_left
         ·(intro w hSw;(try dsimp only at hSw);go_split_ands;go_simp;try with_reducible rfl)
         try simp only[Act.put]
         refine z00 (i:=21) (oi:=_) (v:=?_) rfl (fun _ _ _ h=>h) (Or.inl ⟨by rfl,?_⟩) ?_;rotate_left
         ·(intro w hSw;(try dsimp only at hSw);go_split_ands;go_simp;try with_reducible rfl)
         try simp only[Act.put]
         refine z00 (i:=22) (oi:=_) (v:=?_) rfl (fun _ _ _ h=>h) (Or.inl ⟨by rfl,?_⟩) ?_;rotate_left
         ·(intro w hSw;(try dsimp only at hSw);go_split_ands;go_simp;try with_reducible rfl)
         try simp only[Act.put]
         refine z00 (i:=23) (oi:=_) (v:=?_) rfl (fun _ _ _ h=>h) (Or.inl ⟨by rfl,?_⟩) ?_;rotate_left
         ·(intro w hSw;(try dsimp only at hSw);go_split_ands;go_simp;try with_reducible rfl)
         try simp only[Act.put]
         refine z00 (i:=24) (oi:=_) (v:=?_) rfl (fun _ _ _ h=>h) (Or.inl ⟨by rfl,?_⟩) ?_;rotate_left
         ·(intro w hSw;(try dsimp only at hSw);go_split_ands;go_simp;try with_reducible rfl)
         try simp only[Act.put]
         refine z00 (i:=25) (oi:=_) (v:=?_) rfl (fun _ _ _ h=>h) (Or.inl ⟨by rfl,?_⟩) ?_;rotate_left
         ·(intro w hSw;(try dsimp only at hSw);go_split_ands;go_simp;try with_reducible rfl)
         try simp only[Act.put]
         refine z00 (i:=26) (oi:=_) (v:=?_) rfl (fun _ _ _ h=>h) (Or.inl ⟨by rfl,?_⟩) ?_;rotate_left
         ·(intro w hSw;(try dsimp only at hSw);go_split_ands;go_simp;try with_reducible rfl)
         try simp only[Act.put]
         refine z00 (i:=27) (oi:=_) (v:=?_) rfl (fun _ _ _ h=>h) (Or.inl ⟨by rfl,?_⟩) ?_;rotate_left
         ·(intro w hSw;(try dsimp only at hSw);go_split_ands;go_simp;try with_reducible rfl)
         try simp only[Act.put]
         refine z00 (i:=28) (oi:=_) (v:=?_) rfl (fun _ _ _ h=>h) (Or.inl ⟨by rfl,?_⟩) ?_;rotate_left
         ·(intro w hSw;(try dsimp only at hSw);go_split_ands;go_simp;try with_reducible rfl)
         try simp only[Act.put]
         refine z00 (i:=29) (oi:=_) (v:=?_) rfl (fun _ _ _ h=>h) (Or.inl ⟨by rfl,?_⟩) ?_;rotate_left
         ·(intro w hSw;(try dsimp only at hSw);go_split_ands;go_simp;try with_reducible rfl)
         try simp only[Act.put]
         refine z00 (i:=30) (oi:=_) (v:=?_) rfl (fun _ _ _ h=>h) (Or.inl ⟨by rfl,?_⟩) ?_;rotate_left
         ·(intro w hSw;(try dsimp only at hSw);go_split_ands;go_simp;try with_reducible rfl)
         try simp only[Act.put]
         refine z00 (i:=31) (oi:=_) (v:=?_) rfl (fun _ _ _ h=>h) (Or.inl ⟨by rfl,?_⟩) ?_;rotate_left
         ·(intro w hSw;(try dsimp only at hSw);go_split_ands;go_simp;try with_reducible rfl)
         try simp only[Act.put]
         refine z00 (i:=32) (oi:=_) (v:=?_) rfl (fun _ _ _ h=>h) (Or.inl ⟨by rfl,?_⟩) ?_;rotate_left
         ·(intro w hSw;(try dsimp only at hSw);go_split_ands;go_simp;try with_reducible rfl)
         try simp only[Act.put]
         refine z00 (i:=33) (oi:=_) (v:=?_) rfl (fun _ _ _ h=>h) (Or.inl ⟨by rfl,?_⟩) ?_;rotate_left
         ·(intro w hSw;(try dsimp only at hSw);go_split_ands;go_simp;try with_reducible rfl)
         try simp only[Act.put]
         refine z00 (i:=34) (oi:=_) (v:=?_) rfl (fun _ _ _ h=>h) (Or.inl ⟨by rfl,?_⟩) ?_;rotate_left
         ·(intro w hSw;(try dsimp only at hSw);go_split_ands;go_simp;try with_reducible rfl)
         try simp only[Act.put]
         refine z00 (i:=35) (oi:=_) (v:=?_) rfl (fun _ _ _ h=>h) (Or.inl ⟨by rfl,?_⟩) ?_;rotate_left
         ·(intro w hSw;(try dsimp only at hSw);go_split_ands;go_simp;try with_reducible rfl)
         try simp only[Act.put]
         refine z00 (i:=36) (oi:=_) (v:=?_) rfl (fun _ _ _ h=>h) (Or.inl ⟨by rfl,?_⟩) ?_;rotate_left
         ·(intro w hSw;(try dsimp only at hSw);go_split_ands;go_simp;try with_reducible rfl)
         try simp only[Act.put]
         refine z00 (i:=37) (oi:=_) (v:=?_) rfl (fun _ _ _ h=>h) (Or.inl ⟨by rfl,?_⟩) ?_;rotate_left
         ·(intro w hSw;(try dsimp only at hSw);go_split_ands;go_simp;try with_reducible rfl)
         try simp only[Act.put]
         refine z00 (i:=38) (oi:=_) (v:=?_) rfl (fun _ _ _ h=>h) (Or.inl ⟨by rfl,?_⟩) ?_;rotate_left
         ·(intro w hSw;(try dsimp only at hSw);go_split_ands;go_simp;try with_reducible rfl)
         try simp only[Act.put]
         refine z00 (i:=39) (oi:=_) (v:=?_) rfl (fun _ _ _ h=>h) (Or.inl ⟨by rfl,?_⟩) ?_;rotate_left
         ·(intro w hSw;(try dsimp only at hSw);go_split_ands;go_simp;try with_reducible rfl)
         try simp only[Act.put]
         refine z00 (i:=40) (oi:=_) (v:=?_) rfl (fun _ _ _ h=>h) (Or.inl ⟨by rfl,?_⟩) ?_;rotate_left
         ·(intro w hSw;(try dsimp only at hSw);go_split_ands;go_simp;try with_reducible rfl)
         try simp only[Act.put]
         refine z00 (i:=41) (oi:=_) (v:=?_) rfl (fun _ _ _ h=>h) (Or.inl ⟨by rfl,?_⟩) ?_;rotate_left
         ·(intro w hSw;(try dsimp only at hSw);go_split_ands;go_simp;try with_reducible rfl)
         try simp only[Act.put]
         refine z02 (rs:=[42]) (by kernel_rfl) (by simp) (z01.cons (o:=_) rfl (fun K hK=>?_) z01.nil);have NA:Nx w5 (w5.drew.alloc (.cells #[.int .i64 z4,.int .i64 z0,.slice Al l.length cl,.string tk,.int .i64 z5,.bool fk,.int .i64 z1,.int .i64 z2,.int .i64 z3] 58)):=((Ch.refl (fun _=>False) w5).drew).alloc _;have NA2:=ah NA;have hS2:(fun w'=>w'.cell? ⟨m+1,0,none⟩=some (.slice (some a0) fs.length c0)/\w'.cell? ⟨m+1,1,none⟩=some (.slice (some a1) fs.length c1)/\w'.cell? ⟨m+1,2,none⟩=some (.slice (some a2) fs.length c2)/\w'.cell? ⟨m+1,3,none⟩=some (.slice (some a3) fs.length c3)/\w'.cell? ⟨m+1,4,none⟩=some (.slice (some a4) fs.length c4)/\w'.cell? ⟨m+1,5,none⟩=some (.slice (some a5) fs.length c5)/\w'.cell? (a0.add k)=some (.int .i64 z0)/\w'.cell? (a1.add k)=some (.int .i64 z1)/\w'.cell? (a2.add k)=some (.int .i64 z2)/\w'.cell? (a3.add k)=some (.int .i64 z3)/\w'.cell? (a4.add k)=some (.int .i64 z4)/\w'.cell? (a5.add k)=some (.int .i64 z5)/\w'.cell? (at_.add k)=some (.string tk)/\w'.cell? (af.add k)=some (.bool fk)) (w5.drew.alloc (.cells #[.int .i64 z4,.int .i64 z0,.slice Al l.length cl,.string tk,.int .i64 z5,.bool fk,.int .i64 z1,.int .i64 z2,.int .i64 z3] 58)):=⟨(NA.cell (World.block_lt_of_cell? w5 _ d0)).trans d0,(NA.cell (World.block_lt_of_cell? w5 _ d1)).trans d1,(NA.cell (World.block_lt_of_cell? w5 _ d2)).trans d2,(NA.cell (World.block_lt_of_cell? w5 _ d3)).trans d3,(NA.cell (World.block_lt_of_cell? w5 _ d4)).trans d4,(NA.cell (World.block_lt_of_cell? w5 _ d5)).trans d5,(NA.cell (World.block_lt_of_cell? w5 _ i0)).trans i0,(NA.cell (World.block_lt_of_cell? w5 _ i1)).trans i1,(NA.cell (World.block_lt_of_cell? w5 _ i2)).trans i2,(NA.cell (World.block_lt_of_cell? w5 _ i3)).trans i3,(NA.cell (World.block_lt_of_cell? w5 _ i4)).trans i4,(NA.cell (World.block_lt_of_cell? w5 _ i5)).trans i5,(NA.cell (World.block_lt_of_cell? w5 _ it)).trans it,(NA.cell (World.block_lt_of_cell? w5 _ jf)).trans jf⟩;have AO:Hid (Rd (w5.drew.alloc (.cells #[.int .i64 z4,.int .i64 z0,.slice Al l.length cl,.string tk,.int .i64 z5,.bool fk,.int .i64 z1,.int .i64 z2,.int .i64 z3] 58)) (fun k=>k=w5.heap.size) 9 (some ⟨w5.heap.size,0,none⟩) 1 (ji [(⟨⟨z4,z0,l,tk,z5,fk,z1,z2,z3⟩,Al,cl⟩:RV)])):=ah (Rd.ZY w5.drew (⟨⟨z4,z0,l,tk,z5,fk,z1,z2,z3⟩,Al,cl⟩:RV));have HOW:=ah (Yg.out.tr NA);clear NA;go_simp;refine hK.out _ _ (fun _=>hS2) (fun aj=>?_);have hHeld:=aj (by decide);clear hK K aj
         try simp only[Act.put,eu,dY,dZ]
         refine z02 (rs:=[43]) (by kernel_rfl) (by simp) (z01.cons (o:=_) rfl (fun K hK=>?_) z01.nil);refine PG _ rfl (.tmp 109) (.tmp 151) _ rfl y1.heap.size 58 q0 _ 9 96 Tryz.underlying22 hq0 hz0 hz1 hz2 rfl (by omega) (.slice Ao zs.length co) zs.length (ji zs) rfl HOW.out.own.own _ (some ⟨w5.heap.size,0,none⟩) 1 1 _ rfl AO.out (yx _) (by simp only[maxLen];omega) (by omega) HOW.out.own.nx.size ?_;intro v20 W2 wu gr20 at20;obtain ⟨o20,m20⟩:=VH HOW.out.own (Ch.refl _ _) wu gr20 at20
         have G7:=ah (HOW.out.app (ys:=[(⟨⟨z4,z0,l,tk,z5,fk,z1,z2,z3⟩,Al,cl⟩:RV)]) o20 m20 (fun x hx=>by
          rw[List.mem_singleton]at hx;subst hx;have h1:=HOL.out.rd.nx (by decide) NA2.out;refine ⟨h1.more fun q hq=>⟨Nat.le_trans uH.out.own.nx.size hq.2.1,Nat.lt_of_lt_of_le hq.2.2 NA2.out.size,fun e=>?_⟩,HCL.out.1,HCL.out.2⟩;have:=(uH.out.own.lt q e).2;have:=hq.2.1;omega))
         obtain ⟨A20,c20,rfl, -, -⟩:=z04 wu;clear wu gr20 at20 o20 m20;refine hK.out _ _ (fun h=>absurd h (by decide)) (fun aj=>?_);clear hK K aj
         try simp only[Act.put,List.setIfInBounds_toArray]
         refine z02 (rs:=[44]) (by kernel_rfl) (by simp) (z01.cons (o:=_) rfl (fun K hK=>?_) z01.nil);go_simp;refine hK.out _ _ (fun h=>absurd h (by decide)) (fun aj=>?_);clear hK K aj
         try simp only[Act.put,eu,dY,dZ]
         refine JU (by kernel_rfl) ?_ _;clear AO HOW hS2 hHeld d0 d1 d2 d3 d4 d5 i0 i1 i2 i3 i4 i5 it jf;go_wp2_with fail;go_roundw
         case rel=>
          refine ⟨k+1,_,hlt,by go_num,ah (by rw[List.length_append,HZL.out];rfl),G7,ah ?_,ah fun z hz=>?_⟩
          ·rw[aU.vU HRW.out (by rw[←HWK.out];exact HP.out),List.map_append]
           congr 2
           simp only[List.map_cons,List.map_nil,HXR.out]
          ·rcases List.mem_append.1 hz with hz|hz
           ·exact HFW.out z hz
           ·rw[List.mem_singleton]at hz
            rw[hz];exact HXF.out
         case measure=>simp[intOf];omega
        ·have HB2:Hid ((⟨n6,ws,ts,fs⟩:aU).group b=none):=ah (aU.DT (aU.QT (k:=k) (by rw[←HWK.out];exact hp) hlt))
         have N5:=ah (NW4.out.trans hn5 (fun _ _ hf=>hf));clear hp hst hn5 cw4;go_wp2_with fail;refine bodyPost_ret (v:=.tuple #[.slice none 0 0,.int .i64 4]) (by simp[results,Tryz.results25,go_sem]) rfl ?_;exact nK.bad (cs:=⟨n6,ws,ts,fs⟩) Vz.out Vx.out HIT.out Vy.out HB2.out N5.out
       ·have hkk:k=fs.length:=by omega
        have HRWE:Hid ((⟨n6,ws,ts,fs⟩:aU).rows fs.length=some (zs.map fun x=>x.row)):=ah (by rw[←hkk];exact HRW.out);have HGE:=ah (aU.Oi (c:=⟨n6,ws,ts,fs⟩) ⟨LJ.out,hf2,hf3,G4.out,G5.out⟩ HC0.out HRWE.out);have adK:zs.length<=256:=by rw[HZL.out];omega
        have NU:∀x∈zs,x.ok w4 (fun k=>k<w4.heap.size)/\x.row.few:=fun x hx=>⟨(uH.out.ok x hx).ch (Ch.refl (fun _=>False) _) (fun _ _ _ hf=>hf) fun q hq=>hq.2.1,HFW.out x hx⟩;have lF:=ah (fun (w':World) (c':Nx w4 w')=>KQ (c:=co) (uH.out.rd.nx (by decide) c') rfl (by omega) (fun x hx=>⟨(NU x hx).1.ch c' (fun _ _ _ hf=>hf) fun _ hd=>hd,(NU x hx).2.mid⟩));by_cases hmay:iP (zs.map fun x=>x.row)=true
        ·have hgg:dN (zs.map fun x=>x.row):=⟨by rw[List.length_map];exact adK,(JR.1 hmay).2.1⟩
         have nJ:=ah (fun (w':World) (c':Nx w4 w')=>group_any (c:=co) (uH.out.rd.nx (by decide) c') rfl (fun x hx=>⟨(NU x hx).1.ch c' (fun _ _ _ hf=>hf) fun _ hd=>hd,(NU x hx).2⟩) hgg);have HGO:=ah (z5V hgg);have HMT:=ah hmay;rw[hmay]at lF;clear NU hgg hmay HRW hkk;obtain ⟨T,hT⟩:∃t,t=fZ (zs.map fun x=>x.row):=⟨_,rfl⟩;rw[←hT]at HGE nJ HGO;by_cases heq:T=b
         ·have HGB:Hid ((⟨n6,ws,ts,fs⟩:aU).group b=some (zs.map fun x=>x.row)):=ah (by rw[HGE.out,if_pos ⟨HMT.out,heq⟩])
          have qs:((aX T).toList==(aX b).toList)=true:=by rw[heq];simp
          clear hT heq;go_wp2_with fail;refine Qc (fun w'=>Hid (Nx w4 w')) (fun i=>decide (99<=i)) rfl (ah ((Ch.refl (fun _=>False) w4).drew)) (fun hS0=>?_)
          try simp only[List.getElem_toArray,List.getElem_cons_zero,List.getElem_cons_succ,Act.put,eu,dY,dZ]
          refine z00 (i:=0) (oi:=_) (v:=?_) rfl (fun _ _ _ h=>h) (Or.inl ⟨by rfl,?_⟩) ?_;rotate_left
          ·(intro w hSw;(try dsimp only at hSw);go_split_ands;go_simp;try with_reducible rfl)
          try simp only[List.getElem_toArray,List.getElem_cons_zero,Act.put,eu,dY,dZ]
          refine z02 (rs:=[1]) (by kernel_rfl) (by simp) (z01.cons (o:=_) rfl (fun K hK=>?_) z01.nil);go_simp;refine (lF.out _ ((Ch.refl (fun _=>False) w4).drew)).mono ?_;rintro e w5 ⟨rfl,n5⟩;have NB:=ah (((Ch.refl (fun _=>False) w4).drew).trans n5 (fun _ _ hf=>hf));have kF:(fun w'=>Hid (Nx w4 w')) w5:=NB;clear n5 lF;refine hK.out _ _ (fun _=>kF) (fun aj=>?_);have hHeld:=aj (by decide);clear hK K aj
          try simp only[List.getElem_toArray,List.getElem_cons_zero,List.getElem_cons_succ,Act.put,eu,dY,dZ]
          refine z00 (i:=2) (oi:=_) (v:=?_) rfl (fun _ _ _ h=>h) (Or.inl ⟨by rfl,?_⟩) ?_;rotate_left
          ·(intro w hSw;(try dsimp only at hSw);go_split_ands;go_simp;try with_reducible rfl)
          try simp only[List.getElem_toArray,List.getElem_cons_zero,List.getElem_cons_succ,Act.put,eu,dY,dZ]
          refine z00 (i:=3) (oi:=_) (v:=?_) rfl (fun _ _ _ h=>h) (Or.inl ⟨by rfl,?_⟩) ?_;rotate_left
          ·(intro w hSw;(try dsimp only at hSw);go_split_ands;go_simp;try with_reducible rfl)
          try simp only[List.getElem_toArray,List.getElem_cons_zero,List.getElem_cons_succ,Act.put,eu,dY,dZ]
          refine z00 (i:=4) (oi:=_) (v:=?_) rfl (fun _ _ _ h=>h) (Or.inl ⟨by rfl,?_⟩) ?_;rotate_left
          ·(intro w hSw;(try dsimp only at hSw);go_split_ands;go_simp;try with_reducible rfl)
          try simp only[List.getElem_toArray,List.getElem_cons_zero,List.getElem_cons_succ,Act.put,eu,dY,dZ]
          refine z00 (i:=7) (oi:=_) (v:=?_) rfl (fun _ _ _ h=>h) (Or.inl ⟨by rfl,?_⟩) ?_;rotate_left
          ·(intro w hSw;(try dsimp only at hSw);go_split_ands;go_simp;try with_reducible rfl)
          try simp only[List.getElem_toArray,List.getElem_cons_zero,List.getElem_cons_succ,Act.put,eu,dY,dZ]
          refine z00 (i:=8) (oi:=_) (v:=?_) rfl (fun _ _ _ h=>h) (Or.inl ⟨by rfl,?_⟩) ?_;rotate_left
          ·(intro w' hSw;(try dsimp only at hSw);have hcv:=Vw.out w' (NW4.out.trans hSw.out (fun _ _ hf=>hf));go_simp;try with_reducible rfl)
          try simp only[List.getElem_toArray,List.getElem_cons_zero,List.getElem_cons_succ,Act.put,eu,dY,dZ]
          refine z02 (rs:=[5]) (by kernel_rfl) (by simp) (z01.cons (o:=_) rfl (fun K hK=>?_) z01.nil);go_simp;refine (nJ.out _ NB.out).mono ?_;rintro e w6 ⟨vg,rfl,og⟩;obtain ⟨Ag,cg,rfl, -, -⟩:=og.form;have hcv:=rX (P:=Tryz.prog) w6 26 9 5 Tryz.underlying26 Tryz.underlying5 Tryz.underlying9 _ Ag _ cg _ og.rd;have NC:=ah (NB.out.trans og.nx (fun _ _ hf=>hf));have kF:(fun w'=>Hid (Nx w4 w')) w6:=NC;clear og nJ;refine hK.out _ _ (fun _=>kF) (fun aj=>?_);have aaK:=aj (by decide);clear hK K aj
          try simp only[List.getElem_toArray,List.getElem_cons_zero,List.getElem_cons_succ,Act.put,eu,dY,dZ]
          refine z02 (rs:=[6]) (by kernel_rfl) (by simp) (z01.cons (o:=_) rfl (fun K hK=>?_) z01.nil);go_simp;refine hK.out _ _ (fun _=>kF) (fun aj=>?_);have aaJ:=aj (by decide);clear hK K aj
          try simp only[List.getElem_toArray,List.getElem_cons_zero,List.getElem_cons_succ,Act.put,eu,dY,dZ]
          refine z00 (i:=9) (oi:=_) (v:=?_) rfl (fun _ _ _ h=>h) (Or.inl ⟨by rfl,?_⟩) ?_;rotate_left
          ·(intro w hSw;(try dsimp only at hSw);go_split_ands;go_simp;try with_reducible rfl)
          try simp only[List.getElem_toArray,List.getElem_cons_zero,List.getElem_cons_succ,Act.put,eu,dY,dZ]
          refine z00 (i:=10) (oi:=_) (v:=?_) rfl (fun _ _ _ h=>h) (Or.inl ⟨by rfl,?_⟩) ?_;rotate_left
          ·(intro w hSw;(try dsimp only at hSw);go_split_ands;go_simp;try with_reducible rfl)
          try simp only[List.getElem_toArray,List.getElem_cons_zero,List.getElem_cons_succ,Act.put,eu,dY,dZ]
          refine JU (by kernel_rfl) ?_ _;go_wp2_with fail;refine bodyPost_ret (v:=.tuple #[.slice Ao zs.length co,.int .i64 0]) (by simp[results,Tryz.results25,go_sem]) rfl ?_;refine ⟨⟨n6,ws,ts,fs⟩,Vz.out,Vx.out,HIT.out,Vy.out,?_⟩;rw[HGB.out];have hb:=(HI.out.nx.trans N1.out (fun _ _ hf=>hf));have hr6:=uH.out.tr NC.out;refine ⟨zs,Ao,co,rfl,rfl,⟨hr6.own.weak hb,fun z hz=>(hr6.ok z hz).ch (Ch.refl (fun _=>False) _) (fun _ _ _ hf=>hf) fun q hq=>⟨Nat.le_trans hb.size hq.1,hq.2⟩⟩,HFW.out⟩
         ·have HB2:Hid ((⟨n6,ws,ts,fs⟩:aU).group b=none):=ah (by rw[HGE.out,if_neg (fun hh=>heq hh.2)])
          have qs:((aX T).toList==(aX b).toList)=false:=by rw[nP,decide_eq_false_iff_not];exact fun he=>heq (z5b HGO.out mO.out he)
          clear hT heq;go_wp2_with fail;refine Qc (fun w'=>Hid (Nx w4 w')) (fun i=>decide (99<=i)) rfl (ah ((Ch.refl (fun _=>False) w4).drew)) (fun hS0=>?_)
          try simp only[List.getElem_toArray,List.getElem_cons_zero,List.getElem_cons_succ,Act.put,eu,dY,dZ]
          refine z00 (i:=0) (oi:=_) (v:=?_) rfl (fun _ _ _ h=>h) (Or.inl ⟨by rfl,?_⟩) ?_;rotate_left
          ·(intro w hSw;(try dsimp only at hSw);go_split_ands;go_simp;try with_reducible rfl)
          try simp only[List.getElem_toArray,List.getElem_cons_zero,Act.put,eu,dY,dZ]
          refine z02 (rs:=[1]) (by kernel_rfl) (by simp) (z01.cons (o:=_) rfl (fun K hK=>?_) z01.nil);go_simp;refine (lF.out _ ((Ch.refl (fun _=>False) w4).drew)).mono ?_;rintro e w5 ⟨rfl,n5⟩;have NB:=ah (((Ch.refl (fun _=>False) w4).drew).trans n5 (fun _ _ hf=>hf));have kF:(fun w'=>Hid (Nx w4 w')) w5:=NB;clear n5 lF;refine hK.out _ _ (fun _=>kF) (fun aj=>?_);have hHeld:=aj (by decide);clear hK K aj
          try simp only[List.getElem_toArray,List.getElem_cons_zero,List.getElem_cons_succ,Act.put,eu,dY,dZ]
          refine z00 (i:=2) (oi:=_) (v:=?_) rfl (fun _ _ _ h=>h) (Or.inl ⟨by rfl,?_⟩) ?_;rotate_left
          ·(intro w hSw;(try dsimp only at hSw);go_split_ands;go_simp;try with_reducible rfl)
          try simp only[List.getElem_toArray,List.getElem_cons_zero,List.getElem_cons_succ,Act.put,eu,dY,dZ]
          refine z00 (i:=3) (oi:=_) (v:=?_) rfl (fun _ _ _ h=>h) (Or.inl ⟨by rfl,?_⟩) ?_;rotate_left
          ·(intro w hSw;(try dsimp only at hSw);go_split_ands;go_simp;try with_reducible rfl)
          try simp only[List.getElem_toArray,List.getElem_cons_zero,List.getElem_cons_succ,Act.put,eu,dY,dZ]
          refine z00 (i:=4) (oi:=_) (v:=?_) rfl (fun _ _ _ h=>h) (Or.inl ⟨by rfl,?_⟩) ?_;rotate_left
          ·(intro w hSw;(try dsimp only at hSw);go_split_ands;go_simp;try with_reducible rfl)
          try simp only[List.getElem_toArray,List.getElem_cons_zero,List.getElem_cons_succ,Act.put,eu,dY,dZ]
          refine z00 (i:=7) (oi:=_) (v:=?_) rfl (fun _ _ _ h=>h) (Or.inl ⟨by rfl,?_⟩) ?_;rotate_left
          ·(intro w hSw;(try dsimp only at hSw);go_split_ands;go_simp;try with_reducible rfl)
          try simp only[List.getElem_toArray,List.getElem_cons_zero,List.getElem_cons_succ,Act.put,eu,dY,dZ]
          refine z00 (i:=8) (oi:=_) (v:=?_) rfl (fun _ _ _ h=>h) (Or.inl ⟨by rfl,?_⟩) ?_;rotate_left
          ·(intro w' hSw;(try dsimp only at hSw);have hcv:=Vw.out w' (NW4.out.trans hSw.out (fun _ _ hf=>hf));go_simp;try with_reducible rfl)
          try simp only[List.getElem_toArray,List.getElem_cons_zero,List.getElem_cons_succ,Act.put,eu,dY,dZ]
          refine z02 (rs:=[5]) (by kernel_rfl) (by simp) (z01.cons (o:=_) rfl (fun K hK=>?_) z01.nil);go_simp;refine (nJ.out _ NB.out).mono ?_;rintro e w6 ⟨vg,rfl,og⟩;obtain ⟨Ag,cg,rfl, -, -⟩:=og.form;have hcv:=rX (P:=Tryz.prog) w6 26 9 5 Tryz.underlying26 Tryz.underlying5 Tryz.underlying9 _ Ag _ cg _ og.rd;have NC:=ah (NB.out.trans og.nx (fun _ _ hf=>hf));have kF:(fun w'=>Hid (Nx w4 w')) w6:=NC;clear og nJ;refine hK.out _ _ (fun _=>kF) (fun aj=>?_);have aaK:=aj (by decide);clear hK K aj
          try simp only[List.getElem_toArray,List.getElem_cons_zero,List.getElem_cons_succ,Act.put,eu,dY,dZ]
          refine z02 (rs:=[6]) (by kernel_rfl) (by simp) (z01.cons (o:=_) rfl (fun K hK=>?_) z01.nil);go_simp;refine hK.out _ _ (fun _=>kF) (fun aj=>?_);have aaJ:=aj (by decide);clear hK K aj
          try simp only[List.getElem_toArray,List.getElem_cons_zero,List.getElem_cons_succ,Act.put,eu,dY,dZ]
          refine z00 (i:=9) (oi:=_) (v:=?_) rfl (fun _ _ _ h=>h) (Or.inl ⟨by rfl,?_⟩) ?_;rotate_left
          ·(intro w hSw;(try dsimp only at hSw);go_split_ands;go_simp;try with_reducible rfl)
          try simp only[List.getElem_toArray,List.getElem_cons_zero,List.getElem_cons_succ,Act.put,eu,dY,dZ]
          refine z00 (i:=10) (oi:=_) (v:=?_) rfl (fun _ _ _ h=>h) (Or.inl ⟨by rfl,?_⟩) ?_;rotate_left
          ·(intro w hSw;(try dsimp only at hSw);go_split_ands;go_simp;try with_reducible rfl)
          try simp only[List.getElem_toArray,List.getElem_cons_zero,List.getElem_cons_succ,Act.put,eu,dY,dZ]
          refine JU (by kernel_rfl) ?_ _;go_wp2_with fail;refine bodyPost_ret (v:=.tuple #[.slice none 0 0,.int .i64 4]) (by simp[results,Tryz.results25,go_sem]) rfl ?_;exact nK.bad (cs:=⟨n6,ws,ts,fs⟩) Vz.out Vx.out HIT.out Vy.out HB2.out (NW4.out.trans NC.out (fun _ _ hf=>hf))
        ·have HB2:Hid ((⟨n6,ws,ts,fs⟩:aU).group b=none):=ah (by rw[HGE.out,if_neg (fun hh=>hmay hh.1)])
         rw[show iP (zs.map fun x=>x.row)=false by simpa using hmay]at lF;clear NU hmay HRW hkk;go_wp2_with fail;refine Qc (fun w'=>Hid (Nx w4 w')) (fun i=>decide (99<=i)) rfl (ah ((Ch.refl (fun _=>False) w4).drew)) (fun hS0=>?_)
         try simp only[List.getElem_toArray,List.getElem_cons_zero,List.getElem_cons_succ,Act.put,eu,dY,dZ]
         refine z00 (i:=0) (oi:=_) (v:=?_) rfl (fun _ _ _ h=>h) (Or.inl ⟨by rfl,?_⟩) ?_;rotate_left
         ·(intro w hSw;(try dsimp only at hSw);go_split_ands;go_simp;try with_reducible rfl)
         try simp only[List.getElem_toArray,List.getElem_cons_zero,Act.put,eu,dY,dZ]
         refine z02 (rs:=[1]) (by kernel_rfl) (by simp) (z01.cons (o:=_) rfl (fun K hK=>?_) z01.nil);go_simp;refine (lF.out _ ((Ch.refl (fun _=>False) w4).drew)).mono ?_;rintro e w5 ⟨rfl,n5⟩;have NB:=ah (((Ch.refl (fun _=>False) w4).drew).trans n5 (fun _ _ hf=>hf));have kF:(fun w'=>Hid (Nx w4 w')) w5:=NB;clear n5 lF;refine hK.out _ _ (fun _=>kF) (fun aj=>?_);have hHeld:=aj (by decide);clear hK K aj
         try simp only[List.getElem_toArray,List.getElem_cons_zero,List.getElem_cons_succ,Act.put,eu,dY,dZ]
         refine z00 (i:=2) (oi:=_) (v:=?_) rfl (fun _ _ _ h=>h) (Or.inl ⟨by rfl,?_⟩) ?_;rotate_left
         ·(intro w hSw;(try dsimp only at hSw);go_split_ands;go_simp;try with_reducible rfl)
         try simp only[List.getElem_toArray,List.getElem_cons_zero,List.getElem_cons_succ,Act.put,eu,dY,dZ]
         refine z00 (i:=3) (oi:=_) (v:=?_) rfl (fun _ _ _ h=>h) (Or.inl ⟨by rfl,?_⟩) ?_;rotate_left
         ·(intro w hSw;(try dsimp only at hSw);go_split_ands;go_simp;try with_reducible rfl)
         try simp only[List.getElem_toArray,List.getElem_cons_zero,List.getElem_cons_succ,Act.put,eu,dY,dZ]
         refine Zw (i:=4) (oi:=_) (v:=undef) rfl (by kernel_rfl) (by kernel_rfl) (by kernel_rfl) (by kernel_rfl) (by kernel_rfl) (by decide) (fun _ _ _ h=>h) (Or.inr ⟨by kernel_rfl,rfl⟩) (by assumption) ?_
         try simp only[List.getElem_toArray,List.getElem_cons_zero,List.getElem_cons_succ,Act.put,eu,dY,dZ]
         refine Zw (i:=5) (oi:=_) (v:=undef) rfl (by kernel_rfl) (by kernel_rfl) (by kernel_rfl) (by kernel_rfl) (by kernel_rfl) (by decide) (fun _ _ _ h=>h) (Or.inr ⟨by kernel_rfl,rfl⟩) (by assumption) ?_
         try simp only[List.getElem_toArray,List.getElem_cons_zero,List.getElem_cons_succ,Act.put,eu,dY,dZ]
         refine Zw (i:=6) (oi:=_) (v:=undef) rfl (by kernel_rfl) (by kernel_rfl) (by kernel_rfl) (by kernel_rfl) (by kernel_rfl) (by decide) (fun _ _ _ h=>h) (Or.inr ⟨by kernel_rfl,rfl⟩) (by assumption) ?_
         try simp only[List.getElem_toArray,List.getElem_cons_zero,List.getElem_cons_succ,Act.put,eu,dY,dZ]
         refine Zw (i:=7) (oi:=_) (v:=undef) rfl (by kernel_rfl) (by kernel_rfl) (by kernel_rfl) (by kernel_rfl) (by kernel_rfl) (by decide) (fun _ _ _ h=>h) (Or.inr ⟨by kernel_rfl,rfl⟩) (by assumption) ?_
         try simp only[List.getElem_toArray,List.getElem_cons_zero,List.getElem_cons_succ,Act.put,eu,dY,dZ]
         refine Zw (i:=8) (oi:=_) (v:=undef) rfl (by kernel_rfl) (by kernel_rfl) (by kernel_rfl) (by kernel_rfl) (by kernel_rfl) (by decide) (fun _ _ _ h=>h) (Or.inr ⟨by kernel_rfl,rfl⟩) (by assumption) ?_
         try simp only[List.getElem_toArray,List.getElem_cons_zero,List.getElem_cons_succ,Act.put,eu,dY,dZ]
         refine Zw (i:=9) (oi:=_) (v:=undef) rfl (by kernel_rfl) (by kernel_rfl) (by kernel_rfl) (by kernel_rfl) (by kernel_rfl) (by decide) (fun _ _ _ h=>h) (Or.inr ⟨by kernel_rfl,rfl⟩) (by assumption) ?_
         try simp only[List.getElem_toArray,List.getElem_cons_zero,List.getElem_cons_succ,Act.put,eu,dY,dZ]
         refine z00 (i:=10) (oi:=_) (v:=?_) rfl (fun _ _ _ h=>h) (Or.inl ⟨by rfl,?_⟩) ?_;rotate_left
         ·(intro w hSw;(try dsimp only at hSw);go_split_ands;go_simp;try with_reducible rfl)
         try simp only[List.getElem_toArray,List.getElem_cons_zero,List.getElem_cons_succ,Act.put,eu,dY,dZ]
         refine JU (by kernel_rfl) ?_ _;go_wp2_with fail;refine bodyPost_ret (v:=.tuple #[.slice none 0 0,.int .i64 4]) (by simp[results,Tryz.results25,go_sem]) rfl ?_;exact nK.bad (cs:=⟨n6,ws,ts,fs⟩) Vz.out Vx.out HIT.out Vy.out HB2.out (NW4.out.trans NB.out (fun _ _ hf=>hf))
     ·have HB2:Hid ((⟨n6,ws,ts,fs⟩:aU).group b=none):=ah (aU.IE (fun hh=>hgood ⟨Ae.out.trans hh.2,hh.1.pos,hh.1.few,hh.1.ws,hh.1.ts⟩))
      clear Ae;by_cases g1:ce=0
      ·have q1:(ce !=0)=false:=by rw[g1];rfl
       by_cases g2:1<=fs.length
       ·have q2:decide ((fs.length:Int)<1)=false:=by rw[decide_eq_false_iff_not];omega
        by_cases g3:fs.length<=256
        ·have q3:decide ((256:Int)<(fs.length:Int))=false:=by rw[decide_eq_false_iff_not];omega
         by_cases g4:ws.length=fs.length
         ·have q4:((ws.length:Int) !=(fs.length:Int))=false:=by rw[bne_eq_false_iff_eq];omega
          have q5:((ts.length:Int) !=(fs.length:Int))=true:=by rw[bne_iff_ne];omega
          clear g1 g2 g3 g4 hgood;go_wp2_with fail;refine HE.out.mono ?_;rintro e y2 ⟨rfl,nd,rfl⟩;go_wp2_with fail;refine bodyPost_ret (v:=.tuple #[.slice none 0 0,.int .i64 4]) (by simp[results,Tryz.results25,go_sem]) rfl ?_;exact nK.bad (cs:=⟨n6,ws,ts,fs⟩) Vz.out Vx.out HIT.out Vy.out HB2.out (HI.out.nx.trans ((Ch.refl (fun _=>False) y).drewN nd) (fun _ _ hf=>hf))
         ·have q4:((ws.length:Int) !=(fs.length:Int))=true:=by rw[bne_iff_ne];omega
          clear g1 g2 g3 g4 hgood;go_wp2_with fail;refine HE.out.mono ?_;rintro e y2 ⟨rfl,nd,rfl⟩;go_wp2_with fail;refine bodyPost_ret (v:=.tuple #[.slice none 0 0,.int .i64 4]) (by simp[results,Tryz.results25,go_sem]) rfl ?_;exact nK.bad (cs:=⟨n6,ws,ts,fs⟩) Vz.out Vx.out HIT.out Vy.out HB2.out (HI.out.nx.trans ((Ch.refl (fun _=>False) y).drewN nd) (fun _ _ hf=>hf))
        ·have q3:decide ((256:Int)<(fs.length:Int))=true:=by rw[decide_eq_true_eq];omega
         clear g1 g2 g3 hgood;go_wp2_with fail;refine HE.out.mono ?_;rintro e y2 ⟨rfl,nd,rfl⟩;go_wp2_with fail;refine bodyPost_ret (v:=.tuple #[.slice none 0 0,.int .i64 4]) (by simp[results,Tryz.results25,go_sem]) rfl ?_;exact nK.bad (cs:=⟨n6,ws,ts,fs⟩) Vz.out Vx.out HIT.out Vy.out HB2.out (HI.out.nx.trans ((Ch.refl (fun _=>False) y).drewN nd) (fun _ _ hf=>hf))
       ·have q2:decide ((fs.length:Int)<1)=true:=by rw[decide_eq_true_eq];omega
        clear g1 g2 hgood;go_wp2_with fail;refine HE.out.mono ?_;rintro e y2 ⟨rfl,nd,rfl⟩;go_wp2_with fail;refine bodyPost_ret (v:=.tuple #[.slice none 0 0,.int .i64 4]) (by simp[results,Tryz.results25,go_sem]) rfl ?_;exact nK.bad (cs:=⟨n6,ws,ts,fs⟩) Vz.out Vx.out HIT.out Vy.out HB2.out (HI.out.nx.trans ((Ch.refl (fun _=>False) y).drewN nd) (fun _ _ hf=>hf))
      ·have q1:(ce !=0)=true:=by rw[bne_iff_ne];exact g1
       clear g1 hgood;go_wp2_with fail;refine HE.out.mono ?_;rintro e y2 ⟨rfl,nd,rfl⟩;go_wp2_with fail;refine bodyPost_ret (v:=.tuple #[.slice none 0 0,.int .i64 4]) (by simp[results,Tryz.results25,go_sem]) rfl ?_;exact nK.bad (cs:=⟨n6,ws,ts,fs⟩) Vz.out Vx.out HIT.out Vy.out HB2.out (HI.out.nx.trans ((Ch.refl (fun _=>False) y).drewN nd) (fun _ _ hf=>hf))
end Go.Proofs.YtpakjclpjcngmaaGreat
