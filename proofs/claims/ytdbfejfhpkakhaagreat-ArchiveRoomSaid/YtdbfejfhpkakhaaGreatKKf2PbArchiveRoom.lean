/- ArchiveRoom: whatever is submitted, the batches that wait never have more rows of one window and part than the buffer holds. Conditions: none. -/
import Derived.Test.YtdbfejfhpkakhaaGreatKKf2Q38
import Derived.Test.YtdbfejfhpkakhaaGreatKKf2Q39
import Derived.Test.YtdbfejfhpkakhaaGreatKKf2Q37
import Derived.Test.YtdbfejfhpkakhaaGreatKKf2Q33
import Derived.Test.YtdbfejfhpkakhaaGreatKKf2Q24
import Derived.Test.YtdbfejfhpkakhaaGreatKKf2Q13
import Derived.Test.YtdbfejfhpkakhaaGreatKKf2Q4
import Derived.Shelf.Vars
import Derived.SliceStrings
import Derived.Deep.CutBlock
import Derived.StillTailTactics
set_option maxRecDepth 100000
set_option maxHeartbeats 32000000
set_option linter.unusedVariables false
set_option linter.unusedSimpArgs false
namespace Go.Proofs.YtdbfejfhpkakhaaGreat.ArchiveRoom
open Go.RowKit Go.Proofs.YtdbfejfhpkakhaaGreat Ps
def RH (w0 wx:World) (g:Nat) (C:aU) (A:Option Addr) (q:Nat) (zs:List RV) (v:Value):Prop:=
 aB wx g 24 (cfC C A q)/\Rd wx (· <w0.heap.size) 1 A C.aH.length (dI C.aH)/\Nx w0 wx/\(∃B,wx.ownsRow B 79 9 v zs.length (bC zs))/\(∀z∈zs,z.ok wx (fun _=>True))/\(∀z∈zs,aS z.row=true)/\
  ∀s,fU s->fE C (zs.map fun x=>x.row) s<=C.buffer.toNat
theorem dh.left {w0 w:World} {g ξ B a:Nat} {C:aU} {A:Option Addr} {q:Nat} {Bl:Option Addr} {bs aN:List cZ} {zs:List RV} {v wt:Value} {K:Nat}
 (h:dh w0 w g ξ B a C A q Bl bs aN (zs.map fun x=>x.row) zs v wt K):RH w0 w g C A q zs v:=
 ⟨h.cfg,h.aH,h.nx0,⟨B,h.own⟩,fun z hz=>⟨(h.Sz z hz).1.more fun _ _=>trivial,(h.Sz z hz).2⟩,h.Fj,h.cnt⟩
theorem qF {r:ay} (h:aS r=true):gI r.ak=true/\0<=r.time/\r.time<=1099511627776:=by
 unfold aS at h;simp only[Bool.and_eq_true,decide_eq_true_eq]at h;exact ⟨h.1.2,by omega,by omega⟩
theorem walk (C:aU) (A:Option Addr) (q:Nat) (Bl:Option Addr) (bs:List cZ) (cb:Nat) (w:World) (hr:Rd w (· <w.heap.size) 1 A C.aH.length (dI C.aH)) (hn:C.aH.length<=9223372036854775807) (hs:∀s∈C.aH,s.size<=9223372036854775807)
 (hb:Rd w (· <w.heap.size) 3 Bl bs.length (pG bs)) (Nk:∀b∈bs,b.ok w (· <w.heap.size)/\b.l.length<=4398046511104):
 Calls Tryz.prog 4 #[iV C A q,.slice Bl bs.length cb] w fun e w'=>e=.returned (.bool true)/\Nx w w':=by
 obtain ⟨i0,hi0,hz0,hz1,hz2⟩:=info_parts Tryz.fH;have MR:=ah (fun w' (n:Nx w w')=>new_any 1 1 C A q w' (hr.nx (by decide) n) hn hs);have iZ:=ah hr;have HBS:=ah hb;have Sr:=ah (fun b hb=>(Nk b hb).2);have QE:=ah (fun b hb=>(Nk b hb).1);have HL:=ah (fun w=>Gf w);obtain ⟨N,hN⟩:∃N,bs.length=N:=⟨_,rfl⟩;have yV:=ah hN;rw[hN];unfold iV at *;clear hr hs hb Nk hN;have HB:=ah (aB.new w 24 #[.int .i64 C.window,.slice A C.aH.length q,.int .i64 C.group,.int .i64 C.buffer,.int .i64 C.flush,.int .i64 C.age,.int .i64 C.piece,.int .i64 C.tries,.int .i64 C.wait,.int .i64 C.small,.int .i64 C.most,.int .i64 C.gX]);have NA:=ah ((Ch.refl (fun _=>False) w).alloc (.cells #[.int .i64 C.window,.slice A C.aH.length q,.int .i64 C.group,.int .i64 C.buffer,.int .i64 C.flush,.int .i64 C.age,.int .i64 C.piece,.int .i64 C.tries,.int .i64 C.wait,.int .i64 C.small,.int .i64 C.most,.int .i64 C.gX] 24));have HS1:=ah (World.size_alloc w (.cells #[.int .i64 C.window,.slice A C.aH.length q,.int .i64 C.group,.int .i64 C.buffer,.int .i64 C.flush,.int .i64 C.age,.int .i64 C.piece,.int .i64 C.tries,.int .i64 C.wait,.int .i64 C.small,.int .i64 C.most,.int .i64 C.gX] 24));obtain ⟨w1,hW⟩:∃w1,w.alloc (.cells #[.int .i64 C.window,.slice A C.aH.length q,.int .i64 C.group,.int .i64 C.buffer,.int .i64 C.flush,.int .i64 C.age,.int .i64 C.piece,.int .i64 C.tries,.int .i64 C.wait,.int .i64 C.small,.int .i64 C.most,.int .i64 C.gX] 24)=w1:=⟨_,rfl⟩;obtain ⟨g,hg⟩:∃g,w.heap.size=g:=⟨_,rfl⟩;rw[hW]at HB NA HS1;rw[hg]at HB HS1;have HG:=ah hg;have HKA:=ah (fun w' (c:Nx w1 w')=>(⟨(HB.out.nx c).cell 0,(HB.out.nx c).cell 1,(HB.out.nx c).cell 2,(HB.out.nx c).cell 3,(HB.out.nx c).cell 4,(HB.out.nx c).cell 5,(HB.out.nx c).cell 6,(HB.out.nx c).cell 7,(HB.out.nx c).cell 8,(HB.out.nx c).cell 9,(HB.out.nx c).cell 10,(HB.out.nx c).cell 11⟩:w'.cell? ⟨g,0,none⟩=some (.int .i64 C.window)/\w'.cell? ⟨g,1,none⟩=some (.slice A C.aH.length q)/\w'.cell? ⟨g,2,none⟩=some (.int .i64 C.group)/\w'.cell? ⟨g,3,none⟩=some (.int .i64 C.buffer)/\w'.cell? ⟨g,4,none⟩=some (.int .i64 C.flush)/\w'.cell? ⟨g,5,none⟩=some (.int .i64 C.age)/\w'.cell? ⟨g,6,none⟩=some (.int .i64 C.piece)/\w'.cell? ⟨g,7,none⟩=some (.int .i64 C.tries)/\w'.cell? ⟨g,8,none⟩=some (.int .i64 C.wait)/\w'.cell? ⟨g,9,none⟩=some (.int .i64 C.small)/\w'.cell? ⟨g,10,none⟩=some (.int .i64 C.most)/\w'.cell? ⟨g,11,none⟩=some (.int .i64 C.gX)));obtain ⟨q0,q1,q2,q3,q4,q5,q6,q7,q8,q9,q10,q11⟩:=HKA.out w1 (Ch.refl _ w1);go_enter Tryz.func4,Tryz.ntmps4;go_wp2_with fail;clear hW hg q0 q1 q2 q3 q4 q5 q6 q7 q8 q9 q10 q11;refine (MR.out _ NA.out).mono ?_;rintro e w2 ⟨n2,hbad,hgood⟩;have N2:=ah n2;clear n2;cases hok:okA 1 1 C
 ·have h0:=hbad hok
  subst h0;clear hbad hgood;go_wp2_with fail;refine (HL.out _).mono ?_;rintro e w3 ⟨rfl,n3⟩;have N3:=ah (N2.out.tr n3);clear n3;go_wp2_with fail;refine (HL.out _).mono ?_;rintro e w4 ⟨rfl,n4⟩;have N4:=ah (N3.out.tr n4);clear n4;go_wp2_with fail;go_ret;exact ⟨rfl,NA.out.tr N4.out⟩
 ·obtain ⟨a,A2,k2,bb2,m2,rfl,ha2,hM⟩:=hgood hok
  have HM:=ah hM;have HA2:=ah ha2;have Ns:=ah hok;clear hbad hgood hM ha2 hok;go_wp2_with fail;refine (HL.out _).mono ?_;rintro e w3 ⟨rfl,n3⟩;have N3:=ah n3;have N13:=ah (N2.out.tr n3);clear n3;by_cases h40:40<N
  ·go_wp2_with fail
   refine (HL.out _).mono ?_;rintro e w4 ⟨rfl,n4⟩;have N4:=ah (N13.out.tr n4);clear n4;go_wp2_with fail;go_ret;exact ⟨rfl,NA.out.tr N4.out⟩
  ·have VX:=ah (show dh w w3 g w1.heap.size w3.heap.size a C A q Bl bs [] [] [] (.slice none 0 0) (.slice none 0 0) 0 from by
    have h1:=HG.out;have h2:=HS1.out;have h3:=HA2.out;have h4:=(HM.out.nx N3.out).blk.lt
    exact ⟨by omega,by omega,by omega,h4,Nat.le_refl _,HB.out.nx N13.out,(iZ.out.nx (by decide) NA.out).nx (by decide) N13.out,(HBS.out.nx (by decide) NA.out).nx (by decide) N13.out,fun b hb=>((QE.out b hb).nx NA.out).nx N13.out,NA.out.tr N13.out,
     ⟨0,jY.made (HM.out.nx N3.out)⟩,World.ownsRow_nil _ _ _ _,fun z hz=>by (cases hz),fun b hb=>by (cases hb),fun z hz=>by (cases hz),fun s _=>Nat.zero_le _⟩)
   have HFB:=ah (z14 HM.out.fits);obtain ⟨B,hB⟩:∃B,w3.heap.size=B:=⟨_,rfl⟩;rw[hB]at VX;obtain ⟨ξ,hξ⟩:∃ξ,w1.heap.size=ξ:=⟨_,rfl⟩;rw[hξ]at VX HM;clear hB hξ HM HA2 MR;go_upto_block 0 with fail
   go_cut [6] (fun s6 wx=>∃(zs:List RV) (Av:Option Addr) (cv:Nat),s6=.slice Av zs.length cv/\zs.length<=120/\Hid (RH w wx g C A q zs (.slice Av zs.length cv)))
   case first=>
    go_wp2_with fail
    go_loopw [6,7,28] (fun s6 s7 s28 wr=>∃(j al:Nat) (aN:List cZ) (zs:List RV) (wt:Value) (Av:Option Addr) (cv:Nat),j<=N/\al<=120/\s28=.int .i64 (j:Int)/\s7=.int .i64 (al:Int)/\s6=.slice Av zs.length cv/\Hid (zs.length<=al)/\Hid (aN.length<=j)/\
     Hid (dh w wr g ξ B a C A q Bl bs aN (zs.map fun x=>x.row) zs (.slice Av zs.length cv) wt j)) (fun _ _ s28 _=>N-(intOf s28).toNat)
    case atStart=>exact ⟨0,0,[],[],.slice none 0 0,none,0,Nat.zero_le _,by decide,rfl,rfl,rfl,ah (Nat.zero_le _),ah (Nat.zero_le _),VX⟩
    case round=>
     obtain ⟨w6,rfl⟩:∃w6:World,w6=wr:=⟨_,rfl⟩;obtain ⟨j,al,aN,zs,wt,Av,cv,hj,hal,rfl,rfl,rfl,uO,QA,HR⟩:=hrel;by_cases hjn:j<N
     ·have hjl:j<bs.length:=by rw[yV.out];exact hjn
      obtain ⟨ad,hAd, -,p0,p1,p2⟩:=LP HR.out.VR hjl;subst hAd;have hmem:=List.getElem_mem hjl;have HX:=ah (fun w' (c:dh w w' g ξ B a C A q (some ad) bs aN (zs.map fun x=>x.row) zs (.slice Av zs.length cv) wt j)=>c.Uy _ hmem);have HXB:=ah hmem;have hxl:=Sr.out _ hmem;clear hmem;generalize bs[j]=x at *;obtain ⟨mk,sq,Ab,cc,lb⟩:=x;simp only at p0 p1 p2 hxl;obtain ⟨zl,hzl⟩:∃zl,zs.length=zl:=⟨_,rfl⟩;obtain ⟨m,hm⟩:∃m,lb.length=m:=⟨_,rfl⟩;have Yl:=ah hm;have HZZ:=ah hzl;rw[hm]at p2 hxl;have B7:=ah (aB.new w6 37 #[.int .i64 mk,.int .i64 sq,.slice Ab m cc]);have N7:=ah ((Ch.refl (fun _=>False) w6).alloc (.cells #[.int .i64 mk,.int .i64 sq,.slice Ab m cc] 37));clear hm hzl;by_cases h120:120<al+m
      ·have Yp:=ah (dh.left (HR.out.nx N7.out))
       have XG:(120:Int)<(al:Int)+(m:Int):=(by omega);go_wp2_with fail;have hzl:=uO.out;go_meet
       exact ⟨zs,Av,cv,rfl,by omega,Yp⟩
      ·have XG:¬(120:Int)<(al:Int)+(m:Int):=by omega
       obtain ⟨since,har⟩:=HR.out.ar;have Wh:=ah (har.nx N7.out);have HR7:=ah (HR.out.nx N7.out);have HWT:=ah (fun i (hi:wt.ownBlock=some i)=>HR.out.SV hi);have hgb:=ah (show w6.heap.size≠a from fun e=>by have:=har;obtain ⟨A',k',bb,m',n',ch,R,h1, -⟩:=har;have:=h1.blk.lt;omega);obtain ⟨w7,hW⟩:∃w7,w6.alloc (.cells #[.int .i64 mk,.int .i64 sq,.slice Ab m cc] 37)=w7:=⟨_,rfl⟩;obtain ⟨gb,Uf⟩:∃gb,w6.heap.size=gb:=⟨_,rfl⟩;rw[hW]at B7 N7 Wh HR7;rw[Uf]at B7 HWT hgb
       have VW:Hid (∀w',Nx w7 w'->Calls Tryz.prog 11 #[.pointer (some ⟨a,0,none⟩),.agg #[.int .i64 mk,.int .i64 sq,.slice Ab m cc],.int .i64 0] w' (jP ξ w' a 1 1 C aN (fE C (zs.map fun x=>x.row)) since false j wt ⟨mk,sq,Ab,cc,lb⟩ 0)):=ah (fun w' c=>by
        have h:=lD (Wh.out.nx c) ⟨mk,sq,Ab,cc,lb⟩ (HX.out _ (HR7.out.nx c)) (fun i hi e=>by have h1:=HR.out.h0;have h2:=HR.out.hg;have hi:i<w.heap.size:=hi;omega) (by omega) (by have:=QA.out;omega) 0;unfold uU at h;simp only[Yl.out]at h;exact h)
       have e0:w7.cell? ⟨gb,0,none⟩=some (.int .i64 mk):=B7.out.cell 0;have e1:w7.cell? ⟨gb,1,none⟩=some (.int .i64 sq):=B7.out.cell 1;have e2:w7.cell? ⟨gb,2,none⟩=some (.slice Ab m cc):=B7.out.cell 2;clear har;go_wp2_with fail
       try simp only[hW,Uf]
       clear hW Uf p0 p1 p2 e0 e1 e2;refine (VW.out _ (by first|exact Ch.refl _ _|exact (Ch.refl _ _).drew)).mono ?_;rintro e w8 ⟨er,rfl,hiff,hc8,hbd,hgd⟩
       have B8:=ah (B7.out.ch hc8 (fun hs=>by
        rcases hs with hs|hs|hs
        ·exact hs.2 B7.out.PO
        ·exact hgb.out hs
        ·have:=(HWT.out _ hs).2;omega))
       by_cases he:er=0
       ·subst he
        obtain ⟨b',wt', -, -, -,XC,Xe,hb8⟩:=hgd rfl;have hso:=hiff.1 rfl;have HR8:=ah (HR7.out.good hc8 Wh.out hso XC Xe hb8);have jW:=ah (Vs hso.1).2.2.2.2.2.2
        have hm64:m<=64:=by
         have h1:=(Vs hso.1).1;rw[List.length_map]at h1;have h2:=Yl.out;have h3:lb.length<=64:=h1;omega
        have HRW:Hid (Calls Tryz.prog 12 #[.agg #[.int .i64 mk,.int .i64 sq,.slice Ab m cc]] w8 (B_ (lb.map fun x=>x.row) w8)):=ah (by
         have h:=E_ ⟨mk,sq,Ab,cc,lb⟩ (HR8.out.Uy _ HXB.out) (by show lb.length<=_;rw[Yl.out];omega) (fun x hx=>by
          have h1:=(qF (jW.out x.row (List.mem_map_of_mem hx))).1;have h2:=(Nc h1).1;have h3:x.row.ak.length<=4:=h2;omega)
         unfold uU at h;simp only[Yl.out]at h;exact h)
        have e0:w8.cell? ⟨gb,0,none⟩=some (.int .i64 mk):=B8.out.cell 0;have e1:w8.cell? ⟨gb,1,none⟩=some (.int .i64 sq):=B8.out.cell 1;have e2:w8.cell? ⟨gb,2,none⟩=some (.slice Ab m cc):=B8.out.cell 2;clear hiff hbd hgd XC Xe hb8 hso hc8;go_wp2_with fail;refine HRW.out.mono ?_;rintro e w9 ⟨v9,ys,rfl,hro,hym⟩;obtain ⟨A9,c9,rfl, -, -⟩:=hro.form
        have hyl:ys.length=m:=by
         have h1:=congrArg List.length hym;rw[List.length_map,List.length_map]at h1;rw[h1];exact Yl.out
        have HR9:=ah (HR8.out.nx hro.own.nx);have HYR:=ah ((Rd.cO hro.own.own).more (D':=fun _=>True) fun _ _=>trivial)
        have HYO:=ah (show ∀y∈ys,y.ok w9 (fun k=>B<=k/\(Value.slice Av zs.length cv).ownBlock≠some k/\wt'.ownBlock≠some k) from fun y hy=>(hro.ok y hy).ch (Ch.refl (fun _=>False) _) (fun _ _ _ hf=>hf) fun k hk=>by
         have h1:=HR8.out.hB;refine ⟨by omega,fun e=>?_,fun e=>?_⟩
         ·have:=(World.ownsRow.lt HR8.out.own k e).2;omega
         ·have:=(HR8.out.SV e).2;omega)
        have HYC:=ah (show ∀y∈ys,aS y.row=true from fun y hy=>by
         have h1:y.row∈ys.map fun x=>x.row:=List.mem_map_of_mem hy;rw[hym]at h1;exact jW.out _ h1)
        have HYM:=ah hym;have HYL:=ah hyl;have hzl:=uO.out;obtain ⟨yl,KI⟩:∃yl,ys.length=yl:=⟨_,rfl⟩;have hylm:yl=m:=by rw[←KI];exact hyl
        rw[KI]at HYR;have HY2:=ah KI;simp only[KI];clear hro hym hyl KI e0 e1 e2;have hylb:yl<=64:=(by omega);clear hylm;go_wp2_with (at_builtin;refine z03 _ rfl (.tmp 43) (.tmp 45) _ rfl B 79 i0 _ 9 96 Tryz.underlying34 hi0 hz0 hz1 hz2 rfl (by omega) (.slice Av zs.length cv) zs.length (bC zs) rfl HR9.out.own _ A9 yl c9 _ rfl HYR.out (Ip _) (by simp only[maxLen];omega) (by omega) HR9.out.hB ?_;intro v10 w10 JB gr10 at10)
        obtain ⟨A10,c10,hv10, -, -⟩:=g_ JB;subst hv10
        have HR10:=ah (show dh w w10 g ξ B a C A q (some ad) bs (aN++[b']) ((zs++ys).map fun x=>x.row) (zs++ys) (.slice A10 (zs++ys).length c10) wt' (j+1) from by
         have h1:=HR9.out.app (v':=.slice A10 (zs.length+yl) c10) HYO.out HYC.out (by rw[HY2.out];exact JB) gr10 at10;rw[List.map_append,HYM.out,List.length_append,HY2.out];exact h1)
        have HZ10:=ah (show (zs++ys).length<=al+m from by rw[List.length_append,HYL.out];omega);have HT10:=ah (show (aN++[b']).length<=j+1 from by rw[List.length_append];have:=QA.out;simp;omega);have hzy:zs.length+yl=(zs++ys).length:=(by rw[List.length_append,HY2.out]);clear JB gr10 at10;rw[hzy];clear hzy;go_roundw
        case rel=>exact ⟨j+1,al+m,aN++[b'],zs++ys,wt',A10,c10,by omega,by omega,by go_num,by go_num,rfl,HZ10,HT10,HR10⟩
        case measure=>simp[intOf];omega
       ·have HR8:=ah (HR7.out.bad hc8 Wh.out (hbd he))
        have heb:(er==0)=false:=by rw[beq_eq_false_iff_ne];exact he
        have HZ8:=ah (show zs.length<=al+m from by have:=uO.out;omega);have HT8:=ah (show aN.length<=j+1 from by have:=QA.out;omega);clear hiff hbd hgd hc8 he;go_wp2_with fail;go_roundw
        case rel=>exact ⟨j+1,al+m,aN,zs,wt,Av,cv,by omega,by omega,by go_num,by go_num,rfl,HZ8,HT8,HR8⟩
        case measure=>simp[intOf];omega
     ·have Yp:=ah (dh.left HR.out)
      have hzl:=uO.out;go_wp2_with fail;go_meet
      exact ⟨zs,Av,cv,rfl,by omega,Yp⟩
   case rest=>
    obtain ⟨zs,Av,cv,rfl,hz120,Yp⟩:=hcut;obtain ⟨w6,rfl⟩:∃w6:World,w6=wc:=⟨_,rfl⟩;obtain ⟨hcf,hby,hnx,⟨B',hown⟩,KH,hrec,hcnt⟩:=Yp.out;have HCO:=ah hcf;have yJ:=ah hnx;have HC2:=ah (And.intro hrec hcnt);have hfb:=HFB.out;have VU:=ah (fun w' (c:Nx w6 w')=>zN (c:=cv) (d:=q) (((Rd.cO hown).more (D':=fun _=>True) fun _ _=>trivial).nx (by decide) c) rfl (by omega) (fun z hz=>⟨(KH z hz).ch c (fun _ _ _ hf=>hf) fun _ hd=>hd,qF (hrec z hz)⟩) (window:=C.window) (by omega) (by omega) (hby.nx (by decide) c) (by omega));have q0:w6.cell? ⟨g,0,none⟩=some (.int .i64 C.window):=HCO.out.cell 0;have q1:w6.cell? ⟨g,1,none⟩=some (.slice A C.aH.length q):=HCO.out.cell 1;clear hcf hby hnx hown KH hrec hcnt hfb;go_wp2_with fail;refine (VU.out _ (by first|exact Ch.refl _ _|exact (Ch.refl _ _).drew)).mono ?_;rintro e w9 ⟨A9,c9,gs,zs2,rfl,hrd,hsp,hpm,n9,hgl⟩;have HLW:=ah (Jq hsp hpm HC2.out.2 HC2.out.1);have N9:=ah n9;have HRG:=ah hrd;have hbuf:=HFB.out.2.2.2.1;obtain ⟨G,hG⟩:∃G,gs.length=G:=⟨_,rfl⟩;have Iy:=ah hG;rw[hG]at HRG hgl;simp only[hG];clear hrd hsp hpm n9 hG q0 q1;go_wp2_with fail;go_loopw [55] (fun s55 wr=>∃i:Nat,i<=G/\s55=.int .i64 (i:Int)/\Hid (Nx w9 wr)) (fun s55 _=>G-(intOf s55).toNat)
    case atStart=>exact ⟨0,Nat.zero_le _,rfl,ah (Ch.refl _ _)⟩
    case round=>
     obtain ⟨w10,rfl⟩:∃w10:World,w10=wr:=⟨_,rfl⟩;obtain ⟨i,hi,rfl,N10⟩:=hrel;by_cases hlt:i<G
     ·have hil:i<gs.length:=by rw[Iy.out];exact hlt
      obtain ⟨ad,rfl,p0,p1,p2⟩:=Ba (HRG.out.nx (by decide) N10.out) hil;have hle:=HLW.out _ (List.getElem_mem hil);generalize gs[i]=x at *;obtain ⟨⟨X,Y,rows⟩,An,cn⟩:=x;simp only at p0 p1 p2 hle;obtain ⟨r,hr⟩:∃r,rows.length=r:=⟨_,rfl⟩;rw[hr]at p2 hle;have hq:¬C.buffer<(r:Int):=(by omega);have B10:=(HCO.out.nx N9.out).nx N10.out;have q3:w10.cell? ⟨g,3,none⟩=some (.int .i64 C.buffer):=B10.cell 3;have hg10:=B10.lt;have N11:=ah (N10.out.alloc (.cells #[.int .i64 X,.string Y,.slice An r cn] 44));clear B10 hr hle;go_wp2_with fail;go_roundw
      case rel=>exact ⟨i+1,by omega,by go_num,N11⟩
      case measure=>simp[intOf];omega
     ·go_wp2_with fail
      go_ret;exact ⟨rfl,(yJ.out.tr N9.out).tr N10.out⟩
theorem walks:Walks 4 Tryz.f4:=by
 intro H enc W args ds ps h;rw[Tryz.params4]at h;obtain ⟨C,A,c,vs,ds1,p1,rfl,hr,hs,hc,hc2,h1⟩:=Told.conf h;obtain ⟨Bl,cb,bs,vs2,ds2,p2,e2,hb,Nk,hbc,hbm,h2⟩:=h1.aN;have e1:=h2.nil;simp at e1 e2;subst e1;subst e2;unfold maxLen at hc2 hs;exact walk C A c Bl bs cb W hr (by omega) (fun s h=>Nat.le_trans (hs s h) (by decide)) hb Nk
theorem proved:Rows.ArchiveRoomSaid:=
 OpenClaim.holds_of_wide 4 Tryz.f4 rfl rfl rfl rfl rfl rfl rfl ⟨rfl,rfl,rfl,rfl,rfl⟩ rfl rfl rfl rfl rfl (by as_aux_lemma=>kernel_rfl) Tryz.func4 (by as_aux_lemma=>kernel_rfl)
  (of_decide_eq_true (by as_aux_lemma=>kernel_rfl)) (by as_aux_lemma=>(unfold Func.isWrapper;first|(rw[if_pos (by decide+kernel)];kernel_rfl)|(rw[if_neg (by decide+kernel)];exact ⟨rfl,rfl⟩)))
  (fun os started H enc _=>law_lifted (s:=Rows.archiveRoomSpec) Tryz.func4 (by as_aux_lemma=>kernel_rfl) rfl rfl
    (by intro H ds h;rw[Tryz.params4]at h;match ds,h with|[d1,d2],_=>rfl)
    (by rw[Tryz.params4];intro t ht;simp at ht;rcases ht with rfl|rfl<;>exact ⟨by kernel_rfl,of_decide_eq_true (by as_aux_lemma=>kernel_rfl)⟩) walks os started H enc
    (ChangeSpec.witness6 (enc:=enc) (C:=Tryz.checked) false ⟨#[], #[.agg #[.int .i64 0,.slice none 0 0,.int .i64 0,.int .i64 0,.int .i64 0,.int .i64 0,.int .i64 0,.int .i64 0,.int .i64 0,.int .i64 0,.int .i64 0,.int .i64 0],.slice none 0 0],[]⟩ 8 (by as_aux_lemma=>kernel_rfl) (by as_aux_lemma=>kernel_rfl) (by as_aux_lemma=>kernel_rfl) (by as_aux_lemma=>kernel_rfl)))
end Go.Proofs.YtdbfejfhpkakhaaGreat.ArchiveRoom
