/- Contracts and plain laws that the last text rests on. Conditions: each theorem states its own. -/
import Derived.Test.YtfljcllpmbnjaaaGreatKdQ36
set_option maxRecDepth 100000
set_option maxHeartbeats 32000000
set_option linter.unusedVariables false
namespace Go.Proofs.YtfljcllpmbnjaaaGreat
open Go.RowKit
theorem Sl {b:List Nat} (hf:jT b) {l:List ByteArray} (h:gy b l):xu 2 b (aV l):=by
 have h1:=RJ h.1 h.2.1;have h2:=h.2.2.1;exact ⟨h1,lG hf (by omega) h.2.2.2,h.2.2.2⟩
def TA (w3:World) (D:Nat->Prop) (g:Nat) (A:Option Addr) (c:Nat) (xs:List Nat) (m jo:Nat) (v i:Value) (wr:World):Prop:=
 ∃(p:Nat) (e:Int) (L:List ByteArray),L.length<=m/\i=.int .i64 (L.length:Int)/\wr.ownsRow w3.heap.size 9 1 v L.length (bW L)/\v.ownBlock≠none/\v.ownBlock≠some jo/\
  wr.ownsRow w3.heap.size 9 1 (.slice (some ⟨jo,0,none⟩) 0 0) 0 []/\fB wr D g A c xs p e/\Ch (· =g) w3 wr/\oQ xs m p e L
def Tz (w3:World) (D:Nat->Prop) (g:Nat) (A:Option Addr) (c:Nat) (xs:List Nat) (n jl cl:Nat) (L:List ByteArray) (v:Value) (wr:World):Prop:=
 ∃(p:Nat) (e:Int) (O:List ByteArray),wr.ownsRow w3.heap.size 9 1 v O.length (bW O)/\v.ownBlock≠none/\v.ownBlock≠some jl/\
  wr.ownsRow w3.heap.size 9 1 (.slice (some ⟨jl,0,none⟩) L.length cl) L.length (bW L)/\fB wr D g A c xs p e/\Ch (· =g) w3 wr/\oP xs L n p e O
def Tv (w3:World) (D:Nat->Prop) (g:Nat) (A:Option Addr) (c:Nat) (xs:List Nat) (r q jl cl:Nat) (L O:List ByteArray) (x:ByteArray) (v i:Value) (wr:World):Prop:=
 ∃(j:Nat),j<=r/\i=.int .i64 (j:Int)/\wr.ownsRow w3.heap.size 9 1 v (O.length+j) (bW (O++List.replicate j x))/\v.ownBlock≠none/\v.ownBlock≠some jl/\
  wr.ownsRow w3.heap.size 9 1 (.slice (some ⟨jl,0,none⟩) L.length cl) L.length (bW L)/\fB wr D g A c xs q 0/\Ch (· =g) w3 wr
theorem CJ (D:Nat->Prop) (A:Option Addr) (n c:Nat) (b:List Nat) (W:World) (hr:Rd W D 1 A n (bl b)) (dX:∀k,D k->k<W.heap.size) (ok:okB b) (hl:b.length=n) (hn:n<=1000000) (hc:n<=c) (hfew:jT b):
 Calls Tryz.prog 25 #[.slice A n c] W (Ja bW (gy b) (aT b) W):=by
 obtain ⟨i1,hi1,hy0,hy1,hy2⟩:=info_parts Tryz.gW;have pI:=ah (z23 D A n c 2 b W hr dX ok hl hn hc (by decide) hfew);have EF:=ah (fun (l:List ByteArray) (h:gy b l)=>Sl hfew h);have hce:=QG b;have HE4:=ah (fun xs (h:xu 2 b xs)=>XL h);generalize aT b=ce at *;clear hr dX ok hl hn hc hfew;go_enter Tryz.func25,Tryz.ntmps25;go_wp2_with fail;refine pI.out.mono ?_;intro e w1 hcr;rcases hcr with ⟨k,cap,xs,rfl,o1,hcap,hcont⟩|⟨rfl,n1,hno⟩
 ·obtain rfl:ce=4:=HE4.out xs hcont
  have HC:=ah hcont;have jB:=hcont.1;have hx3:=hcont.2.1;have hk1:=(o1.lt k rfl).2;have HM:Hid (∀l,gy b l->MW xs l):=ah fun l h=>⟨h.1,h.2.1,XM HC.out (EF.out l h)⟩;have HMB:Hid (∀l,MW xs l->gy b l):=ah fun l h=>⟨h.1,h.2.1,by rw[←h.2.2];omega,by rw[←h.2.2];exact HC.out.2.2⟩
  have cu0:fB (w1.alloc (.cells #[.slice (some ⟨k,0,none⟩) xs.length cap,.int .i64 0,.int .i64 0] 87)) (fun j=>j=k) w1.heap.size (some ⟨k,0,none⟩) cap xs 0 0:=
   ⟨dD.new w1 87 _,o1.fM.nx (by decide) ((Ch.refl _ w1).alloc _),fun j e=>by omega,fun j e=>by simp only[World.size_alloc];omega,jB,by omega,hcap,Nat.zero_le _⟩
  have NA:Hid (Nx W (w1.alloc (.cells #[.slice (some ⟨k,0,none⟩) xs.length cap,.int .i64 0,.int .i64 0] 87))):=ah (o1.nx.alloc _);have hgW:W.heap.size<=w1.heap.size:=o1.nx.size;have O1X:Hid (Rd (w1.alloc (.cells #[.slice (some ⟨k,0,none⟩) xs.length cap,.int .i64 0,.int .i64 0] 87)) (fun j=>j=k) 1 (some ⟨k,0,none⟩) xs.length (bl xs)):=ah (o1.fM.nx (by decide) ((Ch.refl _ w1).alloc _));have Xb:=ah jB;have CU0:=ah cu0;have hkg:k<w1.heap.size:=hk1;clear hce HE4 hcont o1 pI EF cu0 jB hk1;have HSZ:Hid ((w1.alloc (.cells #[.slice (some ⟨k,0,none⟩) xs.length cap,.int .i64 0,.int .i64 0] 87)).heap.size=w1.heap.size+1):=ah (by simp);have hgz:w1.heap.size<(w1.alloc (.cells #[.slice (some ⟨k,0,none⟩) xs.length cap,.int .i64 0,.int .i64 0] 87)).heap.size:=by simp
  have hst:=uy xs;obtain ⟨hst,hm48⟩:=hst;have HST:=ah hst;have hcn:=fun (w':World) (cu:fB w' (fun j=>j=k) w1.heap.size (some ⟨k,0,none⟩) cap xs 0 0)=>z33 cu 2048 (by omega);rw[show ((2048:Nat):Int)=2048 from rfl]at hcn;have pV:=ah hcn;clear hst hcn;go_wp2_with fail;generalize w1.alloc (.cells #[.slice (some ⟨k,0,none⟩) xs.length cap,.int .i64 0,.int .i64 0] 87)=w2 at *;generalize w1.heap.size=g at *;generalize aB xs 0 0 2048=tr at *;obtain ⟨m,p2,e2⟩:=tr;simp only at HST hm48 pV;have n4:Nx w2 ((w2.alloc (.cells #[] 9)).alloc (.cells #[] 9)):=((Ch.refl _ w2).alloc _).alloc _;have oL:((w2.alloc (.cells #[] 9)).alloc (.cells #[] 9)).ownsRow w2.heap.size 9 1 (.slice (some ⟨w2.heap.size,0,none⟩) 0 0) 0 []:=z06 (World.ownsRow_made w2 #[] 0 (Nat.le_refl _) (by simp[maxLen]) rfl) ((Ch.refl (fun _=>False) _).alloc _) (fun _ _ hf=>hf)
  have oO:((w2.alloc (.cells #[] 9)).alloc (.cells #[] 9)).ownsRow w2.heap.size 9 1 (.slice (some ⟨w2.heap.size+1,0,none⟩) 0 0) 0 []:=by
   have:=World.ownsRow_made (base:=w2.heap.size) (e:=9) (size:=1) (w2.alloc (.cells #[] 9)) #[] 0 (by simp) (by simp[maxLen]) rfl;simpa using this
  have CU4:=ah (CU0.out.nx n4);have OL4:=ah oL;have OO4:=ah oO;have N4:=ah n4;clear n4 oL oO;refine (pV.out _ CU4.out).mono ?_;rintro e w3 ⟨rfl,t3⟩
  have HL0:Hid (TA w2 (fun j=>j=k) g (some ⟨k,0,none⟩) cap xs m (g+1+1) (.slice (some ⟨g+1,0,none⟩) 0 0) (.int .i64 0) w3):=ah (by
   rw[←HSZ.out];exact ⟨p2,e2,[],Nat.zero_le _,rfl,z06 OL4.out t3.dN (fun j hj e=>by have:=(OL4.out.lt j hj).1;omega),by simp[Value.ownBlock],by simp[Value.ownBlock],z06 OO4.out t3.dN (fun j hj e=>by have:=(OO4.out.lt j hj).1;omega),t3.cur,(N4.out.mono (fun _ _ hf=>hf.elim)).trans t3.dN fun _ _ e=>e,HST.out⟩)
  clear t3 CU4 OL4 OO4 N4 pV;go_wp2_with fail;go_loopw [7,10] (fun v i wr=>TA w2 (fun j=>j=k) g (some ⟨k,0,none⟩) cap xs m (g+1+1) v i wr) (fun _ i _=>m-(intOf i).toNat)
  case atStart=>exact HL0.out
  case round=>
   clear HL0;obtain ⟨w4,rfl⟩:∃x:World,x=wr:=⟨_,rfl⟩;obtain ⟨p,e,L,hL,rfl,Fj,hv1,hv2,Fh,w_,hch,htx⟩:=hrel;have OL:=ah Fj;have OO:=ah Fh;have CU:=ah w_;have CH:=ah hch;have TX:=ah htx;have HV1:=ah hv1;have HV2:=ah hv2;clear Fj Fh w_ hch htx hv2;by_cases hlt:L.length<m
   ·have vW:(L.length:Int)<(m:Int):=by omega
    have hstep:=xJ TX.out hlt;have hct:=Gz CU.out 1024 (by omega);rw[show ((1024:Nat):Int)=1024 from rfl]at hct;have Hct:=ah hct;have Ap:=ah hstep;clear hct hstep;generalize bM xs p e 1024=tr at *;obtain ⟨T5,p5,e5⟩:=tr;simp only at Hct Ap;generalize b_ T5=v5 at *;go_wp2_with fail;refine Hct.out.mono ?_;rintro en w5 ⟨rfl,t5⟩;have T5':=ah t5;have hs3:w2.heap.size<=w5.heap.size:=Nat.le_trans CH.out.size t5.dN.size;have O5:=ah (z06 OL.out t5.dN fun j hj e=>by have:=(OL.out.lt j hj).1;omega);have OO5:=ah (z06 OO.out t5.dN fun j hj e=>by have:=(OO.out.lt j hj).1;omega);have hL2:L.length<=2048:=(by omega);clear t5 Hct;go_wp2_with (at_builtin;refine z22 rfl (.tmp 34) (.tmp 37) _ rfl 9 i1 _ 16 Tryz.underlying23 hi1 hy0 hy1 hy2 rfl _ rfl rfl O5.out hs3 rfl (by simp only[maxLen];omega) (by omega) ?_;intro v' w6 ho6 hm6)
    have OO6:=z06 OO5.out hm6.ch (wR HV2.out);have CU6:=T5'.out.cur.ch hm6.ch (fun e=>by have:=(O5.out.lt g e).1;omega) (fun j hj e=>by have:=(O5.out.lt j e).1;omega);have CH6:Ch (· =g) w2 w6:=(CH.out.trans T5'.out.dN fun _ _ e=>e).trans hm6.ch fun j hj e=>by have:=(O5.out.lt j e).1;omega
    have hv6:=hm6.some_ HV1.out
    have hv62:v'.ownBlock≠some (g+1+1):=by
     rcases hm6.at_ with e|⟨j,e,hj⟩
     ·rw[e];exact HV2.out
     ·rw[e]
      intro h;injection h with h;have:=(OO5.out.lt (g+1+1) rfl).2;omega
    have wY:Hid (TA w2 (fun j=>j=k) g (some ⟨k,0,none⟩) cap xs m (g+1+1) v' (.int .i64 ((L.length:Int)+1)) w6):=ah ⟨p5,e5,L++[v5],by rw[List.length_append];exact hlt,by simp,by rw[List.length_append,Vo];exact ho6,hv6,hv62,OO6,CU6,CH6,Ap.out⟩;clear ho6 hm6 OO6 CU6 CH6 hv6 hv62;go_roundw
    case rel=>exact wY.out
    case measure=>simp[intOf];omega
   ·have vW:¬(L.length:Int)<(m:Int):=by omega
    have hLn:L.length=m:=(by omega);have TX2:=ah (uq TX.out hLn);obtain ⟨jl,hjl⟩:∃jl,_=some jl:=Option.ne_none_iff_exists'.1 hv1;obtain ⟨cl,hvl,hcl1,hcl2⟩:=Ot OL.out hjl;have hjo:g+1+1≠jl:=fun h=>HV2.out (hjl.trans (congrArg some h.symm));subst hvl;have hcn:=z33 CU.out 2048 (by omega);rw[show ((2048:Nat):Int)=2048 from rfl]at hcn;have pV:=ah hcn;clear hcn;generalize aB xs p e 2048=tr at *;obtain ⟨n2,p3,e3⟩:=tr;simp only at TX2 pV;clear hjl hLn hv1 hlt hL HV1 HV2;go_wp2_with fail;refine pV.out.mono ?_;rintro en w5 ⟨rfl,t5⟩
    have HL2:Hid (Tz w2 (fun j=>j=k) g (some ⟨k,0,none⟩) cap xs n2 jl cl L (.slice (some ⟨g+1+1,0,none⟩) 0 0) w5):=ah
     ⟨p3,e3,[],z06 OO.out t5.dN (fun j hj e=>by have:=(OO.out.lt j hj).1;omega),by simp[Value.ownBlock],by simp[Value.ownBlock];exact hjo,z06 OL.out t5.dN (fun j hj e=>by have:=(OL.out.lt j hj).1;omega),t5.cur,CH.out.trans t5.dN fun _ _ e=>e,TX2.out⟩
    clear t5 pV TX2 OL OO CU CH TX;go_wp2_with fail;go_loopw [8] (fun v wr=>Tz w2 (fun j=>j=k) g (some ⟨k,0,none⟩) cap xs n2 jl cl L v wr) (fun v _=>n2-lenV v)
    case atStart=>exact HL2.out
    case round=>
     clear HL2;obtain ⟨w5,rfl⟩:∃x:World,x=wr:=⟨_,rfl⟩;obtain ⟨p,e,O,Fh,hv1,hv2,Fj,w_,hch,htx⟩:=hrel;have OL:=ah Fj;have OO:=ah Fh;have CU:=ah w_;have CH:=ah hch;have TX:=ah htx;obtain ⟨go2,Wp⟩:∃go2,_=some go2:=Option.ne_none_iff_exists'.1 hv1;obtain ⟨co,hvo,hco1,hco2⟩:=Ot OO.out Wp;subst hvo;have HV2:=ah hv2;have d2:w5.cell? ⟨g,2,none⟩=some (.int .i64 e):=w_.blk.cell 2;have hOn:=htx.2.1;have hn2:=htx.2.2.1;clear Fj Fh w_ hch htx hv1 hv2 Wp;by_cases hgo:O.length<n2/\e=0
     ·obtain ⟨hlt2,he0⟩:=hgo
      subst he0;have QT:(O.length:Int)<(n2:Int):=(by omega);obtain ⟨d,hd⟩:∃d,n2-O.length=d:=⟨_,rfl⟩;have hdi:(n2:Int)-(O.length:Int)=(d:Int):=(by omega);obtain ⟨kk,q1,e1,h1⟩:∃kk q1 e1,aB xs p 0 2047=(kk,q1,e1):=⟨_,_,_,rfl⟩;obtain ⟨r,q2,e2,h2⟩:∃r q2 e2,aB xs q1 e1 (d:Int)=(r,q2,e2):=⟨_,_,_,rfl⟩;have hst:=xI (r:=r) (q2:=q2) (e2:=e2) TX.out hlt2 h1 (by rw[hd];exact h2);have NW:=ah hst;have hrd:=hst.1;have hcn:=z33 CU.out 2047 (by omega);rw[show ((2047:Nat):Int)=2047 from rfl,h1]at hcn;have SY:=fun (w':World) (cu:fB w' (fun j=>j=k) g (some ⟨k,0,none⟩) cap xs q1 e1)=>z33 cu d (by omega);rw[h2]at SY;have pV:=ah hcn;have Xu:=ah SY;have hkb:kk<=2047:=by have:=Jp xs p 0 2047;rw[show ((2047:Nat):Int)=2047 from rfl,h1]at this;exact this
      clear hst hcn SY h1 h2;go_wp2_with fail;refine pV.out.mono ?_;rintro en w6 ⟨rfl,t6⟩;have T6:=ah t6;clear t6 pV d2;go_wp2_with fail;refine (Xu.out _ T6.out.cur).mono ?_;rintro en w7 ⟨rfl,t7⟩;have T7:=ah t7;have CH7:Hid (Ch (· =g) w2 w7):=ah ((CH.out.trans T6.out.dN fun _ _ e=>e).trans t7.dN fun _ _ e=>e);have OL7:=ah (z06 (z06 OL.out T6.out.dN fun j hj e=>by have:=(OL.out.lt j hj).1;omega) t7.dN fun j hj e=>by have:=(OL.out.lt j hj).1;omega);have OO7:=ah (z06 (z06 OO.out T6.out.dN fun j hj e=>by have:=(OO.out.lt j hj).1;omega) t7.dN fun j hj e=>by have:=(OO.out.lt j hj).1;omega);have d2:w7.cell? ⟨g,2,none⟩=some (.int .i64 e2):=t7.cur.blk.cell 2;have HNW:=ah (NA.out.trans CH7.out fun i hi e=>by omega);clear t7 Xu;by_cases he2:e2=0
      ·subst he2
       by_cases hkl:kk<L.length
       ·have t1:decide ((L.length:Int)<=(kk:Int))=false:=by rw[decide_eq_false_iff_not];omega
        have t1n:¬L.length<=kk:=(by omega);by_cases hr0:r=0
        ·have hr0i:((r:Int)==0)=true:=by rw[beq_iff_eq];omega
         have HR0:=ah hr0;clear hr0;go_wp2_with fail;go_ret2;exact .inr ⟨rfl,HNW.out,fun l h=>NW.out.2.1 (.inr (.inr HR0.out)) l (HM.out l h)⟩
        ·have hr0i:((r:Int)==0)=false:=by rw[beq_eq_false_iff_ne];omega
         have hxk:(bW L)[kk]?=some (.string (L.getD kk ByteArray.empty)):=(by simp[bW,List.getD_eq_getElem?_getD,List.getElem?_eq_getElem hkl]);have HW2:=ah (NW.out.2.2 rfl hkl);have YN:=ah hxk;clear hxk;generalize L.getD kk ByteArray.empty=x at *;have hkli:(kk:Int)<(L.length:Int):=(by omega);have HA0:Hid (Tv w2 (fun j=>j=k) g (some ⟨k,0,none⟩) cap xs r q2 jl cl L O x (.slice (some ⟨go2,0,none⟩) O.length co) (.int .i64 0) w7):=ah ⟨0,Nat.zero_le _,rfl,by simpa using OO7.out,by simp[Value.ownBlock],HV2.out,OL7.out,T7.out.cur,CH7.out⟩;have HRP:=ah (show 0<r by omega);clear hr0 CH7 OL7 OO7 T7 T6 NW OL OO CU CH TX HV2;go_wp2_with fail;go_loopw [8,13] (fun v i wr=>Tv w2 (fun j=>j=k) g (some ⟨k,0,none⟩) cap xs r q2 jl cl L O x v i wr) (fun _ i _=>r-(intOf i).toNat)
         case atStart=>exact HA0.out
         case round=>
          clear HA0;obtain ⟨w8,rfl⟩:∃z:World,z=wr:=⟨_,rfl⟩;obtain ⟨j,hj,rfl,Fh,hv1,hv2,Fj,w_,hch⟩:=hrel;have OL:=ah Fj;have OO:=ah Fh;have CU:=ah w_;have CH:=ah hch;have HV1:=ah hv1;have HV2:=ah hv2;clear Fh Fj w_ hch hv2;by_cases hjr:j<r
          ·have hjri:(j:Int)<(r:Int):=by omega
           have hcx:w8.cell? ⟨jl,kk,none⟩=some (.string x):=(OL.out.cellAt kk (by omega)).trans YN.out;have hcx2:w8.cell? ((⟨jl,0,none⟩:Addr).add kk)=some (.string x):=by rw[Zt];exact hcx
           have hs3:w2.heap.size<=w8.heap.size:=CH.out.size;have hob:O.length+j<=2048:=(by omega);go_wp2_with (at_builtin;refine z22 rfl (.tmp 80) (.tmp 85) _ rfl 9 i1 _ 16 Tryz.underlying23 hi1 hy0 hy1 hy2 rfl _ rfl rfl OO.out hs3 rfl (by simp only[maxLen];omega) (by omega) ?_;intro v' w9 ho9 hm9)
           have OL9:=z06 OL.out hm9.ch (wR HV2.out);have CU9:=CU.out.ch hm9.ch (fun e=>by have:=(OO.out.lt g e).1;omega) (fun i hi e=>by have:=(OO.out.lt i e).1;omega);have CH9:Ch (· =g) w2 w9:=CH.out.trans hm9.ch fun i hi e=>by have:=(OO.out.lt i e).1;omega
           have hv9:=hm9.some_ HV1.out
           have hv92:v'.ownBlock≠some jl:=by
            rcases hm9.at_ with e|⟨i,e,hi⟩
            ·rw[e];exact HV2.out
            ·rw[e]
             intro h;injection h with h;have:=(OL.out.lt jl rfl).2;omega
           have wY:Hid (Tv w2 (fun j=>j=k) g (some ⟨k,0,none⟩) cap xs r q2 jl cl L O x v' (.int .i64 ((j:Int)+1)) w9):=ah ⟨j+1,hjr,by simp,by rw[List.replicate_succ',←List.append_assoc,Vo];exact ho9,hv9,hv92,OL9,CU9,CH9⟩;clear ho9 hm9 OL9 CU9 CH9 hv9 hv92;go_roundw
           case rel=>exact wY.out
           case measure=>simp[intOf];omega
          ·have hjri:¬(j:Int)<(r:Int):=by omega
           have hjr2:j=r:=(by omega);have wY:Hid (Tz w2 (fun j=>j=k) g (some ⟨k,0,none⟩) cap xs n2 jl cl L _ w8):=ah ⟨q2,0,O++List.replicate r x,by rw[List.length_append,List.length_replicate,←hjr2];exact OO.out,hv1,HV2.out,OL.out,CU.out,CH.out,HW2.out⟩;obtain ⟨ga,hga⟩:∃ga,_=some ga:=Option.ne_none_iff_exists'.1 hv1;obtain ⟨ca,hva,hca1,hca2⟩:=Ot OO.out hga;subst hva;clear hga hv1 hjr;go_wp2_with fail;go_roundw
           case rel=>exact wY.out
           case measure=>simp only[lenV];have:=HRP.out;omega
       ·have t1:decide ((L.length:Int)<=(kk:Int))=true:=by rw[decide_eq_true_iff];omega
        have t1n:L.length<=kk:=(by omega);have HKL:=ah t1n;go_wp2_with fail;go_ret2;exact .inr ⟨rfl,HNW.out,fun l h=>NW.out.2.1 (.inr (.inl HKL.out)) l (HM.out l h)⟩
      ·have he2b:(e2 !=0)=true:=by rw[bne_iff_ne];exact he2
       have HE2:=ah he2;clear he2;go_wp2_with fail;go_ret2;exact .inr ⟨rfl,HNW.out,fun l h=>NW.out.2.1 (.inl HE2.out) l (HM.out l h)⟩
     ·have hend:O.length=n2∨e≠0:=by
       by_cases he:e=0
       ·exact .inl (by have:=fun h=>hgo ⟨h,he⟩;omega)
       ·exact .inr he
      have HWE:=ah (fun l (h:MW xs l)=>Bh TX.out hend h);have Rt:=ah (yD CU.out);have HN5:=ah (NA.out.trans CH.out fun i hi e=>by omega);have hO48:O.length<=2048:=(by omega);have HOS:=ah TX.out.2.2.2.2.1
      have hcase:(¬(O.length:Int)<(n2:Int))∨((O.length:Int)<(n2:Int)/\(e==0)=false):=by
       by_cases hh:O.length<n2
       ·exact .inr ⟨by omega,by rw[beq_eq_false_iff_ne];exact fun h=>hgo ⟨hh,h⟩⟩
       ·exact .inl (by omega)
      obtain ⟨E,hE⟩:∃E,bn xs.length p e=E:=⟨_,rfl⟩;rw[hE]at Rt HWE;clear hE hend hgo TX;have HRO:=ah (Rd.bY OO.out);have HKX:=ah CU.out.rd;rcases hcase with f1|⟨f1,f2⟩
      all_goals
       go_wp2_with fail;refine Rt.out.mono ?_;rintro en w6 ⟨rfl,d6⟩;have N6:=ah d6.nx;clear d6;by_cases hE0:E=0
       ·subst hE0
        have HWO:=ah (yE _ (some ⟨go2,0,none⟩) O.length co O w6 (HRO.out.nx (by decide) N6.out) rfl hO48 HOS.out);go_wp2_with fail;refine HWO.out.mono ?_;rintro en w7 ⟨k7,Tj,rfl,o7,hk7,hk7',hc7,hm7⟩;have N7:=ah (N6.out.tr o7.nx);have hsame:=fun cd=>z30 _ _ _ (some ⟨k,0,none⟩) (aV O).length Tj xs.length cd (aV O) xs w7 o7.fM (HKX.out.nx (by decide) N7.out) (RJ hO48 HOS.out) Xb.out;clear o7 HWO hk7 hk7' hc7 hm7;by_cases heq:aV O=xs
        ·rw[show decide (aV O=xs)=true by simpa using heq]at hsame
         have fG:=ah hsame;have Heq:=ah heq;clear hsame heq;generalize (aV O).length=L6 at *;go_wp2_with fail;refine (fG.out _).mono ?_;rintro en w8 ⟨rfl,rfl⟩;go_wp2_with fail;go_ret2;exact .inl ⟨_,_,_,O,rfl,HRO.out.nx (by decide) N7.out,HN5.out.tr N7.out,HMB.out O ⟨hO48,HOS.out,Heq.out.symm⟩⟩
        ·rw[show decide (aV O=xs)=false by simpa using heq]at hsame
         have fG:=ah hsame;have Heq:=ah heq;clear hsame heq;generalize (aV O).length=L6 at *;go_wp2_with fail;refine (fG.out _).mono ?_;rintro en w8 ⟨rfl,rfl⟩;go_wp2_with fail;go_ret2;exact .inr ⟨rfl,HN5.out.tr N7.out,fun l h=>Heq.out (by rw[(HWE.out l (HM.out l h)).2];exact (HM.out l h).2.2.symm)⟩
       ·have q1:(E !=0)=true:=by rw[bne_iff_ne];exact hE0
        have HE0:=ah hE0;clear hE0;go_wp2_with fail;go_ret2;exact .inr ⟨rfl,HN5.out.tr N6.out,fun l h=>HE0.out (HWE.out l (HM.out l h)).1⟩
 ·have q1:(ce !=0)=true:=by rw[bne_iff_ne];exact hce
  have N1:=ah n1;have FI:=ah hno;clear hce n1 hno;go_wp2_with fail;go_ret2;exact .inr ⟨rfl,N1.out,fun l h=>FI.out _ (EF.out l h)⟩
open Classical in
noncomputable def h_ {α:Type} (made:List α->Prop) (ce:Int):List α×Int:=if h:∃l,made l then (h.choose,0) else ([],ce)
theorem Ah {α:Type} {made:List α->Prop} {ce:Int} (one:∀l m,made l->made m->l=m) {l:List α} (h:made l):h_ made ce=(l,0):=by
 unfold h_;have he:∃l,made l:=⟨l,h⟩;rw[dif_pos he,one _ _ he.choose_spec h]
theorem Ag {α:Type} {made:List α->Prop} {ce:Int} (h:∀l,¬made l):h_ made ce=([],ce):=by
 unfold h_;rw[dif_neg fun ⟨l,hl⟩=>h l hl]
theorem lK {α:Type} {made:List α->Prop} {ce:Int} (hm:∀l,made l->l.length<=2048):(h_ made ce).1.length<=2048:=by
 unfold h_;split
 ·next h=>exact hm _ h.choose_spec
 ·exact Nat.zero_le _
theorem QM {b:List Nat} {l m:List Int} (h:fP b l) (k:fP b m):l=m:=by
 have h1:=(Oi h.1).2;have h2:=(jH h.1).1;have h3:=(Oi k.1).2;have h4:=(jH k.1).1;exact Ih h.1 k.1 (Vg (z25 h.1) (z25 k.1) (by omega) (by omega) (h.2.symm.trans k.2))
theorem QN {b:List Nat} {l m:List Bool} (h:fQ b l) (k:fQ b m):l=m:=by
 have h1:=RN h.1;have h3:=RN k.1;exact DC h.1 k.1 (Vg (z20 h.1) (z20 k.1) (by omega) (by omega) (h.2.symm.trans k.2))
theorem QL {b:List Nat} {l m:List ByteArray} (h:gy b l) (k:gy b m):l=m:=
 Bf h.1 k.1 h.2.1 k.2.1 (Vg (RJ h.1 h.2.1) (RJ k.1 k.2.1) h.2.2.1 k.2.2.1 (h.2.2.2.symm.trans k.2.2.2))
theorem QK {b:List Nat} {l m:List ByteArray} (h:gu b l) (k:gu b m):l=m:=
 BF h.1 k.1 h.2.1 k.2.1 (Vg (QI h.1 h.2.1).1 (QI k.1 k.2.1).1 h.2.2.1 k.2.2.1 (h.2.2.2.symm.trans k.2.2.2))
def kT {α:Type} (cells:List α->List Value) (t:List α×Int) (W:World) (e:Ending) (w':World):Prop:=
 ∃(A:Option Addr) (c:Nat) (D:Nat->Prop),e=.returned (.tuple #[.slice A t.1.length c,.int .i64 t.2])/\Rd w' D 1 A t.1.length (cells t.1)/\Nx W w'
theorem Ja.ans {α:Type} {cells:List α->List Value} {made:List α->Prop} {ce:Int} {W w':World} {e:Ending} (h0:cells []=[]) (one:∀l m,made l->made m->l=m) (h:Ja cells made ce W e w'):kT cells (h_ made ce) W e w':=by
 rcases h with ⟨A,c,D,l,rfl,r,n,hm⟩|⟨rfl,n,hno⟩
 ·rw[Ah one hm]
  exact ⟨A,c,D,rfl,r,n⟩
 ·rw[Ag hno]
  refine ⟨none,0,fun _=>True,rfl,?_,n⟩;simp only[h0,List.length_nil];exact Rd.none_ _ _ _ _
theorem Oe.ans {α:Type} {t:TypeId} {cells:List α->List Value} {good made:List α->Prop} {ce:Int} {W w':World} {e:Ending} (hno:∀l,¬made l) (h:Oe t cells good made ce W e w'):kT cells (h_ made ce) W e w':=by
 obtain ⟨v,l,er,rfl,o, -,h1,h2⟩:=h;by_cases he:er=0
 ·exact absurd (h1 he) (hno l)
 ·obtain ⟨rfl,rfl⟩:=h2 he
  rw[Ag hno];obtain ⟨A,c,rfl, -, -⟩:=o.form;exact ⟨A,c,_,rfl,o.rd,o.nx⟩
theorem lD {α:Type} {t:TypeId} {cells:List α->List Value} {made:List α->Prop} {ce:Int} {W w':World} {v:Value} {l:List α} (one:∀l m,made l->made m->l=m) (hm:made l) (o:au W w' t 1 v l.length (cells l)):kT cells (h_ made ce) W (.returned (.tuple #[v,.int .i64 0])) w':=by
 rw[Ah one hm];obtain ⟨A,c,rfl, -, -⟩:=o.form;exact ⟨A,c,_,rfl,o.rd,o.nx⟩
section
variable (D : Nat → Prop) (A : Option Addr) (n c : Nat) (b : List Nat) (W : World) (hr : Rd W D 1 A n (bl b)) (dX : ∀ k, D k → k < W.heap.size) (ok : okB b) (hl : b.length = n) (hn : n ≤ 1000000) (hc : n ≤ c)
include hr dX ok hl hn hc
theorem GV:Calls Tryz.prog 21 #[.slice A n c] W (kT il (h_ (fP b) (aT b)) W):=by
 by_cases hm:∃l,fP b l
 ·obtain ⟨l,h1⟩:=hm
  have h2:=h1.2;refine (wH D A n c l W (by rw[←h2];exact hr) dX (by rw[←h2];exact hl) hc h1.1).mono ?_;rintro e w' ⟨v,rfl,o⟩;exact lD (fun _ _=>QM) h1 o
 ·exact (zU D A n c b W hr dX ok hl hn hc).mono fun e w' h=>h.ans fun l hl=>hm ⟨l,hl⟩
theorem CY:Calls Tryz.prog 24 #[.slice A n c] W (kT bW (h_ (gy b) (aT b)) W):=by
 by_cases hm:∃l,gy b l
 ·obtain ⟨l,h1⟩:=hm
  have h2:=h1.2.2.2;refine (qR D A n c l W (by rw[←h2];exact hr) dX (by rw[←h2];exact hl) hc h1.1 h1.2.1 h1.2.2.1).mono ?_;rintro e w' ⟨v,rfl,o⟩;exact lD (fun _ _=>QL) h1 o
 ·exact (wI D A n c b W hr dX ok hl hn hc).mono fun e w' h=>h.ans fun l hl=>hm ⟨l,hl⟩
theorem CZ:Calls Tryz.prog 26 #[.slice A n c] W (kT bW (h_ (gu b) (aT b)) W):=by
 by_cases hm:∃l,gu b l
 ·obtain ⟨l,h1⟩:=hm
  have h2:=h1.2.2.2;refine (qU D A n c l W (by rw[←h2];exact hr) dX (by rw[←h2];exact hl) hc h1.1 h1.2.1 h1.2.2.1).mono ?_;rintro e w' ⟨v,rfl,o⟩;exact lD (fun _ _=>QK) h1 o
 ·exact (wJ D A n c b W hr dX ok hl hn hc).mono fun e w' h=>h.ans fun l hl=>hm ⟨l,hl⟩
theorem C_:Calls Tryz.prog 28 #[.slice A n c] W (kT ji (h_ (fQ b) (aT b)) W):=by
 by_cases hm:∃l,fQ b l
 ·obtain ⟨l,h1⟩:=hm
  have h2:=h1.2;have h3:=RN h1.1;have hpos:0<(aU l).length:=by unfold aU;rw[List.length_append];have:=(z07 (n:=l.length) (by have:=h1.1;omega)).1;omega
  refine (sZ D A n c l W (by rw[←h2];exact hr) (by rw[←h2];exact hl) h1.1 (Yv D A n c 4 (aU l) W (by rw[←h2];exact hr) dX (z20 h1.1) (by decide) (by rw[←h2];exact hl) hc (by omega) hpos)).mono ?_;rintro e w' ⟨v,rfl,o⟩;exact lD (fun _ _=>QN) h1 o
 ·exact (wK D A n c b W hr dX ok hl hn hc).mono fun e w' h=>h.ans fun l hl=>hm ⟨l,hl⟩
variable (hfew : jT b)
include hfew
theorem MO:Calls Tryz.prog 22 #[.slice A n c] W (kT il (h_ (fP b) (aT b)) W):=
 (Gw D A n c b W hr dX ok hl hn hc hfew).mono fun e w' h=>h.ans rfl fun _ _=>QM
theorem Iy:Calls Tryz.prog 25 #[.slice A n c] W (kT bW (h_ (gy b) (aT b)) W):=
 (CJ D A n c b W hr dX ok hl hn hc hfew).mono fun e w' h=>h.ans rfl fun _ _=>QL
theorem Iz:Calls Tryz.prog 27 #[.slice A n c] W (kT bW (h_ (gu b) (aT b)) W):=
 (CO D A n c b W hr dX ok hl hn hc hfew).mono fun e w' h=>h.ans rfl fun _ _=>QK
theorem IB:Calls Tryz.prog 29 #[.slice A n c] W (kT ji (h_ (fQ b) (aT b)) W):=
 (CP D A n c b W hr dX ok hl hn hc hfew).mono fun e w' h=>h.ans rfl fun _ _=>QN
end
end Go.Proofs.YtfljcllpmbnjaaaGreat
