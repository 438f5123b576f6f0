/- Contracts and plain laws that the last text rests on. Conditions: each theorem states its own. -/
import Derived.Test.YtfljcllpmbnjaaaGreatKdQ35
import Derived.Test.YtfljcllpmbnjaaaGreatKdQ27
set_option maxRecDepth 100000
set_option maxHeartbeats 32000000
set_option linter.unusedVariables false
namespace Go.Proofs.YtfljcllpmbnjaaaGreat
open Go.RowKit
theorem Sj {b:List Nat} (hf:jT b) {l:List ByteArray} (h:gu b l):xu 3 b (bC l):=by
 obtain ⟨h1,h2,h3⟩:=QI h.1 h.2.1;exact ⟨h1,lG hf (by omega) h.2.2.2,h.2.2.2⟩
def Oc (w:World) (D:Nat->Prop) (g:Nat) (A:Option Addr) (c:Nat) (xs:List Nat) (t:List Nat×Nat×Int) (en:Ending) (w':World):Prop:=
 ∃(A':Option Addr) (c':Nat) (D':Nat->Prop),en=.returned (.slice A' t.1.length c')/\Rd w' D' 1 A' t.1.length (bl t.1)/\jw w D g A c xs t.2.1 t.2.2 w'
theorem mX {w:World} {D:Nat->Prop} {g:Nat} {A:Option Addr} {c:Nat} {xs:List Nat} {p:Nat} {e:Int} (h:fB w D g A c xs p e) (z:Nat) (hz:z<=1000000000):
 Calls Tryz.prog 66 #[.pointer (some ⟨g,0,none⟩),.int .i64 (z:Int)] w (Oc w D g A c xs (jv xs p e z)):=by
 unfold jv;by_cases he:e=0
 ·subst he
  rw[if_neg (by simp)];by_cases hpz:p+z<=xs.length
  ·rw[if_pos hpz]
   refine (mY h z hpz).mono ?_;rintro en w' ⟨k,cap,rfl,t,o,hc,hk⟩;have hl:((xs.drop p).take z).length=z:=by rw[List.length_take,List.length_drop];omega
   obtain ⟨D',hD'⟩:∃D':Nat->Prop,Rd w' D' 1 (some ⟨k,0,none⟩) z (bl ((xs.drop p).take z)):=⟨_,Rd.bY o⟩;exact ⟨some ⟨k,0,none⟩,cap,D',by simp only[hl],by simp only[hl];exact hD',t⟩
  ·rw[if_neg hpz]
   refine (mW h z (by omega) hz).mono ?_;rintro en w' ⟨rfl,t⟩;exact ⟨none,0,fun _=>True,rfl,Rd.none_ _ _ _ _,t⟩
 ·rw[if_pos he]
  refine (mV h he z).mono ?_;rintro en w' ⟨rfl,rfl⟩;exact ⟨none,0,fun _=>True,rfl,Rd.none_ _ _ _ _,jw.refl h⟩
theorem wR {v:Value} {j0 n c:Nat} (h:v.ownBlock≠some j0):∀j,(Value.slice (some ⟨j0,0,none⟩) n c).ownBlock=some j->¬v.ownBlock=some j:=fun j hj e=>h (e.trans hj.symm)
def TD (w3:World) (D:Nat->Prop) (g:Nat) (A:Option Addr) (c:Nat) (xs:List Nat) (n jo:Nat) (v i:Value) (wr:World):Prop:=
 ∃(p:Nat) (e:Int) (L:List Nat),L.length<=n/\i=.int .i64 (L.length:Int)/\wr.ownsRow w3.heap.size 3 1 v L.length (kM L)/\v.ownBlock≠none/\v.ownBlock≠some jo/\
  wr.ownsRow w3.heap.size 9 1 (.slice (some ⟨jo,0,none⟩) 0 0) 0 []/\fB wr D g A c xs p e/\Ch (· =g) w3 wr/\oZ xs n p e L
def TB (w3:World) (D:Nat->Prop) (g:Nat) (A:Option Addr) (c:Nat) (xs:List Nat) (n jl cl:Nat) (L:List Nat) (v i:Value) (wr:World):Prop:=
 ∃(p:Nat) (e:Int) (O:List ByteArray),O.length<=n/\i=.int .i64 (O.length:Int)/\wr.ownsRow w3.heap.size 9 1 v O.length (bW O)/\v.ownBlock≠none/\v.ownBlock≠some jl/\
  wr.ownsRow w3.heap.size 3 1 (.slice (some ⟨jl,0,none⟩) L.length cl) L.length (kM L)/\fB wr D g A c xs p e/\Ch (· =g) w3 wr/\oV xs n p e L O
theorem CO (D:Nat->Prop) (A:Option Addr) (n c:Nat) (b:List Nat) (W:World) (hr:Rd W D 1 A n (bl b)) (dX:∀k,D k->k<W.heap.size) (ok:okB b) (hl:b.length=n) (hn:n<=1000000) (hc:n<=c) (hfew:jT b):
 Calls Tryz.prog 27 #[.slice A n c] W (Ja bW (gu b) (aT b) W):=by
 obtain ⟨i0,hi0,hz0,hz1,hz2⟩:=info_parts Tryz.info3;obtain ⟨i1,hi1,hy0,hy1,hy2⟩:=info_parts Tryz.gW;have pI:=ah (z23 D A n c 3 b W hr dX ok hl hn hc (by decide) hfew);have EF:=ah (fun (l:List ByteArray) (h:gu b l)=>Sj hfew h);have hce:=QG b;have HE4:=ah (fun xs (h:xu 3 b xs)=>XL h);generalize aT b=ce at *;clear hr dX ok hl hn hc hfew;go_enter Tryz.func27,Tryz.ntmps27;go_wp2_with fail;refine pI.out.mono ?_;intro e w1 hcr;rcases hcr with ⟨k,cap,xs,rfl,o1,hcap,hcont⟩|⟨rfl,n1,hno⟩
 ·obtain rfl:ce=4:=HE4.out xs hcont
  have HC:=ah hcont;have jB:=hcont.1;have hx3:=hcont.2.1;have N1:=ah o1.nx;have hk1:=(o1.lt k rfl).2;have HM:Hid (∀l,gu b l->MX xs l):=ah fun l h=>⟨h.1,h.2.1,XM HC.out (EF.out l h)⟩;have HMB:Hid (∀l,MX xs l->gu b l):=ah fun l h=>⟨h.1,h.2.1,by rw[←h.2.2];omega,by rw[←h.2.2];exact HC.out.2.2⟩
  have cu0:fB (w1.alloc (.cells #[.slice (some ⟨k,0,none⟩) xs.length cap,.int .i64 0,.int .i64 0] 87)) (fun j=>j=k) w1.heap.size (some ⟨k,0,none⟩) cap xs 0 0:=
   ⟨dD.new w1 87 _,o1.fM.nx (by decide) ((Ch.refl _ w1).alloc _),fun j e=>by omega,fun j e=>by simp only[World.size_alloc];omega,jB,by omega,hcap,Nat.zero_le _⟩
  have NA:Hid (Nx W (w1.alloc (.cells #[.slice (some ⟨k,0,none⟩) xs.length cap,.int .i64 0,.int .i64 0] 87))):=ah (o1.nx.alloc _);have hgW:W.heap.size<=w1.heap.size:=o1.nx.size;have Xb:=ah jB;have CU0:=ah cu0;clear hce HE4 hcont o1 pI EF cu0 jB;go_wp2_with fail;generalize w1.alloc (.cells #[.slice (some ⟨k,0,none⟩) xs.length cap,.int .i64 0,.int .i64 0] 87)=w2 at *;generalize w1.heap.size=g at *;refine (z33 CU0.out 2048 (by omega)).mono ?_;obtain ⟨hst,hm48⟩:=uG Xb.out;rw[show ((2048:Nat):Int)=2048 from rfl];have HST:=ah hst;clear hst;generalize aB xs 0 0 2048=tr at *;obtain ⟨n2,p2,e2⟩:=tr;simp only at HST hm48;rintro e w3 ⟨rfl,t3⟩;have CU3:=ah t3.cur;have C3:=ah (NA.out.trans t3.dN fun i hi e=>by omega);have hgw3:g<w3.heap.size:=t3.cur.blk.lt;clear t3
  have HL0:Hid (TD w3 (fun j=>j=k) g (some ⟨k,0,none⟩) cap xs n2 (w3.heap.size+1) (.slice (some ⟨w3.heap.size,0,none⟩) 0 0) (.int .i64 0) ((w3.alloc (.cells #[] 3)).alloc (.cells #[] 9))):=ah (by
   have n4:Nx w3 ((w3.alloc (.cells #[] 3)).alloc (.cells #[] 9)):=((Ch.refl _ w3).alloc _).alloc _;have oL:((w3.alloc (.cells #[] 3)).alloc (.cells #[] 9)).ownsRow w3.heap.size 3 1 (.slice (some ⟨w3.heap.size,0,none⟩) 0 0) 0 []:=z06 (World.ownsRow_made w3 #[] 0 (Nat.le_refl _) (by simp[maxLen]) rfl) ((Ch.refl (fun _=>False) _).alloc _) (fun _ _ hf=>hf)
   have oO:((w3.alloc (.cells #[] 3)).alloc (.cells #[] 9)).ownsRow w3.heap.size 9 1 (.slice (some ⟨w3.heap.size+1,0,none⟩) 0 0) 0 []:=by
    have:=World.ownsRow_made (base:=w3.heap.size) (e:=9) (size:=1) (w3.alloc (.cells #[] 3)) #[] 0 (by simp) (by simp[maxLen]) rfl;simpa using this
   exact ⟨p2,e2,[],Nat.zero_le _,rfl,oL,by simp[Value.ownBlock],by simp[Value.ownBlock],oO,CU3.out.nx n4,n4.mono (fun _ _ hf=>hf.elim),HST.out⟩)
  go_wp2_with fail;go_loopw [8,10] (fun v i wr=>TD w3 (fun j=>j=k) g (some ⟨k,0,none⟩) cap xs n2 (w3.heap.size+1) v i wr) (fun _ i _=>n2-(intOf i).toNat)
  case atStart=>exact HL0.out
  case round=>
   clear HL0;obtain ⟨w4,rfl⟩:∃x:World,x=wr:=⟨_,rfl⟩;obtain ⟨p,e,L,hL,rfl,Fj,hv1,hv2,Fh,w_,hch,htx⟩:=hrel;have OL:=ah Fj;have OO:=ah Fh;have CU:=ah w_;have CH:=ah hch;have TX:=ah htx;have HV1:=ah hv1;have HV2:=ah hv2;clear Fj Fh w_ hch htx hv2;by_cases hlt:L.length<n2
   ·have vW:(L.length:Int)<(n2:Int):=by omega
    have hstep:=xP Xb.out TX.out hlt;have hcn:=z33 CU.out 1024 (by omega);rw[show ((1024:Nat):Int)=1024 from rfl]at hcn;have pV:=ah hcn;have Ap:=ah hstep;clear hcn hstep;generalize aB xs p e 1024=tr at *;obtain ⟨v5,p5,e5⟩:=tr;simp only at pV Ap;go_wp2_with fail;refine pV.out.mono ?_;rintro en w5 ⟨rfl,t5⟩;have T5:=ah t5;have hs3:w3.heap.size<=w5.heap.size:=Nat.le_trans CH.out.size t5.dN.size;have O5:=ah (z06 OL.out t5.dN fun j hj e=>by have:=(OL.out.lt j hj).1;omega);have OO5:=ah (z06 OO.out t5.dN fun j hj e=>by have:=(OO.out.lt j hj).1;omega);have hL2:L.length<=2048:=(by omega);clear t5 pV;go_wp2_with (at_builtin;refine z22 rfl (.tmp 32) (.tmp 35) _ rfl 3 i0 _ 8 Tryz.underlying88 hi0 hz0 hz1 hz2 rfl _ rfl rfl O5.out hs3 rfl (by simp only[maxLen];omega) (by omega) ?_;intro v' w6 ho6 hm6)
    have OO6:=z06 OO5.out hm6.ch (wR HV2.out);have CU6:=T5.out.cur.ch hm6.ch (fun e=>by have:=(O5.out.lt g e).1;omega) (fun j hj e=>by have:=(O5.out.lt j e).1;omega);have CH6:Ch (· =g) w3 w6:=(CH.out.trans T5.out.dN fun _ _ e=>e).trans hm6.ch fun j hj e=>by have:=(O5.out.lt j e).1;omega
    have hv6:=hm6.some_ HV1.out
    have hv62:v'.ownBlock≠some (w3.heap.size+1):=by
     rcases hm6.at_ with e|⟨j,e,hj⟩
     ·rw[e];exact HV2.out
     ·rw[e]
      intro h;injection h with h;have:=(OO5.out.lt (w3.heap.size+1) rfl).2;omega
    have wY:Hid (TD w3 (fun j=>j=k) g (some ⟨k,0,none⟩) cap xs n2 (w3.heap.size+1) v' (.int .i64 ((L.length:Int)+1)) w6):=ah ⟨p5,e5,L++[v5],by rw[List.length_append];exact hlt,by simp,by rw[List.length_append,show kM (L++[v5])=kM L++[.int .i64 (v5:Int)] by simp[kM]];exact ho6,hv6,hv62,OO6,CU6,CH6,Ap.out⟩;clear ho6 hm6 OO6 CU6 CH6 hv6 hv62;go_roundw
    case rel=>exact wY.out
    case measure=>simp[intOf];omega
   ·have vW:¬(L.length:Int)<(n2:Int):=by omega
    have hLn:L.length=n2:=(by omega);have TX2:=ah (uD TX.out hLn);obtain ⟨jl,hjl⟩:∃jl,_=some jl:=Option.ne_none_iff_exists'.1 hv1;obtain ⟨cl,hvl,hcl1,hcl2⟩:=Ot OL.out hjl;have hjo:w3.heap.size+1≠jl:=fun h=>HV2.out (hjl.trans (congrArg some h.symm));subst hvl;have HL2:Hid (TB w3 (fun j=>j=k) g (some ⟨k,0,none⟩) cap xs n2 jl cl L (.slice (some ⟨w3.heap.size+1,0,none⟩) 0 0) (.int .i64 0) w4):=ah ⟨p,e,[],Nat.zero_le _,rfl,OO.out,by simp[Value.ownBlock],by simp[Value.ownBlock];exact hjo,OL.out,CU.out,CH.out,TX2.out⟩;have HLn:=ah hLn;clear hjl hLn TX2 OL OO CU CH TX HV1 HV2 hv1 hlt hL;go_wp2_with fail;go_loopw [9,11] (fun v i wr=>TB w3 (fun j=>j=k) g (some ⟨k,0,none⟩) cap xs n2 jl cl L v i wr) (fun _ i _=>n2-(intOf i).toNat)
    case atStart=>exact HL2.out
    case round=>
     clear HL2;obtain ⟨w5,rfl⟩:∃x:World,x=wr:=⟨_,rfl⟩;obtain ⟨p,e,O,hO,rfl,Fh,hv1,hv2,Fj,w_,hch,htx⟩:=hrel;have OL:=ah Fj;have OO:=ah Fh;have CU:=ah w_;have CH:=ah hch;have TX:=ah htx;have HV1:=ah hv1;have HV2:=ah hv2;clear Fj Fh w_ hch htx hv1 hv2;by_cases hlt2:O.length<n2
     ·have QT:(O.length:Int)<(n2:Int):=by omega
      have UJ:O.length<L.length:=by rw[HLn.out];exact hlt2
      have hOLi:(O.length:Int)<(L.length:Int):=(by omega);have hcz:w5.cell? ⟨jl,O.length,none⟩=some (.int .i64 ((L.getD O.length 0:Nat):Int)):=(OL.out.cellAt O.length (by omega)).trans (by simp[kM,List.getD_eq_getElem?_getD,List.getElem?_eq_getElem UJ]);have hcz2:w5.cell? ((⟨jl,0,none⟩:Addr).add O.length)=some (.int .i64 ((L.getD O.length 0:Nat):Int)):=by rw[Zt];exact hcz
      obtain ⟨z,hz⟩:∃z,L.getD O.length 0=z:=⟨_,rfl⟩;have hzb:z<=1024:=TX.out.2.2.2.1 z (by rw[←hz];simp only[List.getD,List.getElem?_eq_getElem UJ,Option.getD_some];exact List.getElem_mem UJ);have UU:=ah (mX CU.out z (by omega));have hstep:=xO Xb.out TX.out hlt2;rw[hz]at hstep hcz hcz2;have Ap:=ah hstep;clear hstep hz;generalize jv xs p e z=tr at *;obtain ⟨T,p6,e6⟩:=tr;simp only at Ap UU;have hO2:O.length<=2048:=(by omega);go_wp2_with fail;refine UU.out.mono ?_;rintro en w6 ⟨A6,c6,D6,rfl,r6,t6⟩;have T6:=ah t6;have hs3:w3.heap.size<=w6.heap.size:=Nat.le_trans CH.out.size t6.dN.size;have O6:=ah (z06 OO.out t6.dN fun j hj e=>by have:=(OO.out.lt j hj).1;omega);have OL6:=ah (z06 OL.out t6.dN fun j hj e=>by have:=(OL.out.lt j hj).1;omega);have hcv:=xB (P:=Tryz.prog) w6 27 9 5 Tryz.underlying27 Tryz.underlying5 Tryz.underlying9 D6 A6 T.length c6 T r6;clear t6 UU r6;generalize b_ T=sT at *;go_wp2_with (at_builtin;refine z22 rfl (.tmp 42) (.tmp 50) _ rfl 9 i1 _ 16 Tryz.underlying23 hi1 hy0 hy1 hy2 rfl _ rfl rfl O6.out hs3 rfl (by simp only[maxLen];omega) (by omega) ?_;intro v' w7 ho7 hm7)
      have OL7:=z06 OL6.out hm7.ch (wR HV2.out);have CU7:=T6.out.cur.ch hm7.ch (fun e=>by have:=(O6.out.lt g e).1;omega) (fun j hj e=>by have:=(O6.out.lt j e).1;omega);have CH7:Ch (· =g) w3 w7:=(CH.out.trans T6.out.dN fun _ _ e=>e).trans hm7.ch fun j hj e=>by have:=(O6.out.lt j e).1;omega
      have hv7:=hm7.some_ HV1.out
      have hv72:v'.ownBlock≠some jl:=by
       rcases hm7.at_ with e|⟨j,e,hj⟩
       ·rw[e];exact HV2.out
       ·rw[e]
        intro h;injection h with h;have:=(OL6.out.lt jl rfl).2;omega
      have wY:Hid (TB w3 (fun j=>j=k) g (some ⟨k,0,none⟩) cap xs n2 jl cl L v' (.int .i64 ((O.length:Int)+1)) w7):=ah ⟨p6,e6,O++[sT],by rw[List.length_append];exact hlt2,by simp,by rw[List.length_append,Vo];exact ho7,hv7,hv72,OL7,CU7,CH7,Ap.out⟩;clear ho7 hm7 OL7 CU7 CH7 hv7 hv72;go_roundw
      case rel=>exact wY.out
      case measure=>simp[intOf];omega
     ·have QT:¬(O.length:Int)<(n2:Int):=by omega
      obtain ⟨LZ,LY⟩:=BG TX.out (by omega) (by omega);have Rt:=ah (yD CU.out);have HN5:=ah (C3.out.trans CH.out fun i hi e=>by omega);obtain ⟨Ao,co,hvo, -, -⟩:=z05 OO.out;subst hvo;by_cases hE:bn xs.length p e=0
      ·have HMX:=ah (LZ hE)
       rw[hE]at Rt;clear LZ LY hE;go_wp2_with fail;refine Rt.out.mono ?_;rintro en w6 ⟨rfl,d6⟩;go_wp2_with fail;go_ret2;exact .inl ⟨_,_,_,O,rfl,(Rd.bY OO.out).nx (by decide) d6.nx,HN5.out.tr d6.nx,HMB.out O HMX.out⟩
      ·have FI:=ah (LY hE)
       have q1:(bn xs.length p e !=0)=true:=by rw[bne_iff_ne];exact hE
       clear LZ LY hE;generalize bn xs.length p e=E at *;go_wp2_with fail;refine Rt.out.mono ?_;rintro en w6 ⟨rfl,d6⟩;go_wp2_with fail;go_ret2;exact .inr ⟨rfl,HN5.out.tr d6.nx,fun l h=>FI.out l (HM.out l h)⟩
 ·have q1:(ce !=0)=true:=by rw[bne_iff_ne];exact hce
  have N1:=ah n1;have FI:=ah hno;clear hce n1 hno;go_wp2_with fail;go_ret2;exact .inr ⟨rfl,N1.out,fun l h=>FI.out _ (EF.out l h)⟩
end Go.Proofs.YtfljcllpmbnjaaaGreat
namespace Go.Proofs.YtfljcllpmbnjaaaGreat
def MW (xs:List Nat) (l:List ByteArray):Prop:=l.length<=2048/\(∀s∈l,s.size<=1024)/\xs=aV l
theorem Ya {xs:List Nat} {p:Nat} {e m:Int} (hp:p<=xs.length):(aB xs p e m).2.1<=xs.length:=by
 have h1:=Ba (b:=xs) (p:=p) hp;unfold aB;split
 ·exact hp
 ·split
  ·exact hp
  ·split
   ·exact hp
   ·exact h1
theorem D_ {xs:List Nat} {p m:Nat} {e:Int} (hp:p<=xs.length):(bM xs p e m).2.1<=xs.length/\(bM xs p e m).1.length<=m:=by
 have h1:=Ba (b:=xs) (p:=p) hp;unfold bM;split
 ·exact ⟨hp,Nat.zero_le _⟩
 ·split
  ·exact ⟨hp,Nat.zero_le _⟩
  ·split
   ·exact ⟨hp,Nat.zero_le _⟩
   ·split
    ·exact ⟨hp,Nat.zero_le _⟩
    ·simp only[List.length_take,List.length_drop]
     omega
def oQ (xs:List Nat) (m p:Nat) (e:Int) (A:List ByteArray):Prop:=
 p<=xs.length/\(∀s∈A,s.size<=1024)/\
 (∀l,MW xs l->e=0/\m=(bP l).length/\A=(bP l).take A.length/\xs.drop p=je ((bP l).drop A.length)++(aj l.length++bK (bP l) l))
theorem uy (xs:List Nat):oQ xs (aB xs 0 0 2048).1 (aB xs 0 0 2048).2.1 (aB xs 0 0 2048).2.2 []/\(aB xs 0 0 2048).1<=2048:=by
 refine ⟨⟨Ya (Nat.zero_le _),by simp,fun l hl=>?_⟩,Jp xs 0 0 2048⟩;obtain ⟨h1,h2,h3⟩:=hl;have h4:xs.drop 0=aj (bP l).length++(je (bP l)++(aj l.length++bK (bP l) l)):=by rw[List.drop_zero,h3];simp[aV]
 have h5:=Ub (m:=2048) (Nat.le_trans (z11 l) h1) (by omega) (Nat.zero_le _) h4;rw[show ((2048:Nat):Int)=2048 from rfl]at h5;rw[h5];refine ⟨rfl,rfl,by simp,?_⟩;simp only[Nat.zero_add,List.length_nil,List.drop_zero];rw[List.drop_zero]at h4;conv=>lhs;rw[h4]
 rw[List.drop_left]
theorem xJ {xs:List Nat} {m p:Nat} {e:Int} {A:List ByteArray} (h:oQ xs m p e A) (hlt:A.length<m):oQ xs m (bM xs p e 1024).2.1 (bM xs p e 1024).2.2 (A++[b_ (bM xs p e 1024).1]):=by
 obtain ⟨hp,hb,hx⟩:=h;obtain ⟨q1,q2⟩:=D_ (e:=e) (m:=1024) hp;refine ⟨q1,fun s hs=>?_,fun l hl=>?_⟩
 ·rcases List.mem_append.1 hs with hs|hs
  ·exact hb s hs
  ·rw[List.mem_singleton]at hs
   rw[hs,Yd];exact q2
 ·obtain ⟨h1,h2,h3,h4⟩:=hx l hl
  subst h1;have hk:A.length<(bP l).length:=by omega
  have hsz:((bP l).getD A.length ByteArray.empty).size<=1024:=by
   rw[List.getD_eq_getElem?_getD,List.getElem?_eq_getElem hk];exact hl.2.1 _ (AZ.1 (List.getElem_mem hk))
  rw[Ym hk]at h4
  have hd:xs.drop p=aj (iU ((bP l).getD A.length ByteArray.empty)).length++iU ((bP l).getD A.length ByteArray.empty)++(je ((bP l).drop (A.length+1))++(aj l.length++bK (bP l) l)):=by
   rw[h4,kJ];simp
  have h5:=IC (m:=1024) (by rw[kJ];exact hsz) (by omega) hp hd;rw[h5];refine ⟨rfl,h2,?_,?_⟩
  ·simp only
   rw[Uh,List.length_append,List.length_singleton,List.take_succ_eq_append_getElem hk,←h3];simp[List.getD,hk]
  ·simp only
   rw[List.length_append,List.length_singleton,Nat.add_assoc,←List.drop_drop,hd,←List.length_append,List.drop_left]
def oP (xs:List Nat) (A:List ByteArray) (n p:Nat) (e:Int) (O:List ByteArray):Prop:=
 p<=xs.length/\O.length<=n/\n<=2048/\(∀s∈A,s.size<=1024)/\(∀s∈O,s.size<=1024)/\
 (∀l,MW xs l->e=0/\n=l.length/\A=bP l/\O=l.take O.length/\xs.drop p=bK (bP l) (l.drop O.length))
theorem uq {xs:List Nat} {m p:Nat} {e:Int} {A:List ByteArray} (h:oQ xs m p e A) (hA:A.length=m):
 oP xs A (aB xs p e 2048).1 (aB xs p e 2048).2.1 (aB xs p e 2048).2.2 []:=by
 obtain ⟨hp,hb,hx⟩:=h;refine ⟨Ya hp,Nat.zero_le _,Jp xs p e 2048,hb,by simp,fun l hl=>?_⟩;obtain ⟨h1,h2,h3,h4⟩:=hx l hl;subst h1;have hAl:A.length=(bP l).length:=by omega
 rw[hAl,List.take_length]at h3;rw[hAl,List.drop_length]at h4;rw[show je []=[] from rfl,List.nil_append]at h4;have h5:=Ub (m:=2048) hl.1 (by omega) hp h4;rw[show ((2048:Nat):Int)=2048 from rfl]at h5;rw[h5];refine ⟨rfl,rfl,h3,by simp,?_⟩;simp only[List.length_nil,List.drop_zero];rw[←List.drop_drop,h4,List.drop_left]
theorem xR {l:List ByteArray} {a:Nat} {x:ByteArray}:∀r,a+r<=l.length->(∀j,j<r->l.getD (a+j) ByteArray.empty=x)->l.take (a+r)=l.take a++List.replicate r x
 |0,_,_=>by simp
 |r+1,h,hx=>by
  have h1:=hx r (by omega);have h2:l[a+r]'(by omega)=x:=by rw[←h1];simp[List.getD,show a+r<l.length by omega]
  rw[←Nat.add_assoc,List.take_succ_eq_append_getElem (by omega),xR r (by omega) (fun j hj=>hx j (by omega)),h2,List.append_assoc,List.replicate_succ']
theorem xI {xs:List Nat} {A:List ByteArray} {n p:Nat} {O:List ByteArray} (h:oP xs A n p 0 O) (hlt:O.length<n) {k q1 r q2:Nat} {e1 e2:Int} (h1:aB xs p 0 2047=(k,q1,e1)) (h2:aB xs q1 e1 ((n-O.length:Nat):Int)=(r,q2,e2)):
 r<=n-O.length/\((e2≠0∨A.length<=k∨r=0)->∀l,¬MW xs l)/\(e2=0->k<A.length->oP xs A n q2 0 (O++List.replicate r (A.getD k ByteArray.empty))):=by
 obtain ⟨hp,hO,hn,hbA,hbO,hx⟩:=h;have hq1:q1<=xs.length:=by have:=Ya (e:=0) (m:=2047) hp;rw[h1]at this;exact this
 have hq2:q2<=xs.length:=by have:=Ya (e:=e1) (m:=((n-O.length:Nat):Int)) hq1;rw[h2]at this;exact this
 have hr:r<=n-O.length:=by have:=Jp xs q1 e1 (n-O.length);rw[h2]at this;exact this
 have hX:∀l,MW xs l->e2=0/\k<A.length/\0<r/\O++List.replicate r (A.getD k ByteArray.empty)=l.take (O.length+r)/\xs.drop q2=bK (bP l) (l.drop (O.length+r)):=fun l hl=>by
  obtain ⟨_,a2,a3,a4,a5⟩:=hx l hl;have ha:O.length<l.length:=by omega
  obtain ⟨r0,hr0,hr1,hr2,hr3⟩:=Kz l O.length ha;have step:=Un (all:=bP l) hr0 hr1 hr2 hr3;rw[step,List.append_assoc]at a5
  have hmem:l.getD O.length ByteArray.empty∈bP l:=by
   rw[List.getD,List.getElem?_eq_getElem ha];exact AZ.2 (List.getElem_mem _)
  have hix:=Oh hmem;have hat:=lF hmem;have hall:=z11 l;have hl1:=hl.1;have c1:=Ub (m:=2047) (by omega) (by omega) hp a5;rw[show ((2047:Nat):Int)=2047 from rfl,h1]at c1;injection c1 with k1 c1;injection c1 with k2 k3;have a6:xs.drop q1=aj r0++bK (bP l) (l.drop (O.length+r0)):=by rw[k2,←List.drop_drop,a5,List.drop_left]
  have c2:=Ub (m:=n-O.length) (v:=r0) (by omega) (by omega) hq1 a6;rw[k3]at h2;rw[h2]at c2;injection c2 with k4 c2;injection c2 with k5 k6;have hk:A.getD k ByteArray.empty=l.getD O.length ByteArray.empty:=by rw[a3,k1];exact hat
  refine ⟨k6,by rw[a3,k1];exact hix,by omega,?_,?_⟩
  ·rw[hk,k4,xR r0 hr1 hr2,←a4]
  ·rw[k5,←List.drop_drop,a6,List.drop_left,k4]
 refine ⟨hr,fun hb l hl=>?_,fun he hk=>?_⟩
 ·obtain ⟨b1,b2,b3,_⟩:=hX l hl
  omega
 ·refine ⟨hq2,by rw[List.length_append,List.length_replicate];omega,hn,hbA,fun s hs=>?_,fun l hl=>?_⟩
  ·rcases List.mem_append.1 hs with hs|hs
   ·exact hbO s hs
   ·rw[List.eq_of_mem_replicate hs,List.getD_eq_getElem?_getD,List.getElem?_eq_getElem hk]
    exact hbA _ (List.getElem_mem hk)
  ·obtain ⟨_,a2,a3,a4,a5⟩:=hx l hl
   obtain ⟨b1,b2,b3,b4,b5⟩:=hX l hl;refine ⟨rfl,a2,a3,?_,?_⟩
   ·rw[List.length_append,List.length_replicate]
    exact b4
   ·rw[List.length_append,List.length_replicate]
    exact b5
theorem Bh {xs:List Nat} {A:List ByteArray} {n p:Nat} {e:Int} {O:List ByteArray} (h:oP xs A n p e O) (hend:O.length=n∨e≠0) {l:List ByteArray} (hl:MW xs l):bn xs.length p e=0/\O=l:=by
 obtain ⟨hp,hO,hn,hbA,hbO,hx⟩:=h;obtain ⟨a1,a2,a3,a4,a5⟩:=hx l hl;have hOn:O.length=n:=hend.resolve_right fun k=>k a1;have hOl:O.length=l.length:=by omega
 rw[hOl,List.drop_length,QH]at a5;rw[hOl,List.take_length]at a4;have h2:=congrArg List.length a5;rw[List.length_drop]at h2;simp at h2;refine ⟨?_,a4⟩;unfold bn;rw[if_neg (fun k=>k a1),if_neg (by omega)]
end Go.Proofs.YtfljcllpmbnjaaaGreat
