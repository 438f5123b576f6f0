/- Contracts and plain laws that the last text rests on. Conditions: each theorem states its own. -/
import Derived.Test.YtfljcllpmbnjaaaGreatKdQ21
import Derived.Test.YtfljcllpmbnjaaaGreatKdQ24
import Derived.Test.YtfljcllpmbnjaaaGreatKdQ26
import Derived.Test.YtfljcllpmbnjaaaGreatKdQ28
import Derived.Test.YtfljcllpmbnjaaaGreatKdQ29
import Derived.Test.YtfljcllpmbnjaaaGreatKdQ30
set_option maxRecDepth 100000
set_option maxHeartbeats 32000000
set_option linter.unusedVariables false
namespace Go.Proofs.YtfljcllpmbnjaaaGreat
theorem JB {a b:Nat} {x y:List Nat} (ha:a<18446744073709551616) (hb:b<18446744073709551616) (h:aj a++x=aj b++y):a=b/\x=y:=by
 have h1:=OQ (v:=a) ha [] x;have h2:=OQ (v:=b) hb [] y;rw[List.nil_append]at h1 h2;rw[h]at h1;have e:a=b:=congrArg Prod.fst (h1.symm.trans h2);subst e;exact ⟨rfl,List.append_cancel_left h⟩
theorem DC {l m:List Bool} (hl:l.length<=2048) (hm:m.length<=2048) (h:aU l=aU m):l=m:=by
 unfold aU at h;obtain ⟨h1,h2⟩:=JB (by omega) (by omega) h;refine List.ext_getElem h1 fun i hi hi2=>?_;have e:=congrArg (fun p=>dO p i) h2;simp only[Vf,List.getD,List.getElem?_eq_getElem hi,List.getElem?_eq_getElem hi2,Option.getD_some]at e;revert e
 cases l[i]<;>cases m[i]<;>simp[iZ]
theorem EK {s t:ByteArray} (h:iU s=iU t):s=t:=by rw[←Uh s,←Uh t,h]
theorem z5u {a b x y:List Nat} (hl:a.length=b.length) (h:a++x=b++y):a=b/\x=y:=List.append_inj h hl
theorem xX:∀{l m:List ByteArray} {x y:List Nat},l.length=m.length->(∀s∈l,s.size<=1024)->(∀s∈m,s.size<=1024)->eG l++x=eG m++y->l.map ByteArray.size=m.map ByteArray.size/\x=y
 |[],[],x,y,_,_,_,h=>⟨rfl,h⟩
 |s::l,t::m,x,y,hl,h1,h2,h=>by
  have a1:=h1 s List.mem_cons_self;have a2:=h2 t List.mem_cons_self;simp only[eG,List.flatMap_cons,List.append_assoc]at h;obtain ⟨e1,e2⟩:=JB (by omega) (by omega) h;obtain ⟨e3,e4⟩:=xX (l:=l) (m:=m) (by simpa using hl) (fun z hz=>h1 z (List.mem_cons_of_mem _ hz)) (fun z hz=>h2 z (List.mem_cons_of_mem _ hz)) e2;exact ⟨by rw[List.map_cons,List.map_cons,e1,e3],e4⟩
theorem zY:∀{l m:List ByteArray},l.map ByteArray.size=m.map ByteArray.size->dF l=dF m->l=m
 |[],[],_,_=>rfl
 |[],_::_,h,_=>by cases h
 |_::_,[],h,_=>by cases h
 |s::l,t::m,hs,h=>by
  rw[List.map_cons,List.map_cons]at hs;injection hs with h1 h2;simp only[dF,List.flatMap_cons]at h;obtain ⟨e1,e2⟩:=z5u (by rw[kJ,kJ,h1]) h;rw[EK e1,zY h2 e2]
theorem BF {l m:List ByteArray} (hl:l.length<=2048) (hm:m.length<=2048) (h1:∀s∈l,s.size<=1024) (h2:∀s∈m,s.size<=1024) (h:bC l=bC m):l=m:=by
 unfold bC at h;rw[List.append_assoc,List.append_assoc]at h;obtain ⟨e1,e2⟩:=JB (by omega) (by omega) h;obtain ⟨e3,e4⟩:=xX e1 h1 h2 e2;exact zY e3 e4
theorem mg:∀{l m:List ByteArray} {x y:List Nat},l.length=m.length->(∀s∈l,s.size<=1024)->(∀s∈m,s.size<=1024)->je l++x=je m++y->l=m/\x=y
 |[],[],x,y,_,_,_,h=>⟨rfl,h⟩
 |s::l,t::m,x,y,hl,h1,h2,h=>by
  have a1:=h1 s List.mem_cons_self;have a2:=h2 t List.mem_cons_self;rw[Vr,Vr]at h;simp only[List.append_assoc]at h;obtain ⟨e1,e2⟩:=JB (by omega) (by omega) h;obtain ⟨e3,e4⟩:=z5u (by rw[kJ,kJ,e1]) e2;obtain ⟨e5,e6⟩:=mg (l:=l) (m:=m) (by simpa using hl) (fun z hz=>h1 z (List.mem_cons_of_mem _ hz)) (fun z hz=>h2 z (List.mem_cons_of_mem _ hz)) e4;exact ⟨by rw[EK e3,e5],e6⟩
theorem BP {l m:List Int} {fr:Nat} (hf:0<fr) (hl:l.length=m.length) (h:rC l fr=rC m fr):l=m:=by
 have key:∀j,j<l.length->l.getD j 0=m.getD j 0:=fun j=>by
  induction j using Nat.strongRecOn with
  |ind j ih=>
   intro hj;have e:(rC l fr).getD j 0=(rC m fr).getD j 0:=by rw[h]
   have g1:(rC l fr).getD j 0=if fr<=j then l.getD j 0-l.getD (j-1) 0 else l.getD j 0:=by
    unfold rC;rw[List.getD,List.getElem?_map,List.getElem?_range hj];rfl
   have g2:(rC m fr).getD j 0=if fr<=j then m.getD j 0-m.getD (j-1) 0 else m.getD j 0:=by
    unfold rC;rw[List.getD,List.getElem?_map,List.getElem?_range (by omega)];rfl
   rw[g1,g2]at e;by_cases hfj:fr<=j
   ·rw[if_pos hfj,if_pos hfj]at e
    have:=ih (j-1) (by omega) (by omega);omega
   ·rw[if_neg hfj,if_neg hfj]at e
    exact e
 refine List.ext_getElem hl fun i hi hi2=>?_;have e:=key i hi;rw[List.getD,List.getElem?_eq_getElem hi,List.getD,List.getElem?_eq_getElem hi2]at e;exact e
theorem lZ:∀{w:Nat} {l m:List Int},l.length=m.length->aG l w=aG m w->l=m
 |0,_,_,_,h=>h
 |w+1,l,m,hl,h=>lZ (w:=w) hl (BP (Nat.succ_pos w) (by rw[z08,z08,hl]) h)
theorem z5g:∀{l m:List Int},l.length=m.length->(∀x∈l,zig x<18446744073709551616)->(∀x∈m,zig x<18446744073709551616)->gU l=gU m->l=m
 |[],[],_,_,_,_=>rfl
 |s::l,t::m,hl,h1,h2,h=>by
  simp only[gU,List.flatMap_cons]at h;obtain ⟨e1,e2⟩:=JB (h1 s List.mem_cons_self) (h2 t List.mem_cons_self) h;have e3:s=t:=(by rw[←RD s,←RD t,e1]);rw[e3,z5g (l:=l) (m:=m) (by simpa using hl) (fun z hz=>h1 z (List.mem_cons_of_mem _ hz)) (fun z hz=>h2 z (List.mem_cons_of_mem _ hz)) e2]
theorem Ih {l m:List Int} (hl:aO l=0) (hm:aO m=0) (h:bT l=bT m):l=m:=by
 obtain ⟨l1,l2⟩:=jH hl;obtain ⟨m1,m2⟩:=jH hm;have hw:=z19 l;have hw2:=z19 m;unfold bT bf at h;rw[List.singleton_append,List.singleton_append]at h;injection h with h0 h;rw[←h0]at h;obtain ⟨e1,e2⟩:=JB (by omega) (by omega) h;have hb1:=z13 l2 (aY l) hw;have hb2:=z13 m2 (aY l) hw;refine lZ (w:=aY l) e1 (z5g (by rw[z08,z08,e1]) (fun x hx=>?_) (fun x hx=>?_) e2)
 ·have:=hb1 x hx
  exact OG (by omega) (by omega)
 ·have:=hb2 x hx
  exact OG (by omega) (by omega)
theorem z4f (x:ByteArray):∀l:List ByteArray,l.takeWhile (fun y=>decide (y=x))=List.replicate (runN x l) x
 |[]=>rfl
 |y::l=>by
  unfold runN;by_cases h:y=x
  ·subst h
   rw[List.takeWhile_cons,if_pos (by simp),List.length_cons,List.replicate_succ];congr 1
   exact z4f y l
  ·rw[List.takeWhile_cons,if_neg (by simpa using h)]
   rfl
theorem rO (x:ByteArray) (l:List ByteArray):l=List.replicate (runN x l) x++l.drop (runN x l):=by
 have h:=List.takeWhile_append_dropWhile (p:=fun y=>decide (y=x)) (l:=l)
 have h2:l.dropWhile (fun y=>decide (y=x))=l.drop (runN x l):=by
  have:=congrArg (List.drop (runN x l)) h;unfold runN at this ⊢;rw[List.drop_left]at this;exact this
 rw[←z4f,←h2,h]
theorem rM {all:List ByteArray} (ha:all.length<=2048):∀(n:Nat) {l m:List ByteArray},l.length<=n->l.length<=2048->m.length<=2048->(∀x∈l,x∈all)->(∀x∈m,x∈all)->l.length=m.length->bK all l=bK all m->l=m
 |_,[],[],_,_,_,_,_,_,_=>rfl
 |_,[],_::_,_,_,_,_,_,h,_=>by simp at h
 |_,_::_,[],_,_,_,_,_,h,_=>by simp at h
 |0,_::_,_::_,h,_,_,_,_,_,_=>by simp at h
 |n+1,x::xs,y::ys,hn,h1,h2,h3,h4,hl,h=>by
  simp only[List.length_cons]at hn h1 h2 hl;rw[bK,bK,List.append_assoc,List.append_assoc]at h;have i1:=Oh (h3 x List.mem_cons_self);have i2:=Oh (h4 y List.mem_cons_self);have r1:=kZ x xs;have r2:=kZ y ys;obtain ⟨e1,e2⟩:=JB (by omega) (by omega) h;obtain ⟨e3,e4⟩:=JB (by omega) (by omega) e2
  have exy:x=y:=by
   have a1:=lF (h3 x List.mem_cons_self);have a2:=lF (h4 y List.mem_cons_self);rw[←a1,←a2,e1]
  subst exy;have e5:runN x xs=runN x ys:=by omega
  have e6:=rM ha n (l:=xs.drop (runN x xs)) (m:=ys.drop (runN x ys)) (by rw[List.length_drop];omega) (by rw[List.length_drop];omega) (by rw[List.length_drop];omega)
   (fun z hz=>h3 z (List.mem_cons_of_mem _ (List.mem_of_mem_drop hz))) (fun z hz=>h4 z (List.mem_cons_of_mem _ (List.mem_of_mem_drop hz))) (by rw[List.length_drop,List.length_drop];omega) e4
  rw[rO x xs,rO x ys,e6,e5]
theorem Bf {l m:List ByteArray} (hl:l.length<=2048) (hm:m.length<=2048) (h1:∀s∈l,s.size<=1024) (h2:∀s∈m,s.size<=1024) (h:aV l=aV m):l=m:=by
 have a1:=z11 l;have a2:=z11 m;unfold aV at h;simp only[List.append_assoc]at h;obtain ⟨e1,e2⟩:=JB (by omega) (by omega) h;obtain ⟨e3,e4⟩:=mg e1 (fun s hs=>h1 s (AZ.1 hs)) (fun s hs=>h2 s (AZ.1 hs)) e2;obtain ⟨e5,e6⟩:=JB (by omega) (by omega) e4;rw[←e3]at e6;exact rM (all:=bP l) (by omega) l.length (Nat.le_refl _) hl hm (fun x hx=>AZ.2 hx) (fun x hx=>by rw[e3];exact AZ.2 hx) e5 e6
theorem oq {xs:List Nat} (jB:okB xs) (hx:xs.length<=65536) (hlt:(aX xs).length<xs.length):jV (aX xs) xs.length=(xs,(aX xs).length,0):=by
 by_cases h5:xs.length<=65535
 ·exact (Fix.sV jB h5).1
 ·have hs:=Yr xs
  have e1:aX xs=pack (aI (aF xs xs.length 0)):=by
   unfold aX at hlt ⊢;split at hlt
   ·next h2=>rw[if_pos h2]
   ·omega
  rw[e1]at hlt ⊢;exact Fix.iM jB (by omega) (by omega)
theorem Vg {kind:Nat} {xs ys:List Nat} (ox:okB xs) (oy:okB ys) (hx:xs.length<=65536) (hy:ys.length<=65536) (h:aC kind xs=aC kind ys):xs=ys:=by
 unfold aC at h;have h:=Gq h;unfold jI at h;simp only[List.cons_append,List.nil_append]at h;injection h with _ h;injection h with hf h;obtain ⟨e1,e2⟩:=JB (by omega) (by omega) h;by_cases a:(aX xs).length<xs.length
 ·by_cases b:(aX ys).length<ys.length
  ·unfold dG at e2
   rw[if_pos a,if_pos b]at e2;have c1:=oq ox hx a;have c2:=oq oy hy b;rw[e2,e1,c2]at c1;exact (congrArg Prod.fst c1).symm
  ·unfold dM at hf
   rw[if_pos a,if_neg b]at hf;cases hf
 ·by_cases b:(aX ys).length<ys.length
  ·unfold dM at hf
   rw[if_neg a,if_pos b]at hf;cases hf
  ·unfold dG at e2
   rw[if_neg a,if_neg b]at e2;exact e2
end Go.Proofs.YtfljcllpmbnjaaaGreat
namespace Go.Proofs.YtfljcllpmbnjaaaGreat
open Go.RowKit
theorem Qo (l:List Bool):R2.iO l=ji l:=rfl
theorem yJ (D:Nat->Prop) (A:Option Addr) (n c:Nat) (l:List Bool) (W:World) (hr:Rd W D 1 A n (ji l)) (hl:l.length=n) (hn:n<=2048) (hc:n<=c) (hcm:c<=9223372036854775807):
 Calls Tryz.prog 18 #[.slice A n c] W (fZ W 5 1 (aU l).length (bl (aU l))):=by
 obtain ⟨i0,hi0,hz0,hz1,hz2⟩:=info_parts Tryz.info5;have hby:=fun w (nx:Nx W w)=>R2.rW D A n c l w (by rw[Qo];exact hr.nx (by decide) nx) hl (by omega) hc hcm;have kG:=ah hby;have hfl:=RN (l:=l) (by omega);have HE:Hid (aU l=[]++aj l.length++pack l):=ah (by rw[List.nil_append];rfl);have h0:=au.lit W W 5 (Ch.refl _ W) 1;have Hu:=ah (rQ W _ _ [] n h0 (by simp) (by omega));have hlen:=congrArg List.length HE.out;rw[List.length_append]at hlen;rw[hl]at HE hlen;have hpl:=z07 (n:=n) (by omega);have hp2:([]++aj n).length=(aj n).length:=rfl;have hb1:([]++aj n).length+(pack l).length<=400:=by omega
 have hpos:0<([]++aj n).length+(pack l).length:=by omega
 have HL:=ah hlen;clear hby hl hr h0 hlen hfl hp2;generalize aU l=T at *;generalize pack l=pk at *;generalize []++aj n=X at *;go_enter Tryz.func18,Tryz.ntmps18;go_wp2_with fail;with_reducible refine Hu.out.mono ?_
 rintro e w1 ⟨k1,cap1,rfl,o1,_,_,_,_⟩;go_wp2_with fail;with_reducible refine (kG.out _ o1.nx).mono ?_
 rintro e w2 ⟨k2,cap2,rfl,o2,_,_,_,_⟩;have oX:=o1.tr o2.nx;have r2:=o2.fM;clear o1 o2 kG Hu;go_wp2_with (at_builtin;refine z01 rfl (.tmp 6) (.tmp 8) _ rfl 5 i0 _ 1 1 Tryz.underlying27 hi0 hz0 hz1 hz2 rfl (by omega) rfl oX _ (some ⟨k2,0,none⟩) pk.length cap2 (bl pk) rfl r2 (iP _) (by simp only[maxLen];omega) (by omega) ?_;intro v3 w3 o3 m3)
 go_ret;rw[HL.out,HE.out,show bl (X++pk)=bl X++bl pk by simp[bl]];exact fZ.iK o3 hpos
theorem GL (D:Nat->Prop) (A:Option Addr) (n c kind:Nat) (xs:List Nat) (W:World) (hr:Rd W D 1 A n (bl xs)) (ok:okB xs) (hl:xs.length=n) (hc:n<=c) (hn:n<=65535) (hk:kind<256):
 Calls Tryz.prog 10 #[.int .i64 (kind:Int),.slice A n c] W (fZ W 5 1 (aC kind xs).length (bl (aC kind xs))):=by
 obtain ⟨i0,hi0,hz0,hz1,hz2⟩:=info_parts Tryz.info5;subst hl;have PV:=z50 hk ok (by omega);have hdl:=sW xs;have hcl:=oG (kind:=kind) (xs:=xs) (by omega);have HI:Hid (jI kind xs=[kind,dM xs]++aj xs.length++dG xs):=ah rfl;have HF:Hid (dM xs=if (aX xs).length<xs.length then 1 else 0):=ah rfl;have HB:Hid (dG xs=if (aX xs).length<xs.length then aX xs else xs):=ah rfl;have hdf:=uT D A c xs W hr ok hc hn;unfold FP at hdf
 have ku:IntKind.u8.wrap (kind:Int)=(kind:Int):=by
  have:IntKind.u8.wrap (kind:Int)=(kind:Int) % 256:=by simp[IntKind.wrap,IntKind.bits,IntKind.signed]
  omega
 have jg:=fun (w w':World) (A':Option Addr) (c':Nat) (D':Nat->Prop) (h:Rd w' D' 1 A' (jI kind xs).length (bl (jI kind xs)))=>yG D' A' _ c' (jI kind xs) w' h PV rfl (by
  have:(aC kind xs).length=(jI kind xs).length+4:=by unfold aC;rw[AY]
  omega)
 have hcf:dL (jI kind xs)=aC kind xs:=rfl;rw[hcf]at jg;have pF:=ah jg;have UR:=ah hdf
 have fin:∀(w5:World) (v5:Value),au W w5 5 1 v5 (jI kind xs).length (bl (jI kind xs))->v5.ownBlock≠none->∃k cap,v5=.slice (some ⟨k,0,none⟩) (jI kind xs).length cap/\
  Calls Tryz.prog 37 #[.slice (some ⟨k,0,none⟩) (jI kind xs).length cap] w5 (fZ W 5 1 (aC kind xs).length (bl (aC kind xs))):=fun w5 v5 o hb=>by
  obtain ⟨k,cap,hv,o4,hk1,hk2,_,_⟩:=fZ.jG o hb;injection hv with hv;subst hv;refine ⟨k,cap,rfl,(pF.out w5 w5 _ cap _ o4.fM).mono ?_⟩;rintro e w6 ⟨k6,cap6,rfl,o6,h1,h2,h3,h4⟩;exact ⟨k6,cap6,rfl,⟨iT o6.own o4.nx.size,o4.nx.tr o6.nx⟩,Nat.le_trans o4.nx.size h1,h2,h3,h4⟩
 have Fin:=ah fin;clear fin jg hdf hcf PV hcl;have hpl:=z07 (n:=xs.length) (by omega);by_cases hlt:(aX xs).length<xs.length
 ·have HF1:Hid (dM xs=1):=ah (by rw[HF.out,if_pos hlt])
  have HB1:Hid (dG xs=aX xs):=ah (by rw[HB.out,if_pos hlt]);rw[HF1.out,HB1.out]at HI;clear HF HB HF1 HB1 pF;generalize aX xs=ds at *;have hq:¬((xs.length:Int)<=(ds.length:Int)):=by omega
  go_enter Tryz.func10,Tryz.ntmps10;go_wp2_with fail;with_reducible refine UR.out.mono ?_
  rintro e w1 ⟨A1,c1,rfl,⟨D1,hr1⟩,n1⟩;have o0:au w1 (w1.alloc (.cells #[.int .u8 (kind:Int),.int .u8 1] 5)) 5 1 (.slice (some ⟨w1.heap.size,0,none⟩) 2 2) [kind,1].length (bl [kind,1]):=⟨Uk w1 _ _ 1 _ 2 (Nat.le_refl _) (by simp[maxLen]) (by simp),(Ch.refl _ w1).alloc _⟩;have dS:=ah (rQ w1 _ _ [kind,1] xs.length o0 (by simp) (by omega));have YE:([kind,1]++aj xs.length).length<=100:=by simp only[List.length_append,List.length_cons,List.length_nil];omega
  have qJ:0<([kind,1]++aj xs.length).length:=by simp only[List.length_append,List.length_cons,List.length_nil];omega
  clear o0;generalize [kind,1]++aj xs.length=X at *;go_wp2_with fail;with_reducible refine dS.out.mono ?_
  rintro e w2 ⟨k2,cap2,rfl,o2,_,_,_,_⟩;have SG:=hr1.nx (by decide) o2.nx;have oW:au W w2 5 1 (.slice (some ⟨k2,0,none⟩) X.length cap2) X.length (bl X):=⟨iT o2.own n1.size,n1.tr o2.nx⟩;clear dS UR o2;go_wp2_with (at_builtin;refine z01 rfl (.tmp 24) (.tmp 25) _ rfl 5 i0 _ 1 1 Tryz.underlying27 hi0 hz0 hz1 hz2 rfl (by omega) rfl oW _ A1 ds.length c1 (bl ds) rfl SG (iP _) (by simp only[maxLen];omega) (by omega) ?_;intro v5 w5 o5 m5;obtain ⟨k5,cap5,hv5,hcall⟩:=Fin.out w5 v5 (by rw[HI.out,List.length_append,show bl (X++ds)=bl X++bl ds by simp[bl]];exact o5) (Moved.some_ (v:=.slice (some ⟨k2,0,none⟩) X.length cap2) m5 (by simp[Value.ownBlock]));rw[hv5])
  with_reducible refine hcall.mono ?_
  rintro e w6 ⟨k6,cap6,rfl,o6,h61,h62,h63,h64⟩;go_wp2_with fail;go_ret;exact ⟨k6,cap6,rfl,o6,h61,h62,h63,h64⟩
 ·have HF1:Hid (dM xs=0):=ah (by rw[HF.out,if_neg hlt])
  have HB1:Hid (dG xs=xs):=ah (by rw[HB.out,if_neg hlt]);rw[HF1.out,HB1.out]at HI;clear HF HB HF1 HB1 pF;generalize aX xs=ds at *;have hq:((xs.length:Int)<=(ds.length:Int)):=by omega
  go_enter Tryz.func10,Tryz.ntmps10;go_wp2_with fail;with_reducible refine UR.out.mono ?_
  rintro e w1 ⟨A1,c1,rfl,⟨D1,hr1⟩,n1⟩;have o0:au w1 (w1.alloc (.cells #[.int .u8 (kind:Int),.int .u8 0] 5)) 5 1 (.slice (some ⟨w1.heap.size,0,none⟩) 2 2) [kind,0].length (bl [kind,0]):=⟨Uk w1 _ _ 1 _ 2 (Nat.le_refl _) (by simp[maxLen]) (by simp),(Ch.refl _ w1).alloc _⟩;have dS:=ah (rQ w1 _ _ [kind,0] xs.length o0 (by simp) (by omega));have YE:([kind,0]++aj xs.length).length<=100:=by simp only[List.length_append,List.length_cons,List.length_nil];omega
  have qJ:0<([kind,0]++aj xs.length).length:=by simp only[List.length_append,List.length_cons,List.length_nil];omega
  clear o0;generalize [kind,0]++aj xs.length=X at *;go_wp2_with fail;with_reducible refine dS.out.mono ?_
  rintro e w2 ⟨k2,cap2,rfl,o2,_,_,_,_⟩;have SG:=hr.nx (by decide) (n1.tr o2.nx);have oW:au W w2 5 1 (.slice (some ⟨k2,0,none⟩) X.length cap2) X.length (bl X):=⟨iT o2.own n1.size,n1.tr o2.nx⟩;clear dS UR o2;go_wp2_with (at_builtin;refine z01 rfl (.tmp 24) (.tmp 25) _ rfl 5 i0 _ 1 1 Tryz.underlying27 hi0 hz0 hz1 hz2 rfl (by omega) rfl oW _ A xs.length c (bl xs) rfl SG (iP _) (by simp only[maxLen];omega) (by omega) ?_;intro v5 w5 o5 m5;obtain ⟨k5,cap5,hv5,hcall⟩:=Fin.out w5 v5 (by rw[HI.out,List.length_append,show bl (X++xs)=bl X++bl xs by simp[bl]];exact o5) (Moved.some_ (v:=.slice (some ⟨k2,0,none⟩) X.length cap2) m5 (by simp[Value.ownBlock]));rw[hv5])
  with_reducible refine hcall.mono ?_
  rintro e w6 ⟨k6,cap6,rfl,o6,h61,h62,h63,h64⟩;go_wp2_with fail;go_ret;exact ⟨k6,cap6,rfl,o6,h61,h62,h63,h64⟩
def pK (W:World) (e:Ending) (w':World):Prop:=
 ∃v l er,e=.returned (.tuple #[v,.int .i64 er])/\au W w' 2 1 v l.length (il l)/\l.length<=2048/\∀z∈l,i64 z
theorem pK.bad {W w':World} {er:Int} (n:Nx W w'):pK W (.returned (.tuple #[.slice none 0 0,.int .i64 er])) w':=
 ⟨_,[],er,rfl,au.nil _ _ _ _ n,Nat.zero_le _,fun z hz=>by cases hz⟩
theorem Ry (l:List Int) (z:Int):il (l++[z])=il l++[.int .i64 z]:=by simp[il]
theorem z38 {l:List Int} {z:Int} (h:∀y∈l,i64 y) (h1: -1152921504606846976<=z) (h2:z<=1152921504606846976):∀y∈l++[z],i64 y:=fun y hy=>by
 rcases List.mem_append.1 hy with hy|hy
 ·exact h y hy
 ·rw[List.mem_singleton.1 hy];unfold i64;omega
theorem decode_any (D:Nat->Prop) (A:Option Addr) (n c:Nat) (b:List Nat) (way:Nat) (W:World) (hr:Rd W D 1 A n (bl b)) (ok:okB b) (hl:b.length=n) (hn:n<=1000000000) (hc:n<=c) (hw:way<256):
 Calls Tryz.prog 55 #[.slice A n c,.int .i64 (way:Int)] W (pK W):=by
 obtain ⟨i0,hi0,hz0,hz1,hz2⟩:=info_parts Tryz.g_;by_cases hw2:2<way
 ·have q1:decide ((way:Int)<0)=false:=by rw[decide_eq_false_iff_not];omega
  have q2:decide ((2:Int)<(way:Int))=true:=by rw[decide_eq_true_eq];omega
  clear hr ok hl hc;go_enter Tryz.func55,Tryz.ntmps55;go_wp2_with fail;go_ret2;exact pK.bad (Ch.refl _ _)
 ·have Hu:=ah (jO D A n c b 0 W hr ok hl hn hc (by omega))
  have Hi:=ah (fun (p:Nat) (w':World) (nx:Nx W w') (hp:p<=1000000000)=>vH D A n c b p w' (hr.nx (by decide) nx) ok hl hn hc hp);have hu64:=OU ok 0;have Ov:=Ba (b:=b) (p:=0) (Nat.zero_le _);rw[hl,Nat.zero_add]at Ov;have HRL:=ah (fun p (hp:p<=b.length)=>Ba (b:=b) hp);have YO:=ah (fun p=>Jt (OU ok p));unfold Ai at Hu;unfold UK at Hi;obtain ⟨u,hu⟩:∃u,u=(ay b 0).1:=⟨_,rfl⟩;obtain ⟨a0,ha0⟩:∃u,u=(ay b 0).2.1:=⟨_,rfl⟩;obtain ⟨e0,he0⟩:∃u,u=(ay b 0).2.2:=⟨_,rfl⟩;rw[show ((0:Nat):Int)=0 from rfl]at Hu Ov;rw[←hu,←ha0,←he0]at Hu;rw[←hu]at hu64;rw[←ha0]at Ov;have HBL:=ah hl;clear hu ha0 he0 hr ok hl;have q1:decide ((way:Int)<0)=false:=by rw[decide_eq_false_iff_not];omega
  have q2:decide ((2:Int)<(way:Int))=false:=by rw[decide_eq_false_iff_not];omega
  go_enter Tryz.func55,Tryz.ntmps55;go_wp2_with fail;refine Hu.out.mono ?_;rintro e w1 ⟨rfl,rfl⟩;clear Hu q1 q2;by_cases hee:e0=0
  ·subst hee
   by_cases hu2:2048<u
   ·have q1:(2048:Int)<(u:Int):=by omega
    go_wp2_with fail;go_ret2;exact pK.bad (Ch.refl _ _)
   ·have q1:¬(2048:Int)<(u:Int):=by omega
    have kw0:IntKind.i64.wrap (u:Int)=(u:Int):=IntWalk.i64_in _ (by omega);go_wp2_with fail;go_loopw [7,9,10,11,37] (fun a v la st i wr=>∃(k p:Nat) (lz s:Int) (l:List Int),k<=u/\l.length=k/\i=.int .i64 (k:Int)/\a=.int .i64 (p:Int)/\la=.int .i64 lz/\st=.int .i64 s/\p<=n/\ -1152921504606846976<=lz/\lz<=1152921504606846976/\(way=2-> -2305843009213693952<=s/\s<=2305843009213693952)/\(∀z∈l,i64 z)/\Hid (au W wr 2 1 v k (il l))) (fun _ _ _ _ i _=>u-(intOf i).toNat)
    case atStart=>exact ⟨0,_,0,0,[],Nat.zero_le _,rfl,rfl,rfl,rfl,rfl,Ov,by omega,by omega,fun _=>by omega,(fun z hz=>by cases hz),ah (au.nil _ _ _ _ (Ch.refl _ W))⟩
    case round=>
     obtain ⟨w4,rfl⟩:∃w4:World,w4=wr:=⟨_,rfl⟩;obtain ⟨k,p,lz,s,l,hk,hlk,rfl,rfl,rfl,rfl,hp,hz1',hz2',hs,hok,O4⟩:=hrel;have AQ:=ah hlk;have lN:=ah hok;have N4:=ah O4.out.nx;clear hlk hok;by_cases hlt:k<u
     ·have HI:=ah (Hi.out p w4 N4.out (by omega))
      have hrl:=HRL.out p (by rw[HBL.out];exact hp);rw[HBL.out]at hrl;have hrt:=YO.out p;obtain ⟨q,hq⟩:∃u,u=(ay b p).2.1:=⟨_,rfl⟩;obtain ⟨er,her⟩:∃u,u=(ay b p).2.2:=⟨_,rfl⟩;obtain ⟨T,hT⟩:∃u,u=zag (ay b p).1:=⟨_,rfl⟩;rw[←hq,←her,←hT]at HI;rw[←hq]at hrl;rw[←hT]at hrt;clear hq her hT;by_cases he:er=0
      ·subst he
       have HI2:Hid (Calls Tryz.prog 96 #[.slice A n c,.int .i64 (p:Int)] w4 fun e w'=>e=.returned (.tuple #[.int .i64 T,.int .i64 (q:Int),.int .i64 0])/\w4=w'):=ah (by
        have h:=HI.out;simp only[if_true]at h;exact h)
       clear HI;go_wp2_with fail;refine HI2.out.mono ?_;rintro e w5 ⟨rfl,rfl⟩;clear HI2;have kp:IntKind.i64.wrap ((p:Int)+(q:Int))=((p+q:Nat):Int):=by rw[IntWalk.i64_in _ (by omega)];omega
       by_cases t1:T< -4611686018427387904
       ·go_wp2_with fail
        go_ret2;exact pK.bad N4.out
       ·by_cases t2:4611686018427387904<T
        ·go_wp2_with fail
         go_ret2;exact pK.bad N4.out
        ·have fin:∀(X S:Int),(way=2->S=X∨S=X-lz)-> -1152921504606846976<=X->X<=1152921504606846976->(way=2-> -2305843009213693952<=S/\S<=2305843009213693952):=fun X S h h1 h2 hw=>by
          rcases h hw with rfl|rfl<;>omega
         have FIN:=ah fin;clear fin;have hcl:(way=0)∨(k=0/\(way=1∨way=2))∨(1<=k/\way=1)∨(k=1/\way=2)∨(2<=k/\way=2):=(by omega);rcases hcl with hwy|⟨hky,hwy⟩|⟨hky,hwy⟩|⟨hky,hwy⟩|⟨hky,hwy⟩
         ·have f1:((way:Int)==2)=false:=by rw[beq_eq_false_iff_ne];omega
          have f2:((way:Int) !=0)=false:=by rw[bne_eq_false_iff_eq];omega
          clear hs hwy;by_cases x1:T< -1152921504606846976
          ·go_wp2_with fail
           go_ret2;exact pK.bad N4.out
          ·by_cases x2:1152921504606846976<T
           ·go_wp2_with fail
            go_ret2;exact pK.bad N4.out
           ·have HF:=ah (FIN.out T T (by exact fun h=>.inl rfl) (by omega) (by omega))
            clear FIN;go_wp2_with (at_builtin;refine z02 rfl (.tmp 85) (.tmp 87) _ rfl 2 i0 _ 8 Tryz.underlying22 hi0 hz0 hz1 hz2 rfl (.int .i64 T) rfl rfl O4.out rfl (by simp only[maxLen];omega) (by omega) ?_;intro v6 w6 o6 m6)
            go_roundw
            case rel=>exact ⟨k+1,p+q,T,T,l++[T],Nat.succ_le_of_lt hlt,by rw[List.length_append,AQ.out];rfl,by go_num,by go_num,rfl,rfl,hrl,by omega,by omega,HF.out,z38 lN.out (by omega) (by omega),ah (by rw[Ry];exact o6)⟩
            case measure=>simp[intOf];omega
         ·rcases hwy with hwy|hwy
          ·have f1:((way:Int)==2)=false:=by rw[beq_eq_false_iff_ne];omega
           have f2:((way:Int) !=0)=true:=by rw[bne_iff_ne];omega
           have g1:¬(1:Int)<(k:Int):=(by omega);have g0:¬(0:Int)<(k:Int):=(by omega);clear hs hwy hky;by_cases x1:T< -1152921504606846976
           ·go_wp2_with fail
            go_ret2;exact pK.bad N4.out
           ·by_cases x2:1152921504606846976<T
            ·go_wp2_with fail
             go_ret2;exact pK.bad N4.out
            ·have HF:=ah (FIN.out T T (by exact fun h=>.inl rfl) (by omega) (by omega))
             clear FIN;go_wp2_with (at_builtin;refine z02 rfl (.tmp 85) (.tmp 87) _ rfl 2 i0 _ 8 Tryz.underlying22 hi0 hz0 hz1 hz2 rfl (.int .i64 T) rfl rfl O4.out rfl (by simp only[maxLen];omega) (by omega) ?_;intro v6 w6 o6 m6)
             go_roundw
             case rel=>exact ⟨k+1,p+q,T,T,l++[T],Nat.succ_le_of_lt hlt,by rw[List.length_append,AQ.out];rfl,by go_num,by go_num,rfl,rfl,hrl,by omega,by omega,HF.out,z38 lN.out (by omega) (by omega),ah (by rw[Ry];exact o6)⟩
             case measure=>simp[intOf];omega
          ·have f1:((way:Int)==2)=true:=by rw[beq_iff_eq];omega
           have f2:((way:Int) !=0)=true:=by rw[bne_iff_ne];omega
           have g1:¬(1:Int)<(k:Int):=(by omega);have g0:¬(0:Int)<(k:Int):=(by omega);clear hs hwy hky;by_cases x1:T< -1152921504606846976
           ·go_wp2_with fail
            go_ret2;exact pK.bad N4.out
           ·by_cases x2:1152921504606846976<T
            ·go_wp2_with fail
             go_ret2;exact pK.bad N4.out
            ·have HF:=ah (FIN.out T T (by exact fun h=>.inl rfl) (by omega) (by omega))
             clear FIN;go_wp2_with (at_builtin;refine z02 rfl (.tmp 85) (.tmp 87) _ rfl 2 i0 _ 8 Tryz.underlying22 hi0 hz0 hz1 hz2 rfl (.int .i64 T) rfl rfl O4.out rfl (by simp only[maxLen];omega) (by omega) ?_;intro v6 w6 o6 m6)
             go_roundw
             case rel=>exact ⟨k+1,p+q,T,T,l++[T],Nat.succ_le_of_lt hlt,by rw[List.length_append,AQ.out];rfl,by go_num,by go_num,rfl,rfl,hrl,by omega,by omega,HF.out,z38 lN.out (by omega) (by omega),ah (by rw[Ry];exact o6)⟩
             case measure=>simp[intOf];omega
         ·have f1:((way:Int)==2)=false:=by rw[beq_eq_false_iff_ne];omega
          have f2:((way:Int) !=0)=true:=by rw[bne_iff_ne];omega
          have g0:(0:Int)<(k:Int):=(by omega);obtain ⟨X,hX⟩:∃X,X=T+lz:=⟨_,rfl⟩;have kw1:IntKind.i64.wrap (T+lz)=X:=(by rw[IntWalk.i64_in _ (by omega),hX]);have HX:=ah hX;have hw2':¬way=2:=(by omega);clear hs hX hwy hky;by_cases x1:X< -1152921504606846976
          ·go_wp2_with fail
           go_ret2;exact pK.bad N4.out
          ·by_cases x2:1152921504606846976<X
           ·go_wp2_with fail
            go_ret2;exact pK.bad N4.out
           ·have HF:=ah (FIN.out X T (by intro h;omega) (by omega) (by omega))
            clear FIN;go_wp2_with (at_builtin;refine z02 rfl (.tmp 85) (.tmp 87) _ rfl 2 i0 _ 8 Tryz.underlying22 hi0 hz0 hz1 hz2 rfl (.int .i64 X) rfl rfl O4.out rfl (by simp only[maxLen];omega) (by omega) ?_;intro v6 w6 o6 m6)
            go_roundw
            case rel=>exact ⟨k+1,p+q,X,T,l++[X],Nat.succ_le_of_lt hlt,by rw[List.length_append,AQ.out];rfl,by go_num,by go_num,rfl,rfl,hrl,by omega,by omega,HF.out,z38 lN.out (by omega) (by omega),ah (by rw[Ry];exact o6)⟩
            case measure=>simp[intOf];omega
         ·have f1:((way:Int)==2)=true:=by rw[beq_iff_eq];omega
          have f2:((way:Int) !=0)=true:=by rw[bne_iff_ne];omega
          have g1:¬(1:Int)<(k:Int):=(by omega);have g0:(0:Int)<(k:Int):=(by omega);obtain ⟨X,hX⟩:∃X,X=T+lz:=⟨_,rfl⟩;have kw1:IntKind.i64.wrap (T+lz)=X:=(by rw[IntWalk.i64_in _ (by omega),hX]);have HX:=ah hX;clear hs hX hwy hky;by_cases x1:X< -1152921504606846976
          ·go_wp2_with fail
           go_ret2;exact pK.bad N4.out
          ·by_cases x2:1152921504606846976<X
           ·go_wp2_with fail
            go_ret2;exact pK.bad N4.out
           ·have HF:=ah (FIN.out X T (by intro h;have:=HX.out;omega) (by omega) (by omega))
            clear FIN;go_wp2_with (at_builtin;refine z02 rfl (.tmp 85) (.tmp 87) _ rfl 2 i0 _ 8 Tryz.underlying22 hi0 hz0 hz1 hz2 rfl (.int .i64 X) rfl rfl O4.out rfl (by simp only[maxLen];omega) (by omega) ?_;intro v6 w6 o6 m6)
            go_roundw
            case rel=>exact ⟨k+1,p+q,X,T,l++[X],Nat.succ_le_of_lt hlt,by rw[List.length_append,AQ.out];rfl,by go_num,by go_num,rfl,rfl,hrl,by omega,by omega,HF.out,z38 lN.out (by omega) (by omega),ah (by rw[Ry];exact o6)⟩
            case measure=>simp[intOf];omega
         ·have f1:((way:Int)==2)=true:=by rw[beq_iff_eq];omega
          have f2:((way:Int) !=0)=true:=by rw[bne_iff_ne];omega
          have g1:(1:Int)<(k:Int):=(by omega);have g0:(0:Int)<(k:Int):=(by omega);obtain ⟨hs1,hs2⟩:=hs hwy;clear hs;obtain ⟨Y,hY⟩:∃Y,Y=T+s:=⟨_,rfl⟩;have kwY:IntKind.i64.wrap (T+s)=Y:=(by rw[IntWalk.i64_in _ (by omega),hY]);obtain ⟨X,hX⟩:∃X,X=Y+lz:=⟨_,rfl⟩;have kw1:IntKind.i64.wrap (Y+lz)=X:=(by rw[IntWalk.i64_in _ (by omega),hX]);have HX:=ah hX;clear hX hY hwy hky;by_cases x1:X< -1152921504606846976
          ·go_wp2_with fail
           go_ret2;exact pK.bad N4.out
          ·by_cases x2:1152921504606846976<X
           ·go_wp2_with fail
            go_ret2;exact pK.bad N4.out
           ·have HF:=ah (FIN.out X Y (by intro h;have:=HX.out;omega) (by omega) (by omega))
            clear FIN;go_wp2_with (at_builtin;refine z02 rfl (.tmp 85) (.tmp 87) _ rfl 2 i0 _ 8 Tryz.underlying22 hi0 hz0 hz1 hz2 rfl (.int .i64 X) rfl rfl O4.out rfl (by simp only[maxLen];omega) (by omega) ?_;intro v6 w6 o6 m6)
            go_roundw
            case rel=>exact ⟨k+1,p+q,X,Y,l++[X],Nat.succ_le_of_lt hlt,by rw[List.length_append,AQ.out];rfl,by go_num,by go_num,rfl,rfl,hrl,by omega,by omega,HF.out,z38 lN.out (by omega) (by omega),ah (by rw[Ry];exact o6)⟩
            case measure=>simp[intOf];omega
      ·have q1:(er !=0)=true:=by rw[bne_iff_ne];exact he
       go_wp2_with fail;refine HI.out.mono ?_;rintro e w5 ⟨rfl,rfl⟩;go_wp2_with fail;go_ret2;exact pK.bad N4.out
     ·obtain rfl:u=k:=by omega
      by_cases hpn:p<n
      ·have q2:(p:Int)<(n:Int):=by omega
       go_wp2_with fail;go_ret2;exact pK.bad N4.out
      ·have q2:¬(p:Int)<(n:Int):=by omega
       obtain ⟨Av,cv,rfl, -, -⟩:=O4.out.form;go_wp2_with fail;go_ret2;have hl:=AQ.out;exact ⟨_,l,0,rfl,by rw[hl];exact O4.out,by omega,lN.out⟩
  ·have q1:(e0 !=0)=true:=by rw[bne_iff_ne];exact hee
   go_wp2_with fail;go_ret2;exact pK.bad (Ch.refl _ _)
end Go.Proofs.YtfljcllpmbnjaaaGreat
