/- Contracts and plain laws that the last text rests on. Conditions: each theorem states its own. -/
import Derived.Test.YtfljcllpmbnjaaaGreatKdQ7
import Derived.Test.YtfljcllpmbnjaaaGreatKdPdCrc
import Derived.Test.YtfljcllpmbnjaaaGreatKdQ9
set_option maxRecDepth 100000
set_option maxHeartbeats 16000000
set_option linter.unusedVariables false
namespace Go.Proofs.YtfljcllpmbnjaaaGreat
open Go.RowKit
theorem Rd.below_ {w:World} {D:Nat->Prop} {size n:Nat} {A:Option Addr} {xs:List Value} (h:Rd w D size A n xs) (hs:0<size):Rd w (· <w.heap.size) size A n xs:=
 ⟨h.1,fun hn=>by
   obtain ⟨ad,e,hb,hc⟩:=h.2 hn;obtain ⟨ad',e',_,hlt⟩:=h.ZV hs hn;rw[e]at e';injection e' with e';subst e';exact ⟨ad,e,hlt,hc⟩⟩
theorem Va (l:List Bool):okB (pack l):=by
 intro x hx;unfold pack at hx;obtain ⟨i,_,rfl⟩:=List.mem_map.1 hx;exact X_ l i
theorem PE {xs:List Nat} (ok:okB xs) (hl:xs.length<=65535):okB (aW xs):=by
 intro x hx;unfold aW AV at hx;simp only[List.cons_append,List.nil_append,List.mem_cons]at hx;rcases hx with rfl|rfl|rfl|rfl|rfl|h
 ·omega
 ·omega
 ·omega
 ·omega
 ·omega
 ·exact ok x h
theorem Lc {xs:List Nat} (ok:okB xs) (hl:xs.length<=65535):okB (aX xs):=by
 unfold aX;split
 ·exact Va _
 ·exact PE ok hl
theorem sW (xs:List Nat):(aX xs).length<=xs.length+5:=by
 unfold aX;split
 ·next h=>have:(aW xs).length=xs.length+5:=by simp[aW,AV]
          omega
 ·simp[aW,AV]
def dM (xs:List Nat):Nat:=if (aX xs).length<xs.length then 1 else 0
def dG (xs:List Nat):List Nat:=if (aX xs).length<xs.length then aX xs else xs
def jI (kind:Nat) (xs:List Nat):List Nat:=[kind,dM xs]++aj xs.length++dG xs
def aC (kind:Nat) (xs:List Nat):List Nat:=dL (jI kind xs)
theorem Ld {xs:List Nat} (ok:okB xs) (hl:xs.length<=65536):okB (dG xs):=by
 unfold dG;split
 ·next h=>
  by_cases h5:xs.length<=65535
  ·exact Lc ok h5
  ·have hs:=Yr xs
   unfold aX at h ⊢;split
   ·exact Va _
   ·next h2=>rw[if_neg h2]at h;omega
 ·exact ok
theorem z50 {kind:Nat} (hk:kind<256) {xs:List Nat} (ok:okB xs) (hl:xs.length<=65536):okB (jI kind xs):=by
 intro x hx;unfold jI at hx;rcases List.mem_append.1 hx with h|h
 ·rcases List.mem_append.1 h with h|h
  ·simp only[List.mem_cons,List.not_mem_nil,or_false]at h
   rcases h with rfl|rfl
   ·exact hk
   ·unfold dM;split<;>omega
  ·exact z14 (by omega) x h
 ·exact Ld ok hl x h
theorem Vl {kind:Nat} (hk:kind<256) {xs:List Nat} (ok:okB xs) (hl:xs.length<=65536):okB (aC kind xs):=XF (z50 hk ok hl)
theorem IX (xs:List Nat):(dG xs).length<=xs.length:=by
 unfold dG;split<;>omega
theorem oG {kind:Nat} {xs:List Nat} (hl:xs.length<=65536):(aC kind xs).length<=xs.length+16:=by
 unfold aC jI;rw[AY,List.length_append,List.length_append];have h1:=IX xs;have h2:=(z07 (n:=xs.length) (by omega)).2;simp only[List.length_cons,List.length_nil];omega
theorem au.store {W w:World} {e:TypeId} {n g c:Nat} {xs:List Value} {size:Nat} (h:au W w e size (.slice (some ⟨g,0,none⟩) n c) n xs) (j:Nat) (u:Value):
 au W (w.setCell ⟨g,j,none⟩ u) e size (.slice (some ⟨g,0,none⟩) n c) n (xs.set j u):=
 ⟨(h.own.stored j u).1,h.nx.setCell (fun hlt=>absurd hlt (Nat.not_lt.2 (h.lt g rfl).1)) u⟩
def z2b (W:World) (xs:List Nat) (e:Ending) (w':World):Prop:=
 ∃k cap,e=.returned (.tuple #[.slice (some ⟨k,0,none⟩) xs.length cap,.int .i64 0])/\au W w' 5 1 (.slice (some ⟨k,0,none⟩) xs.length cap) xs.length (bl xs)/\xs.length<=cap
theorem Ze (D:Nat->Prop) (A:Option Addr) (n c kind:Nat) (xs:List Nat) (W:World) (hr:Rd W D 1 A n (bl xs)) (dX:∀k,D k->k<W.heap.size) (ok:okB xs) (hl:xs.length=n) (hc:n<=c) (hn:n<=65536) (hk:kind<256):
 Calls Tryz.prog 33 #[.int .u8 (kind:Int),.slice A n c] W (z2b W (aC kind xs)):=by
 obtain ⟨i0,hi0,hz0,hz1,hz2⟩:=info_parts Tryz.info5;subst hl;have PV:=z50 hk ok hn;have hdl:=sW xs;have hcl:(jI kind xs).length+4=(aC kind xs).length:=by unfold aC;rw[AY]
 have HI:Hid (jI kind xs=[kind,dM xs]++aj xs.length++dG xs):=ah rfl;have HF:Hid (dM xs=if (aX xs).length<xs.length then 1 else 0):=ah rfl;have HB:Hid (dG xs=if (aX xs).length<xs.length then aX xs else xs):=ah rfl;have HC:Hid (aC kind xs=dL (jI kind xs)):=ah rfl;have hdf:=qo D A xs.length c xs W hr ok rfl hc hn;unfold Ru at hdf;have hpl:=z07 (n:=xs.length) (by omega);have hpu:=fun w=>Uf xs.length w (by omega);have okU:okB (aj xs.length):=z14 (by omega);generalize aj xs.length=pu at *;generalize aX xs=ds at *;have UR:=ah hdf;have pR:=ah hpu;clear hdf hpu;go_enter Tryz.func33,Tryz.ntmps33;go_wp2_with fail;with_reducible refine UR.out.mono ?_
 rintro e w1 ⟨A1,c1,L,rfl,n1,hA,hB⟩;have HA:=ah hA;have HB2:=ah hB;clear hA hB;have o0:au W (w1.alloc (.cells #[.int .u8 (kind:Int),.int .u8 1] 5)) 5 1 (.slice (some ⟨w1.heap.size,0,none⟩) 2 2) 2 (bl [kind,1]):=⟨Uk w1 _ _ 1 _ 2 n1.size (by simp[maxLen]) (by simp),n1.alloc _⟩;have hb0:(Value.slice (some ⟨w1.heap.size,0,none⟩) 2 2).ownBlock≠none:=by simp[Value.ownBlock]
 go_wp2_with fail;with_reducible refine (pR.out _).mono ?_
 rintro e w2 ⟨k2,cap2,rfl,o2,hk2,hk2',hc2,_⟩;have o1:=o0.tr o2.nx;have r2:=o2.fM;have n2:Nx W w2:=o1.nx;have hrx:=hr.nx (by decide) n2;have hN1:=((Ch.refl (fun _=>False) w1).alloc (.cells #[.int .u8 (kind:Int),.int .u8 1] 5)).tr o2.nx;clear n1 o0
 have fin:∀(w5:World) (v5:Value),au W w5 5 1 v5 (jI kind xs).length (bl (jI kind xs))->v5.ownBlock≠none->∃k cap,v5=.slice (some ⟨k,0,none⟩) (jI kind xs).length cap/\
  Calls Tryz.prog 75 #[.slice (some ⟨k,0,none⟩) (jI kind xs).length cap] w5 (fZ W 5 1 (aC kind xs).length (bl (aC kind xs))):=fun w5 v5 o hb=>by
  obtain ⟨k,cap,hv,o4,hk1,hk2,_,_⟩:=fZ.jG o hb;injection hv with hv;subst hv
  have hil:(jI kind xs).length<=1000000000:=by
   have:=oG (kind:=kind) hn;omega
  refine ⟨k,cap,rfl,(Nl (fun j=>j=k) (some ⟨k,0,none⟩) _ cap (jI kind xs) w5 o4.fM (fun j e=>by omega) PV rfl hil).mono ?_⟩;rintro e w6 ⟨k6,cap6,rfl,o6,h1,h2,h3,h4⟩;rw[hcl]at o6 h3 ⊢;exact ⟨k6,cap6,rfl,⟨iT o6.own o4.nx.size,o4.nx.tr o6.nx⟩,Nat.le_trans o4.nx.size h1,h2,h3,h4⟩
 have Fin:=ah fin;clear fin hcl;by_cases hlt:ds.length<xs.length
 ·obtain ⟨hL,D1,hr1⟩:=HA.out hlt
  subst hL;have hrd:=(hr1.below_ (by decide)).nx (by decide) hN1;clear hr1 HA HB2;have HF1:Hid (dM xs=1):=ah (by rw[HF.out,if_pos hlt]);have HB1:Hid (dG xs=ds):=ah (by rw[HB.out,if_pos hlt]);have hq:¬((xs.length:Int)<=(ds.length:Int)):=by omega
  clear HF HB
  go_wp2_with (at_builtin;first
   |(refine z01 rfl (.tmp 18) (.tmp 22) _ rfl 5 i0 _ 1 1 Tryz.underlying27 hi0 hz0 hz1 hz2 rfl (by omega) rfl o1 _ (some ⟨k2,0,none⟩) pu.length cap2 (bl pu) rfl r2 (iP _) (by simp only[maxLen];omega) (by omega) ?_;intro v3 w3 o3 m3;have m3:Moved w2 w3 (.slice (some ⟨w1.heap.size,0,none⟩) 2 2) v3:=m3;have hb3:=m3.some_ hb0;have SE:=hrd.ch (by decide) m3.ch (fun k hk hd e=>by have hd2:k<w1.heap.size:=hd;have e2:w1.heap.size=k:=(by simpa [Value.ownBlock]using e);omega))
   |(refine z01 rfl (.tmp 32) (.tmp 33) _ rfl 5 i0 _ 1 1 Tryz.underlying27 hi0 hz0 hz1 hz2 rfl (by omega) rfl o3 _ A1 ds.length c1 (bl ds) rfl SE (iP _) (by simp only[maxLen];omega) (by omega) ?_;intro v5 w5 o5 m5;obtain ⟨k5,cap5,hv5,hcall⟩:=Fin.out w5 v5 (by rw[HI.out,HF1.out,HB1.out,List.length_append,List.length_append,show bl ([kind,1]++pu++ds)=bl [kind,1]++bl pu++bl ds by simp[bl]];exact o5) (m5.some_ hb3);rw[hv5]))
  with_reducible refine hcall.mono ?_
  rintro e w6 ⟨k6,cap6,rfl,o6,_,_,h6,_⟩;go_wp2_with fail;go_ret2;exact ⟨k6,cap6,rfl,o6,h6⟩
 ·have hL:=HB2.out hlt
  clear HA HB2;have HF1:Hid (dM xs=0):=ah (by rw[HF.out,if_neg hlt]);have HB1:Hid (dG xs=xs):=ah (by rw[HB.out,if_neg hlt]);have hq:((xs.length:Int)<=(L:Int)):=by omega
  clear HF HB
  go_wp2_with (at_builtin;first
   |(refine z01 rfl (.tmp 18) (.tmp 22) _ rfl 5 i0 _ 1 1 Tryz.underlying27 hi0 hz0 hz1 hz2 rfl (by omega) rfl o1 _ (some ⟨k2,0,none⟩) pu.length cap2 (bl pu) rfl r2 (iP _) (by simp only[maxLen];omega) (by omega) ?_;intro v3 w3 o3 m3;obtain ⟨k3,cap3,hv3,o4,hk3,hk3',hc3,_⟩:=fZ.jG o3 (m3.some_ hb0);injection hv3 with hv3;rw[hv3];have e31:w3.cell? ⟨k3,1,none⟩=some (.int .u8 1):=(o4.own.cellAt 1 (by omega)).trans rfl;have e3f:=o4.own.frozenAt 1;have o5:=o4.store 1 (.int .u8 0);have nx5:=o5.nx;have hrx5:=hr.nx (by decide) nx5)
   |(refine z01 rfl (.tmp 32) (.tmp 33) _ rfl 5 i0 _ 1 1 Tryz.underlying27 hi0 hz0 hz1 hz2 rfl (by omega) rfl o5 _ A xs.length c (bl xs) rfl hrx5 (iP _) (by simp only[maxLen];omega) (by omega) ?_;intro v5 w5 o6 m5;obtain ⟨k5,cap5,hv5,hcall⟩:=Fin.out w5 v5 (by rw[HI.out,HF1.out,HB1.out,List.length_append,List.length_append,show bl ([kind,0]++pu++xs)=(([]++bl [kind,1]++bl pu).set 1 (.int .u8 0))++bl xs by simp[bl]];exact o6) (Moved.some_ (v:=.slice (some ⟨k3,0,none⟩) (2+pu.length) cap3) m5 (by simp[Value.ownBlock]));rw[hv5]))
  with_reducible refine hcall.mono ?_
  rintro e w6 ⟨k6,cap6,rfl,o6,_,_,h6,_⟩;go_wp2_with fail;go_ret2;exact ⟨k6,cap6,rfl,o6,h6⟩
theorem oz (A:Option Addr) (n c kind:Nat) (W:World) (hn:65536<n):
 Calls Tryz.prog 33 #[.int .u8 (kind:Int),.slice A n c] W fun e w'=>e=.returned (.tuple #[.slice none 0 0,.int .i64 5])/\Nx W w':=by
 have Hd:=ah (z4S A n c W hn);go_enter Tryz.func33,Tryz.ntmps33;go_wp2_with fail;with_reducible refine Hd.out.mono ?_
 rintro e w1 ⟨rfl,n1⟩;go_wp2_with fail;go_ret2;exact ⟨rfl,n1⟩
def ji (l:List Bool):List Value:=l.map Value.bool
theorem vZ {l:List Bool} {k:Nat} (h:k<l.length):(ji l)[k]?=some (.bool l[k]):=by simp[ji,h]
def aU (l:List Bool):List Nat:=aj l.length++pack l
theorem z20 {l:List Bool} (h:l.length<=2048):okB (aU l):=fun x hx=>by
 rcases List.mem_append.1 hx with h1|h1
 ·exact z14 (by omega) x h1
 ·exact Va l x h1
theorem RN {l:List Bool} (h:l.length<=2048):(aU l).length<=300:=by
 unfold aU;rw[List.length_append,tZ];have:=(z07 (n:=l.length) (by omega)).2;omega
theorem ZI (D:Nat->Prop) (A:Option Addr) (n c:Nat) (l:List Bool) (W:World) (hr:Rd W D 1 A n (ji l)) (hl:l.length=n) (hn:n<=2048):
 Calls Tryz.prog 15 #[.slice A n c] W (z2b W (aC 4 (aU l))):=by
 obtain ⟨i0,hi0,hz0,hz1,hz2⟩:=info_parts Tryz.info5;subst hl;have hok:=z20 hn;have hcl:=RN hn;have HC:Hid (aU l=aj l.length++pack l):=ah rfl;have hpu:=fun w=>Uf l.length w (by omega);have hpl:=z07 (n:=l.length) (by omega);have pR:=ah hpu;have hw0:=ig.new W;have nw0:Nx W (W.alloc (.cells #[.slice none 0 0,.int .i64 0] 69)):=(Ch.refl _ W).alloc _;have h0:fC W (W.alloc (.cells #[.slice none 0 0,.int .i64 0] 69)) W.heap.size []:=⟨none,hw0,(fun j hj=>by cases hj),nw0⟩;clear hpu hw0 nw0;go_enter Tryz.func15,Tryz.ntmps15;go_wp2_with fail;go_loopw [12] (fun i wr=>∃k:Nat,k<=l.length/\i=.int .i64 (k:Int)/\fC W wr W.heap.size (l.take k)) (fun i _=>l.length-(intOf i).toNat)
 case atStart=>exact ⟨0,Nat.zero_le _,rfl,h0⟩
 case round=>
  clear h0;obtain ⟨w1,rfl⟩:∃w1:World,w1=wr:=⟨_,rfl⟩;obtain ⟨k,hk,rfl,h1,rw1,hh1,nx1⟩:=hrel;have hl1:(l.take k).length<=10000:=by rw[List.length_take];omega
  by_cases hlt:k<l.length
  ·obtain ⟨ad,u,rfl,kN,hu,hcx⟩:=(hr.nx (by decide) nx1).at_ hlt
   rw[vZ hlt]at hu;injection hu with hu;subst hu;have hsucc:l.take (k+1)=l.take k++[l[k]]:=List.take_succ_eq_append_getElem hlt;have Hs:=ah hsucc;clear hsucc;generalize l[k]=x at *;cases x
   ·go_wp2_with fail
    refine (Rz W.heap.size h1 _ 0 1 w1 rw1 (by omega) (by omega) (by omega)).mono ?_;rintro e w2 ⟨rfl,t2⟩;have h2:=fC.next nx1 (Nat.le_refl _) hh1 t2;rw[show numBits 0 1=[false] by decide]at h2;go_wp2_with fail;go_roundw
    case rel=>exact ⟨k+1,by omega,by go_num,by rw[Hs.out];exact h2⟩
    case measure=>simp[intOf];omega
   ·go_wp2_with fail
    refine (Rz W.heap.size h1 _ 1 1 w1 rw1 (by omega) (by omega) (by omega)).mono ?_;rintro e w2 ⟨rfl,t2⟩;have h2:=fC.next nx1 (Nat.le_refl _) hh1 t2;rw[show numBits 1 1=[true] by decide]at h2;go_wp2_with fail;go_roundw
    case rel=>exact ⟨k+1,by omega,by go_num,by rw[Hs.out];exact h2⟩
    case measure=>simp[intOf];omega
  ·have hkn:k=l.length:=by omega
   have htk:l.take k=l:=List.take_of_length_le (by omega);rw[htk]at rw1;clear htk;go_wp2_with fail;with_reducible refine (pR.out _).mono ?_
   rintro e w2 ⟨k2,cap2,rfl,o2,hk2,hk2',hc2,_⟩;have rw2:=rw1.ch o2.nx (fun hf=>hf) (fun _ _ hf=>hf);go_wp2_with fail;with_reducible refine (XH W.heap.size h1 l w2 rw2 (by omega)).mono ?_
   rintro e w3 ⟨k3,cap3,rfl,hk3,hk3',ho3,SE,nx3⟩;have o2':au W w3 5 1 (.slice (some ⟨k2,0,none⟩) (aj l.length).length cap2) (aj l.length).length (bl (aj l.length)):=⟨iT (o2.tr nx3).own nx1.size,nx1.tr (o2.nx.tr nx3)⟩
   have fin:∀(w5:World) (v5:Value),au W w5 5 1 v5 (aU l).length (bl (aU l))->v5.ownBlock≠none->∃k cap,v5=.slice (some ⟨k,0,none⟩) (aU l).length cap/\
    Calls Tryz.prog 33 #[.int .u8 4,.slice (some ⟨k,0,none⟩) (aU l).length cap] w5 (z2b W (aC 4 (aU l))):=fun w5 v5 o hb=>by
    obtain ⟨k,cap,hv,o4,hk1,hk2,hcp,_⟩:=fZ.jG o hb;injection hv with hv;subst hv;refine ⟨k,cap,rfl,(Ze (fun j=>j=k) (some ⟨k,0,none⟩) _ cap 4 (aU l) w5 o4.fM (fun j e=>by omega) hok rfl hcp (by omega) (by omega)).mono ?_⟩;rintro e w6 ⟨k6,cap6,rfl,o6,h6⟩;exact ⟨k6,cap6,rfl,⟨iT o6.own o4.nx.size,o4.nx.tr o6.nx⟩,h6⟩
   have Fin:=ah fin;clear fin ho3 o2 nx3;generalize aj l.length=pu at *;have hpkl:(pack l).length<=300:=by rw[tZ];omega
   generalize pack l=pk at *;go_wp2_with (at_builtin;refine z01 rfl (.tmp 23) (.tmp 24) _ rfl 5 i0 _ 1 1 Tryz.underlying27 hi0 hz0 hz1 hz2 rfl (by omega) rfl o2' _ (some ⟨k3,0,none⟩) pk.length cap3 (bl pk) rfl SE (iP _) (by simp only[maxLen];omega) (by omega) ?_;intro v5 w5 o5 m5;obtain ⟨k5,cap5,hv5,hcall⟩:=Fin.out w5 v5 (by rw[HC.out,List.length_append,show bl (pu++pk)=bl pu++bl pk by simp[bl]];exact o5) (Moved.some_ (v:=.slice (some ⟨k2,0,none⟩) pu.length cap2) m5 (by simp[Value.ownBlock]));rw[hv5])
   with_reducible refine hcall.mono ?_
   rintro e w6 ⟨k6,cap6,rfl,o6,h6⟩;go_wp2_with fail;go_ret2;exact ⟨k6,cap6,rfl,o6,h6⟩
theorem z5k (D:Nat->Prop) (A:Option Addr) (n c:Nat) (kind:Nat) (b:List Nat) (W:World) (hr:Rd W D 1 A n (bl b)) (dX:∀k,D k->k<W.heap.size) (ok:okB b) (hl:b.length=n) (hn:n<=1000000000) (hc:n<=c) (hno:¬z15 b) (er:Int) (her:(if b.length<4 then (3:Int) else 6)=er):
 Calls Tryz.prog 92 #[.int .u8 (kind:Int),.slice A n c] W fun e w'=>e=.returned (.tuple #[.pointer none,.int .i64 er])/\Nx W w':=by
 have hop:=XO D A n c b W hr dX ok hl hn hc;have Hop:=ah hop;have Hno:=ah hno;have hne:(er !=0)=true:=by rw[←her];split<;>rfl
 have Jr:=ah her;clear hop hno her;go_enter Tryz.func92,Tryz.ntmps92;go_wp2_with fail;with_reducible refine Hop.out.mono ?_
 rintro e w1 ⟨-,h2⟩;obtain ⟨rfl,n1⟩:=h2 Hno.out;rw[Jr.out];go_wp2_with fail;go_ret2;exact ⟨rfl,n1⟩
def Jh (W:World) (xs:List Nat) (e:Ending) (w':World):Prop:=
 ∃g A c D,e=.returned (.tuple #[.pointer (some ⟨g,0,none⟩),.int .i64 0])/\aJ w' D g A c xs 0 0/\Nx W w'/\W.heap.size<=g/\∀k,D k->W.heap.size<=k
theorem z2O (D:Nat->Prop) (A:Option Addr) (n c:Nat) (kind:Nat) (xs b:List Nat) (W:World) (hb:b=dL ([kind,0]++aj xs.length++xs)) (hr:Rd W D 1 A n (bl b)) (dX:∀k,D k->k<W.heap.size) (jB:okB xs) (hk:kind<256) (hl:b.length=n) (hc:n<=c) (hx:xs.length<=65536) (hx0:0<xs.length):
 Calls Tryz.prog 92 #[.int .u8 (kind:Int),.slice A n c] W (Jh W xs):=by
 obtain ⟨pl,hpl⟩:∃pl,(aj xs.length).length=pl:=⟨_,rfl⟩;have iY:=z07 (n:=xs.length) (by omega);rw[hpl]at iY;obtain ⟨t,ht⟩:∃t,[kind,0]++aj xs.length++xs=t:=⟨_,rfl⟩;have htl:t.length=2+pl+xs.length:=by rw[←ht,List.length_append,List.length_append,hpl];rfl
 have Df:okB t:=by
  rw[←ht];intro x h;rcases List.mem_append.1 h with h|h
  ·rcases List.mem_append.1 h with h|h
   ·simp only[List.mem_cons,List.not_mem_nil,or_false]at h
    rcases h with rfl|rfl<;>omega
   ·exact z14 (by omega) x h
  ·exact jB x h
 have hnum:aB t 2 0 65536=(xs.length,2+pl,0):=by
  have h1:ay t (2:Nat)=(xs.length,pl,0):=by
   have:=OQ (v:=xs.length) (by omega) [kind,0] xs;rw[hpl,ht]at this;exact this
  unfold aB;rw[if_neg (by simp),h1,if_neg (by simp),if_neg (by simp only;omega)]
 have hdrop:t.drop (2+pl)=xs:=by
  rw[←ht];have e:([kind,0]++aj xs.length).length=2+pl:=by rw[List.length_append,hpl];rfl
  rw[←e,List.drop_left]
 have hhead:(t.drop 0).take 2=[kind,0]:=by rw[←ht];rfl
 rw[ht]at hb;have hbl:b.length-4=t.length:=by rw[hb,AY];omega
 have hbt:b.take (b.length-4)=t:=by rw[hbl,hb];unfold dL;rw[List.take_left]
 have okb:okB b:=by rw[hb];exact XF Df
 have hopen:z15 b:=by rw[hb];exact Yk t
 have hbn:b.length=t.length+4:=by rw[hb,AY]
 have hop:=XO D A n c b W hr dX okb hl (by omega) hc;unfold OH at hop;rw[hbt,hbl]at hop;have Hop:=ah hop;have fU:=ah hopen;have kQ:=ah hnum;have Ak:=ah hdrop;have kE:=ah hhead;have htl1:2+pl+xs.length<=t.length:=by omega
 have htl2:t.length<=2+pl+xs.length:=by omega
 clear htl;clear hop hopen hnum hdrop hhead hbt hbl hb ht hpl hbn hl hr okb;go_enter Tryz.func92,Tryz.ntmps92;go_wp2_with fail;with_reducible refine Hop.out.mono ?_
 rintro e w1 ⟨h1, -⟩;obtain ⟨k1,cap1,rfl,o1,hcap1⟩:=h1 fU.out;have n1:=o1.nx;have r1:=o1.fM;go_wp2_with fail;with_reducible refine (RG _ _ _ _ t w1 r1 Df rfl (by omega)).mono ?_
 rintro e w2 ⟨g,A2,c2,rfl,cu2,n2,hg⟩;have r2:=r1.nx (by decide) n2;go_wp2_with fail;refine (z12 cu2 2 (by omega)).mono ?_;rintro e w3 ⟨k3,cap3,rfl,t3,o3,hc3,hk3⟩;rw[kE.out]at o3;rw[Nat.zero_add]at t3;have zy:k1≠g:=by have:=(o1.lt k1 rfl).2;omega
 have r3:=r2.ch (by decide) t3.dN (fun k _ e1 e2=>zy (by rw[←e1,←e2]));have n3:Nx W w3:=(n1.tr n2).trans t3.dN fun i hi e=>by have:=n1.size;omega
 go_wp2_with fail;have hnm:=FT t3.cur 65536 (by omega) (by omega);rw[kQ.out]at hnm;with_reducible refine hnm.mono ?_
 rintro e w4 ⟨rfl,t4⟩;have t4:dA w3 _ g A2 c2 t (2+pl) 0 w4:=t4;clear hnm;have Wi:k3≠g:=by have:=cu2.blk.lt;omega
 have o4:=z06 o3 t4.dN (fun k hk e=>by simp[Value.ownBlock]at hk;omega);have r4:=r3.ch (by decide) t4.dN (fun k _ e1 e2=>zy (by rw[←e1,←e2]));have n4:Nx W w4:=n3.trans t4.dN fun i hi e=>by have:=n1.size;omega
 have cu4:=t4.cur
 have tail:∀w6,Nx w4 w6->w6.cell? ⟨k3,0,none⟩=some (.int .u8 (kind:Int))/\w6.cell? ⟨k3,1,none⟩=some (.int .u8 0)/\aJ w6 _ g A2 c2 t (2+pl) 0/\Rd w6 (fun k=>k=k1) 1 (some ⟨k1,0,none⟩) t.length (bl t)/\Nx W w6:=fun w6 n6=>
  ⟨(z06 o4 n6 (fun _ _ hf=>hf)).cellAt 0 (by omega),(z06 o4 n6 (fun _ _ hf=>hf)).cellAt 1 (by omega),cu4.nx n6,r4.nx (by decide) n6,n4.tr n6⟩
 have Tail:=ah tail;have hend:=fun w6 (n6:Nx w4 w6)=>EG (cu4.nx n6);have jd:=ah hend;have Wh:k3<w4.heap.size:=(o4.lt k3 rfl).2;clear tail hend o4 r4 n4 cu4 t4 t3 o3 r3 n3 n1 n2 r1 r2 o1 cu2 Hop fU kQ kE;have ne1:(5:Int)≠0:=by decide
 ·have hE:bn t.length (2+pl) 0=5:=by unfold bn;rw[if_neg (by simp),if_pos (by omega)]
  have hcc:¬cap1=2+pl:=by omega
  go_wp2_with fail;have he1:=jd.out _ (Ch.refl _ w4);rw[hE]at he1;with_reducible refine he1.mono ?_
  rintro e w5 ⟨rfl,d5⟩;have n5:=d5.nx;clear he1 d5;go_wp2_with fail;have he2:=jd.out _ n5;rw[hE]at he2;with_reducible refine he2.mono ?_
  rintro e w6 ⟨rfl,d6⟩;obtain ⟨c0,c1,cu6,r6,n6⟩:=Tail.out w6 (n5.tr d6.nx);clear he2 d6 n5;go_wp2_with fail;with_reducible refine (DZ cu6).mono ?_
  rintro e w7 ⟨rfl,rfl⟩;have b1:(0:Int)<=((2+pl:Nat):Int):=by omega
  have b2:((2+pl:Nat):Int)<=(t.length:Int):=by omega
  have hct:=r6.cut (k:=2+pl) (cap:=cap1) (by omega) hcap1;rw[Nat.mul_one,show (bl t).drop (2+pl)=bl (t.drop (2+pl)) by simp[bl,List.map_drop],Ak.out,if_neg hcc,show t.length-(2+pl)=xs.length by omega]at hct;have hle:t.length-(2+pl)=xs.length:=by omega
  have ha:Option.map (fun x=>Addr.add x (2+pl)) (some ⟨k1,0,none⟩)=some ⟨k1,2+pl,none⟩:=by
   simp only[Option.map_some,Option.some.injEq];unfold Addr.add;rw[if_neg (by omega)];simp
  rw[ha]at hct;clear ha h1;go_wp2_with fail;with_reducible refine (RG _ _ _ _ xs w6 hct jB rfl (by omega)).mono ?_
  rintro e w7 ⟨g7,A7,c7,rfl,cu7,n7,hg7⟩;go_wp2_with fail;go_ret2;have hs6:=n6.size;exact ⟨g7,A7,c7,_,rfl,cu7,n6.tr n7,by omega,fun k hk=>by omega⟩
theorem Tryz.LP:(Tryz.prog.info? 4).map (fun i=>(i.zero,i.size,i.bytes))=some (some (.bool false),1,1):=by kernel_rfl
def TV (w:World) (D:Nat->Prop) (g:Nat) (A:Option Addr) (c:Nat) (xs:List Nat) (l:List Bool) (e:Ending) (w':World):Prop:=
 ∃v,e=.returned v/\w'.ownsRow w.heap.size 4 1 v l.length (ji l)/\aJ w' D g A c xs xs.length 0/\Ch (· =g) w w'
theorem Ee (D:Nat->Prop) (g:Nat) (A:Option Addr) (c:Nat) (l:List Bool) (W:World) (h:aJ W D g A c (aU l) 0 0) (hn:l.length<=2048):
 Calls Tryz.prog 68 #[.pointer (some ⟨g,0,none⟩)] W (TV W D g A c (aU l) l):=by
 obtain ⟨i0,hi0,hz0,hz1,hz2⟩:=info_parts Tryz.LP;obtain ⟨pl,hpl⟩:∃pl,(aj l.length).length=pl:=⟨_,rfl⟩;have iY:=z07 (n:=l.length) (by omega);rw[hpl]at iY;have hpk:=tZ l;have hfl:(aU l).length=pl+(l.length+7) / 8:=by unfold aU;rw[List.length_append,hpl,hpk]
 have hnum:aB (aU l) 0 0 2048=(l.length,pl,0):=by
  have h1:ay (aU l) (0:Nat)=(l.length,pl,0):=by
   have:=OQ (v:=l.length) (by omega) [] (pack l);rw[hpl]at this;exact this
  unfold aB;rw[if_neg (by simp),h1,if_neg (by simp),if_neg (by simp only;omega)];simp
 have hdrop:((aU l).drop pl).take ((l.length+7) / 8)=pack l:=by
  unfold aU;rw[←hpl,List.drop_left,List.take_of_length_le (by rw[hpk];exact Nat.le_refl _)]
 have hbit:∀k (hk:k<l.length),aS (pack l) k 1=iZ l[k]:=fun k hk=>by
  have e:aS (pack l) k 1=dO (pack l) k:=by simp[aS]
  rw[e,Vf];simp[List.getD,hk]
 have okp:okB (pack l):=Va l;have kQ:=ah hnum;have Ak:=ah hdrop;have Hbit:=ah hbit;have Hpk:=ah hpk;have YK:=ah hfl;have hm1:pl+(l.length+7) / 8<=(aU l).length:=by omega
 clear hnum hdrop hbit hpk hfl;have hnm:=FT h 2048 (by omega) (by omega);rw[kQ.out]at hnm;have kD:=ah hnm;have fK:=h.bnd;clear hnm h hpl;generalize aU l=fc at *;go_enter Tryz.func68,Tryz.ntmps68;go_wp2_with fail;with_reducible refine kD.out.mono ?_
 rintro e w1 ⟨rfl,t1⟩;have t1:dA W D g A c fc pl 0 w1:=t1;have kd:((l.length:Int)+7) / 8=(((l.length+7) / 8:Nat):Int):=by omega
 obtain ⟨m,hm⟩:∃m,(l.length+7) / 8=m:=⟨_,rfl⟩;rw[hm]at kd hm1;have Hm:=ah hm;clear hm;go_wp2_with fail;with_reducible refine (z12 t1.cur m hm1).mono ?_
 rintro e w2 ⟨k2,cap2,rfl,t2,o2,hc2,hk2⟩;rw[←Hm.out,Ak.out,Hm.out]at o2;have r2:=Rd.bY o2;have hpm:(pack l).length=m:=by rw[Hpk.out,Hm.out]
 go_wp2_with fail;with_reducible refine (ZG _ _ m cap2 (pack l) w2 r2 (by omega) okp).mono ?_
 rintro e w3 ⟨rg,rh,rfl,rd3,hrg,hrh,hrg',hrh',n3⟩;have t3:dA W D g A c fc (pl+m) 0 w3:=⟨(t1.trans t2).cur.nx n3,(t1.trans t2).dN.tr n3⟩;have hsz:=(t1.trans t2).dN.size;have hgw:g<w2.heap.size:=(t1.trans t2).cur.blk.lt;have hs3:=n3.size;clear t1 t2 r2 o2;go_wp2_with fail;go_loopw [5,17] (fun v i wr=>∃k:Nat,k<=l.length/\i=.int .i64 (k:Int)/\cZ wr rg rh (pack l) k/\wr.ownsRow w3.heap.size 4 1 v k (ji (l.take k))/\Ch (· =rg) w3 wr) (fun _ i _=>l.length-(intOf i).toNat)
 case atStart=>exact ⟨0,Nat.zero_le _,rfl,rd3,World.ownsRow_nil _ _ _ _,Ch.refl _ _⟩
 case round=>
  obtain ⟨w4,rfl⟩:∃w4:World,w4=wr:=⟨_,rfl⟩;obtain ⟨k,hk,rfl,rd4,o4,c4⟩:=hrel;by_cases hlt:k<l.length
  ·have hbk:=Hbit.out k hlt
   have hsucc:ji (l.take (k+1))=ji (l.take k)++[.bool l[k]]:=by
    rw[List.take_succ_eq_append_getElem hlt];unfold ji;rw[List.map_append];rfl
   have Hs:=ah hsucc;clear hsucc;generalize l[k]=x at *;have hrb:=ny rg rh (pack l) k 1 w4 rd4 (by omega) (by omega);rw[hbk]at hrb;have Hrb:=ah hrb;clear hrb hbk
   have one:∀(w5:World) (u5:Value),Ch (· =rg) w4 w5->cZ w5 rg rh (pack l) (k+1)->∀(v':Value) (w6:World) (X:Obj),(w5.alloc X).grownBy w6 u5.ownBlock->(∀j,u5.ownBlock=some j->w3.heap.size<=j)->cZ w6 rg rh (pack l) (k+1)/\Ch (· =rg) w3 w6:=fun w5 u5 c5 rd5 v' w6 X hg hu=>by
    have c6:Ch (fun j=>u5.ownBlock=some j) w5 w6:=((Ch.refl _ w5).alloc X).grown hg fun j hj _=>hj;exact ⟨rd5.ch c6 (fun e=>by have:=hu _ e;omega) (fun e=>by have:=hu _ e;omega),(c4.trans c5 fun _ _ e=>e).trans c6 fun i hi e=>by have:=hu _ e;omega⟩
   have One:=ah one;clear one;cases x
   all_goals
    go_wp2_with fail;refine Hrb.out.mono ?_;rintro e w5 ⟨rfl,rd5,c5⟩;have o5:=z06 o4 c5 (fun j hj e=>by have:=(o4.lt j hj).1;omega);have hu5:∀j,u5.ownBlock=some j->w3.heap.size<=j:=fun j hj=>(o4.lt j hj).1;have hw5:=(c4.trans c5 fun _ _ e=>e).size;simp only[iZ];go_wp2_with (at_builtin;refine z00 _ rfl (.tmp 24) (.tmp 27) _ rfl w3.heap.size 4 i0 _ 1 1 Tryz.underlying24 hi0 hz0 hz1 hz2 rfl (by omega) _ k (ji (l.take k)) rfl (z06 o5 ((Ch.refl (fun _=>False) w5).alloc _) (fun _ _ hf=>hf)) (fun _=>True) _ 1 1 [_] rfl ⟨rfl,fun _=>⟨⟨w5.heap.size,0,none⟩,rfl,trivial,cell_one_new _ _ _⟩⟩ (by intro u hu;simp at hu;subst hu;rfl) (by simp only[maxLen];omega) (by omega) (by simp;omega) ?_;intro v' w6 h2 h3 h4)
    go_roundw
    case rel=>
     obtain ⟨q1,q2⟩:=One.out w5 u5 c5 rd5 v' w6 _ h3 hu5;exact ⟨k+1,by omega,by go_num,q1,by rw[Hs.out];exact h2,q2⟩
    case measure=>simp[intOf];omega
  ·obtain rfl:k=l.length:=by omega
   rw[List.take_length]at o4;have hfc:pl+m=fc.length:=(by rw[YK.out,Hm.out]);have hgr:g≠rg:=(by omega);go_wp2_with fail;go_ret;rw[hfc]at t3;exact ⟨_,rfl,iT o4 (by omega),t3.cur.ch c4 hgr (fun j hj e=>by have:=fK j hj;omega),t3.dN.trans c4 fun i hi e=>by omega⟩
def FK (W:World) (l:List Bool) (e:Ending) (w':World):Prop:=
 ∃v,e=.returned (.tuple #[v,.int .i64 0])/\au W w' 4 1 v l.length (ji l)
theorem IK (D:Nat->Prop) (A:Option Addr) (n c:Nat) (l:List Bool) (W:World) (hr:Rd W D 1 A n (bl (aC 4 (aU l)))) (hl:(aC 4 (aU l)).length=n) (hn:l.length<=2048)
 (hcont:Calls Tryz.prog 92 #[.int .u8 4,.slice A n c] W (Jh W (aU l))):
 Calls Tryz.prog 67 #[.int .u8 4,.slice A n c,.func (.func 68) #[] #[],.func (.func 15) #[] #[]] W (FK W l):=by
 have hput:=fun (D:Nat->Prop) (A:Option Addr) (c:Nat) (w:World) (h:Rd w D 1 A l.length (ji l))=>ZI D A l.length c l w h rfl hn;have hcl:=fun (D:Nat->Prop) (g:Nat) (A:Option Addr) (c:Nat) (w:World) (h:aJ w D g A c (aU l) 0 0)=>Ee D g A c l w h hn;have hstr:=fun (D:Nat->Prop) (A:Option Addr) (c:Nat) (w:World) (h:Rd w D 1 A n (bl (aC 4 (aU l))))=>xB (P:=Tryz.prog) w 27 9 5 Tryz.underlying27 Tryz.underlying5 Tryz.underlying9 D A n c _ h;have iJ:=ah hput;have tJ:=ah hcl;have eU:=ah hstr;have Hc:=ah hcont;clear hput hcl hstr hcont;generalize aU l=fc at *;generalize aC 4 fc=ch at *;subst hl;go_enter Tryz.func67,Tryz.ntmps67;go_wp2_with fail;with_reducible refine Hc.out.mono ?_
 rintro e w1 ⟨g,A1,c1,D1,rfl,cu1,n1,hg,hD1⟩;go_wp2_with fail;with_reducible refine (tJ.out _ _ _ _ _ cu1).mono ?_
 rintro e w2 ⟨v2,rfl,o2,cu2,c2⟩;have n2:Nx W w2:=n1.trans c2 fun i hi e=>by omega
 have hs1:=n1.size;have vG:au W w2 4 1 v2 l.length (ji l):=⟨iT o2 hs1,n2⟩;obtain ⟨A2,cc2,rfl,_,_⟩:=z05 o2;have hen:=EG cu2;rw[show bn fc.length fc.length 0=0 by unfold bn;rw[if_neg (by simp),if_neg (by omega)]]at hen;have fV:=ah hen;clear hen o2 c2 cu1 cu2;go_wp2_with fail;with_reducible refine fV.out.mono ?_
 rintro e w3 ⟨rfl,d3⟩;have o3:=vG.tr d3.nx;clear d3 fV;go_wp2_with fail;with_reducible refine (iJ.out _ _ _ _ o3.rd).mono ?_
 rintro e w4 ⟨k4,cap4,rfl,o4,h4⟩;have o5:=o3.tr o4.nx;have n5:=o5.nx;have e1:=eU.out _ _ cap4 w4 o4.fM;have e2:=eU.out D A c w4 (hr.nx (by decide) n5);generalize b_ ch=sx at *;go_wp2_with fail;go_ret2;exact ⟨_,rfl,o5⟩
theorem sZ (D:Nat->Prop) (A:Option Addr) (n c:Nat) (l:List Bool) (W:World) (hr:Rd W D 1 A n (bl (aC 4 (aU l)))) (hl:(aC 4 (aU l)).length=n) (hn:l.length<=2048)
 (hcont:Calls Tryz.prog 92 #[.int .u8 4,.slice A n c] W (Jh W (aU l))):
 Calls Tryz.prog 28 #[.slice A n c] W (FK W l):=by
 have Hr:=ah (IK D A n c l W hr hl hn hcont);clear hr hcont hl;go_enter Tryz.func28,Tryz.ntmps28;go_wp2_with fail;with_reducible refine Hr.out.mono ?_
 rintro e w1 ⟨v,rfl,h⟩;go_wp2_with fail;go_ret2;exact ⟨_,rfl,h⟩
theorem z36:aU [true,false,true]=[3,5]:=by decide+kernel
theorem z4p:dM [3,5]=0/\dG [3,5]=[3,5]:=by decide+kernel
theorem ZM:aC 4 [3,5]=dL ([4,0]++aj [3,5].length++[3,5]):=by
 unfold aC jI;rw[z4p.1,z4p.2]
theorem Zv:(aC 4 [3,5]).length=9:=by
 rw[ZM,AY];have:aj [3,5].length=[2]:=JF (by decide);rw[this];rfl
theorem Es:(bl (aC 4 [3,5]))[4]?=some (.int .u8 5):=by
 rw[ZM];have:aj [3,5].length=[2]:=JF (by decide);rw[this];rfl
theorem z54 (W:World):Calls Tryz.prog 5 #[] W fun e W'=>e=.returned (.bool true)/\Nx W W':=by
 have hr0:Rd (W.alloc (.cells #[.bool true,.bool false,.bool true] 4)) (fun k=>k=W.heap.size) 1 (some ⟨W.heap.size,0,none⟩) 3 (ji [true,false,true]):=Rd.lit W #[.bool true,.bool false,.bool true] 4 (0,0);have hn0:Nx W (W.alloc (.cells #[.bool true,.bool false,.bool true] 4)):=(Ch.refl _ W).alloc _;have hput:=ZI _ _ 3 3 [true,false,true] _ hr0 rfl (by decide);rw[z36]at hput;have iJ:=ah hput;clear hput hr0
 have hcont:=fun (D:Nat->Prop) (A:Option Addr) (c:Nat) (w:World) (h:Rd w D 1 A 9 (bl (aC 4 [3,5]))) (hD:∀k,D k->k<w.heap.size) (hc:9<=c)=>
  z2O D A 9 c 4 [3,5] (aC 4 [3,5]) w ZM h hD (by unfold okB;decide) (by decide) Zv hc (by decide) (by decide)
 have hfl:=fun (D:Nat->Prop) (A:Option Addr) (c:Nat) (w:World) (h:Rd w D 1 A 9 (bl (aC 4 [3,5]))) (hD:∀k,D k->k<w.heap.size) (hc:9<=c)=>
  sZ D A 9 c [true,false,true] w (by rw[z36];exact h) (by rw[z36];exact Zv) (by decide) (by rw[z36];exact hcont D A c w h hD hc)
 have YK:=ah hfl;clear hcont hfl;unfold z2b at iJ;rw[Zv]at iJ;go_enter Tryz.func5,Tryz.ntmps5;go_wp2_with fail;with_reducible refine iJ.out.mono ?_
 rintro e w1 ⟨k1,cap1,rfl,o1,hc1⟩;have n1:=hn0.tr o1.nx;have hk1:=(o1.lt k1 rfl).2;go_wp2_with fail;with_reducible refine (YK.out _ _ cap1 w1 o1.fM (fun j e=>by omega) hc1).mono ?_
 rintro e w2 ⟨v2,rfl,o2⟩;have n2:=n1.tr o2.nx;have c4:w2.cell? ⟨k1,4,none⟩=some (.int .u8 5):=((o1.tr o2.nx).own.cellAt 4 (by omega)).trans Es;obtain ⟨A2,c2,rfl,_,_⟩:=o2.form;rw[show [true,false,true].length=3 from rfl];clear o1 o2 iJ YK;go_wp2_with fail;go_ret;exact ⟨rfl,n2⟩
end Go.Proofs.YtfljcllpmbnjaaaGreat
