/- Contracts and plain laws that the last text rests on. Conditions: each theorem states its own. -/
import Derived.Test.YtdbfejfhpkakhaaGreatKKd2Q17
import Derived.Test.YtdbfejfhpkakhaaGreatKKd2Q16
import Derived.Test.YtdbfejfhpkakhaaGreatKKd2Q13
import Derived.Deep.RegionLaw
import Derived.BigRegion
import Derived.Deep.RegionHeld3
set_option maxRecDepth 100000
set_option maxHeartbeats 8000000
set_option linter.unusedVariables false
set_option linter.unusedSimpArgs false
namespace Go.Proofs.YtdbfejfhpkakhaaGreat
open Go.RowKit
theorem Rd.below_ {w:World} {D:Nat->Prop} {size n:Nat} {A:Option Addr} {xs:List Value} (h:Rd w D size A n xs) (hs:0<size):Rd w (· <w.heap.size) size A n xs:=
 ⟨h.1,fun hn=>by
   obtain ⟨ad,e,hb,hc⟩:=h.2 hn;obtain ⟨ad',e',_,hlt⟩:=h.lt_ hs hn;rw[e]at e';injection e' with e';subst e';exact ⟨ad,e,hlt,hc⟩⟩
theorem mO (l:List Bool):okB (pack l):=by
 intro x hx;unfold pack at hx;obtain ⟨i,_,rfl⟩:=List.mem_map.1 hx;exact rG l i
theorem Pj {xs:List Nat} (ok:okB xs) (hl:xs.length<=65535):okB (dA xs):=by
 intro x hx;unfold dA S_ at hx;simp only[List.cons_append,List.nil_append,List.mem_cons]at hx;rcases hx with rfl|rfl|rfl|rfl|rfl|h
 ·omega
 ·omega
 ·omega
 ·omega
 ·omega
 ·exact ok x h
theorem JU {xs:List Nat} (ok:okB xs) (hl:xs.length<=65535):okB (bY xs):=by
 unfold bY;split
 ·exact mO _
 ·exact Pj ok hl
theorem Hg (xs:List Nat):(bY xs).length<=xs.length+5:=by
 unfold bY;split
 ·next h=>have:(dA xs).length=xs.length+5:=by simp[dA,S_]
          omega
 ·simp[dA,S_]
def qY (xs:List Nat):Nat:=if (bY xs).length<xs.length then 1 else 0
def iP (xs:List Nat):List Nat:=if (bY xs).length<xs.length then bY xs else xs
def Dc (kind:Nat) (xs:List Nat):List Nat:=[kind,qY xs]++aB xs.length++iP xs
def aI (kind:Nat) (xs:List Nat):List Nat:=iJ (Dc kind xs)
theorem JV {xs:List Nat} (ok:okB xs) (hl:xs.length<=65536):okB (iP xs):=by
 unfold iP;split
 ·next h=>
  by_cases h5:xs.length<=65535
  ·exact JU ok h5
  ·have hs:=lJ xs
   unfold bY at h ⊢;split
   ·exact mO _
   ·next h2=>rw[if_neg h2]at h;omega
 ·exact ok
theorem qO {kind:Nat} (hk:kind<256) {xs:List Nat} (ok:okB xs) (hl:xs.length<=65536):okB (Dc kind xs):=by
 intro x hx;unfold Dc at hx;rcases List.mem_append.1 hx with h|h
 ·rcases List.mem_append.1 h with h|h
  ·simp only[List.mem_cons,List.not_mem_nil,or_false]at h
   rcases h with rfl|rfl
   ·exact hk
   ·unfold qY;split<;>omega
  ·exact iG (by omega) x h
 ·exact JV ok hl x h
theorem Io (xs:List Nat):(iP xs).length<=xs.length:=by
 unfold iP;split<;>omega
theorem Ce {kind:Nat} {xs:List Nat} (hl:xs.length<=65536):(aI kind xs).length<=xs.length+16:=by
 unfold aI Dc;rw[Zh,List.length_append,List.length_append];have h1:=Io xs;have h2:=(z08 (n:=xs.length) (by omega)).2;simp only[List.length_cons,List.length_nil];omega
theorem aF.store {W w:World} {e:TypeId} {n g c:Nat} {xs:List Value} {size:Nat} (h:aF W w e size (.slice (some ⟨g,0,none⟩) n c) n xs) (j:Nat) (u:Value):
 aF W (w.setCell ⟨g,j,none⟩ u) e size (.slice (some ⟨g,0,none⟩) n c) n (xs.set j u):=
 ⟨(h.own.stored j u).1,h.nx.setCell (fun hlt=>absurd hlt (Nat.not_lt.2 (h.lt g rfl).1)) u⟩
def Ri (W:World) (xs:List Nat) (e:Ending) (w':World):Prop:=
 ∃k cap,e=.returned (.tuple #[.slice (some ⟨k,0,none⟩) xs.length cap,.int .i64 0])/\aF W w' 5 1 (.slice (some ⟨k,0,none⟩) xs.length cap) xs.length (bl xs)/\xs.length<=cap
theorem ZU (D:Nat->Prop) (A:Option Addr) (n c kind:Nat) (xs:List Nat) (W:World) (hr:Rd W D 1 A n (bl xs)) (Wq:∀k,D k->k<W.heap.size) (ok:okB xs) (hl:xs.length=n) (hc:n<=c) (hn:n<=65536) (hk:kind<256):
 Calls Tryz.prog 173 #[.int .u8 (kind:Int),.slice A n c] W (Ri W (aI kind xs)):=by
 obtain ⟨i0,hi0,hz0,hz1,hz2⟩:=info_parts Tryz.info5;subst hl;have hinn:=qO hk ok hn;have hdl:=Hg xs;have hcl:(Dc kind xs).length+4=(aI kind xs).length:=by unfold aI;rw[Zh]
 have HI:Hid (Dc kind xs=[kind,qY xs]++aB xs.length++iP xs):=ah rfl;have HF:Hid (qY xs=if (bY xs).length<xs.length then 1 else 0):=ah rfl;have HB:Hid (iP xs=if (bY xs).length<xs.length then bY xs else xs):=ah rfl;have HC:Hid (aI kind xs=iJ (Dc kind xs)):=ah rfl;have hdf:=oQ D A xs.length c xs W hr ok rfl hc hn;unfold SX at hdf;have hpl:=z08 (n:=xs.length) (by omega);have hpu:=fun w=>z10 xs.length w (by omega);have okU:okB (aB xs.length):=iG (by omega);generalize aB xs.length=pu at *;generalize bY xs=ds at *;have Hdf:=ah hdf;have zo:=ah hpu;clear hdf hpu;go_enter Tryz.func173,Tryz.ntmps173;go_wp2_with fail;with_reducible refine Hdf.out.mono ?_
 rintro e w1 ⟨A1,c1,L,rfl,n1,hA,hB⟩;have HA:=ah hA;have HB2:=ah hB;clear hA hB;have o0:aF W (w1.alloc (.cells #[.int .u8 (kind:Int),.int .u8 1] 5)) 5 1 (.slice (some ⟨w1.heap.size,0,none⟩) 2 2) 2 (bl [kind,1]):=⟨z2s w1 _ _ 1 _ 2 n1.size (by simp[maxLen]) (by simp),n1.alloc _⟩;have hb0:(Value.slice (some ⟨w1.heap.size,0,none⟩) 2 2).ownBlock≠none:=by simp[Value.ownBlock]
 go_wp2_with fail;with_reducible refine (zo.out _).mono ?_
 rintro e w2 ⟨k2,cap2,rfl,o2,hk2,hk2',hc2,_⟩;have o1:=o0.tr o2.nx;have r2:=o2.tZ;have n2:Nx W w2:=o1.nx;have hrx:=hr.nx (by decide) n2;have hN1:=((Ch.refl (fun _=>False) w1).alloc (.cells #[.int .u8 (kind:Int),.int .u8 1] 5)).tr o2.nx;clear n1 o0
 have fin:∀(w5:World) (v5:Value),aF W w5 5 1 v5 (Dc kind xs).length (bl (Dc kind xs))->v5.ownBlock≠none->∃k cap,v5=.slice (some ⟨k,0,none⟩) (Dc kind xs).length cap/\
  Calls Tryz.prog 104 #[.slice (some ⟨k,0,none⟩) (Dc kind xs).length cap] w5 (pX W 5 1 (aI kind xs).length (bl (aI kind xs))):=fun w5 v5 o hb=>by
  obtain ⟨k,cap,hv,o4,hk1,hk2,_,_⟩:=pX.A_ o hb;injection hv with hv;subst hv
  have hil:(Dc kind xs).length<=1000000000:=by
   have:=Ce (kind:=kind) hn;omega
  refine ⟨k,cap,rfl,(yc (fun j=>j=k) (some ⟨k,0,none⟩) _ cap (Dc kind xs) w5 o4.tZ (fun j e=>by omega) hinn rfl hil).mono ?_⟩;rintro e w6 ⟨k6,cap6,rfl,o6,h1,h2,h3,h4⟩;rw[hcl]at o6 h3 ⊢;exact ⟨k6,cap6,rfl,⟨su o6.own o4.nx.size,o4.nx.tr o6.nx⟩,Nat.le_trans o4.nx.size h1,h2,h3,h4⟩
 have Fin:=ah fin;clear fin hcl;by_cases hlt:ds.length<xs.length
 ·obtain ⟨hL,D1,hr1⟩:=HA.out hlt
  subst hL;have hrd:=(hr1.below_ (by decide)).nx (by decide) hN1;clear hr1 HA HB2;have HF1:Hid (qY xs=1):=ah (by rw[HF.out,if_pos hlt]);have HB1:Hid (iP xs=ds):=ah (by rw[HB.out,if_pos hlt]);have hq:¬((xs.length:Int)<=(ds.length:Int)):=by omega
  clear HF HB
  go_wp2_with (at_builtin;first
   |(refine z05 rfl (.tmp 18) (.tmp 22) _ rfl 5 i0 _ 1 1 Tryz.underlying47 hi0 hz0 hz1 hz2 rfl (by omega) rfl o1 _ (some ⟨k2,0,none⟩) pu.length cap2 (bl pu) rfl r2 (jk _) (by simp only[maxLen];omega) (by omega) ?_;intro v3 w3 o3 m3;have m3:Moved w2 w3 (.slice (some ⟨w1.heap.size,0,none⟩) 2 2) v3:=m3;have hb3:=m3.some_ hb0;have Um:=hrd.ch (by decide) m3.ch (fun k hk hd e=>by have hd2:k<w1.heap.size:=hd;have e2:w1.heap.size=k:=(by simpa [Value.ownBlock]using e);omega))
   |(refine z05 rfl (.tmp 32) (.tmp 33) _ rfl 5 i0 _ 1 1 Tryz.underlying47 hi0 hz0 hz1 hz2 rfl (by omega) rfl o3 _ A1 ds.length c1 (bl ds) rfl Um (jk _) (by simp only[maxLen];omega) (by omega) ?_;intro v5 w5 o5 m5;obtain ⟨k5,cap5,hv5,hcall⟩:=Fin.out w5 v5 (by rw[HI.out,HF1.out,HB1.out,List.length_append,List.length_append,show bl ([kind,1]++pu++ds)=bl [kind,1]++bl pu++bl ds by simp[bl]];exact o5) (m5.some_ hb3);rw[hv5]))
  with_reducible refine hcall.mono ?_
  rintro e w6 ⟨k6,cap6,rfl,o6,_,_,h6,_⟩;go_wp2_with fail;go_ret2;exact ⟨k6,cap6,rfl,o6,h6⟩
 ·have hL:=HB2.out hlt
  clear HA HB2;have HF1:Hid (qY xs=0):=ah (by rw[HF.out,if_neg hlt]);have HB1:Hid (iP xs=xs):=ah (by rw[HB.out,if_neg hlt]);have hq:((xs.length:Int)<=(L:Int)):=by omega
  clear HF HB
  go_wp2_with (at_builtin;first
   |(refine z05 rfl (.tmp 18) (.tmp 22) _ rfl 5 i0 _ 1 1 Tryz.underlying47 hi0 hz0 hz1 hz2 rfl (by omega) rfl o1 _ (some ⟨k2,0,none⟩) pu.length cap2 (bl pu) rfl r2 (jk _) (by simp only[maxLen];omega) (by omega) ?_;intro v3 w3 o3 m3;obtain ⟨k3,cap3,hv3,o4,hk3,hk3',hc3,_⟩:=pX.A_ o3 (m3.some_ hb0);injection hv3 with hv3;rw[hv3];have e31:w3.cell? ⟨k3,1,none⟩=some (.int .u8 1):=(o4.own.cellAt 1 (by omega)).trans rfl;have e3f:=o4.own.frozenAt 1;have o5:=o4.store 1 (.int .u8 0);have nx5:=o5.nx;have hrx5:=hr.nx (by decide) nx5)
   |(refine z05 rfl (.tmp 32) (.tmp 33) _ rfl 5 i0 _ 1 1 Tryz.underlying47 hi0 hz0 hz1 hz2 rfl (by omega) rfl o5 _ A xs.length c (bl xs) rfl hrx5 (jk _) (by simp only[maxLen];omega) (by omega) ?_;intro v5 w5 o6 m5;obtain ⟨k5,cap5,hv5,hcall⟩:=Fin.out w5 v5 (by rw[HI.out,HF1.out,HB1.out,List.length_append,List.length_append,show bl ([kind,0]++pu++xs)=(([]++bl [kind,1]++bl pu).set 1 (.int .u8 0))++bl xs by simp[bl]];exact o6) (Moved.some_ (v:=.slice (some ⟨k3,0,none⟩) (2+pu.length) cap3) m5 (by simp[Value.ownBlock]));rw[hv5]))
  with_reducible refine hcall.mono ?_
  rintro e w6 ⟨k6,cap6,rfl,o6,_,_,h6,_⟩;go_wp2_with fail;go_ret2;exact ⟨k6,cap6,rfl,o6,h6⟩
theorem nH (A:Option Addr) (n c kind:Nat) (W:World) (hn:65536<n):
 Calls Tryz.prog 173 #[.int .u8 (kind:Int),.slice A n c] W fun e w'=>e=.returned (.tuple #[.slice none 0 0,.int .i64 5])/\Nx W w':=by
 have Hd:=ah (z3p A n c W hn);go_enter Tryz.func173,Tryz.ntmps173;go_wp2_with fail;with_reducible refine Hd.out.mono ?_
 rintro e w1 ⟨rfl,n1⟩;go_wp2_with fail;go_ret2;exact ⟨rfl,n1⟩
def Ws (l:List Bool):List Value:=l.map Value.bool
theorem Qb {l:List Bool} {k:Nat} (h:k<l.length):(Ws l)[k]?=some (.bool l[k]):=by simp[Ws,h]
def qc (l:List Bool):List Nat:=aB l.length++pack l
theorem qZ {l:List Bool} (h:l.length<=2048):okB (qc l):=fun x hx=>by
 rcases List.mem_append.1 hx with h1|h1
 ·exact iG (by omega) x h1
 ·exact mO l x h1
theorem z2N {l:List Bool} (h:l.length<=2048):(qc l).length<=300:=by
 unfold qc;rw[List.length_append,Ro];have:=(z08 (n:=l.length) (by omega)).2;omega
theorem uO (D:Nat->Prop) (A:Option Addr) (n c:Nat) (l:List Bool) (W:World) (hr:Rd W D 1 A n (Ws l)) (hl:l.length=n) (hn:n<=2048):
 Calls Tryz.prog 130 #[.slice A n c] W (Ri W (aI 4 (qc l))):=by
 obtain ⟨i0,hi0,hz0,hz1,hz2⟩:=info_parts Tryz.info5;subst hl;have hok:=qZ hn;have hcl:=z2N hn;have HC:Hid (qc l=aB l.length++pack l):=ah rfl;have hpu:=fun w=>z10 l.length w (by omega);have hpl:=z08 (n:=l.length) (by omega);have zo:=ah hpu;have hw0:=gY.new W;have nw0:Nx W (W.alloc (.cells #[.slice none 0 0,.int .i64 0] 268)):=(Ch.refl _ W).alloc _;have h0:dU W (W.alloc (.cells #[.slice none 0 0,.int .i64 0] 268)) W.heap.size []:=⟨none,hw0,(fun j hj=>by cases hj),nw0⟩;clear hpu hw0 nw0;go_enter Tryz.func130,Tryz.ntmps130;go_wp2_with fail;go_loopw [12] (fun i wr=>∃k:Nat,k<=l.length/\i=.int .i64 (k:Int)/\dU W wr W.heap.size (l.take k)) (fun i _=>l.length-(intOf i).toNat)
 case atStart=>exact ⟨0,Nat.zero_le _,rfl,h0⟩
 case round=>
  clear h0;obtain ⟨w1,rfl⟩:∃w1:World,w1=wr:=⟨_,rfl⟩;obtain ⟨k,hk,rfl,h1,rw1,hh1,nx1⟩:=hrel;have hl1:(l.take k).length<=10000:=by rw[List.length_take];omega
  by_cases hlt:k<l.length
  ·obtain ⟨ad,u,rfl,UF,hu,hcx⟩:=(hr.nx (by decide) nx1).at_ hlt
   rw[Qb hlt]at hu;injection hu with hu;subst hu;have hsucc:l.take (k+1)=l.take k++[l[k]]:=List.take_succ_eq_append_getElem hlt;have Hs:=ah hsucc;clear hsucc;generalize l[k]=x at *;cases x
   ·go_wp2_with fail
    refine (Tf W.heap.size h1 _ 0 1 w1 rw1 (by omega) (by omega) (by omega)).mono ?_;rintro e w2 ⟨rfl,t2⟩;have h2:=dU.next nx1 (Nat.le_refl _) hh1 t2;rw[show zB 0 1=[false] by decide]at h2;go_wp2_with fail;go_roundw
    case rel=>exact ⟨k+1,by omega,by go_num,by rw[Hs.out];exact h2⟩
    case measure=>simp[intOf];omega
   ·go_wp2_with fail
    refine (Tf W.heap.size h1 _ 1 1 w1 rw1 (by omega) (by omega) (by omega)).mono ?_;rintro e w2 ⟨rfl,t2⟩;have h2:=dU.next nx1 (Nat.le_refl _) hh1 t2;rw[show zB 1 1=[true] by decide]at h2;go_wp2_with fail;go_roundw
    case rel=>exact ⟨k+1,by omega,by go_num,by rw[Hs.out];exact h2⟩
    case measure=>simp[intOf];omega
  ·have hkn:k=l.length:=by omega
   have htk:l.take k=l:=List.take_of_length_le (by omega);rw[htk]at rw1;clear htk;go_wp2_with fail;with_reducible refine (zo.out _).mono ?_
   rintro e w2 ⟨k2,cap2,rfl,o2,hk2,hk2',hc2,_⟩;have rw2:=rw1.ch o2.nx (fun hf=>hf) (fun _ _ hf=>hf);go_wp2_with fail;with_reducible refine (z30 W.heap.size h1 l w2 rw2 (by omega)).mono ?_
   rintro e w3 ⟨k3,cap3,rfl,hk3,hk3',ho3,Um,nx3⟩;have o2':aF W w3 5 1 (.slice (some ⟨k2,0,none⟩) (aB l.length).length cap2) (aB l.length).length (bl (aB l.length)):=⟨su (o2.tr nx3).own nx1.size,nx1.tr (o2.nx.tr nx3)⟩
   have fin:∀(w5:World) (v5:Value),aF W w5 5 1 v5 (qc l).length (bl (qc l))->v5.ownBlock≠none->∃k cap,v5=.slice (some ⟨k,0,none⟩) (qc l).length cap/\
    Calls Tryz.prog 173 #[.int .u8 4,.slice (some ⟨k,0,none⟩) (qc l).length cap] w5 (Ri W (aI 4 (qc l))):=fun w5 v5 o hb=>by
    obtain ⟨k,cap,hv,o4,hk1,hk2,hcp,_⟩:=pX.A_ o hb;injection hv with hv;subst hv;refine ⟨k,cap,rfl,(ZU (fun j=>j=k) (some ⟨k,0,none⟩) _ cap 4 (qc l) w5 o4.tZ (fun j e=>by omega) hok rfl hcp (by omega) (by omega)).mono ?_⟩;rintro e w6 ⟨k6,cap6,rfl,o6,h6⟩;exact ⟨k6,cap6,rfl,⟨su o6.own o4.nx.size,o4.nx.tr o6.nx⟩,h6⟩
   have Fin:=ah fin;clear fin ho3 o2 nx3;generalize aB l.length=pu at *;have hpkl:(pack l).length<=300:=by rw[Ro];omega
   generalize pack l=pk at *;go_wp2_with (at_builtin;refine z05 rfl (.tmp 23) (.tmp 24) _ rfl 5 i0 _ 1 1 Tryz.underlying47 hi0 hz0 hz1 hz2 rfl (by omega) rfl o2' _ (some ⟨k3,0,none⟩) pk.length cap3 (bl pk) rfl Um (jk _) (by simp only[maxLen];omega) (by omega) ?_;intro v5 w5 o5 m5;obtain ⟨k5,cap5,hv5,hcall⟩:=Fin.out w5 v5 (by rw[HC.out,List.length_append,show bl (pu++pk)=bl pu++bl pk by simp[bl]];exact o5) (Moved.some_ (v:=.slice (some ⟨k2,0,none⟩) pu.length cap2) m5 (by simp[Value.ownBlock]));rw[hv5])
   with_reducible refine hcall.mono ?_
   rintro e w6 ⟨k6,cap6,rfl,o6,h6⟩;go_wp2_with fail;go_ret2;exact ⟨k6,cap6,rfl,o6,h6⟩
theorem Tryz.Uh:(Tryz.prog.info? 4).map (fun i=>(i.zero,i.size,i.bytes))=some (some (.bool false),1,1):=by kernel_rfl
end Go.Proofs.YtdbfejfhpkakhaaGreat
