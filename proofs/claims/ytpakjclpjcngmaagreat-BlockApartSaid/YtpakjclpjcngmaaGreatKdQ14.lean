/- Contracts and plain laws that the last text rests on. Conditions: each theorem states its own. -/
import Derived.Test.YtpakjclpjcngmaaGreatKdQ13
import Derived.Test.YtpakjclpjcngmaaGreatKdQ12
import Derived.Test.YtpakjclpjcngmaaGreatKdQ7
set_option maxRecDepth 100000
set_option maxHeartbeats 16000000
set_option linter.unusedVariables false
namespace Go.Proofs.YtpakjclpjcngmaaGreat
open Go.RowKit
theorem Rd.below_ {w:World} {D:Nat->Prop} {size n:Nat} {A:Option Addr} {xs:List Value} (h:Rd w D size A n xs) (hs:0<size):Rd w (· <w.heap.size) size A n xs:=
 ⟨h.1,fun hn=>by
   obtain ⟨ad,e,hb,hc⟩:=h.2 hn;obtain ⟨ad',e',_,hlt⟩:=h.lt_ hs hn;rw[e]at e';injection e' with e';subst e';exact ⟨ad,e,hlt,hc⟩⟩
theorem z4b (l:List Bool):okB (pack l):=by
 intro x hx;unfold pack at hx;obtain ⟨i,_,rfl⟩:=List.mem_map.1 hx;exact z6o l i
theorem WO {xs:List Nat} (ok:okB xs) (hl:xs.length<=65535):okB (bM xs):=by
 intro x hx;unfold bM z35 at hx;simp only[List.cons_append,List.nil_append,List.mem_cons]at hx;rcases hx with rfl|rfl|rfl|rfl|rfl|h
 ·omega
 ·omega
 ·omega
 ·omega
 ·omega
 ·exact ok x h
theorem Rw {xs:List Nat} (ok:okB xs) (hl:xs.length<=65535):okB (bF xs):=by
 unfold bF;split
 ·exact z4b _
 ·exact WO ok hl
theorem Ov (xs:List Nat):(bF xs).length<=xs.length+5:=by
 unfold bF;split
 ·next h=>have:(bM xs).length=xs.length+5:=by simp[bM,z35]
          omega
 ·simp[bM,z35]
def kT (xs:List Nat):Nat:=if (bF xs).length<xs.length then 1 else 0
def iW (xs:List Nat):List Nat:=if (bF xs).length<xs.length then bF xs else xs
def AX (kind:Nat) (xs:List Nat):List Nat:=[kind,kT xs]++ak xs.length++iW xs
def aA (kind:Nat) (xs:List Nat):List Nat:=fC (AX kind xs)
theorem Rx {xs:List Nat} (ok:okB xs) (hl:xs.length<=65536):okB (iW xs):=by
 unfold iW;split
 ·next h=>
  by_cases h5:xs.length<=65535
  ·exact Rw ok h5
  ·have hs:=z3m xs
   unfold bF at h ⊢;split
   ·exact z4b _
   ·next h2=>rw[if_neg h2]at h;omega
 ·exact ok
theorem wz {kind:Nat} (hk:kind<256) {xs:List Nat} (ok:okB xs) (hl:xs.length<=65536):okB (AX kind xs):=by
 intro x hx;unfold AX at hx;rcases List.mem_append.1 hx with h|h
 ·rcases List.mem_append.1 h with h|h
  ·simp only[List.mem_cons,List.not_mem_nil,or_false]at h
   rcases h with rfl|rfl
   ·exact hk
   ·unfold kT;split<;>omega
  ·exact jW (by omega) x h
 ·exact Rx ok hl x h
theorem z4c {kind:Nat} (hk:kind<256) {xs:List Nat} (ok:okB xs) (hl:xs.length<=65536):okB (aA kind xs):=z5d (wz hk ok hl)
theorem OW (xs:List Nat):(iW xs).length<=xs.length:=by
 unfold iW;split<;>omega
theorem Jr {kind:Nat} {xs:List Nat} (hl:xs.length<=65536):(aA kind xs).length<=xs.length+16:=by
 unfold aA AX;rw[PD,List.length_append,List.length_append];have h1:=OW xs;have h2:=(z05 (n:=xs.length) (by omega)).2;simp only[List.length_cons,List.length_nil];omega
theorem ay.store {W w:World} {e:TypeId} {n g c:Nat} {xs:List Value} {size:Nat} (h:ay W w e size (.slice (some ⟨g,0,none⟩) n c) n xs) (j:Nat) (u:Value):
 ay W (w.setCell ⟨g,j,none⟩ u) e size (.slice (some ⟨g,0,none⟩) n c) n (xs.set j u):=
 ⟨(h.own.stored j u).1,h.nx.setCell (fun hlt=>absurd hlt (Nat.not_lt.2 (h.lt g rfl).1)) u⟩
def VB (W:World) (xs:List Nat) (e:Ending) (w':World):Prop:=
 ∃k cap,e=.returned (.tuple #[.slice (some ⟨k,0,none⟩) xs.length cap,.int .i64 0])/\ay W w' 5 1 (.slice (some ⟨k,0,none⟩) xs.length cap) xs.length (bl xs)/\xs.length<=cap
theorem z6i (D:Nat->Prop) (A:Option Addr) (n c kind:Nat) (xs:List Nat) (W:World) (hr:Rd W D 1 A n (bl xs)) (iJ:∀k,D k->k<W.heap.size) (ok:okB xs) (hl:xs.length=n) (hc:n<=c) (hn:n<=65536) (hk:kind<256):
 Calls Tryz.prog 165 #[.int .u8 (kind:Int),.slice A n c] W (VB W (aA kind xs)):=by
 obtain ⟨i0,hi0,hz0,hz1,hz2⟩:=info_parts Tryz.info5;subst hl;have hinn:=wz hk ok hn;have hdl:=Ov xs;have hcl:(AX kind xs).length+4=(aA kind xs).length:=by unfold aA;rw[PD]
 have HI:Hid (AX kind xs=[kind,kT xs]++ak xs.length++iW xs):=ah rfl;have HF:Hid (kT xs=if (bF xs).length<xs.length then 1 else 0):=ah rfl;have HB:Hid (iW xs=if (bF xs).length<xs.length then bF xs else xs):=ah rfl;have HC:Hid (aA kind xs=fC (AX kind xs)):=ah rfl;have hdf:=sS D A xs.length c xs W hr ok rfl hc hn;unfold Zf at hdf;have hpl:=z05 (n:=xs.length) (by omega);have hpu:=fun w=>Yv xs.length w (by omega);have okU:okB (ak xs.length):=jW (by omega);generalize ak xs.length=pu at *;generalize bF xs=ds at *;have Hdf:=ah hdf;have EY:=ah hpu;clear hdf hpu;go_enter Tryz.func165,Tryz.ntmps165;go_wp2_with fail;with_reducible refine Hdf.out.mono ?_
 rintro e w1 ⟨A1,c1,L,rfl,n1,hA,hB⟩;have HA:=ah hA;have HB2:=ah hB;clear hA hB;have o0:ay W (w1.alloc (.cells #[.int .u8 (kind:Int),.int .u8 1] 5)) 5 1 (.slice (some ⟨w1.heap.size,0,none⟩) 2 2) 2 (bl [kind,1]):=⟨z4a w1 _ _ 1 _ 2 n1.size (by simp[maxLen]) (by simp),n1.alloc _⟩;have hb0:(Value.slice (some ⟨w1.heap.size,0,none⟩) 2 2).ownBlock≠none:=by simp[Value.ownBlock]
 go_wp2_with fail;with_reducible refine (EY.out _).mono ?_
 rintro e w2 ⟨k2,cap2,rfl,o2,hk2,hk2',hc2,_⟩;have o1:=o0.tr o2.nx;have r2:=o2.jZ;have n2:Nx W w2:=o1.nx;have hrx:=hr.nx (by decide) n2;have hN1:=((Ch.refl (fun _=>False) w1).alloc (.cells #[.int .u8 (kind:Int),.int .u8 1] 5)).tr o2.nx;clear n1 o0
 have fin:∀(w5:World) (v5:Value),ay W w5 5 1 v5 (AX kind xs).length (bl (AX kind xs))->v5.ownBlock≠none->∃k cap,v5=.slice (some ⟨k,0,none⟩) (AX kind xs).length cap/\
  Calls Tryz.prog 114 #[.slice (some ⟨k,0,none⟩) (AX kind xs).length cap] w5 (rQ W 5 1 (aA kind xs).length (bl (aA kind xs))):=fun w5 v5 o hb=>by
  obtain ⟨k,cap,hv,o4,hk1,hk2,_,_⟩:=rQ.CP o hb;injection hv with hv;subst hv
  have hil:(AX kind xs).length<=1000000000:=by
   have:=Jr (kind:=kind) hn;omega
  refine ⟨k,cap,rfl,(Eh (fun j=>j=k) (some ⟨k,0,none⟩) _ cap (AX kind xs) w5 o4.jZ (fun j e=>by omega) hinn rfl hil).mono ?_⟩;rintro e w6 ⟨k6,cap6,rfl,o6,h1,h2,h3,h4⟩;rw[hcl]at o6 h3 ⊢;exact ⟨k6,cap6,rfl,⟨kX o6.own o4.nx.size,o4.nx.tr o6.nx⟩,Nat.le_trans o4.nx.size h1,h2,h3,h4⟩
 have Fin:=ah fin;clear fin hcl;by_cases hlt:ds.length<xs.length
 ·obtain ⟨hL,D1,hr1⟩:=HA.out hlt
  subst hL;have hrd:=(hr1.below_ (by decide)).nx (by decide) hN1;clear hr1 HA HB2;have HF1:Hid (kT xs=1):=ah (by rw[HF.out,if_pos hlt]);have HB1:Hid (iW xs=ds):=ah (by rw[HB.out,if_pos hlt]);have hq:¬((xs.length:Int)<=(ds.length:Int)):=by omega
  clear HF HB
  go_wp2_with (at_builtin;first
   |(refine z07 rfl (.tmp 18) (.tmp 22) _ rfl 5 i0 _ 1 1 Tryz.underlying26 hi0 hz0 hz1 hz2 rfl (by omega) rfl o1 _ (some ⟨k2,0,none⟩) pu.length cap2 (bl pu) rfl r2 (kR _) (by simp only[maxLen];omega) (by omega) ?_;intro v3 w3 o3 m3;have m3:Moved w2 w3 (.slice (some ⟨w1.heap.size,0,none⟩) 2 2) v3:=m3;have hb3:=m3.some_ hb0;have aax:=hrd.ch (by decide) m3.ch (fun k hk hd e=>by have hd2:k<w1.heap.size:=hd;have e2:w1.heap.size=k:=(by simpa [Value.ownBlock]using e);omega))
   |(refine z07 rfl (.tmp 32) (.tmp 33) _ rfl 5 i0 _ 1 1 Tryz.underlying26 hi0 hz0 hz1 hz2 rfl (by omega) rfl o3 _ A1 ds.length c1 (bl ds) rfl aax (kR _) (by simp only[maxLen];omega) (by omega) ?_;intro v5 w5 o5 m5;obtain ⟨k5,cap5,hv5,hcall⟩:=Fin.out w5 v5 (by rw[HI.out,HF1.out,HB1.out,List.length_append,List.length_append,show bl ([kind,1]++pu++ds)=bl [kind,1]++bl pu++bl ds by simp[bl]];exact o5) (m5.some_ hb3);rw[hv5]))
  with_reducible refine hcall.mono ?_
  rintro e w6 ⟨k6,cap6,rfl,o6,_,_,h6,_⟩;go_wp2_with fail;go_ret2;exact ⟨k6,cap6,rfl,o6,h6⟩
 ·have hL:=HB2.out hlt
  clear HA HB2;have HF1:Hid (kT xs=0):=ah (by rw[HF.out,if_neg hlt]);have HB1:Hid (iW xs=xs):=ah (by rw[HB.out,if_neg hlt]);have hq:((xs.length:Int)<=(L:Int)):=by omega
  clear HF HB
  go_wp2_with (at_builtin;first
   |(refine z07 rfl (.tmp 18) (.tmp 22) _ rfl 5 i0 _ 1 1 Tryz.underlying26 hi0 hz0 hz1 hz2 rfl (by omega) rfl o1 _ (some ⟨k2,0,none⟩) pu.length cap2 (bl pu) rfl r2 (kR _) (by simp only[maxLen];omega) (by omega) ?_;intro v3 w3 o3 m3;obtain ⟨k3,cap3,hv3,o4,hk3,hk3',hc3,_⟩:=rQ.CP o3 (m3.some_ hb0);injection hv3 with hv3;rw[hv3];have e31:w3.cell? ⟨k3,1,none⟩=some (.int .u8 1):=(o4.own.cellAt 1 (by omega)).trans rfl;have e3f:=o4.own.frozenAt 1;have o5:=o4.store 1 (.int .u8 0);have nx5:=o5.nx;have hrx5:=hr.nx (by decide) nx5)
   |(refine z07 rfl (.tmp 32) (.tmp 33) _ rfl 5 i0 _ 1 1 Tryz.underlying26 hi0 hz0 hz1 hz2 rfl (by omega) rfl o5 _ A xs.length c (bl xs) rfl hrx5 (kR _) (by simp only[maxLen];omega) (by omega) ?_;intro v5 w5 o6 m5;obtain ⟨k5,cap5,hv5,hcall⟩:=Fin.out w5 v5 (by rw[HI.out,HF1.out,HB1.out,List.length_append,List.length_append,show bl ([kind,0]++pu++xs)=(([]++bl [kind,1]++bl pu).set 1 (.int .u8 0))++bl xs by simp[bl]];exact o6) (Moved.some_ (v:=.slice (some ⟨k3,0,none⟩) (2+pu.length) cap3) m5 (by simp[Value.ownBlock]));rw[hv5]))
  with_reducible refine hcall.mono ?_
  rintro e w6 ⟨k6,cap6,rfl,o6,_,_,h6,_⟩;go_wp2_with fail;go_ret2;exact ⟨k6,cap6,rfl,o6,h6⟩
theorem qV (A:Option Addr) (n c kind:Nat) (W:World) (hn:65536<n):
 Calls Tryz.prog 165 #[.int .u8 (kind:Int),.slice A n c] W fun e w'=>e=.returned (.tuple #[.slice none 0 0,.int .i64 5])/\Nx W w':=by
 have Hd:=ah (z5I A n c W hn);go_enter Tryz.func165,Tryz.ntmps165;go_wp2_with fail;with_reducible refine Hd.out.mono ?_
 rintro e w1 ⟨rfl,n1⟩;go_wp2_with fail;go_ret2;exact ⟨rfl,n1⟩
def lu (l:List Bool):List Value:=l.map Value.bool
theorem IV (l:List Bool):(lu l).length=l.length:=by simp[lu]
theorem Xl {l:List Bool} {k:Nat} (h:k<l.length):(lu l)[k]?=some (.bool l[k]):=by simp[lu,h]
def bf (l:List Bool):List Nat:=ak l.length++pack l
theorem z3g {l:List Bool} (h:l.length<=2048):okB (bf l):=fun x hx=>by
 rcases List.mem_append.1 hx with h1|h1
 ·exact jW (by omega) x h1
 ·exact z4b l x h1
theorem z2a {l:List Bool} (h:l.length<=2048):(bf l).length<=300:=by
 unfold bf;rw[List.length_append,Fb];have:=(z05 (n:=l.length) (by omega)).2;omega
theorem z3j (D:Nat->Prop) (A:Option Addr) (n c:Nat) (l:List Bool) (W:World) (hr:Rd W D 1 A n (lu l)) (hl:l.length=n) (hn:n<=2048):
 Calls Tryz.prog 104 #[.slice A n c] W (VB W (aA 4 (bf l))):=by
 obtain ⟨i0,hi0,hz0,hz1,hz2⟩:=info_parts Tryz.info5;subst hl;have hok:=z3g hn;have hcl:=z2a hn;have HC:Hid (bf l=ak l.length++pack l):=ah rfl;have hpu:=fun w=>Yv l.length w (by omega);have hpl:=z05 (n:=l.length) (by omega);have EY:=ah hpu;have hw0:=jq.new W;have nw0:Nx W (W.alloc (.cells #[.slice none 0 0,.int .i64 0] 215)):=(Ch.refl _ W).alloc _;have h0:gI W (W.alloc (.cells #[.slice none 0 0,.int .i64 0] 215)) W.heap.size []:=⟨none,hw0,(fun j hj=>by cases hj),nw0⟩;clear hpu hw0 nw0;go_enter Tryz.func104,Tryz.ntmps104;go_wp2_with fail;go_loopw [12] (fun i wr=>∃k:Nat,k<=l.length/\i=.int .i64 (k:Int)/\gI W wr W.heap.size (l.take k)) (fun i _=>l.length-(intOf i).toNat)
 case atStart=>exact ⟨0,Nat.zero_le _,rfl,h0⟩
 case round=>
  clear h0;obtain ⟨w1,rfl⟩:∃w1:World,w1=wr:=⟨_,rfl⟩;obtain ⟨k,hk,rfl,h1,rw1,hh1,nx1⟩:=hrel;have hl1:(l.take k).length<=10000:=by rw[List.length_take];omega
  by_cases hlt:k<l.length
  ·obtain ⟨ad,u,rfl,IB,hu,hcx⟩:=(hr.nx (by decide) nx1).at_ hlt
   rw[Xl hlt]at hu;injection hu with hu;subst hu;have hsucc:l.take (k+1)=l.take k++[l[k]]:=List.take_succ_eq_append_getElem hlt;have Hs:=ah hsucc;clear hsucc;generalize l[k]=x at *;cases x
   ·go_wp2_with fail
    refine (Zk W.heap.size h1 _ 0 1 w1 rw1 (by omega) (by omega) (by omega)).mono ?_;rintro e w2 ⟨rfl,t2⟩;have h2:=gI.next nx1 (Nat.le_refl _) hh1 t2;rw[show lV 0 1=[false] by decide]at h2;go_wp2_with fail;go_roundw
    case rel=>exact ⟨k+1,by omega,by go_num,by rw[Hs.out];exact h2⟩
    case measure=>simp[intOf];omega
   ·go_wp2_with fail
    refine (Zk W.heap.size h1 _ 1 1 w1 rw1 (by omega) (by omega) (by omega)).mono ?_;rintro e w2 ⟨rfl,t2⟩;have h2:=gI.next nx1 (Nat.le_refl _) hh1 t2;rw[show lV 1 1=[true] by decide]at h2;go_wp2_with fail;go_roundw
    case rel=>exact ⟨k+1,by omega,by go_num,by rw[Hs.out];exact h2⟩
    case measure=>simp[intOf];omega
  ·have hkn:k=l.length:=by omega
   have htk:l.take k=l:=List.take_of_length_le (by omega);rw[htk]at rw1;clear htk;go_wp2_with fail;with_reducible refine (EY.out _).mono ?_
   rintro e w2 ⟨k2,cap2,rfl,o2,hk2,hk2',hc2,_⟩;have rw2:=rw1.ch o2.nx (fun hf=>hf) (fun _ _ hf=>hf);go_wp2_with fail;with_reducible refine (z59 W.heap.size h1 l w2 rw2 (by omega)).mono ?_
   rintro e w3 ⟨k3,cap3,rfl,hk3,hk3',ho3,aax,nx3⟩;have o2':ay W w3 5 1 (.slice (some ⟨k2,0,none⟩) (ak l.length).length cap2) (ak l.length).length (bl (ak l.length)):=⟨kX (o2.tr nx3).own nx1.size,nx1.tr (o2.nx.tr nx3)⟩
   have fin:∀(w5:World) (v5:Value),ay W w5 5 1 v5 (bf l).length (bl (bf l))->v5.ownBlock≠none->∃k cap,v5=.slice (some ⟨k,0,none⟩) (bf l).length cap/\
    Calls Tryz.prog 165 #[.int .u8 4,.slice (some ⟨k,0,none⟩) (bf l).length cap] w5 (VB W (aA 4 (bf l))):=fun w5 v5 o hb=>by
    obtain ⟨k,cap,hv,o4,hk1,hk2,hcp,_⟩:=rQ.CP o hb;injection hv with hv;subst hv;refine ⟨k,cap,rfl,(z6i (fun j=>j=k) (some ⟨k,0,none⟩) _ cap 4 (bf l) w5 o4.jZ (fun j e=>by omega) hok rfl hcp (by omega) (by omega)).mono ?_⟩;rintro e w6 ⟨k6,cap6,rfl,o6,h6⟩;exact ⟨k6,cap6,rfl,⟨kX o6.own o4.nx.size,o4.nx.tr o6.nx⟩,h6⟩
   have Fin:=ah fin;clear fin ho3 o2 nx3;generalize ak l.length=pu at *;have hpkl:(pack l).length<=300:=by rw[Fb];omega
   generalize pack l=pk at *;go_wp2_with (at_builtin;refine z07 rfl (.tmp 23) (.tmp 24) _ rfl 5 i0 _ 1 1 Tryz.underlying26 hi0 hz0 hz1 hz2 rfl (by omega) rfl o2' _ (some ⟨k3,0,none⟩) pk.length cap3 (bl pk) rfl aax (kR _) (by simp only[maxLen];omega) (by omega) ?_;intro v5 w5 o5 m5;obtain ⟨k5,cap5,hv5,hcall⟩:=Fin.out w5 v5 (by rw[HC.out,List.length_append,show bl (pu++pk)=bl pu++bl pk by simp[bl]];exact o5) (Moved.some_ (v:=.slice (some ⟨k2,0,none⟩) pu.length cap2) m5 (by simp[Value.ownBlock]));rw[hv5])
   with_reducible refine hcall.mono ?_
   rintro e w6 ⟨k6,cap6,rfl,o6,h6⟩;go_wp2_with fail;go_ret2;exact ⟨k6,cap6,rfl,o6,h6⟩
theorem z6h (D:Nat->Prop) (A:Option Addr) (n c:Nat) (kind:Nat) (b:List Nat) (W:World) (hr:Rd W D 1 A n (bl b)) (iJ:∀k,D k->k<W.heap.size) (ok:okB b) (hl:b.length=n) (hn:n<=1000000000) (hc:n<=c) (hno:¬xK b) (er:Int) (her:(if b.length<4 then (3:Int) else 6)=er):
 Calls Tryz.prog 197 #[.int .u8 (kind:Int),.slice A n c] W fun e w'=>e=.returned (.tuple #[.pointer none,.int .i64 er])/\Nx W w':=by
 have hop:=z4l D A n c b W hr iJ ok hl hn hc;have Hop:=ah hop;have Hno:=ah hno;have hne:(er !=0)=true:=by rw[←her];split<;>rfl
 have Her:=ah her;clear hop hno her;go_enter Tryz.func197,Tryz.ntmps197;go_wp2_with fail;with_reducible refine Hop.out.mono ?_
 rintro e w1 ⟨-,h2⟩;obtain ⟨rfl,n1⟩:=h2 Hno.out;rw[Her.out];go_wp2_with fail;go_ret2;exact ⟨rfl,n1⟩
def Pm (W:World) (xs:List Nat) (e:Ending) (w':World):Prop:=
 ∃g A c D,e=.returned (.tuple #[.pointer (some ⟨g,0,none⟩),.int .i64 0])/\aH w' D g A c xs 0 0/\Nx W w'/\W.heap.size<=g/\∀k,D k->W.heap.size<=k
theorem z6g (D:Nat->Prop) (A:Option Addr) (n c:Nat) (kind:Nat) (xs b:List Nat) (W:World) (hb:b=fC ([kind,0]++ak xs.length++xs)) (hr:Rd W D 1 A n (bl b)) (iJ:∀k,D k->k<W.heap.size) (PK:okB xs) (hk:kind<256) (hl:b.length=n) (hc:n<=c) (hx:xs.length<=65536) (hx0:0<xs.length):
 Calls Tryz.prog 197 #[.int .u8 (kind:Int),.slice A n c] W (Pm W xs):=by
 obtain ⟨pl,hpl⟩:∃pl,(ak xs.length).length=pl:=⟨_,rfl⟩;have kE:=z05 (n:=xs.length) (by omega);rw[hpl]at kE;obtain ⟨t,ht⟩:∃t,[kind,0]++ak xs.length++xs=t:=⟨_,rfl⟩;have htl:t.length=2+pl+xs.length:=by rw[←ht,List.length_append,List.length_append,hpl];rfl
 have Vl:okB t:=by
  rw[←ht];intro x h;rcases List.mem_append.1 h with h|h
  ·rcases List.mem_append.1 h with h|h
   ·simp only[List.mem_cons,List.not_mem_nil,or_false]at h
    rcases h with rfl|rfl<;>omega
   ·exact jW (by omega) x h
  ·exact PK x h
 have hnum:aF t 2 0 65536=(xs.length,2+pl,0):=by
  have h1:aO t (2:Nat)=(xs.length,pl,0):=by
   have:=z2y (v:=xs.length) (by omega) [kind,0] xs;rw[hpl,ht]at this;exact this
  unfold aF;rw[if_neg (by simp),h1,if_neg (by simp),if_neg (by simp only;omega)]
 have hdrop:t.drop (2+pl)=xs:=by
  rw[←ht];have e:([kind,0]++ak xs.length).length=2+pl:=by rw[List.length_append,hpl];rfl
  rw[←e,List.drop_left]
 have hhead:(t.drop 0).take 2=[kind,0]:=by rw[←ht];rfl
 rw[ht]at hb;have hbl:b.length-4=t.length:=by rw[hb,PD];omega
 have hbt:b.take (b.length-4)=t:=by rw[hbl,hb];unfold fC;rw[List.take_left]
 have okb:okB b:=by rw[hb];exact z5d Vl
 have hopen:xK b:=by rw[hb];exact z3S t
 have hbn:b.length=t.length+4:=by rw[hb,PD]
 have hop:=z4l D A n c b W hr iJ okb hl (by omega) hc;unfold rH at hop;rw[hbt,hbl]at hop;have Hop:=ah hop;have iZ:=ah hopen;have JH:=ah hnum;have EJ:=ah hdrop;have mZ:=ah hhead;have htl1:2+pl+xs.length<=t.length:=by omega
 have htl2:t.length<=2+pl+xs.length:=by omega
 clear htl;clear hop hopen hnum hdrop hhead hbt hbl hb ht hpl hbn hl hr okb;go_enter Tryz.func197,Tryz.ntmps197;go_wp2_with fail;with_reducible refine Hop.out.mono ?_
 rintro e w1 ⟨h1, -⟩;obtain ⟨k1,cap1,rfl,o1,hcap1⟩:=h1 iZ.out;have n1:=o1.nx;have r1:=o1.jZ;go_wp2_with fail;with_reducible refine (z21 _ _ _ _ t w1 r1 Vl rfl (by omega)).mono ?_
 rintro e w2 ⟨g,A2,c2,rfl,cu2,n2,hg⟩;have r2:=r1.nx (by decide) n2;go_wp2_with fail;refine (z16 cu2 2 (by omega)).mono ?_;rintro e w3 ⟨k3,cap3,rfl,t3,o3,hc3,hk3⟩;rw[mZ.out]at o3;rw[Nat.zero_add]at t3;have Dz:k1≠g:=by have:=(o1.lt k1 rfl).2;omega
 have r3:=r2.ch (by decide) t3.gW (fun k _ e1 e2=>Dz (by rw[←e1,←e2]));have n3:Nx W w3:=(n1.tr n2).trans t3.gW fun i hi e=>by have:=n1.size;omega
 go_wp2_with fail;have hnm:=z17 t3.cur 65536 (by omega) (by omega);rw[JH.out]at hnm;with_reducible refine hnm.mono ?_
 rintro e w4 ⟨rfl,t4⟩;have t4:cO w3 _ g A2 c2 t (2+pl) 0 w4:=t4;clear hnm;have aea:k3≠g:=by have:=cu2.blk.lt;omega
 have o4:=z09 o3 t4.gW (fun k hk e=>by simp[Value.ownBlock]at hk;omega);have r4:=r3.ch (by decide) t4.gW (fun k _ e1 e2=>Dz (by rw[←e1,←e2]));have n4:Nx W w4:=n3.trans t4.gW fun i hi e=>by have:=n1.size;omega
 have cu4:=t4.cur
 have tail:∀w6,Nx w4 w6->w6.cell? ⟨k3,0,none⟩=some (.int .u8 (kind:Int))/\w6.cell? ⟨k3,1,none⟩=some (.int .u8 0)/\aH w6 _ g A2 c2 t (2+pl) 0/\Rd w6 (fun k=>k=k1) 1 (some ⟨k1,0,none⟩) t.length (bl t)/\Nx W w6:=fun w6 n6=>
  ⟨(z09 o4 n6 (fun _ _ hf=>hf)).cellAt 0 (by omega),(z09 o4 n6 (fun _ _ hf=>hf)).cellAt 1 (by omega),cu4.nx n6,r4.nx (by decide) n6,n4.tr n6⟩
 have Tail:=ah tail;have hend:=fun w6 (n6:Nx w4 w6)=>su (cu4.nx n6);have kQ:=ah hend;have aaA:k3<w4.heap.size:=(o4.lt k3 rfl).2;clear tail hend o4 r4 n4 cu4 t4 t3 o3 r3 n3 n1 n2 r1 r2 o1 cu2 Hop iZ JH mZ;have ne1:(5:Int)≠0:=by decide
 ·have hE:bg t.length (2+pl) 0=5:=by unfold bg;rw[if_neg (by simp),if_pos (by omega)]
  have hcc:¬cap1=2+pl:=by omega
  go_wp2_with fail;have he1:=kQ.out _ (Ch.refl _ w4);rw[hE]at he1;with_reducible refine he1.mono ?_
  rintro e w5 ⟨rfl,d5⟩;have n5:=d5.nx;clear he1 d5;go_wp2_with fail;have he2:=kQ.out _ n5;rw[hE]at he2;with_reducible refine he2.mono ?_
  rintro e w6 ⟨rfl,d6⟩;obtain ⟨c0,c1,cu6,r6,n6⟩:=Tail.out w6 (n5.tr d6.nx);clear he2 d6 n5;go_wp2_with fail;with_reducible refine (Je cu6).mono ?_
  rintro e w7 ⟨rfl,rfl⟩;have b1:(0:Int)<=((2+pl:Nat):Int):=by omega
  have b2:((2+pl:Nat):Int)<=(t.length:Int):=by omega
  have hct:=r6.cut (k:=2+pl) (cap:=cap1) (by omega) hcap1;rw[Nat.mul_one,show (bl t).drop (2+pl)=bl (t.drop (2+pl)) by simp[bl,List.map_drop],EJ.out,if_neg hcc,show t.length-(2+pl)=xs.length by omega]at hct;have hle:t.length-(2+pl)=xs.length:=by omega
  have ha:Option.map (fun x=>Addr.add x (2+pl)) (some ⟨k1,0,none⟩)=some ⟨k1,2+pl,none⟩:=by
   simp only[Option.map_some,Option.some.injEq];unfold Addr.add;rw[if_neg (by omega)];simp
  rw[ha]at hct;clear ha h1;go_wp2_with fail;with_reducible refine (z21 _ _ _ _ xs w6 hct PK rfl (by omega)).mono ?_
  rintro e w7 ⟨g7,A7,c7,rfl,cu7,n7,hg7⟩;go_wp2_with fail;go_ret2;have hs6:=n6.size;exact ⟨g7,A7,c7,_,rfl,cu7,n6.tr n7,by omega,fun k hk=>by omega⟩
theorem Tryz.Il:(Tryz.prog.info? 4).map (fun i=>(i.zero,i.size,i.bytes))=some (some (.bool false),1,1):=by kernel_rfl
def aby (w:World) (D:Nat->Prop) (g:Nat) (A:Option Addr) (c:Nat) (xs:List Nat) (l:List Bool) (e:Ending) (w':World):Prop:=
 ∃v,e=.returned v/\w'.ownsRow w.heap.size 4 1 v l.length (lu l)/\aH w' D g A c xs xs.length 0/\Ch (· =g) w w'
theorem Jl (D:Nat->Prop) (g:Nat) (A:Option Addr) (c:Nat) (l:List Bool) (W:World) (h:aH W D g A c (bf l) 0 0) (hn:l.length<=2048):
 Calls Tryz.prog 140 #[.pointer (some ⟨g,0,none⟩)] W (aby W D g A c (bf l) l):=by
 obtain ⟨i0,hi0,hz0,hz1,hz2⟩:=info_parts Tryz.Il;obtain ⟨pl,hpl⟩:∃pl,(ak l.length).length=pl:=⟨_,rfl⟩;have kE:=z05 (n:=l.length) (by omega);rw[hpl]at kE;have hpk:=Fb l;have hfl:(bf l).length=pl+(l.length+7) / 8:=by unfold bf;rw[List.length_append,hpl,hpk]
 have hnum:aF (bf l) 0 0 2048=(l.length,pl,0):=by
  have h1:aO (bf l) (0:Nat)=(l.length,pl,0):=by
   have:=z2y (v:=l.length) (by omega) [] (pack l);rw[hpl]at this;exact this
  unfold aF;rw[if_neg (by simp),h1,if_neg (by simp),if_neg (by simp only;omega)];simp
 have hdrop:((bf l).drop pl).take ((l.length+7) / 8)=pack l:=by
  unfold bf;rw[←hpl,List.drop_left,List.take_of_length_le (by rw[hpk];exact Nat.le_refl _)]
 have hbit:∀k (hk:k<l.length),dS (pack l) k 1=uD l[k]:=fun k hk=>by
  have e:dS (pack l) k 1=iY (pack l) k:=by simp[dS]
  rw[e,z3H];simp[List.getD,hk]
 have okp:okB (pack l):=z4b l;have JH:=ah hnum;have EJ:=ah hdrop;have Hbit:=ah hbit;have Hpk:=ah hpk;have Hfl:=ah hfl;have hm1:pl+(l.length+7) / 8<=(bf l).length:=by omega
 clear hnum hdrop hbit hpk hfl;have hnm:=z17 h 2048 (by omega) (by omega);rw[JH.out]at hnm;have kN:=ah hnm;have iD:=h.bnd;clear hnm h hpl;generalize bf l=fc at *;go_enter Tryz.func140,Tryz.ntmps140;go_wp2_with fail;with_reducible refine kN.out.mono ?_
 rintro e w1 ⟨rfl,t1⟩;have t1:cO W D g A c fc pl 0 w1:=t1;have kd:((l.length:Int)+7) / 8=(((l.length+7) / 8:Nat):Int):=by omega
 obtain ⟨m,hm⟩:∃m,(l.length+7) / 8=m:=⟨_,rfl⟩;rw[hm]at kd hm1;have Hm:=ah hm;clear hm;go_wp2_with fail;with_reducible refine (z16 t1.cur m hm1).mono ?_
 rintro e w2 ⟨k2,cap2,rfl,t2,o2,hc2,hk2⟩;rw[←Hm.out,EJ.out,Hm.out]at o2;have r2:=Rd.dh o2;have hpm:(pack l).length=m:=by rw[Hpk.out,Hm.out]
 go_wp2_with fail;with_reducible refine (z2J _ _ m cap2 (pack l) w2 r2 (by omega) okp).mono ?_
 rintro e w3 ⟨rg,rh,rfl,rd3,hrg,hrh,hrg',hrh',n3⟩;have t3:cO W D g A c fc (pl+m) 0 w3:=⟨(t1.trans t2).cur.nx n3,(t1.trans t2).gW.tr n3⟩;have hsz:=(t1.trans t2).gW.size;have hgw:g<w2.heap.size:=(t1.trans t2).cur.blk.lt;have hs3:=n3.size;clear t1 t2 r2 o2;go_wp2_with fail;go_loopw [5,17] (fun v i wr=>∃k:Nat,k<=l.length/\i=.int .i64 (k:Int)/\cZ wr rg rh (pack l) k/\wr.ownsRow w3.heap.size 4 1 v k (lu (l.take k))/\Ch (· =rg) w3 wr) (fun _ i _=>l.length-(intOf i).toNat)
 case atStart=>exact ⟨0,Nat.zero_le _,rfl,rd3,World.ownsRow_nil _ _ _ _,Ch.refl _ _⟩
 case round=>
  obtain ⟨w4,rfl⟩:∃w4:World,w4=wr:=⟨_,rfl⟩;obtain ⟨k,hk,rfl,rd4,o4,c4⟩:=hrel;by_cases hlt:k<l.length
  ·have hbk:=Hbit.out k hlt
   have hsucc:lu (l.take (k+1))=lu (l.take k)++[.bool l[k]]:=by
    rw[List.take_succ_eq_append_getElem hlt];unfold lu;rw[List.map_append];rfl
   have Hs:=ah hsucc;clear hsucc;generalize l[k]=x at *;have hrb:=pY rg rh (pack l) k 1 w4 rd4 (by omega) (by omega);rw[hbk]at hrb;have Hrb:=ah hrb;clear hrb hbk
   have one:∀(w5:World) (u5:Value),Ch (· =rg) w4 w5->cZ w5 rg rh (pack l) (k+1)->∀(v':Value) (w6:World) (X:Obj),(w5.alloc X).grownBy w6 u5.ownBlock->(∀j,u5.ownBlock=some j->w3.heap.size<=j)->cZ w6 rg rh (pack l) (k+1)/\Ch (· =rg) w3 w6:=fun w5 u5 c5 rd5 v' w6 X hg hu=>by
    have c6:Ch (fun j=>u5.ownBlock=some j) w5 w6:=((Ch.refl _ w5).alloc X).grown hg fun j hj _=>hj;exact ⟨rd5.ch c6 (fun e=>by have:=hu _ e;omega) (fun e=>by have:=hu _ e;omega),(c4.trans c5 fun _ _ e=>e).trans c6 fun i hi e=>by have:=hu _ e;omega⟩
   have One:=ah one;clear one;cases x
   all_goals
    go_wp2_with fail;refine Hrb.out.mono ?_;rintro e w5 ⟨rfl,rd5,c5⟩;have o5:=z09 o4 c5 (fun j hj e=>by have:=(o4.lt j hj).1;omega);have hu5:∀j,u5.ownBlock=some j->w3.heap.size<=j:=fun j hj=>(o4.lt j hj).1;have hw5:=(c4.trans c5 fun _ _ e=>e).size;simp only[uD];go_wp2_with (at_builtin;refine z03 _ rfl (.tmp 24) (.tmp 27) _ rfl w3.heap.size 4 i0 _ 1 1 Tryz.underlying120 hi0 hz0 hz1 hz2 rfl (by omega) _ k (lu (l.take k)) rfl (z09 o5 ((Ch.refl (fun _=>False) w5).alloc _) (fun _ _ hf=>hf)) (fun _=>True) _ 1 1 [_] rfl ⟨rfl,fun _=>⟨⟨w5.heap.size,0,none⟩,rfl,trivial,cell_one_new _ _ _⟩⟩ (by intro u hu;simp at hu;subst hu;rfl) (by simp only[maxLen];omega) (by omega) (by simp;omega) ?_;intro v' w6 h2 h3 h4)
    go_roundw
    case rel=>
     obtain ⟨q1,q2⟩:=One.out w5 u5 c5 rd5 v' w6 _ h3 hu5;exact ⟨k+1,by omega,by go_num,q1,by rw[Hs.out];exact h2,q2⟩
    case measure=>simp[intOf];omega
  ·obtain rfl:k=l.length:=by omega
   rw[List.take_length]at o4;have hfc:pl+m=fc.length:=(by rw[Hfl.out,Hm.out]);have hgr:g≠rg:=(by omega);go_wp2_with fail;go_ret;rw[hfc]at t3;exact ⟨_,rfl,kX o4 (by omega),t3.cur.ch c4 hgr (fun j hj e=>by have:=iD j hj;omega),t3.gW.trans c4 fun i hi e=>by omega⟩
def LK (W:World) (l:List Bool) (e:Ending) (w':World):Prop:=
 ∃v,e=.returned (.tuple #[v,.int .i64 0])/\ay W w' 4 1 v l.length (lu l)
theorem OC (D:Nat->Prop) (A:Option Addr) (n c:Nat) (l:List Bool) (W:World) (hr:Rd W D 1 A n (bl (aA 4 (bf l)))) (hl:(aA 4 (bf l)).length=n) (hn:l.length<=2048)
 (hcont:Calls Tryz.prog 197 #[.int .u8 4,.slice A n c] W (Pm W (bf l))):
 Calls Tryz.prog 139 #[.int .u8 4,.slice A n c,.func (.func 140) #[] #[],.func (.func 104) #[] #[]] W (LK W l):=by
 have hput:=fun (D:Nat->Prop) (A:Option Addr) (c:Nat) (w:World) (h:Rd w D 1 A l.length (lu l))=>z3j D A l.length c l w h rfl hn;have hcl:=fun (D:Nat->Prop) (g:Nat) (A:Option Addr) (c:Nat) (w:World) (h:aH w D g A c (bf l) 0 0)=>Jl D g A c l w h hn;have hstr:=fun (D:Nat->Prop) (A:Option Addr) (c:Nat) (w:World) (h:Rd w D 1 A n (bl (aA 4 (bf l))))=>rX (P:=Tryz.prog) w 26 9 5 Tryz.underlying26 Tryz.underlying5 Tryz.underlying9 D A n c _ h;have lD:=ah hput;have AL:=ah hcl;have gK:=ah hstr;have Hc:=ah hcont;clear hput hcl hstr hcont;generalize bf l=fc at *;generalize aA 4 fc=ch at *;subst hl;go_enter Tryz.func139,Tryz.ntmps139;go_wp2_with fail;with_reducible refine Hc.out.mono ?_
 rintro e w1 ⟨g,A1,c1,D1,rfl,cu1,n1,hg,hD1⟩;go_wp2_with fail;with_reducible refine (AL.out _ _ _ _ _ cu1).mono ?_
 rintro e w2 ⟨v2,rfl,o2,cu2,c2⟩;have n2:Nx W w2:=n1.trans c2 fun i hi e=>by omega
 have hs1:=n1.size;have yP:ay W w2 4 1 v2 l.length (lu l):=⟨kX o2 hs1,n2⟩;obtain ⟨A2,cc2,rfl,_,_⟩:=z04 o2;have hen:=su cu2;rw[show bg fc.length fc.length 0=0 by unfold bg;rw[if_neg (by simp),if_neg (by omega)]]at hen;have jc:=ah hen;clear hen o2 c2 cu1 cu2;go_wp2_with fail;with_reducible refine jc.out.mono ?_
 rintro e w3 ⟨rfl,d3⟩;have o3:=yP.tr d3.nx;clear d3 jc;go_wp2_with fail;with_reducible refine (lD.out _ _ _ _ o3.rd).mono ?_
 rintro e w4 ⟨k4,cap4,rfl,o4,h4⟩;have o5:=o3.tr o4.nx;have n5:=o5.nx;have e1:=gK.out _ _ cap4 w4 o4.jZ;have e2:=gK.out D A c w4 (hr.nx (by decide) n5);generalize aX ch=sx at *;go_wp2_with fail;go_ret2;exact ⟨_,rfl,o5⟩
theorem OH (D:Nat->Prop) (A:Option Addr) (n c:Nat) (l:List Bool) (W:World) (hr:Rd W D 1 A n (bl (aA 4 (bf l)))) (hl:(aA 4 (bf l)).length=n) (hn:l.length<=2048)
 (hcont:Calls Tryz.prog 197 #[.int .u8 4,.slice A n c] W (Pm W (bf l))):
 Calls Tryz.prog 64 #[.slice A n c] W (LK W l):=by
 have Hr:=ah (OC D A n c l W hr hl hn hcont);clear hr hcont hl;go_enter Tryz.func64,Tryz.ntmps64;go_wp2_with fail;with_reducible refine Hr.out.mono ?_
 rintro e w1 ⟨v,rfl,h⟩;go_wp2_with fail;go_ret2;exact ⟨_,rfl,h⟩
end Go.Proofs.YtpakjclpjcngmaaGreat
