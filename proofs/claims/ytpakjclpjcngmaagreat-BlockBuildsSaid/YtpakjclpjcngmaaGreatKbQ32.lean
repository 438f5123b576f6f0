/- Contracts and plain laws that the last text rests on. Conditions: each theorem states its own. -/
import Derived.Test.YtpakjclpjcngmaaGreatKbQ26
import Derived.Test.YtpakjclpjcngmaaGreatKbQ13
import Derived.Test.YtpakjclpjcngmaaGreatKbQ6
import Derived.IntWalk
import Derived.Test.YtpakjclpjcngmaaGreatKbQ27
import Derived.Test.YtpakjclpjcngmaaGreatKbPcOrdR
import Derived.RangeFuncBox
import Derived.RangeFuncLeaves
import Derived.Shelf.Abstract
import Derived.WalkKit
import Derived.OwnWalkIn
import Derived.TacticsInMore
import Derived.LoopNIn
import Derived.LoopIn
import Derived.Deep.RegionHeld3
import Derived.Test.YtpakjclpjcngmaaGreatKbQ10
import Derived.Test.YtpakjclpjcngmaaGreatKbQ3
set_option maxRecDepth 100000
set_option maxHeartbeats 16000000
set_option linter.unusedVariables false
namespace Go.Proofs.YtpakjclpjcngmaaGreat
open Go.RowKit
def xH (W w:World) (g:Nat) (xs:List Nat):Prop:=∃v,aG w g 26 #[v]/\ak W w 5 1 v xs.length (bl xs)
def Ii (w w':World):Prop:=∀b t cs,t≠5->t≠26->aG w b t cs->aG w' b t cs
theorem Ii.of {w w':World} {g:Nat} {v:Value} {W:World} {n:Nat} {xs:List Value} (hb:aG w g 26 #[v]) (ho:ak W w 5 1 v n xs) (c:Ch (fun k=>k=g∨v.ownBlock=some k) w w'):Ii w w':=fun b t cs h1 h2 h=>h.ch c (by
 rintro (e|e)
 ·subst e
  exact aG.Lj h hb h2 rfl
 ·exact z03 ho.own h (Ne.symm h1) e)
def Qo (W w:World) (g:Nat) (zs:List Nat) (e:Ending) (w':World):Prop:=e=.returned (.tuple #[])/\xH W w' g zs/\Ii w w'
theorem PX {W w:World} {g:Nat} {v:Value} {xs ys:List Nat} {B:Option Addr} {m c:Nat} {D:Nat->Prop} (hb:aG w g 26 #[v]) (ho:ak W w 5 1 v xs.length (bl xs)) (hW:W.heap.size<=g) (hy:Rd w D 1 B m (bl ys)) (hl:ys.length=m) (hD:∀k,D k->v.ownBlock≠some k) (er:Int)
 (hs:xs.length+ys.length<=100000000):
 Calls Tryz.prog 90 #[.slice B m c,.int .i64 er,.pointer (some ⟨g,0,none⟩)] w (Qo W w g (xs++aO ys)):=by
 obtain ⟨i0,hi0,hz0,hz1,hz2⟩:=info_parts Tryz.info5;have HPU:=ah (fun (w:World)=>U_ m w (by omega));have HW:Hid (xs++aO ys=xs++aj m++ys):=ah (by rw[←hl];simp[aO]);have hpl:=(z04 (n:=m) (by omega)).2;have HB:=ah hb;have HO:=ah ho;have HY:=ah hy;have kw:IntKind.u64.wrap (m:Int)=(m:Int):=by rw[IntKind.wrap_u64];omega
 have hne:=z03 ho.own hb (by decide);have CO:=ah hne;have c0:w.drew.cell? ⟨g,0,none⟩=some v:=hb.cell 0;clear hb ho hy hne;generalize xs++aO ys=Z at *;go_enter Tryz.func90,Tryz.ntmps90;refine Lh (fun _=>True) (fun _=>false) rfl trivial (fun hS0=>?_)
 try simp only[Act.put,dH,dF,dG]
 refine z00 (i:=1) (oi:=_) (v:=?_) rfl (fun _ _ _ h=>h) (Or.inl ⟨by rfl,?_⟩) ?_;rotate_left
 ·(intro w hSw;(try dsimp only at hSw);go_split_ands;go_simp;try with_reducible rfl)
 try simp only[Act.put,List.setIfInBounds_toArray]
 refine z00 (i:=2) (oi:=_) (v:=?_) rfl (fun _ _ _ h=>h) (Or.inl ⟨by rfl,?_⟩) ?_;rotate_left
 ·(intro w hSw;(try dsimp only at hSw);go_split_ands;go_simp;try with_reducible rfl)
 try simp only[Act.put]
 refine z00 (i:=3) (oi:=_) (v:=?_) rfl (fun _ _ _ h=>h) (Or.inl ⟨by rfl,?_⟩) ?_;rotate_left
 ·(intro w hSw;(try dsimp only at hSw);go_split_ands;go_simp;try with_reducible rfl)
 try simp only[Act.put]
 refine z00 (i:=6) (oi:=_) (v:=?_) rfl (fun _ _ _ h=>h) (Or.inl ⟨by rfl,?_⟩) ?_;rotate_left
 ·(intro w hSw;(try dsimp only at hSw);go_split_ands;go_simp;try with_reducible rfl)
 try simp only[Act.put]
 refine z2Z (fun w'=>w'.cell? ⟨g,0,none⟩=some v) (fun i=>decide (i=5∨i=7∨i=8)) (fun _=>trivial) ?_;have hSS:(fun w'=>w'.cell? ⟨g,0,none⟩=some v) w.drew:=c0;refine z00 (i:=0) (oi:=_) (v:=?_) rfl (fun _ _ _ h=>h) (Or.inl ⟨by rfl,?_⟩) ?_;rotate_left
 ·(intro w hSw;(try dsimp only at hSw);go_split_ands;go_simp;try with_reducible rfl)
 try simp only[Act.put]
 refine z02 (rs:=[4]) (by kernel_rfl) (by simp) (z01.cons (o:=_) rfl (fun K hK=>?_) z01.nil);go_simp;refine (HPU.out _).mono ?_;rintro e w3 ⟨k3,cap3,rfl,o3,hk3,hk3',hc3, -⟩;have N3:=ah (((Ch.refl (fun _=>False) w).drew).tr o3.nx);have OV:=ah (HO.out.tr N3.out);have BV:=ah (HB.out.nx N3.out);have R3:=ah o3.iy;have c3:w3.cell? ⟨g,0,none⟩=some v:=BV.out.cell 0;have RY:=ah (HY.out.nx (by decide) N3.out);have hk3w:w.heap.size<=k3:=hk3;have hlt3:∀k,v.ownBlock=some k->k≠k3:=fun k e=>by have:=(HO.out.lt k e).2;omega
 clear o3;refine hK.out _ _ (fun _=>c3) (fun au=>?_);have hHeld:=au (by decide);clear hK K au
 try simp only[Act.put,dH,dF,dG]
 refine z02 (rs:=[5]) (by kernel_rfl) (by simp) (z01.cons (o:=_) rfl (fun K hK=>?_) z01.nil);refine Ru _ rfl (.tmp 5) (.tmp 9) _ rfl W.heap.size 5 i0 _ 1 1 Tryz.underlying26 hi0 hz0 hz1 hz2 rfl (by omega) v xs.length (bl xs) rfl OV.out.own _ (some ⟨k3,0,none⟩) (aj m).length cap3 (bl (aj m)) rfl R3.out (iL _) (by simp only[maxLen];omega) (by omega) OV.out.nx.size ?_;intro v5 w5 aae gr5 at5;obtain ⟨o5,m5⟩:=QJ OV.out (Ch.refl _ _) aae gr5 at5;have O5:=ah o5;have M5:=ah m5;have RY5:=ah (RY.out.ch (by decide) m5.ch (fun k _ hk e=>hD k hk e));clear aae gr5 at5 o5 m5;refine hK.out _ _ (fun h=>absurd h (by decide)) (fun au=>?_);clear hK K au
 try simp only[Act.put,List.setIfInBounds_toArray]
 refine z02 (rs:=[7]) (by kernel_rfl) (by simp) (z01.cons (o:=_) rfl (fun K hK=>?_) z01.nil);refine Ru _ rfl (.tmp 10) (.tmp 11) _ rfl W.heap.size 5 i0 _ 1 1 Tryz.underlying26 hi0 hz0 hz1 hz2 rfl (by omega) v5 (xs.length+(aj m).length) (bl xs++bl (aj m)) rfl O5.out.own D B m c (bl ys) rfl RY5.out (iL _) (by simp only[maxLen];omega) (by omega) O5.out.nx.size ?_;intro v7 w7 jS gr7 at7;obtain ⟨o7,m7⟩:=QJ O5.out (Ch.refl _ _) jS gr7 at7;have O7:=ah o7;have M7:=ah m7;have hv5:v5.ownBlock≠some g:=z03 O5.out.own (BV.out.ch M5.out.ch CO.out) (by decide);have B7:=ah ((BV.out.ch M5.out.ch CO.out).ch m7.ch hv5);have f7:w7.frozen? ⟨g,0,none⟩=false:=B7.out.frozen 0;have c7:w7.cell? ⟨g,0,none⟩=some v:=B7.out.cell 0;obtain ⟨A7,cp7,rfl, -, -⟩:=o7.form;clear jS gr7 at7 o7 m7 hv5;refine hK.out _ _ (fun h=>absurd h (by decide)) (fun au=>?_);clear hK K au
 try simp only[Act.put]
 refine z02 (rs:=[8]) (by kernel_rfl) (by simp) (z01.cons (o:=_) rfl (fun K hK=>?_) z01.nil);go_simp;refine hK.out _ _ (fun h=>absurd h (by decide)) (fun au=>?_);clear hK K au
 try simp only[Act.put,dH,dF,dG]
 refine CX (by kernel_rfl) ?_ _;go_wp2_with fail;refine bodyPost_ret (results_none rfl _ _ _) rfl ?_;have hv7:(Value.slice A7 (xs.length+(aj m).length+m) cp7).ownBlock≠some g:=z03 O7.out.own B7.out (by decide);have cs:Ch (fun k=>k=g) w7 (w7.setCell ⟨g,0,none⟩ (.slice A7 (xs.length+(aj m).length+m) cp7)):=Ch.setCell (S:=fun k=>k=g) (Ch.refl _ w7) (p:=⟨g,0,none⟩) (fun _=>rfl) _;refine ⟨rfl,⟨_,B7.out.dK 0 _,?_⟩,Ii.of HB.out HO.out ?_⟩
 ·rw[HW.out,←hl]
  have:=O7.out.ch cs (fun k e h=>hv7 (by rw[e,h])) (fun i hi e=>by omega);rw[←hl]at this;simpa [bl,Nat.add_assoc]using this
 ·refine (((N3.out.mono (fun _ _ hf=>hf.elim)).trans M5.out.ch (fun i _ e=>.inr e)).trans M7.out.ch (fun i hi e=>?_)).trans cs (fun i _ e=>.inl e)
  rcases M5.out.at_ with h|⟨j,h,h2⟩
  ·right;rw[←h];exact e
  ·rw[h]at e
   injection e with e;have:=N3.out.size;omega
end Go.Proofs.YtpakjclpjcngmaaGreat
namespace Go.Proofs.YtpakjclpjcngmaaGreat
open Go.RowKit Go.Shelf
attribute [local go_sem] Oper.semAt_some
def dO (n per k:Nat):Nat:=min per (n-k * per)
def dN (n per:Nat):Nat:=(n+per-1) / per
def xB (A:Option Addr) (n per k:Nat):Value:=.slice (A.map fun ad=>ad.add (k * per * 9)) (dO n per k) (dO n per k)
def Iq (p q:Nat) (W W':World):Prop:=W.heap.size<=W'.heap.size/\W'.heap[p]?=W.heap[p]?/\W'.heap[q]?=W.heap[q]?
theorem Iq.refl (p q:Nat) (W:World):Iq p q W W:=⟨Nat.le_refl _,rfl,rfl⟩
theorem Iq.trans {p q:Nat} {A B C:World} (h:Iq p q A B) (k:Iq p q B C):Iq p q A C:=⟨Nat.le_trans h.1 k.1,k.2.1.trans h.2.1,k.2.2.trans h.2.2⟩
theorem z5b {W W':World} {p:Nat} (h:W'.heap[p]?=W.heap[p]?) (i:Nat):W'.cell? ⟨p,i,none⟩=W.cell? ⟨p,i,none⟩:=by
 unfold World.cell?;simp only[h]
theorem KJ (l p q:Nat) (A:Option Addr) (n c per:Nat) (kZ:1<=per) (Vr:per<=1000000) (hn:n<=1000000) (hc:n<=c) (hA:0<n->A≠none) (J:Nat->World->Prop) (Jx:World->Prop) (hJd:∀k W q,J k W->J k (W.drewN q))
 (hY:∀k W,J k W->k<dN n per->YieldAt Fence.wide 8 Tryz.prog l #[xB A n per k] W fun e W'=>
   (e=.returned (.bool true)/\J (k+1) W'/\Iq p q W W')∨(e=.returned (.bool false)/\Jx W'))
 (W:World) (hp:W.cell? ⟨p,0,none⟩=some (.slice A n c)) (hq:W.cell? ⟨q,0,none⟩=some (.int .i64 (per:Int))) (h0:J 0 W):
 CallsIn Fence.wide 9 Tryz.prog 89 #[.func (.yield l) #[] #[],.pointer (some ⟨p,0,none⟩),.pointer (some ⟨q,0,none⟩)] W fun e W'=>(∃v,e=.returned v)/\
  (J (dN n per) W'∨Jx W'):=by
 refine callsIn_of_wp Tryz.func89 rfl trivial ?_ rfl;simp only[Tryz.ntmps89,List.size_toArray,List.length_cons,List.length_nil,Nat.reduceAdd,Nat.reduceSub,Array.replicate_succ,Array.replicate_zero,List.push_toArray,List.append_toArray,List.nil_append,List.cons_append];gi_wp2
 gi_loopw [4] (fun i wr=>∃k:Nat,k<=dN n per/\i=.int .i64 ((k * per:Nat):Int)/\J k wr/\Iq p q W wr)
  (fun i _=>n+per-(intOf i).toNat)
 case atStart=>exact ⟨0,Nat.zero_le _,by simp,h0,Iq.refl _ _ _⟩
 case round=>
  obtain ⟨k,hk,rfl,hJs,hnx⟩:=hrel;have p0:wr.cell? ⟨p,0,none⟩=some (.slice A n c):=(z5b hnx.2.1 0).trans hp;have q0:wr.cell? ⟨q,0,none⟩=some (.int .i64 (per:Int)):=(z5b hnx.2.2 0).trans hq;by_cases hlt:k<dN n per
  ·have hlt2:k * per<n:=(YA (by omega)).1 hlt
   obtain ⟨ad,rfl⟩:=Option.ne_none_iff_exists'.1 (hA (by omega));have HY:=ah fun q'=>hY k (wr.drewN q') (hJd _ _ _ hJs) hlt;have hm1:dO n per k=min per (n-k * per):=rfl;have hm2:0<dO n per k:=by rw[hm1];omega
   have hm3:k * per+dO n per k<=n:=by rw[hm1];omega
   have hmul:(k+1) * per=k * per+per:=Nat.succ_mul k per;have HMUL:=ah hmul;unfold xB at HY;clear hmul hJs;unfold dO at HY hm1 hm2 hm3;clear hm1;generalize k * per=i at *;have e1:IntKind.i64.wrap ((n:Int)-(i:Int))=(n:Int)-i:=IntWalk.i64_in _ (by omega);gi_wp2
   refine wpIn_wide.2 ?_;go_quiet (fail)
   obtain ⟨fn,tmps,assign,body,hy,hR⟩:=HY.out nq;have eT:((i:Int)+min (per:Int) ((n-i:Nat):Int)).toNat-i=min per (n-i):=(by omega);rw[Option.map_some]at hy;gi_wp2
   refine hR.mono ?_;rintro e W3 (⟨rfl,hJ3,hk3⟩|⟨rfl,hJx3⟩)
   ·have hk4:Iq p q W W3:=hnx.trans (Iq.trans (B:=wr.drewN nq) ⟨Nat.le_refl _,rfl,rfl⟩ hk3)
    have q3:W3.cell? ⟨q,0,none⟩=some (.int .i64 (per:Int)):=(z5b hk4.2.2 0).trans hq;gi_wp2
    go_roundw
    case rel=>exact ⟨k+1,hlt,by rw[HMUL.out];simp,hJ3,hk4⟩
    case measure=>simp[intOf];omega
   ·gi_wp2
    refine bodyPost_ret (results_none rfl _ _ _) rfl ?_;exact ⟨⟨_,rfl⟩,.inr hJx3⟩
  ·obtain rfl:k=dN n per:=by omega
   have hge:n<=dN n per * per:=by
    have h1:=(YA (per:=per) (n:=n) (i:=dN n per) (by omega)).2;exact Nat.not_lt.1 fun h=>absurd (h1 h) (Nat.lt_irrefl _)
   generalize dN n per * per=i at *;gi_wp2
   go_end0
   exact ⟨⟨_,rfl⟩,.inl hJs⟩
theorem grown_drewN (W:World) (k:Nat):W.grownBy (W.drewN k) none:=⟨rfl,rfl,rfl,Nat.le_refl _,fun _ _ _=>rfl⟩
theorem TL {N k:Nat} (h:k<N):(List.finRange N).take (k+1)=(List.finRange N).take k++[⟨k,h⟩]:=by
 rw[List.take_succ_eq_append_getElem (by rw[List.length_finRange];exact h)];simp
theorem XO {α:Type} {N:Nat} (f:Nat->α):(List.finRange N).map (fun i=>f i.val)=(List.range N).map f:=by
 apply List.ext_getElem
 ·simp
 ·intro i h1 h2
  simp
theorem BG (p q:Nat) (A:Option Addr) (n c per:Nat) (kZ:1<=per) (Vr:per<=1000000) (hn:n<=1000000) (hc:n<=c) (hA:0<n->A≠none) (w:World) (hp:w.cell? ⟨p,0,none⟩=some (.slice A n c)) (hq:w.cell? ⟨q,0,none⟩=some (.int .i64 (per:Int))):
 SeqStopsK Fence.wide 9 Tryz.prog 89 #[.pointer (some ⟨p,0,none⟩),.pointer (some ⟨q,0,none⟩)] (fun k:Fin (dN n per)=> #[xB A n per k.val]) (Iq p q) (fun xs=>xs=List.finRange (dN n per)) (fun _=>True) (dN n per) w:=fun l J Jx W hW hJ _ hY h0=>by
 have h1:=World.block_lt_of_cell? w _ hp;have h2:=World.block_lt_of_cell? w _ hq;refine (KJ l p q A n c per kZ Vr hn hc hA (fun k W=>J ((List.finRange (dN n per)).take k) W) (fun W=>∃pre,Jx pre W) (fun k W' q' h=>hJ _ W' _ none h (grown_drewN W' q') (fun r hr=>by cases hr)) (fun k W' h hk=>?_) W ((hW.cell (p:=⟨p,0,none⟩) h1).trans hp) ((hW.cell (p:=⟨q,0,none⟩) h2).trans hq) (by simpa using h0)).mono ?_
 ·obtain ⟨fn,tmps,assign,body,hy,hR⟩:=hY _ ⟨k,hk⟩ W' h (by rw[List.length_take,List.length_finRange];omega)
  refine ⟨fn,tmps,assign,body,hy,hR.mono ?_⟩;rintro e W2 (⟨rfl,hJ2,hk2⟩|⟨rfl,hJ2⟩)
  ·exact .inl ⟨rfl,by rw[TL hk];exact hJ2,hk2⟩
  ·exact .inr ⟨rfl,_,hJ2⟩
 ·rintro e W2 ⟨he,hJ2|⟨pre,hJ2⟩⟩
  ·exact ⟨he,.inl ⟨_,rfl,by rw[List.take_of_length_le (by simp)]at hJ2;exact hJ2⟩⟩
  ·exact ⟨he,.inr ⟨pre,trivial,hJ2⟩⟩
theorem KI (A:Option Addr) (n c per:Nat) (kZ:1<=per) (hp2:per<=1000000) (w:World):
 Calls Tryz.prog 39 #[.slice A n c,.int .i64 (per:Int)] w fun e w'=>e=.returned (.func (.func 89) #[] #[.pointer (some ⟨w.heap.size,0,none⟩),.pointer (some ⟨w.heap.size+1,0,none⟩)])/\
  w'=(w.alloc (.cells #[.slice A n c] 22)).alloc (.cells #[.int .i64 (per:Int)] 3):=by
 have q1:¬((per:Int)<1):=by omega
 go_enter Tryz.func39,Tryz.ntmps39;go_wp2_with fail;go_ret;exact ⟨rfl,rfl⟩
end Go.Proofs.YtpakjclpjcngmaaGreat
namespace Go.Proofs.YtpakjclpjcngmaaGreat
open Go.RowKit
theorem IG (t:ByteArray):t.toList.isEmpty=decide (t.size=0):=by
 rw[Bool.eq_iff_iff,List.isEmpty_iff,decide_eq_true_iff,←List.length_eq_zero_iff];have:t.toList.length=t.size:=by rw[ByteArray.toList_eq,Array.length_toList];rfl
 omega
def Sv (x:RV):Value:=.agg #[.int .i64 x.row.kind,.int .i64 x.row.time,.slice x.A x.row.aB.length x.c,.string x.row.text,.int .i64 x.row.value,.bool x.row.null]
section
variable {kind time value maker seq place : Int} {aB : List dL} {text : ByteArray} {null : Bool}
theorem Wu (h:¬0<=time):fA (⟨kind,time,aB,text,value,null,maker,seq,place⟩:aA)=false:=by simp[fA,h]
theorem Ws (h:¬time<1099511627776):fA (⟨kind,time,aB,text,value,null,maker,seq,place⟩:aA)=false:=by simp[fA];omega
theorem Z_ (h:aZ aB=false):fA (⟨kind,time,aB,text,value,null,maker,seq,place⟩:aA)=false:=by simp[fA,h]
theorem aac (h1:kind≠1) (h2:kind≠2):fA (⟨kind,time,aB,text,value,null,maker,seq,place⟩:aA)=false:=by simp[fA,h1,h2]
end
section
variable {time value maker seq place : Int} {aB : List dL} {text : ByteArray} {null : Bool}
theorem WB (h:¬text.size<=200):fA (⟨1,time,aB,text,value,null,maker,seq,place⟩:aA)=false:=by simp[fA,h]
theorem WA (h:¬value=0):fA (⟨1,time,aB,text,value,null,maker,seq,place⟩:aA)=false:=by simp[fA,h]
theorem rec_1 (h1:0<=time) (h2:time<1099511627776) (h3:aZ aB=true) (h4:text.size<=200) (h5:value=0):fA (⟨1,time,aB,text,value,null,maker,seq,place⟩:aA)= !null:=by simp[fA,h1,h2,h3,h4,h5]
theorem Wv (h:¬text.size=0):fA (⟨2,time,aB,text,value,null,maker,seq,place⟩:aA)=false:=by simp[fA,h]
theorem Wy (h:¬ -1152921504606846976<=value):fA (⟨2,time,aB,text,value,null,maker,seq,place⟩:aA)=false:=by simp[fA];omega
theorem Wx (h:¬value<=1152921504606846976):fA (⟨2,time,aB,text,value,null,maker,seq,place⟩:aA)=false:=by simp[fA];omega
theorem rec_2 (h1:0<=time) (h2:time<1099511627776) (h3:aZ aB=true) (h4:text.size=0) (h5: -1152921504606846976<=value) (h6:value<=1152921504606846976):fA (⟨2,time,aB,text,value,null,maker,seq,place⟩:aA)=(!null||decide (value=0)):=by simp[fA,h1,h2,h3,h4,h5,h6]
end
theorem wJ {w:World} {D:Nat->Prop} (x:RV) (hx:x.ok w D) (hf:x.row.mid):
 Calls Tryz.prog 88 #[Sv x] w fun e w'=>e=.returned (.bool (fA x.row))/\Nx w w':=by
 have HR:=ah (fun w' (c':Nx w w')=>z4E (c:=x.c) (hx.1.nx (by decide) c') rfl (by have:=hf.2;omega) hf.1.1);unfold Sv;obtain ⟨⟨kind,time,aB,text,value,null,maker,seq,place⟩,A1,c1⟩:=x;simp only at HR ⊢;clear hx hf;have B1:=ah (aG.new w 56 #[.int .i64 kind,.int .i64 time,.slice A1 aB.length c1,.string text,.int .i64 value,.bool null]);have N1:=ah ((Ch.refl (fun _=>False) w).alloc (.cells #[.int .i64 kind,.int .i64 time,.slice A1 aB.length c1,.string text,.int .i64 value,.bool null] 56));by_cases h1:0<=time
 ·by_cases h2:time<1099511627776
  ·cases hr:aZ aB
   ·rw[hr]at HR
    have HL:=ah hr;clear hr;go_enter Tryz.func88,Tryz.ntmps88;go_wp2_with fail;refine (HR.out _ N1.out).mono ?_;rintro e w2 ⟨rfl,n2⟩;have N2:=ah (N1.out.tr n2);clear n2;go_wp2_with fail;go_ret;exact ⟨by rw[Z_ HL.out];first|done|rfl,N2.out⟩
   ·rw[hr]at HR
    have HL:=ah hr;clear hr;by_cases hk1:kind=1
    ·subst hk1
     by_cases h4:text.size<=200
     ·by_cases h5:value=0
      ·subst h5
       cases null
       all_goals
        go_enter Tryz.func88,Tryz.ntmps88;go_wp2_with fail;refine (HR.out _ N1.out).mono ?_;rintro e w2 ⟨rfl,n2⟩;have N2:=ah (N1.out.tr n2);have b2:=B1.out.nx n2;have q0:w2.cell? ⟨w.heap.size,0,none⟩=some _:=b2.cell 0;have q3:w2.cell? ⟨w.heap.size,3,none⟩=some _:=b2.cell 3;have q4:w2.cell? ⟨w.heap.size,4,none⟩=some _:=b2.cell 4;have q5:w2.cell? ⟨w.heap.size,5,none⟩=some _:=b2.cell 5;clear n2 b2;go_wp2_with fail;go_ret;exact ⟨by rw[rec_1 h1 h2 HL.out h4 rfl];first|done|rfl,N2.out⟩
      ·have q9:(value==0)=false:=by simp[h5]
       go_enter Tryz.func88,Tryz.ntmps88;go_wp2_with fail;refine (HR.out _ N1.out).mono ?_;rintro e w2 ⟨rfl,n2⟩;have N2:=ah (N1.out.tr n2);have b2:=B1.out.nx n2;have q0:w2.cell? ⟨w.heap.size,0,none⟩=some _:=b2.cell 0;have q3:w2.cell? ⟨w.heap.size,3,none⟩=some _:=b2.cell 3;have q4:w2.cell? ⟨w.heap.size,4,none⟩=some _:=b2.cell 4;have q5:w2.cell? ⟨w.heap.size,5,none⟩=some _:=b2.cell 5;clear n2 b2;go_wp2_with fail;go_ret;exact ⟨by rw[WA (by omega)];first|done|rfl,N2.out⟩
     ·go_enter Tryz.func88,Tryz.ntmps88
      go_wp2_with fail;refine (HR.out _ N1.out).mono ?_;rintro e w2 ⟨rfl,n2⟩;have N2:=ah (N1.out.tr n2);have b2:=B1.out.nx n2;have q0:w2.cell? ⟨w.heap.size,0,none⟩=some _:=b2.cell 0;have q3:w2.cell? ⟨w.heap.size,3,none⟩=some _:=b2.cell 3;have q4:w2.cell? ⟨w.heap.size,4,none⟩=some _:=b2.cell 4;have q5:w2.cell? ⟨w.heap.size,5,none⟩=some _:=b2.cell 5;clear n2 b2;go_wp2_with fail;go_ret;exact ⟨by rw[WB (by omega)];first|done|rfl,N2.out⟩
    ·by_cases hk2:kind=2
     ·subst hk2
      have hE:(text.toList.isEmpty)=decide (text.size=0):=IG text;by_cases h4:text.size=0
      ·rw[decide_eq_true h4]at hE
       by_cases h5: -1152921504606846976<=value
       ·by_cases h6:value<=1152921504606846976
        ·cases null
         ·go_enter Tryz.func88,Tryz.ntmps88
          go_wp2_with fail;refine (HR.out _ N1.out).mono ?_;rintro e w2 ⟨rfl,n2⟩;have N2:=ah (N1.out.tr n2);have b2:=B1.out.nx n2;have q0:w2.cell? ⟨w.heap.size,0,none⟩=some _:=b2.cell 0;have q3:w2.cell? ⟨w.heap.size,3,none⟩=some _:=b2.cell 3;have q4:w2.cell? ⟨w.heap.size,4,none⟩=some _:=b2.cell 4;have q5:w2.cell? ⟨w.heap.size,5,none⟩=some _:=b2.cell 5;clear n2 b2;go_wp2_with fail;go_ret;exact ⟨by rw[rec_2 h1 h2 HL.out h4 h5 h6];first|done|rfl,N2.out⟩
         ·by_cases h7:value=0
          ·subst h7
           go_enter Tryz.func88,Tryz.ntmps88;go_wp2_with fail;refine (HR.out _ N1.out).mono ?_;rintro e w2 ⟨rfl,n2⟩;have N2:=ah (N1.out.tr n2);have b2:=B1.out.nx n2;have q0:w2.cell? ⟨w.heap.size,0,none⟩=some _:=b2.cell 0;have q3:w2.cell? ⟨w.heap.size,3,none⟩=some _:=b2.cell 3;have q4:w2.cell? ⟨w.heap.size,4,none⟩=some _:=b2.cell 4;have q5:w2.cell? ⟨w.heap.size,5,none⟩=some _:=b2.cell 5;clear n2 b2;go_wp2_with fail;go_ret;exact ⟨by rw[rec_2 h1 h2 HL.out h4 (by decide) (by decide)];rfl,N2.out⟩
          ·have q9:(value==0)=false:=by simp[h7]
           go_enter Tryz.func88,Tryz.ntmps88;go_wp2_with fail;refine (HR.out _ N1.out).mono ?_;rintro e w2 ⟨rfl,n2⟩;have N2:=ah (N1.out.tr n2);have b2:=B1.out.nx n2;have q0:w2.cell? ⟨w.heap.size,0,none⟩=some _:=b2.cell 0;have q3:w2.cell? ⟨w.heap.size,3,none⟩=some _:=b2.cell 3;have q4:w2.cell? ⟨w.heap.size,4,none⟩=some _:=b2.cell 4;have q5:w2.cell? ⟨w.heap.size,5,none⟩=some _:=b2.cell 5;clear n2 b2;go_wp2_with fail;go_ret;exact ⟨by rw[rec_2 h1 h2 HL.out h4 h5 h6];simp[h7],N2.out⟩
        ·go_enter Tryz.func88,Tryz.ntmps88
         go_wp2_with fail;refine (HR.out _ N1.out).mono ?_;rintro e w2 ⟨rfl,n2⟩;have N2:=ah (N1.out.tr n2);have b2:=B1.out.nx n2;have q0:w2.cell? ⟨w.heap.size,0,none⟩=some _:=b2.cell 0;have q3:w2.cell? ⟨w.heap.size,3,none⟩=some _:=b2.cell 3;have q4:w2.cell? ⟨w.heap.size,4,none⟩=some _:=b2.cell 4;have q5:w2.cell? ⟨w.heap.size,5,none⟩=some _:=b2.cell 5;clear n2 b2;go_wp2_with fail;go_ret;exact ⟨by rw[Wx (by omega)];first|done|rfl,N2.out⟩
       ·go_enter Tryz.func88,Tryz.ntmps88
        go_wp2_with fail;refine (HR.out _ N1.out).mono ?_;rintro e w2 ⟨rfl,n2⟩;have N2:=ah (N1.out.tr n2);have b2:=B1.out.nx n2;have q0:w2.cell? ⟨w.heap.size,0,none⟩=some _:=b2.cell 0;have q3:w2.cell? ⟨w.heap.size,3,none⟩=some _:=b2.cell 3;have q4:w2.cell? ⟨w.heap.size,4,none⟩=some _:=b2.cell 4;have q5:w2.cell? ⟨w.heap.size,5,none⟩=some _:=b2.cell 5;clear n2 b2;go_wp2_with fail;go_ret;exact ⟨by rw[Wy (by omega)];first|done|rfl,N2.out⟩
      ·rw[decide_eq_false h4]at hE
       go_enter Tryz.func88,Tryz.ntmps88;go_wp2_with fail;refine (HR.out _ N1.out).mono ?_;rintro e w2 ⟨rfl,n2⟩;have N2:=ah (N1.out.tr n2);have b2:=B1.out.nx n2;have q0:w2.cell? ⟨w.heap.size,0,none⟩=some _:=b2.cell 0;have q3:w2.cell? ⟨w.heap.size,3,none⟩=some _:=b2.cell 3;have q4:w2.cell? ⟨w.heap.size,4,none⟩=some _:=b2.cell 4;have q5:w2.cell? ⟨w.heap.size,5,none⟩=some _:=b2.cell 5;clear n2 b2;go_wp2_with fail;go_ret;exact ⟨by rw[Wv (by omega)];first|done|rfl,N2.out⟩
     ·have q7:(kind==1)=false:=by simp[hk1]
      have q8:(kind==2)=false:=(by simp[hk2]);go_enter Tryz.func88,Tryz.ntmps88;go_wp2_with fail;refine (HR.out _ N1.out).mono ?_;rintro e w2 ⟨rfl,n2⟩;have N2:=ah (N1.out.tr n2);have b2:=B1.out.nx n2;have q0:w2.cell? ⟨w.heap.size,0,none⟩=some _:=b2.cell 0;have q3:w2.cell? ⟨w.heap.size,3,none⟩=some _:=b2.cell 3;have q4:w2.cell? ⟨w.heap.size,4,none⟩=some _:=b2.cell 4;have q5:w2.cell? ⟨w.heap.size,5,none⟩=some _:=b2.cell 5;clear n2 b2;go_wp2_with fail;go_ret;exact ⟨by rw[aac hk1 hk2];first|done|rfl,N2.out⟩
  ·go_enter Tryz.func88,Tryz.ntmps88
   go_wp2_with fail;go_wp2_with fail;go_ret;exact ⟨by rw[Ws (by omega)];first|done|rfl,N1.out⟩
 ·go_enter Tryz.func88,Tryz.ntmps88
  go_wp2_with fail;go_wp2_with fail;go_ret;exact ⟨by rw[Wu (by omega)];first|done|rfl,N1.out⟩
end Go.Proofs.YtpakjclpjcngmaaGreat
