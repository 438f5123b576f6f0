/- Contracts and plain laws that the last text rests on. Conditions: each theorem states its own. -/
import Derived.Test.YtdbfejfhpkakhaaGreatKKd2PbStl
import Derived.RangeFuncBox
import Derived.RangeFuncLeaves
import Derived.Shelf.Abstract
import Derived.WalkKit
import Derived.OwnWalkIn
import Derived.TacticsInMore
import Derived.LoopNIn
import Derived.LoopIn
import Derived.Maps.AppendAt
set_option maxRecDepth 100000
set_option maxHeartbeats 2000000
set_option linter.unusedVariables false
set_option linter.unusedSimpArgs false
namespace Go.Proofs.YtdbfejfhpkakhaaGreat
open Go.RowKit Go.Shelf
attribute [local go_sem] Oper.semAt_some
theorem take_snoc {zs:List ByteArray} {k:Nat} (h:k<zs.length):zs.take (k+1)=zs.take k++[zs.getD k ByteArray.empty]:=by
 rw[List.take_succ_eq_append_getElem h,List.getD,List.getElem?_eq_getElem h];rfl
theorem zS (a b:List ByteArray):dK (a++b)=dK a++dK b:=by simp[dK]
theorem Tryz.uw:(Tryz.prog.info? 9).map (fun i=>(i.zero,i.size,i.bytes))=some (some (.string ⟨#[]⟩),1,16):=by kernel_rfl
set_option maxRecDepth 100000 in
theorem values1_in (F:Fence) (n:Nat) (h7:F.fn 133) (hro:F.round=none) (hn:1<=n) (l Bs n₀:Nat) (A:Option Addr) (len cap:Nat) (zs:List ByteArray) (hlen:zs.length=len) (hreach:len<=1000000) (hle:len<=cap) (J Jx:List ByteArray->World->Prop)
 (hY:∀pre x W,J pre W->pre.length<len->YieldAt F (n-1) Tryz.prog l #[.string x] W fun e W'=>
   (e=.returned (.bool true)/\J (pre++[x]) W'/\Below n₀ W W')∨(e=.returned (.bool false)/\Jx (pre++[x]) W'))
 (W:World) (hBs:W.cell? ⟨Bs,0,none⟩=some (.slice A len cap)) (hrd:Rd W (· <n₀) 1 A len (dK zs)) (h0:J [] W):
 CallsIn F n Tryz.prog 133 #[.func (.yield l) #[] #[],.pointer (some ⟨Bs,0,none⟩)] W fun e W'=>(∃v,e=.returned v)/\
  ((∃ys,ys=zs/\J ys W')∨(∃pre,pre<+:zs/\Jx pre W')):=by
 refine callsIn_of_wp Tryz.func133 rfl h7 ?_ hro;simp only[Tryz.ntmps133,List.size_toArray,List.length_cons,List.length_nil,Nat.reduceAdd,Nat.reduceSub,Array.replicate_succ,Array.replicate_zero,List.push_toArray,List.append_toArray,List.nil_append,List.cons_append];gi_wp2
 gi_loopw [7] (fun i wr=>∃k:Nat,k<=len/\i=.int .i64 k/\J (zs.take k) wr/\Below n₀ W wr)
  (fun i _=>len-(intOf i).toNat)
 case atStart=>exact ⟨0,Nat.zero_le _,rfl,h0,Below.refl _ _⟩
 case round=>
  obtain ⟨k,hk,rfl,hJs,hnx⟩:=hrel;by_cases hlt:k<len
  ·obtain ⟨ad,rfl,hD,hcell⟩:=hrd.2 (by omega)
   have hcx':wr.cell? (ad.add k)=some (.string (zs.getD k ByteArray.empty)):=(hnx.cell (p:=ad.add k) (by rw[vw];exact hD)).trans (hcell k _ (Jp (by omega)));obtain ⟨fn,tmps,assign,body,hy,hR⟩:=hY _ (zs.getD k ByteArray.empty) wr hJs (by rw[List.length_take];omega);have HT:=ah (take_snoc (zs:=zs) (k:=k) (by omega));clear hcell;generalize zs.getD k ByteArray.empty=x at *;gi_wp2
   refine hR.mono ?_;rintro e W3 (⟨rfl,hJ3,hk3⟩|⟨rfl,hJx3⟩)
   ·gi_wp2
    go_roundw
    case rel=>exact ⟨k+1,by omega,by simp,by rw[HT.out];exact hJ3,hnx.trans hk3⟩
    case measure=>simp[intOf];omega
   ·gi_wp2
    refine bodyPost_ret (results_none rfl _ _ _) rfl ?_;exact ⟨⟨_,rfl⟩,.inr ⟨_,by rw[←HT.out];exact List.take_prefix _ _,hJx3⟩⟩
  ·obtain rfl:k=len:=by omega
   rw[←hlen,List.take_length]at hJs;gi_wp2
   go_end0
   exact ⟨⟨_,rfl⟩,.inl ⟨_,rfl,hJs⟩⟩
theorem values_in (F:Fence) (n:Nat) (h5:F.fn 93) (hro:F.round=none) (a:Option Addr) (len cap:Nat) (w:World):
 CallsIn F n Tryz.prog 93 #[.slice a len cap] w fun e w'=>e=.returned (.func (.func 133) #[] #[.pointer (some ⟨w.heap.size,0,none⟩)])/\w'=w.alloc (.cells #[.slice a len cap] 22):=by
 refine callsIn_of_wp Tryz.func93 rfl h5 ?_ hro;simp only[Tryz.ntmps93,List.size_toArray,List.length_cons,List.length_nil,Nat.reduceAdd,Nat.reduceSub,Array.replicate_succ,Array.replicate_zero,List.push_toArray,List.append_toArray,List.nil_append,List.cons_append];gi_wp2
 go_ret;exact ⟨rfl,rfl⟩
theorem values_stops (F:Fence) (n:Nat) (h7:F.fn 133) (hro:F.round=none) (hn:1<=n) (Bs n₀:Nat) (A:Option Addr) (len cap:Nat) (zs:List ByteArray) (hlen:zs.length=len) (hreach:len<=1000000) (hle:len<=cap) (w:World) (hBs:Bs<w.heap.size) (hn₀:n₀<=w.heap.size)
 (hc:w.cell? ⟨Bs,0,none⟩=some (.slice A len cap)) (hrd:Rd w (· <n₀) 1 A len (dK zs)):
 SeqStopsK F n Tryz.prog 133 #[.pointer (some ⟨Bs,0,none⟩)] (fun x:ByteArray=> #[Value.string x]) (Below n₀) (fun ys=>ys=zs) (fun pre=>pre<+:zs) len w:=fun l J Jx W hW _ _ hY h0=>by
 have hc':=(hW.cell (p:=⟨Bs,0,none⟩) hBs).trans hc;exact values1_in F n h7 hro hn l Bs n₀ A len cap zs hlen hreach hle J Jx hY W hc' (hrd.keep fun k hk=>(hW.mono hn₀).block k hk) h0
set_option maxRecDepth 100000 in
theorem appendSeq_in (F:Fence) (n:Nat) (h11:F.fn 108) (h7:F.fn 133) (hro:F.round=none) (hn:3<=n) (Bs:Nat) (A:Option Addr) (len cap:Nat) (zs:List ByteArray) (hlen:zs.length=len) (hreach:len<=1000000) (hle:len<=cap) (w:World)
 (hc:w.cell? ⟨Bs,0,none⟩=some (.slice A len cap)) (hrd:Rd w (· <w.heap.size) 1 A len (dK zs)):
 CallsIn F n Tryz.prog 108 #[.slice none 0 0,.func (.func 133) #[] #[.pointer (some ⟨Bs,0,none⟩)]] w fun e W'=>∃v,e=.returned v/\W'.ownsRow w.heap.size 9 1 v len (dK zs)/\Below w.heap.size w W':=by
 have h1:1<=n:=by omega
 have hBs:=World.block_lt_of_cell? w _ hc;obtain ⟨i0,hi,hz0,hz1,hz2⟩:=info_parts Tryz.uw;refine callsIn_of_wp_marks Tryz.func108 rfl h11 ?_ hro;simp only[Tryz.ntmps108,List.size_toArray,List.length_cons,List.length_nil,Nat.reduceAdd,Nat.reduceSub,Array.replicate_succ,Array.replicate_zero,List.push_toArray,List.append_toArray,List.nil_append,List.cons_append];gi_wp2
 have bO:=Boxed.new w 22 (.slice none 0 0);have hB0:Below w.heap.size w (w.alloc (.cells #[.slice none 0 0] 22)):=(Below.refl _ w).alloc (Nat.le_refl _) _;have hc0:(w.alloc (.cells #[.slice none 0 0] 22)).cell? ⟨Bs,0,none⟩=some (.slice A len cap):=(hB0.cell (p:=⟨Bs,0,none⟩) hBs).trans hc;have hr0:Rd (w.alloc (.cells #[.slice none 0 0] 22)) (· <w.heap.size) 1 A len (dK zs):=hrd.keep fun k hk=>hB0.block k hk
 refine wpIn_rangeFunc_ownG hro h1 (gf:=133) (lb:= #[.pointer (some ⟨Bs,0,none⟩)]) rfl h7 (enters_of Tryz.func133 (by kernel_rfl) rfl)
  (values_stops F (n-1) h7 hro (by omega) Bs w.heap.size A len cap zs hlen hreach hle _ (by simp;omega) (by simp) hc0 hr0) belowK_t (belowK_b (by simp)) (Below.refl _ _) (fun _=>rfl)
  (fun pre W=>(∃v,Boxed W w.heap.size 22 v/\W.ownsRow w.heap.size 9 1 v pre.length (dK pre)/\True)/\Below w.heap.size w W)
  (fun _ _ _=>False)
  (OwnFrom.and (Own.from (holdsRow_own w.heap.size w.heap.size 22 9 1 (fun pre=>pre.length) (fun pre=>dK pre) (fun _ _=>True)) _) (ownFrom_below (Nat.le_refl _) (by simp)))
  (fun _ _ _ _ _ hs _ _=>hs)
  ⟨⟨_,bO,World.ownsRow_nil _ _ _ _,trivial⟩,hB0⟩
  (fun x=>{ tmps:= #[.slice none 0 0,.func (.func 133) #[] #[.pointer (some ⟨Bs,0,none⟩)],.pointer (some ⟨w.heap.size,0,none⟩),undef,.slice none 0 0,.string x,.func (.func 133) #[] #[.pointer (some ⟨Bs,0,none⟩)],.string x,undef,undef,undef,undef,undef],defers:=[]}) ?assign ?body ?done ?stop
 case assign=>
  intro l x W K hK;gi_wp2
  exact hK
 case body=>
  rintro l pre x W ⟨⟨v,hv,hrow, -⟩,hB⟩ hlt;have hc:=hv.cell;gi_wp2_with (gi_at_builtin;refine wpListIn_append_own _ rfl _ _ 22 rfl w.heap.size 9 i0 (.string ⟨#[]⟩) 1 16 Tryz.underlying22 hi hz0 hz1 hz2 rfl (by decide) _ _ _ rfl (hrow.alloc _) ⟨W.heap.size,0,none⟩ 1 1 [.string x] rfl rfl (cell_one_new _ _ _) (by simp[Value.oneCell']) (by simp only[maxLen];omega) (by omega) (by have:=hB.size;simp;omega) ?_;intro v' w1 hown' hgrow _;obtain ⟨g',cap',rfl⟩:=ownsRow_succ hown';obtain ⟨hv1,hv2,hr2,hk2,hb2⟩:=hv.appended (by decide) hrow hB.size (Nat.le_refl _) hown' hgrow;have hc1:=hv1.cell;have hf1:=hv1.frozen)
  exact ⟨hk2.from _,hb2,⟨_,hv2,by rw[zS];simpa [dK]using hr2,trivial⟩,hB.trans hb2⟩
 case done=>
  rintro D ys W hD rfl ⟨⟨v,hv,hrow, -⟩,hB⟩ hK;have hc:=hv.cell;gi_wp2
  refine ⟨by simp,.inl ⟨_,_,rfl,run_takeDeferred hK,?_⟩⟩;exact ⟨_,results_tmp rfl _ _ _,v,rfl,by rw[←hlen];exact ownsRow_putObj hrow _ hK rfl,hB.trans (belowK_b (w:=w) (Nat.le_refl _) W D _ _ (by simp at hD;omega) hK rfl rfl)⟩
 case stop=>
  rintro D c pre W _ _ h _;exact h.elim
theorem collect_in (F:Fence) (n:Nat) (h8:F.fn 79) (h11:F.fn 108) (h7:F.fn 133) (hro:F.round=none) (hn:4<=n) (Bs:Nat) (A:Option Addr) (len cap:Nat) (zs:List ByteArray) (hlen:zs.length=len) (hreach:len<=1000000) (hle:len<=cap) (w:World)
 (hc:w.cell? ⟨Bs,0,none⟩=some (.slice A len cap)) (hrd:Rd w (· <w.heap.size) 1 A len (dK zs)):
 CallsIn F n Tryz.prog 79 #[.func (.func 133) #[] #[.pointer (some ⟨Bs,0,none⟩)]] w fun e W'=>∃v,e=.returned v/\W'.ownsRow w.heap.size 9 1 v len (dK zs)/\Below w.heap.size w W':=by
 have h1:1<=n:=by omega
 have hcall:=appendSeq_in F (n-1) h11 h7 hro (by omega) Bs A len cap zs hlen hreach hle w hc hrd;refine callsIn_of_wp Tryz.func79 rfl h8 ?_ hro;simp only[Tryz.ntmps79,List.size_toArray,List.length_cons,List.length_nil,Nat.reduceAdd,Nat.reduceSub,Array.replicate_succ,Array.replicate_zero,List.push_toArray,List.append_toArray,List.nil_append,List.cons_append];gi_wp2_with (gi_at_call 108;refine hcall.mono ?_;rintro e w' ⟨v,rfl,hrow,hb⟩)
 go_ret;exact ⟨v,rfl,hrow,hb⟩
theorem kZ (a:Option Addr) (len cap:Nat) (w:World):
 Calls Tryz.prog 93 #[.slice a len cap] w fun e w'=>e=.returned (.func (.func 133) #[] #[.pointer (some ⟨w.heap.size,0,none⟩)])/\w'=w.alloc (.cells #[.slice a len cap] 22):=
 (callsIn_wide (n:=9)).1 (values_in Fence.wide 9 trivial rfl a len cap w)
theorem yj (Bs:Nat) (A:Option Addr) (len cap:Nat) (zs:List ByteArray) (hlen:zs.length=len) (hreach:len<=1000000) (hle:len<=cap) (w:World)
 (hc:w.cell? ⟨Bs,0,none⟩=some (.slice A len cap)) (hrd:Rd w (· <w.heap.size) 1 A len (dK zs)):
 Calls Tryz.prog 79 #[.func (.func 133) #[] #[.pointer (some ⟨Bs,0,none⟩)]] w fun e W'=>∃v,e=.returned v/\aF w W' 9 1 v len (dK zs):=
 ((callsIn_wide (n:=9)).1 (collect_in Fence.wide 9 trivial trivial trivial rfl (by omega) Bs A len cap zs hlen hreach hle w hc hrd)).mono fun e W' ⟨v,he,ho,hb⟩=>⟨v,he,ho,(Ch.of_below hb).nx fun i hi hs=>by omega⟩
end Go.Proofs.YtdbfejfhpkakhaaGreat
