/- Contracts and plain laws that the last text rests on. Conditions: each theorem states its own. -/
import Derived.Test.YtfljcllpmbnjaaaGreatKdQ25
import Derived.Test.YtfljcllpmbnjaaaGreatKdQ10
set_option maxRecDepth 100000
set_option maxHeartbeats 8000000
set_option linter.unusedVariables false
namespace Go.Proofs.YtfljcllpmbnjaaaGreat
open Go.RowKit
theorem z2E (D:Nat->Prop) (A:Option Addr) (n c:Nat) (zs:List Int) (w:Nat) (W:World) (hr:Rd W D 1 A n (il zs)) (hl:zs.length=n) (hn:n<=9223372036854775807) (hw:w<=2) (he:aO zs≠0):
 Calls Tryz.prog 32 #[.slice A n c,.int .i64 (w:Int)] W fun e w'=>e=.returned (.tuple #[.slice none 0 0,.int .i64 (aO zs)])/\W=w':=by
 have hck:=og D A n c zs w W hr hl hn hw he;generalize aO zs=er at *;have hne:(er !=0)=true:=by rw[bne_iff_ne];exact he
 have Qw:=ah hck;clear hck hl hr he;go_enter Tryz.func32,Tryz.ntmps32;go_wp2_with fail;with_reducible refine Qw.out.mono ?_
 rintro e w1 ⟨rfl,rfl⟩;go_wp2_with fail;go_ret2;exact ⟨rfl,rfl⟩
theorem oh (D:Nat->Prop) (A:Option Addr) (n c:Nat) (zs:List Int) (W:World) (hr:Rd W D 1 A n (il zs)) (hl:zs.length=n) (hn:n<=9223372036854775807) (he:aO zs≠0):
 Calls Tryz.prog 31 #[.slice A n c] W fun e w'=>e=.returned (.int .i64 0)/\W=w':=by
 have hck:=z2E D A n c zs 0 W hr hl hn (by omega) he;generalize aO zs=er at *;have hne:(er !=0)=true:=by rw[bne_iff_ne];exact he
 have Qw:=ah hck;clear hck hl hr he;go_enter Tryz.func31,Tryz.ntmps31;go_wp2_with fail;refine wp_loop_rounds 1 ?_;rw[rounds_succ];go_wp2_with fail;refine Qw.out.mono ?_;rintro e w1 ⟨rfl,rfl⟩;go_wp2_with fail;go_ret;exact ⟨rfl,rfl⟩
theorem DW (D:Nat->Prop) (A:Option Addr) (n c:Nat) (zs:List Int) (W:World) (hr:Rd W D 1 A n (il zs)) (hl:zs.length=n) (he:aO zs=0):
 Calls Tryz.prog 31 #[.slice A n c] W fun e w'=>e=.returned (.int .i64 (aY zs:Int))/\Nx W w':=by
 have henc:=fun (w:World) (nx:Nx W w) (k:Nat) (hk:k<=2)=>z4q D A n c zs k w (hr.nx (by decide) nx) hl hk he
 have hlen:∀k,k<=2->(bf zs k).length<=100000:=fun k hk=>by
  obtain ⟨h1,h2⟩:=jH he;have:=(z26 h2 (by omega) hk).2;omega
 have Hd:Hid (aY zs=(bst zs 3).1):=ah (by unfold aY;rw[if_neg (by simpa using he)]);have TM:=ah henc;have Hlen:=ah hlen;clear henc hlen hr he;go_enter Tryz.func31,Tryz.ntmps31;go_wp2_with fail;go_loopw [3,4,5] (fun s3 s4 i wr=>∃k:Nat,k<=3/\i=.int .i64 (k:Int)/\s3=.int .i64 ((bst zs k).1:Int)/\s4=.int .i64 (bst zs k).2/\Nx W wr) (fun _ _ i _=>3-(intOf i).toNat)
 case atStart=>exact ⟨0,by omega,rfl,rfl,rfl,Ch.refl _ _⟩
 case round=>
  obtain ⟨w1,rfl⟩:∃w1:World,w1=wr:=⟨_,rfl⟩;obtain ⟨k,hk,rfl,rfl,rfl,nx⟩:=hrel;by_cases hlt:k<3
  ·have hs:bst zs (k+1)=if (bst zs k).2<0∨((bf zs k).length:Int)<(bst zs k).2 then (k,((bf zs k).length:Int)) else bst zs k:=rfl
   have hen:=TM.out w1 nx k (by omega);have hll:=Hlen.out k (by omega);unfold FM at hen;generalize bf zs k=ec at *;generalize bst zs k=t at *;obtain ⟨tb,tl⟩:=t;simp only at hs ⊢;have fV:=ah hen;clear hen;by_cases h1:tl<0∨(ec.length:Int)<tl
   ·rw[if_pos h1]at hs
    have Hs:=ah hs;clear hs;go_wp2_with fail;with_reducible refine fV.out.mono ?_
    rintro e w2 ⟨k2,cap2,rfl,o2,_⟩;have nx2:=nx.tr o2.nx;rcases Classical.em (tl<0) with h2|h2
    ·go_wp2_with fail
     go_roundw
     case rel=>exact ⟨k+1,by omega,by go_num,by rw[Hs.out],by rw[Hs.out],nx2⟩
     case measure=>simp[intOf];omega
    ·have h3:=h1.resolve_left h2
     go_wp2_with fail;go_roundw
     case rel=>exact ⟨k+1,by omega,by go_num,by rw[Hs.out],by rw[Hs.out],nx2⟩
     case measure=>simp[intOf];omega
   ·rw[if_neg h1]at hs
    have Hs:=ah hs;have h2:¬tl<0:=fun h=>h1 (.inl h);have h3:¬(ec.length:Int)<tl:=fun h=>h1 (.inr h);clear hs h1;go_wp2_with fail;with_reducible refine fV.out.mono ?_
    rintro e w2 ⟨k2,cap2,rfl,o2,_⟩;have nx2:=nx.tr o2.nx;go_wp2_with fail;go_roundw
    case rel=>exact ⟨k+1,by omega,by go_num,by rw[Hs.out],by rw[Hs.out],nx2⟩
    case measure=>simp[intOf];omega
  ·obtain rfl:k=3:=by omega
   go_wp2_with fail;go_ret;exact ⟨by rw[Hd.out];rfl,nx⟩
def bT (l:List Int):List Nat:=[aY l]++bf l (aY l)
theorem z25 {l:List Int} (he:aO l=0):okB (bT l):=fun x hx=>by
 obtain ⟨h1,h2⟩:=jH he;rcases List.mem_append.1 hx with h|h
 ·have:=z19 l
  simp at h;omega
 ·exact lH h2 (by omega) (z19 l) x h
theorem Oi {l:List Int} (he:aO l=0):2<=(bT l).length/\(bT l).length<=11+10 * l.length:=by
 obtain ⟨h1,h2⟩:=jH he;have:=z26 h2 (by omega) (z19 l);unfold bT;rw[List.length_append];simp only[List.length_cons,List.length_nil];omega
theorem z5n (D:Nat->Prop) (A:Option Addr) (n c:Nat) (zs:List Int) (W:World) (hr:Rd W D 1 A n (il zs)) (hl:zs.length=n) (he:aO zs=0):
 Calls Tryz.prog 7 #[.slice A n c] W (z2b W (aC 1 (bT zs))):=by
 obtain ⟨i0,hi0,hz0,hz1,hz2⟩:=info_parts Tryz.info5;obtain ⟨hle,hin⟩:=jH he;have zA:=DW D A n c zs W hr hl he;have henc:=fun (w:World) (nx:Nx W w)=>z4q D A n c zs (aY zs) w (hr.nx (by decide) nx) hl (z19 zs) he;have hok:=z25 he;have hcl:=Oi he;have hb2:=z19 zs;have HC:Hid (bT zs=[aY zs]++bf zs (aY zs)):=ah rfl;have hel:=(z26 hin (by omega) (z19 zs)).2;unfold FM at henc;generalize bT zs=ic at *;generalize bf zs (aY zs)=ec at *;generalize aY zs=d at *;have Am:=ah zA;have TM:=ah henc;clear zA henc hr he hin
 have ku:IntKind.u8.wrap (d:Int)=(d:Int):=by
  have:IntKind.u8.wrap (d:Int)=(d:Int) % 256:=by simp[IntKind.wrap,IntKind.bits,IntKind.signed]
  omega
 go_enter Tryz.func7,Tryz.ntmps7;go_wp2_with fail;with_reducible refine Am.out.mono ?_
 rintro e w1 ⟨rfl,n1⟩;go_wp2_with fail;with_reducible refine (TM.out _ n1).mono ?_
 rintro e w2 ⟨k2,cap2,rfl,o2,hc2⟩;have n2:=n1.tr o2.nx
 have fin:∀(w5:World) (v5:Value),au W w5 5 1 v5 ic.length (bl ic)->v5.ownBlock≠none->∃k cap,v5=.slice (some ⟨k,0,none⟩) ic.length cap/\
  Calls Tryz.prog 33 #[.int .u8 1,.slice (some ⟨k,0,none⟩) ic.length cap] w5 (z2b W (aC 1 ic)):=fun w5 v5 o hb=>by
  obtain ⟨k,cap,hv,o4,hk1,hk2,hcp,_⟩:=fZ.jG o hb;injection hv with hv;subst hv;refine ⟨k,cap,rfl,(Ze (fun j=>j=k) (some ⟨k,0,none⟩) _ cap 1 ic w5 o4.fM (fun j e=>by omega) hok rfl hcp (by omega) (by omega)).mono ?_⟩;rintro e w6 ⟨k6,cap6,rfl,o6,h6⟩;exact ⟨k6,cap6,rfl,⟨iT o6.own o4.nx.size,o4.nx.tr o6.nx⟩,h6⟩
 have Fin:=ah fin;have o3:au W (w2.alloc (.cells #[.int .u8 (d:Int)] 5)) 5 1 (.slice (some ⟨w2.heap.size,0,none⟩) 1 1) 1 (bl [d]):=⟨Uk w2 _ _ 1 _ 1 n2.size (by simp[maxLen]) (by simp),n2.alloc _⟩;have r2:=o2.fM.nx (by decide) ((Ch.refl (fun _=>False) w2).alloc (.cells #[.int .u8 (d:Int)] 5));clear fin o2;go_wp2_with (at_builtin;refine z01 rfl (.tmp 20) (.tmp 21) _ rfl 5 i0 _ 1 1 Tryz.underlying27 hi0 hz0 hz1 hz2 rfl (by omega) rfl o3 _ (some ⟨k2,0,none⟩) ec.length cap2 (bl ec) rfl r2 (iP _) (by simp only[maxLen];omega) (by omega) ?_;intro v5 w5 o5 m5;obtain ⟨k5,cap5,hv5,hcall⟩:=Fin.out w5 v5 (by rw[HC.out,List.length_append,show bl ([d]++ec)=bl [d]++bl ec by simp[bl]];exact o5) (Moved.some_ (v:=.slice (some ⟨w2.heap.size,0,none⟩) 1 1) m5 (by simp[Value.ownBlock]));rw[hv5])
 with_reducible refine hcall.mono ?_
 rintro e w6 ⟨k6,cap6,rfl,o6,h6⟩;go_wp2_with fail;go_ret2;exact ⟨k6,cap6,rfl,o6,h6⟩
theorem z5m (D:Nat->Prop) (A:Option Addr) (n c:Nat) (zs:List Int) (W:World) (hr:Rd W D 1 A n (il zs)) (hl:zs.length=n) (hn:n<=9223372036854775807) (he:aO zs≠0) (er:Int) (her:aO zs=er):
 Calls Tryz.prog 7 #[.slice A n c] W fun e w'=>e=.returned (.tuple #[.slice none 0 0,.int .i64 er])/\W=w':=by
 have h1:=oh D A n c zs W hr hl hn he;have h2:=z2E D A n c zs 0 W hr hl hn (by omega) he;rw[her]at h2 he;have hne:(er !=0)=true:=by rw[bne_iff_ne];exact he
 have H1:=ah h1;have H2:=ah h2;clear h1 h2 hl hr he her;go_enter Tryz.func7,Tryz.ntmps7;go_wp2_with fail;with_reducible refine H1.out.mono ?_
 rintro e w1 ⟨rfl,rfl⟩;go_wp2_with fail;refine H2.out.mono ?_;rintro e w1 ⟨rfl,rfl⟩;go_wp2_with fail;go_ret2;exact ⟨rfl,rfl⟩
end Go.Proofs.YtfljcllpmbnjaaaGreat
