/- Contracts and plain laws that the last text rests on. Conditions: each theorem states its own. -/
import Derived.Test.YtdbfejfhpkakhaaGreatKKd2Q14
import Derived.Test.YtdbfejfhpkakhaaGreatKKd2Q18
set_option maxRecDepth 100000
set_option maxHeartbeats 8000000
set_option linter.unusedVariables false
set_option linter.unusedSimpArgs false
namespace Go.Proofs.YtdbfejfhpkakhaaGreat
open Go.RowKit
theorem BZ (D:Nat->Prop) (A:Option Addr) (n c:Nat) (zs:List Int) (W:World) (hr:Rd W D 1 A n (il zs)) (hl:zs.length=n) (he:jl zs=0):
 Calls Tryz.prog 171 #[.slice A n c] W fun e w'=>e=.returned (.int .i64 (fO zs:Int))/\Nx W w':=by
 have henc:=fun (w:World) (nx:Nx W w) (k:Nat) (hk:k<=2)=>z2X D A n c zs k w (hr.nx (by decide) nx) hl hk he
 have hlen:∀k,k<=2->(gZ zs k).length<=100000:=fun k hk=>by
  obtain ⟨h1,h2⟩:=VL he;have:=(ny h2 (by omega) hk).2;omega
 have Hd:Hid (fO zs=(bst zs 3).1):=ah (by unfold fO;rw[if_neg (by simpa using he)]);have Vb:=ah henc;have Hlen:=ah hlen;clear henc hlen hr he;go_enter Tryz.func171,Tryz.ntmps171;go_wp2_with fail;go_loopw [3,4,5] (fun s3 s4 i wr=>∃k:Nat,k<=3/\i=.int .i64 (k:Int)/\s3=.int .i64 ((bst zs k).1:Int)/\s4=.int .i64 (bst zs k).2/\Nx W wr) (fun _ _ i _=>3-(intOf i).toNat)
 case atStart=>exact ⟨0,by omega,rfl,rfl,rfl,Ch.refl _ _⟩
 case round=>
  obtain ⟨w1,rfl⟩:∃w1:World,w1=wr:=⟨_,rfl⟩;obtain ⟨k,hk,rfl,rfl,rfl,nx⟩:=hrel;by_cases hlt:k<3
  ·have hs:bst zs (k+1)=if (bst zs k).2<0∨((gZ zs k).length:Int)<(bst zs k).2 then (k,((gZ zs k).length:Int)) else bst zs k:=rfl
   have hen:=Vb.out w1 nx k (by omega);have hll:=Hlen.out k (by omega);unfold EN at hen;generalize gZ zs k=ec at *;generalize bst zs k=t at *;obtain ⟨tb,tl⟩:=t;simp only at hs ⊢;have Hen:=ah hen;clear hen;by_cases h1:tl<0∨(ec.length:Int)<tl
   ·rw[if_pos h1]at hs
    have Hs:=ah hs;clear hs;go_wp2_with fail;with_reducible refine Hen.out.mono ?_
    rintro e w2 ⟨k2,cap2,rfl,o2,_⟩;have nx2:=nx.tr o2.nx;rcases Classical.em (tl<0) with h2|h2
    ·go_wp2_with fail
     go_roundw
     case rel=>exact ⟨k+1,by omega,by go_num,by rw[Hs.out],by rw[Hs.out],nx2⟩
     case measure=>simp[intOf];omega
    ·have h3:=h1.resolve_left h2
     go_wp2_with fail;go_roundw
     case rel=>exact ⟨k+1,by omega,by go_num,by rw[Hs.out],by rw[Hs.out],nx2⟩
     case measure=>simp[intOf];omega
   ·rw[if_neg h1]at hs
    have Hs:=ah hs;have h2:¬tl<0:=fun h=>h1 (.inl h);have h3:¬(ec.length:Int)<tl:=fun h=>h1 (.inr h);clear hs h1;go_wp2_with fail;with_reducible refine Hen.out.mono ?_
    rintro e w2 ⟨k2,cap2,rfl,o2,_⟩;have nx2:=nx.tr o2.nx;go_wp2_with fail;go_roundw
    case rel=>exact ⟨k+1,by omega,by go_num,by rw[Hs.out],by rw[Hs.out],nx2⟩
    case measure=>simp[intOf];omega
  ·obtain rfl:k=3:=by omega
   go_wp2_with fail;go_ret;exact ⟨by rw[Hd.out];rfl,nx⟩
def dS (l:List Int):List Nat:=[fO l]++gZ l (fO l)
theorem xk {l:List Int} (he:jl l=0):okB (dS l):=fun x hx=>by
 obtain ⟨h1,h2⟩:=VL he;rcases List.mem_append.1 hx with h|h
 ·have:=VK l
  simp at h;omega
 ·exact Qd h2 (by omega) (VK l) x h
theorem z3B {l:List Int} (he:jl l=0):2<=(dS l).length/\(dS l).length<=11+10 * l.length:=by
 obtain ⟨h1,h2⟩:=VL he;have:=ny h2 (by omega) (VK l);unfold dS;rw[List.length_append];simp only[List.length_cons,List.length_nil];omega
theorem yt (D:Nat->Prop) (A:Option Addr) (n c:Nat) (zs:List Int) (W:World) (hr:Rd W D 1 A n (il zs)) (hl:zs.length=n) (he:jl zs=0):
 Calls Tryz.prog 123 #[.slice A n c] W (Ri W (aI 1 (dS zs))):=by
 obtain ⟨i0,hi0,hz0,hz1,hz2⟩:=info_parts Tryz.info5;obtain ⟨hle,hin⟩:=VL he;have xI:=BZ D A n c zs W hr hl he;have henc:=fun (w:World) (nx:Nx W w)=>z2X D A n c zs (fO zs) w (hr.nx (by decide) nx) hl (VK zs) he;have hok:=xk he;have hcl:=z3B he;have hb2:=VK zs;have HC:Hid (dS zs=[fO zs]++gZ zs (fO zs)):=ah rfl;have hel:=(ny hin (by omega) (VK zs)).2;unfold EN at henc;generalize dS zs=ic at *;generalize gZ zs (fO zs)=ec at *;generalize fO zs=d at *;have yP:=ah xI;have Vb:=ah henc;clear xI henc hr he hin
 have ku:IntKind.u8.wrap (d:Int)=(d:Int):=by
  have:IntKind.u8.wrap (d:Int)=(d:Int) % 256:=by simp[IntKind.wrap,IntKind.bits,IntKind.signed]
  omega
 go_enter Tryz.func123,Tryz.ntmps123;go_wp2_with fail;with_reducible refine yP.out.mono ?_
 rintro e w1 ⟨rfl,n1⟩;go_wp2_with fail;with_reducible refine (Vb.out _ n1).mono ?_
 rintro e w2 ⟨k2,cap2,rfl,o2,hc2⟩;have n2:=n1.tr o2.nx
 have fin:∀(w5:World) (v5:Value),aF W w5 5 1 v5 ic.length (bl ic)->v5.ownBlock≠none->∃k cap,v5=.slice (some ⟨k,0,none⟩) ic.length cap/\
  Calls Tryz.prog 173 #[.int .u8 1,.slice (some ⟨k,0,none⟩) ic.length cap] w5 (Ri W (aI 1 ic)):=fun w5 v5 o hb=>by
  obtain ⟨k,cap,hv,o4,hk1,hk2,hcp,_⟩:=pX.A_ o hb;injection hv with hv;subst hv;refine ⟨k,cap,rfl,(ZU (fun j=>j=k) (some ⟨k,0,none⟩) _ cap 1 ic w5 o4.tZ (fun j e=>by omega) hok rfl hcp (by omega) (by omega)).mono ?_⟩;rintro e w6 ⟨k6,cap6,rfl,o6,h6⟩;exact ⟨k6,cap6,rfl,⟨su o6.own o4.nx.size,o4.nx.tr o6.nx⟩,h6⟩
 have Fin:=ah fin;have o3:aF W (w2.alloc (.cells #[.int .u8 (d:Int)] 5)) 5 1 (.slice (some ⟨w2.heap.size,0,none⟩) 1 1) 1 (bl [d]):=⟨z2s w2 _ _ 1 _ 1 n2.size (by simp[maxLen]) (by simp),n2.alloc _⟩;have r2:=o2.tZ.nx (by decide) ((Ch.refl (fun _=>False) w2).alloc (.cells #[.int .u8 (d:Int)] 5));clear fin o2;go_wp2_with (at_builtin;refine z05 rfl (.tmp 20) (.tmp 21) _ rfl 5 i0 _ 1 1 Tryz.underlying47 hi0 hz0 hz1 hz2 rfl (by omega) rfl o3 _ (some ⟨k2,0,none⟩) ec.length cap2 (bl ec) rfl r2 (jk _) (by simp only[maxLen];omega) (by omega) ?_;intro v5 w5 o5 m5;obtain ⟨k5,cap5,hv5,hcall⟩:=Fin.out w5 v5 (by rw[HC.out,List.length_append,show bl ([d]++ec)=bl [d]++bl ec by simp[bl]];exact o5) (Moved.some_ (v:=.slice (some ⟨w2.heap.size,0,none⟩) 1 1) m5 (by simp[Value.ownBlock]));rw[hv5])
 with_reducible refine hcall.mono ?_
 rintro e w6 ⟨k6,cap6,rfl,o6,h6⟩;go_wp2_with fail;go_ret2;exact ⟨k6,cap6,rfl,o6,h6⟩
end Go.Proofs.YtdbfejfhpkakhaaGreat
