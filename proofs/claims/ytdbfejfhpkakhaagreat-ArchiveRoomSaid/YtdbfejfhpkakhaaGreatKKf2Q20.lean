/- Contracts and plain laws that the last text rests on. Conditions: each theorem states its own. -/
import Derived.Test.YtdbfejfhpkakhaaGreatKKf2Q15
import Derived.Test.YtdbfejfhpkakhaaGreatKKf2Q19
set_option maxRecDepth 100000
set_option maxHeartbeats 8000000
set_option linter.unusedVariables false
namespace Go.Proofs.YtdbfejfhpkakhaaGreat
open Go.RowKit
theorem Bq (D:Nat->Prop) (A:Option Addr) (n c:Nat) (zs:List Int) (W:World) (hr:Rd W D 1 A n (il zs)) (hl:zs.length=n) (he:jh zs=0):
 Calls Tryz.prog 171 #[.slice A n c] W fun e w'=>e=.returned (.int .i64 (fM zs:Int))/\Nx W w':=by
 have henc:=fun (w:World) (nx:Nx W w) (k:Nat) (hk:k<=2)=>z2W D A n c zs k w (hr.nx (by decide) nx) hl hk he
 have hlen:∀k,k<=2->(gY zs k).length<=100000:=fun k hk=>by
  obtain ⟨h1,h2⟩:=Vu he;have:=(m_ h2 (by omega) hk).2;omega
 have Hd:Hid (fM zs=(bst zs 3).1):=ah (by unfold fM;rw[if_neg (by simpa using he)]);have UJ:=ah henc;have Hlen:=ah hlen;clear henc hlen hr he;go_enter Tryz.func171,Tryz.ntmps171;go_wp2_with fail;go_loopw [3,4,5] (fun s3 s4 i wr=>∃k:Nat,k<=3/\i=.int .i64 (k:Int)/\s3=.int .i64 ((bst zs k).1:Int)/\s4=.int .i64 (bst zs k).2/\Nx W wr) (fun _ _ i _=>3-(intOf i).toNat)
 case atStart=>exact ⟨0,by omega,rfl,rfl,rfl,Ch.refl _ _⟩
 case round=>
  obtain ⟨w1,rfl⟩:∃w1:World,w1=wr:=⟨_,rfl⟩;obtain ⟨k,hk,rfl,rfl,rfl,nx⟩:=hrel;by_cases hlt:k<3
  ·have hs:bst zs (k+1)=if (bst zs k).2<0∨((gY zs k).length:Int)<(bst zs k).2 then (k,((gY zs k).length:Int)) else bst zs k:=rfl
   have hen:=UJ.out w1 nx k (by omega);have hll:=Hlen.out k (by omega);unfold Et at hen;generalize gY zs k=ec at *;generalize bst zs k=t at *;obtain ⟨tb,tl⟩:=t;simp only at hs ⊢;have Hen:=ah hen;clear hen;by_cases h1:tl<0∨(ec.length:Int)<tl
   ·rw[if_pos h1]at hs
    have Hs:=ah hs;clear hs;go_wp2_with fail;with_reducible refine Hen.out.mono ?_
    rintro e w2 ⟨k2,cap2,rfl,o2,_⟩;have nx2:=nx.tr o2.nx;rcases Classical.em (tl<0) with h2|h2
    ·go_wp2_with fail
     go_roundw
     case rel=>exact ⟨k+1,by omega,by go_num,by rw[Hs.out],by rw[Hs.out],nx2⟩
     case measure=>simp[intOf];omega
    ·have h3:=h1.resolve_left h2
     go_wp2_with fail;go_roundw
     case rel=>exact ⟨k+1,by omega,by go_num,by rw[Hs.out],by rw[Hs.out],nx2⟩
     case measure=>simp[intOf];omega
   ·rw[if_neg h1]at hs
    have Hs:=ah hs;have h2:¬tl<0:=fun h=>h1 (.inl h);have h3:¬(ec.length:Int)<tl:=fun h=>h1 (.inr h);clear hs h1;go_wp2_with fail;with_reducible refine Hen.out.mono ?_
    rintro e w2 ⟨k2,cap2,rfl,o2,_⟩;have nx2:=nx.tr o2.nx;go_wp2_with fail;go_roundw
    case rel=>exact ⟨k+1,by omega,by go_num,by rw[Hs.out],by rw[Hs.out],nx2⟩
    case measure=>simp[intOf];omega
  ·obtain rfl:k=3:=by omega
   go_wp2_with fail;go_ret;exact ⟨by rw[Hd.out];rfl,nx⟩
def dR (l:List Int):List Nat:=[fM l]++gY l (fM l)
theorem wU {l:List Int} (he:jh l=0):okB (dR l):=fun x hx=>by
 obtain ⟨h1,h2⟩:=Vu he;rcases List.mem_append.1 hx with h|h
 ·have:=Vt l
  simp at h;omega
 ·exact PL h2 (by omega) (Vt l) x h
theorem Zn {l:List Int} (he:jh l=0):2<=(dR l).length/\(dR l).length<=11+10 * l.length:=by
 obtain ⟨h1,h2⟩:=Vu he;have:=m_ h2 (by omega) (Vt l);unfold dR;rw[List.length_append];simp only[List.length_cons,List.length_nil];omega
theorem xW (D:Nat->Prop) (A:Option Addr) (n c:Nat) (zs:List Int) (W:World) (hr:Rd W D 1 A n (il zs)) (hl:zs.length=n) (he:jh zs=0):
 Calls Tryz.prog 123 #[.slice A n c] W (QL W (aI 1 (dR zs))):=by
 obtain ⟨i0,hi0,hz0,hz1,hz2⟩:=info_parts Tryz.info5;obtain ⟨hle,hin⟩:=Vu he;have xu:=Bq D A n c zs W hr hl he;have henc:=fun (w:World) (nx:Nx W w)=>z2W D A n c zs (fM zs) w (hr.nx (by decide) nx) hl (Vt zs) he;have hok:=wU he;have hcl:=Zn he;have hb2:=Vt zs;have HC:Hid (dR zs=[fM zs]++gY zs (fM zs)):=ah rfl;have hel:=(m_ hin (by omega) (Vt zs)).2;unfold Et at henc;generalize dR zs=ic at *;generalize gY zs (fM zs)=ec at *;generalize fM zs=d at *;have yG:=ah xu;have UJ:=ah henc;clear xu henc hr he hin
 have ku:IntKind.u8.wrap (d:Int)=(d:Int):=by
  have:IntKind.u8.wrap (d:Int)=(d:Int) % 256:=by simp[IntKind.wrap,IntKind.bits,IntKind.signed]
  omega
 go_enter Tryz.func123,Tryz.ntmps123;go_wp2_with fail;with_reducible refine yG.out.mono ?_
 rintro e w1 ⟨rfl,n1⟩;go_wp2_with fail;with_reducible refine (UJ.out _ n1).mono ?_
 rintro e w2 ⟨k2,cap2,rfl,o2,hc2⟩;have n2:=n1.tr o2.nx
 have fin:∀(w5:World) (v5:Value),aA W w5 5 1 v5 ic.length (bl ic)->v5.ownBlock≠none->∃k cap,v5=.slice (some ⟨k,0,none⟩) ic.length cap/\
  Calls Tryz.prog 173 #[.int .u8 1,.slice (some ⟨k,0,none⟩) ic.length cap] w5 (QL W (aI 1 ic)):=fun w5 v5 o hb=>by
  obtain ⟨k,cap,hv,o4,hk1,hk2,hcp,_⟩:=pU.AB o hb;injection hv with hv;subst hv;refine ⟨k,cap,rfl,(ZC (fun j=>j=k) (some ⟨k,0,none⟩) _ cap 1 ic w5 o4.tC (fun j e=>by omega) hok rfl hcp (by omega) (by omega)).mono ?_⟩;rintro e w6 ⟨k6,cap6,rfl,o6,h6⟩;exact ⟨k6,cap6,rfl,⟨rQ o6.own o4.nx.size,o4.nx.tr o6.nx⟩,h6⟩
 have Fin:=ah fin;have o3:aA W (w2.alloc (.cells #[.int .u8 (d:Int)] 5)) 5 1 (.slice (some ⟨w2.heap.size,0,none⟩) 1 1) 1 (bl [d]):=⟨z2r w2 _ _ 1 _ 1 n2.size (by simp[maxLen]) (by simp),n2.alloc _⟩;have r2:=o2.tC.nx (by decide) ((Ch.refl (fun _=>False) w2).alloc (.cells #[.int .u8 (d:Int)] 5));clear fin o2;go_wp2_with (at_builtin;refine z04 rfl (.tmp 20) (.tmp 21) _ rfl 5 i0 _ 1 1 Tryz.underlying47 hi0 hz0 hz1 hz2 rfl (by omega) rfl o3 _ (some ⟨k2,0,none⟩) ec.length cap2 (bl ec) rfl r2 (jA _) (by simp only[maxLen];omega) (by omega) ?_;intro v5 w5 o5 m5;obtain ⟨k5,cap5,hv5,hcall⟩:=Fin.out w5 v5 (by rw[HC.out,List.length_append,show bl ([d]++ec)=bl [d]++bl ec by simp[bl]];exact o5) (Moved.some_ (v:=.slice (some ⟨w2.heap.size,0,none⟩) 1 1) m5 (by simp[Value.ownBlock]));rw[hv5])
 with_reducible refine hcall.mono ?_
 rintro e w6 ⟨k6,cap6,rfl,o6,h6⟩;go_wp2_with fail;go_ret2;exact ⟨k6,cap6,rfl,o6,h6⟩
end Go.Proofs.YtdbfejfhpkakhaaGreat
