/- Contracts and plain laws that the last text rests on. Conditions: each theorem states its own. -/
import Derived.Test.YtfljcllpmbnjaaaGreatKdPdOrd
import Derived.Test.YtfljcllpmbnjaaaGreatKdQ1
import Derived.IntWalk
import Derived.Deep.RegionHeld3
set_option maxRecDepth 100000
set_option maxHeartbeats 8000000
set_option linter.unusedVariables false
namespace Go.Proofs.YtfljcllpmbnjaaaGreat
open Go.RowKit
set_option maxRecDepth 100000 in
theorem Pm (D:Nat->Prop) (A:Option Addr) (c:Nat) (xs:List Nat) (i k:Nat) (W:World) (hr:Rd W D 1 A xs.length (bl xs)) (ok:okB xs) (hik:i<k) (hk:k<xs.length) (hl:xs.length<=65536):
 Calls Tryz.prog 135 #[.slice A xs.length c,.int .i64 (i:Int),.int .i64 (k:Int)] W fun e w'=>e=.returned (.int .i64 (bF xs i k:Int))/\Nx W w':=by
 go_enter Tryz.func135,Tryz.ntmps135;go_wp2_with fail;go_loopw [7] (fun v wr=>∃m:Nat,m<=258/\v=.int .i64 m/\Nx W wr/\Hid (bF xs i k=pY xs i k (258-m) m)) (fun v _=>258-(intOf v).toNat)
 case atStart=>exact ⟨0,by omega,rfl,Ch.refl _ _,ah rfl⟩
 case round=>
  obtain ⟨w1,rfl⟩:∃w1:World,w1=wr:=⟨_,rfl⟩;obtain ⟨m,hm,rfl,nx,H⟩:=hrel;by_cases h1:m<258
  ·have e1:258-m=(258-(m+1))+1:=by omega
   by_cases h2:k+m<xs.length
   ·obtain ⟨ad,u,rfl,kN,hu,hc⟩:=(hr.nx (by decide) nx).at_ (show i+m<xs.length by omega)
    obtain ⟨ad2,u2,hae,WJ,hu2,hc2⟩:=(hr.nx (by decide) nx).at_ h2;injection hae with hae;subst hae;rw[tV (by omega)]at hu hu2;injection hu with hu;injection hu2 with hu2;subst hu hu2;have k1:IntKind.i64.wrap ((i:Int)+(m:Int))=(i:Int)+(m:Int):=IntWalk.i64_in _ (by omega);have k2:IntKind.i64.wrap ((k:Int)+(m:Int))=(k:Int)+(m:Int):=IntWalk.i64_in _ (by omega);have t1:((i:Int)+(m:Int)).toNat=i+m:=(by omega);have t2:((k:Int)+(m:Int)).toNat=k+m:=(by omega);have q1:decide ((m:Int)<258)=true:=by simp;omega
    have q2:decide ((k:Int)+(m:Int)<(xs.length:Int))=true:=by simp;omega
    have i1:(0:Int)<=(i:Int)+(m:Int):=(by omega);have i2:(i:Int)+(m:Int)<(xs.length:Int):=(by omega);have i3:(0:Int)<=(k:Int)+(m:Int):=(by omega);have i4:(k:Int)+(m:Int)<(xs.length:Int):=(by omega);by_cases h3:xs.getD (i+m) 0=xs.getD (k+m) 0
    ·have Hs:Hid (bF xs i k=pY xs i k (258-(m+1)) (m+1)):=ah (by rw[H.out,e1,pY,if_pos ⟨h2,h3⟩])
     rw[←h3]at hc2;clear h3 e1;generalize xs.getD (i+m) 0=x at *;go_wp2_with fail;go_quiet (fail)
     go_wp2_with fail;go_roundw
     case rel=>exact ⟨m+1,by omega,by go_num,nx.drewN _,Hs⟩
     case measure=>simp[intOf];omega
    ·have Hs:Hid (bF xs i k=m):=ah (by rw[H.out,e1,pY,if_neg (fun hh=>h3 hh.2)])
     have h3':((xs.getD (i+m) 0:Int)==(xs.getD (k+m) 0:Int))=false:=by rw[beq_eq_false_iff_ne];omega
     clear h3 e1;generalize xs.getD (i+m) 0=x at *;generalize xs.getD (k+m) 0=y at *;go_wp2_with fail;go_quiet (fail)
     go_wp2_with fail;go_ret;exact ⟨by rw[Hs.out];rfl,nx.drewN _⟩
   ·have Hs:Hid (bF xs i k=m):=ah (by rw[H.out,e1,pY,if_neg (fun hh=>h2 hh.1)])
    have k2:IntKind.i64.wrap ((k:Int)+(m:Int))=(k:Int)+(m:Int):=IntWalk.i64_in _ (by omega);have q1:decide ((m:Int)<258)=true:=by simp;omega
    have q2:decide ((k:Int)+(m:Int)<(xs.length:Int))=false:=by simp;omega
    clear e1;go_wp2_with fail;go_quiet (fail)
    go_wp2_with fail;go_ret;exact ⟨by rw[Hs.out];rfl,nx.drewN _⟩
  ·have hm8:m=258:=by omega
   subst hm8;have Hs:Hid (bF xs i k=258):=ah (by rw[H.out];rfl);go_wp2_with fail;go_quiet (fail)
   go_wp2_with fail;go_ret;exact ⟨by rw[Hs.out];rfl,nx.drewN _⟩
set_option maxRecDepth 100000 in
theorem RY (D:Nat->Prop) (bx:Nat) (A:Option Addr) (c:Nat) (xs:List Nat) (i:Nat) (W:World) (hb:W.cell? ⟨bx,0,none⟩=some (.slice A xs.length c)) (hr:Rd W D 1 A xs.length (bl xs)) (ok:okB xs) (hi:i+2<xs.length) (hl:xs.length<=65536):
 Calls Tryz.prog 134 #[.int .i64 (i:Int),.pointer (some ⟨bx,0,none⟩)] W fun e w'=>e=.returned (.agg #[.int .u8 (xs.getD i 0:Int),.int .u8 (xs.getD (i+1) 0:Int),.int .u8 (xs.getD (i+2) 0:Int)])/\Nx W w':=by
 obtain ⟨ad,u,rfl,kN,hu,hc⟩:=hr.at_ (show i<xs.length by omega);obtain ⟨ad2,u2,hae,WJ,hu2,hc2⟩:=hr.at_ (show i+1<xs.length by omega);injection hae with hae;subst hae;obtain ⟨ad3,u3,hae,hDa3,hu3,hc3⟩:=hr.at_ hi;injection hae with hae;subst hae;rw[tV (by omega)]at hu hu2 hu3;injection hu with hu;injection hu2 with hu2;injection hu3 with hu3;subst hu hu2 hu3;have hblt:bx<W.heap.size:=World.block_lt_of_cell? W _ hb
 have halt:ad.block<W.heap.size:=by
  have:=World.block_lt_of_cell? W _ hc;rwa [xC]at this
 generalize xs.getD i 0=x at *;generalize xs.getD (i+1) 0=y at *;generalize xs.getD (i+2) 0=z at *;obtain ⟨i1,e1⟩:∃i1,i+1=i1:=⟨_,rfl⟩;obtain ⟨i2,e2⟩:∃i2,i+2=i2:=⟨_,rfl⟩;rw[e1]at hc2;rw[e2]at hc3;have f1:(i:Int)+1=(i1:Int):=by omega
 have f2:(i:Int)+2=(i2:Int):=by omega
 go_enter Tryz.func134,Tryz.ntmps134;go_wp2_with fail;have n0:Nx W (W.alloc (.cells #[.int .u8 0,.int .u8 0,.int .u8 0] 159)):=(Ch.refl _ W).alloc _;have g0:=(n0.cell (p:=⟨bx,0,none⟩) hblt).trans hb;have g1:=(n0.cell (p:=ad.add i) (by rw[xC];exact halt)).trans hc;have g2:=(n0.cell (p:=ad.add i1) (by rw[xC];exact halt)).trans hc2;have g3:=(n0.cell (p:=ad.add i2) (by rw[xC];exact halt)).trans hc3;have hB:=dD.new W 159 #[.int .u8 0,.int .u8 0,.int .u8 0];have j0:(i:Int)<(xs.length:Int):=by omega
 have j1:(i1:Int)<(xs.length:Int):=by omega
 have j2:(i2:Int)<(xs.length:Int):=by omega
 have k1:IntKind.i64.wrap (i1:Int)=(i1:Int):=IntWalk.i64_in _ (by omega);have k2:IntKind.i64.wrap (i2:Int)=(i2:Int):=IntWalk.i64_in _ (by omega);clear e1 e2;have n1:Nx W (W.alloc (.cells #[.int .u8 (x:Int),.int .u8 (y:Int),.int .u8 (z:Int)] 159)).drew:=((Ch.refl _ W).alloc _).drew
 have hkeep:(W.alloc (.cells #[.int .u8 (x:Int),.int .u8 (y:Int),.int .u8 (z:Int)] 159)).drew.cell? ⟨bx,0,none⟩=some (.slice (some ad) xs.length c)/\(W.alloc (.cells #[.int .u8 (x:Int),.int .u8 (y:Int),.int .u8 (z:Int)] 159)).drew.cell? (ad.add i)=some (.int .u8 (x:Int))/\
  (W.alloc (.cells #[.int .u8 (x:Int),.int .u8 (y:Int),.int .u8 (z:Int)] 159)).drew.cell? (ad.add i1)=some (.int .u8 (y:Int))/\(W.alloc (.cells #[.int .u8 (x:Int),.int .u8 (y:Int),.int .u8 (z:Int)] 159)).drew.cell? (ad.add i2)=some (.int .u8 (z:Int)):=
  ⟨(n1.cell (p:=⟨bx,0,none⟩) hblt).trans hb,(n1.cell (p:=ad.add i) (by rw[xC];exact halt)).trans hc,(n1.cell (p:=ad.add i1) (by rw[xC];exact halt)).trans hc2,(n1.cell (p:=ad.add i2) (by rw[xC];exact halt)).trans hc3⟩
 have Aj:=ah hkeep;clear hb hc hc2 hc3 hkeep;go_region_held3 (fun w'=>w'.cell? ⟨bx,0,none⟩=some (.slice (some ad) xs.length c)/\w'.cell? (ad.add i)=some (.int .u8 (x:Int))/\w'.cell? (ad.add i1)=some (.int .u8 (y:Int))/\w'.cell? (ad.add i2)=some (.int .u8 (z:Int))) (first|exact Aj.out|exact Aj.out.1|exact Aj.out.2.1|exact Aj.out.2.2.1|exact Aj.out.2.2.2|go_keep) (fail)
 all_goals go_wp2_with fail
 all_goals refine bodyPost_ret (v:=.agg #[.int .u8 (x:Int),.int .u8 (y:Int),.int .u8 (z:Int)]) (by simp[results,Tryz.results134,go_sem]) rfl ⟨rfl,n1⟩
end Go.Proofs.YtfljcllpmbnjaaaGreat
