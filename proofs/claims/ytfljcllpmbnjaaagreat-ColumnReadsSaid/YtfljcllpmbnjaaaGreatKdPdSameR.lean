/- Contracts and plain laws that the last text rests on. Conditions: each theorem states its own. -/
import Derived.Test.YtfljcllpmbnjaaaGreatKdPdStl
import Derived.Test.YtfljcllpmbnjaaaGreatKdQ25
import Derived.Test.YtfljcllpmbnjaaaGreatKdQ10
set_option maxRecDepth 100000
set_option maxHeartbeats 2000000
set_option linter.unusedVariables false
namespace Go.Proofs.YtfljcllpmbnjaaaGreat
open Go.RowKit
theorem mO (D E:Nat->Prop) (A B:Option Addr) (n c d:Nat) (l:List ByteArray) (W:World) (ha:Rd W D 1 A n (bW l)) (hb:Rd W E 1 B n (bW l)) (hl:l.length=n) (hn:n<=1000000):
 Calls Tryz.prog 14 #[.slice A n c,.slice B n d] W fun e w'=>e=.returned (.bool true)/\Nx W w':=by
 subst hl;go_enter Tryz.func14,Tryz.ntmps14;go_wp2_with fail;go_loopw [13] (fun i wr=>∃k q:Nat,k<=l.length/\i=.int .i64 (k:Int)/\wr=W.drewN q) (fun i _=>l.length-(intOf i).toNat)
 case atStart=>exact ⟨0,0,Nat.zero_le _,rfl,rfl⟩
 case round=>
  obtain ⟨k,q,hk,rfl,rfl⟩:=hrel;by_cases hlt:k<l.length
  ·obtain ⟨aa,rfl,_,hca⟩:=ha.2 (by omega)
   obtain ⟨ab,rfl,_,hcb⟩:=hb.2 (by omega);have c1:=hca k _ (yj hlt);have c2:=hcb k _ (yj hlt);clear hca hcb;generalize l.getD k ByteArray.empty=s at *;have hq:(s.toList==s.toList)=true:=(by simp);go_wp2_with fail;go_quiet (fail)
   go_wp2_with fail;go_roundw
   case rel=>exact ⟨k+1,_,by omega,by go_num,rfl⟩
   case measure=>simp[intOf];omega
  ·obtain rfl:k=l.length:=by omega
   have hx:Nx W (W.drewN q):=(Ch.refl _ W).drewN q;go_wp2_with fail;go_ret;exact ⟨rfl,hx⟩
theorem Gs (D E:Nat->Prop) (A B:Option Addr) (n c d:Nat) (l:List Int) (W:World) (ha:Rd W D 1 A n (il l)) (hb:Rd W E 1 B n (il l)) (hl:l.length=n) (hn:n<=1000000):
 Calls Tryz.prog 23 #[.slice A n c,.slice B n d] W fun e w'=>e=.returned (.bool true)/\Nx W w':=by
 subst hl;go_enter Tryz.func23,Tryz.ntmps23;go_wp2_with fail;go_loopw [13] (fun i wr=>∃k q:Nat,k<=l.length/\i=.int .i64 (k:Int)/\wr=W.drewN q) (fun i _=>l.length-(intOf i).toNat)
 case atStart=>exact ⟨0,0,Nat.zero_le _,rfl,rfl⟩
 case round=>
  obtain ⟨k,q,hk,rfl,rfl⟩:=hrel;by_cases hlt:k<l.length
  ·obtain ⟨aa,rfl,_,hca⟩:=ha.2 (by omega)
   obtain ⟨ab,rfl,_,hcb⟩:=hb.2 (by omega);have c1:=hca k _ (Jy hlt);have c2:=hcb k _ (Jy hlt);clear hca hcb;generalize l.getD k 0=s at *;go_wp2_with fail;go_quiet (fail)
   go_wp2_with fail;go_roundw
   case rel=>exact ⟨k+1,_,by omega,by go_num,rfl⟩
   case measure=>simp[intOf];omega
  ·obtain rfl:k=l.length:=by omega
   have hx:Nx W (W.drewN q):=(Ch.refl _ W).drewN q;go_wp2_with fail;go_ret;exact ⟨rfl,hx⟩
theorem Cj (D E:Nat->Prop) (A B:Option Addr) (n c d:Nat) (l:List Bool) (W:World) (ha:Rd W D 1 A n (ji l)) (hb:Rd W E 1 B n (ji l)) (hl:l.length=n) (hn:n<=1000000):
 Calls Tryz.prog 30 #[.slice A n c,.slice B n d] W fun e w'=>e=.returned (.bool true)/\Nx W w':=by
 subst hl;go_enter Tryz.func30,Tryz.ntmps30;go_wp2_with fail;go_loopw [13] (fun i wr=>∃k q:Nat,k<=l.length/\i=.int .i64 (k:Int)/\wr=W.drewN q) (fun i _=>l.length-(intOf i).toNat)
 case atStart=>exact ⟨0,0,Nat.zero_le _,rfl,rfl⟩
 case round=>
  obtain ⟨k,q,hk,rfl,rfl⟩:=hrel;by_cases hlt:k<l.length
  ·obtain ⟨aa,rfl,_,hca⟩:=ha.2 (by omega)
   obtain ⟨ab,rfl,_,hcb⟩:=hb.2 (by omega);have c1:=hca k _ (vZ hlt);have c2:=hcb k _ (vZ hlt);clear hca hcb;generalize l[k]=s at *;have hq:(s==s)=true:=(by simp);go_wp2_with fail;go_quiet (fail)
   go_wp2_with fail;go_roundw
   case rel=>exact ⟨k+1,_,by omega,by go_num,rfl⟩
   case measure=>simp[intOf];omega
  ·obtain rfl:k=l.length:=by omega
   have hx:Nx W (W.drewN q):=(Ch.refl _ W).drewN q;go_wp2_with fail;go_ret;exact ⟨rfl,hx⟩
end Go.Proofs.YtfljcllpmbnjaaaGreat
