/- Contracts and plain laws that the last text rests on. Conditions: each theorem states its own. -/
import Derived.Test.YtfljcllpmbnjaaaGreatKdQ8
import Derived.Deep.RegionLaw
import Derived.BigRegion
set_option maxRecDepth 100000
set_option maxHeartbeats 1000000
set_option linter.unusedVariables false
namespace Go.Proofs.YtfljcllpmbnjaaaGreat
open Go.RowKit
structure aJ (w:World) (D:Nat->Prop) (g:Nat) (A:Option Addr) (c:Nat) (xs:List Nat) (p:Nat) (e:Int):Prop where
 blk:dD w g 114 #[.slice A xs.length c,.int .i64 (p:Int),.int .i64 e]
 rd:Rd w D 1 A xs.length (bl xs)
 out:∀k,D k->k≠g
 bnd:∀k,D k->k<w.heap.size
 ok:okB xs
 len:xs.length<=1000000000
 cap:xs.length<=c
 pos:p<=xs.length
theorem aJ.nx {w w':World} {D:Nat->Prop} {g:Nat} {A:Option Addr} {c:Nat} {xs:List Nat} {p:Nat} {e:Int} (h:aJ w D g A c xs p e) (n:Nx w w'):aJ w' D g A c xs p e:=
 ⟨h.blk.nx n,h.rd.nx (by decide) n,h.out,fun k hk=>Nat.lt_of_lt_of_le (h.bnd k hk) n.size,h.ok,h.len,h.cap,h.pos⟩
theorem aJ.ch {w w':World} {D S:Nat->Prop} {g:Nat} {A:Option Addr} {c:Nat} {xs:List Nat} {p:Nat} {e:Int} (h:aJ w D g A c xs p e) (n:Ch S w w') (hg:¬S g) (hD:∀k,D k->¬S k):aJ w' D g A c xs p e:=
 ⟨h.blk.ch n hg,h.rd.ch (by decide) n (fun k _ hk=>hD k hk),h.out,fun k hk=>Nat.lt_of_lt_of_le (h.bnd k hk) n.size,h.ok,h.len,h.cap,h.pos⟩
theorem aJ.dZ {w:World} {D:Nat->Prop} {g:Nat} {A:Option Addr} {c:Nat} {xs:List Nat} {p:Nat} {e:Int} (h:aJ w D g A c xs p e) (p':Nat) (hp:p'<=xs.length):
 aJ (w.setCell ⟨g,1,none⟩ (.int .i64 (p':Int))) D g A c xs p' e/\Ch (· =g) w (w.setCell ⟨g,1,none⟩ (.int .i64 (p':Int))):=by
 have hc:Ch (fun k=>k=g) w (w.setCell ⟨g,1,none⟩ (.int .i64 (p':Int))):=Ch.setCell (S:=fun k=>k=g) (Ch.refl _ w) (p:=⟨g,1,none⟩) (fun _=>rfl) _;exact ⟨⟨h.blk.dZ 1 _,h.rd.ch (by decide) hc (fun k _ hk e=>h.out k hk e),h.out,fun k hk=>Nat.lt_of_lt_of_le (h.bnd k hk) hc.size,h.ok,h.len,h.cap,hp⟩,hc⟩
theorem aJ.Iw {w:World} {D:Nat->Prop} {g:Nat} {A:Option Addr} {c:Nat} {xs:List Nat} {p:Nat} {e:Int} (h:aJ w D g A c xs p e) (e':Int):
 aJ (w.setCell ⟨g,2,none⟩ (.int .i64 e')) D g A c xs p e'/\Ch (· =g) w (w.setCell ⟨g,2,none⟩ (.int .i64 e')):=by
 have hc:Ch (fun k=>k=g) w (w.setCell ⟨g,2,none⟩ (.int .i64 e')):=Ch.setCell (S:=fun k=>k=g) (Ch.refl _ w) (p:=⟨g,2,none⟩) (fun _=>rfl) _;exact ⟨⟨h.blk.dZ 2 _,h.rd.ch (by decide) hc (fun k _ hk e=>h.out k hk e),h.out,fun k hk=>Nat.lt_of_lt_of_le (h.bnd k hk) hc.size,h.ok,h.len,h.cap,h.pos⟩,hc⟩
def dA (w:World) (D:Nat->Prop) (g:Nat) (A:Option Addr) (c:Nat) (xs:List Nat) (p:Nat) (e:Int) (w':World):Prop:=aJ w' D g A c xs p e/\Ch (· =g) w w'
theorem dA.cur {w w':World} {D:Nat->Prop} {g:Nat} {A:Option Addr} {c:Nat} {xs:List Nat} {p:Nat} {e:Int} (h:dA w D g A c xs p e w'):aJ w' D g A c xs p e:=h.1
theorem dA.dN {w w':World} {D:Nat->Prop} {g:Nat} {A:Option Addr} {c:Nat} {xs:List Nat} {p:Nat} {e:Int} (h:dA w D g A c xs p e w'):Ch (· =g) w w':=h.2
theorem dA.trans {a b d:World} {D:Nat->Prop} {g:Nat} {A:Option Addr} {c:Nat} {xs:List Nat} {p p':Nat} {e e':Int} (h:dA a D g A c xs p e b) (k:dA b D g A c xs p' e' d):dA a D g A c xs p' e' d:=⟨k.1,h.2.trans k.2 fun _ _ e=>e⟩
theorem dA.drewN {a b:World} {D:Nat->Prop} {g:Nat} {A:Option Addr} {c:Nat} {xs:List Nat} {p:Nat} {e:Int} (h:dA a D g A c xs p e b) (q:Nat):dA a D g A c xs p e (b.drewN q):=⟨h.1.nx ((Ch.refl _ b).drewN q),h.2.drewN q⟩
section
variable {w : World} {D : Nat → Prop} {g : Nat} {A : Option Addr} {c : Nat} {xs : List Nat} {p : Nat} {e : Int}
theorem dA.refl (h:aJ w D g A c xs p e):dA w D g A c xs p e w:=⟨h,Ch.refl _ _⟩
theorem RF (h:aJ w D g A c xs p e):Calls Tryz.prog 93 #[.pointer (some ⟨g,0,none⟩)] w fun en w'=>en=.returned (.bool (decide (e≠0)))/\w=w':=by
 have d2:w.cell? ⟨g,2,none⟩=some (.int .i64 e):=h.blk.cell 2;clear h;by_cases he:e=0
 ·subst he
  go_enter Tryz.func93,Tryz.ntmps93;go_wp2_with fail;go_ret;exact ⟨by simp,rfl⟩
 ·have hne:(e !=0)=true:=by rw[bne_iff_ne];exact he
  have He:=ah he;clear he;go_enter Tryz.func93,Tryz.ntmps93;go_wp2_with fail;go_ret;exact ⟨by simp[He.out],rfl⟩
theorem Uc (h:aJ w D g A c xs p e) (p':Nat) (hp:p'<=xs.length) (e':Int):Calls Tryz.prog 94 #[.pointer (some ⟨g,0,none⟩),.int .i64 (p':Int),.int .i64 e'] w fun en w'=>en=.returned (.tuple #[])/\dA w D g A c xs p' e' w':=by
 have hf:=h.blk.frozen;have d1:w.cell? ⟨g,1,none⟩=some (.int .i64 (p:Int)):=h.blk.cell 1;have d2:w.cell? ⟨g,2,none⟩=some (.int .i64 e):=h.blk.cell 2;have H:=ah h;clear h;go_enter Tryz.func94,Tryz.ntmps94;go_wp2_with fail;go_end0
 obtain ⟨h1,c1⟩:=H.out.dZ p' hp;obtain ⟨h2,c2⟩:=h1.Iw e';exact ⟨rfl,h2,c1.trans c2 fun _ _ e=>e⟩
theorem DZ (h:aJ w D g A c xs p e):Calls Tryz.prog 126 #[.pointer (some ⟨g,0,none⟩)] w fun en w'=>en=.returned (.int .i64 (p:Int))/\w=w':=by
 have d1:w.cell? ⟨g,1,none⟩=some (.int .i64 (p:Int)):=h.blk.cell 1;clear h;go_enter Tryz.func126,Tryz.ntmps126;go_wp2_with fail;go_ret;exact ⟨rfl,rfl⟩
def bn (n p:Nat) (e:Int):Int:=if e≠0 then e else if p<n then 5 else 0
theorem EG (h:aJ w D g A c xs p e):Calls Tryz.prog 54 #[.pointer (some ⟨g,0,none⟩)] w fun en w'=>en=.returned (.int .i64 (bn xs.length p e))/\Dr w w':=by
 have d0:w.cell? ⟨g,0,none⟩=some (.slice A xs.length c):=h.blk.cell 0;have d1:w.cell? ⟨g,1,none⟩=some (.int .i64 (p:Int)):=h.blk.cell 1;have d2:w.cell? ⟨g,2,none⟩=some (.int .i64 e):=h.blk.cell 2;have hcap:=h.cap;clear h;by_cases he:e=0
 ·have hE:bn xs.length p e=if p<xs.length then 5 else 0:=by unfold bn;rw[if_neg (by simpa using he)]
  have HE:=ah hE;subst he;clear hE;by_cases hp:p<xs.length
  ·have hq:decide ((p:Int)<(xs.length:Int))=true:=by simp;omega
   go_enter Tryz.func54,Tryz.ntmps54;go_wp2_with fail;go_quiet (fail)
   go_wp2_with fail;go_ret;exact ⟨by rw[HE.out,if_pos hp];rfl,Dr.jG _ _⟩
  ·have hq:decide ((p:Int)<(xs.length:Int))=false:=by simp;omega
   go_enter Tryz.func54,Tryz.ntmps54;go_wp2_with fail;go_quiet (fail)
   go_wp2_with fail;go_ret;exact ⟨by rw[HE.out,if_neg hp];rfl,Dr.jG _ _⟩
 ·have hE:bn xs.length p e=e:=by unfold bn;rw[if_pos (by simpa using he)]
  have HE:=ah hE;have hne:(e !=0)=true:=by rw[bne_iff_ne];exact he
  clear hE he;go_enter Tryz.func54,Tryz.ntmps54;go_wp2_with fail;go_ret;exact ⟨by rw[HE.out];rfl,Dr.refl _⟩
end
end Go.Proofs.YtfljcllpmbnjaaaGreat
