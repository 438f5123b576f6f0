/- Contracts and plain laws that the last text rests on. Conditions: each theorem states its own. -/
import Derived.Test.YtdbfejfhpkakhaaGreatKKd2Q3
import Derived.Test.YtdbfejfhpkakhaaGreatKKd2PbLaw
import Derived.BigRegion
import Derived.StillTailTactics
import Derived.Deep.RegionLaw
set_option maxRecDepth 100000
set_option maxHeartbeats 1000000
set_option linter.unusedVariables false
set_option linter.unusedSimpArgs false
namespace Go.Proofs.YtdbfejfhpkakhaaGreat
open Go.RowKit
structure Up where
 key:ByteArray
 size:Int
 tries:Int
 wait:Int
 Zj:Int
 n:Int
 id:Int
 Rx:Int
 fails:Int
 due:Int
 born:Int
 ends:Int
 asked:Bool
def Up.cells (u:Up) (dv:Value):Array Value:=
 #[.string u.key,dv,.int .i64 u.size,.int .i64 u.tries,.int .i64 u.wait,.int .i64 u.Zj,.int .i64 u.n,.int .i64 u.id,.int .i64 u.Rx,.int .i64 u.fails,.int .i64 u.due,.int .i64 u.born,.int .i64 u.ends,.bool u.asked]
abbrev Iu (w:World) (g:Nat) (u:Up) (dv:Value):Prop:=aG w g 147 (u.cells dv)
def jL (w:World) (g:Nat) (u:Up) (dv:Value) (w':World):Prop:=Iu w' g u dv/\Ch (· =g) w w'
theorem jL.refl {w:World} {g:Nat} {u:Up} {dv:Value} (h:Iu w g u dv):jL w g u dv w:=⟨h,Ch.refl _ _⟩
theorem jL.nx {a b c:World} {g:Nat} {u:Up} {dv:Value} (h:jL a g u dv b) (k:Nx b c):jL a g u dv c:=⟨h.1.nx k,h.2.tr k⟩
theorem jL.aS {a w:World} {g:Nat} {u u':Up} {dv:Value} (h:jL a g u dv w) (i:Nat) (v:Value) (e:(u.cells dv).setIfInBounds i v=u'.cells dv):jL a g u' dv (w.setCell ⟨g,i,none⟩ v):=
 ⟨by rw[Iu,←e];exact h.1.aS i v,h.2.setCell (fun _=>rfl) v⟩
theorem jL.JA {a w:World} {g:Nat} {u:Up} {dv:Value} (h:jL a g u dv w) (x:Bool):jL a g { u with asked:=x} dv (w.setCell ⟨g,13,none⟩ (.bool x)):=h.aS 13 _ (by simp[Up.cells])
section
variable {w : World} {g : Nat} {u : Up} {dv : Value}
theorem Iu.cell_ (h:Iu w g u dv) (i:Nat):w.cell? ⟨g,i,none⟩=(u.cells dv)[i]?:=aG.cell h i
end
def EO (w:World) (xs:List Nat) (e:Ending) (w':World):Prop:=
 ∃A c,e=.returned (.slice A xs.length c)/\Rd w' (fun k=>w.heap.size<=k/\k<w'.heap.size) 1 A xs.length (bl xs)/\Nx w w'/\xs.length<=c/\c<=maxLen
theorem clone_any (D:Nat->Prop) (A:Option Addr) (n c:Nat) (xs:List Nat) (w:World) (h:Rd w D 1 A n (bl xs)) (hn:n<=140737488355328):
 Calls Tryz.prog 66 #[.slice A n c] w (EO w xs):=by
 obtain ⟨i0,hi0,hz0,hz1,hz2⟩:=info_parts Tryz.info5;have hlen:xs.length=n:=by have:=h.1;rw[Rh]at this;omega
 have Hlen:=ah hlen;clear hlen;have h':Rd (w.alloc (.cells #[] 5)) D 1 A n (bl xs):=h.nx (by omega) ((Ch.refl _ w).alloc _);have heq:=fun w:World=>Lib.run_eql_slice_nil (P:=Tryz.prog) w 47 5 A n c 0 0 Tryz.underlying47;rcases A with _|ad
 ·have h0:n=0:=by
   rcases Nat.eq_zero_or_pos n with h0|h0
   ·exact h0
   ·obtain ⟨_,h,_⟩:=h.2 h0;cases h
  have hx:xs=[]:=List.eq_nil_of_length_eq_zero (by rw[Hlen.out,h0]);have Hx:=ah hx;clear h0 hx;go_enter Tryz.func66,Tryz.ntmps66;go_wp2_with fail;go_ret;rw[EO,Hx.out];exact ⟨none,0,rfl,Rd.none_ _ _ _ _,Ch.refl _ _,by simp,by simp⟩
 ·go_enter Tryz.func66,Tryz.ntmps66
  go_wp2_with (at_builtin;refine z04 _ rfl (.tmp 5) (.tmp 6) _ rfl w.heap.size 5 i0 _ 1 1 Tryz.underlying47 hi0 hz0 hz1 hz2 rfl (by omega) (.slice (some ⟨w.heap.size,0,none⟩) 0 0) 0 [] rfl (World.ownsRow_made w #[] 0 (Nat.le_refl _) (by simp[maxLen]) rfl) D (some ad) n c (bl xs) rfl h' (jk xs) (by simp only[maxLen];omega) (by omega) (by simp) ?_;intro v' w1 hown hg hat;obtain ⟨k,cap,hv,hk,hk1,hrd,hnx,ho⟩:=Y_ hown hg hat;clear hown hg hat;rw[hv];clear hv)
  go_ret;obtain ⟨A',c',hv,hc1,hc2⟩:=h_ ho;injection hv with _ _ hv;subst hv;exact ⟨some ⟨k,0,none⟩,cap,by simp[Hlen.out],by rw[Hlen.out];exact hrd.more fun j e=>by omega,hnx,by rw[Hlen.out];exact hc1,hc2⟩
def Xj (n:Nat) (piece tries wait:Int):Prop:=1<=piece/\piece<=262144/\1<=tries/\tries<=8/\0<=wait/\wait<=1099511627776/\n<=262144
def jr (key:ByteArray) (n:Nat) (piece tries wait:Int):Up:=
 { key:=key,size:=max piece (((n:Int)+31) / 32),tries:=tries,wait:=wait,Zj:=0,n:=0,id:=0,Rx:=0,fails:=0,due:=0,born:=0,ends:=0,asked:=false}
def Yg (w:World) (key:ByteArray) (xs:List Nat) (piece tries wait:Int) (e:Ending) (w':World):Prop:=
 ∃g A c,e=.returned (.pointer (some ⟨g,0,none⟩))/\Iu w' g (jr key xs.length piece tries wait) (.slice A xs.length c)/\Rd w' (fun k=>w.heap.size<=k/\k<g) 1 A xs.length (bl xs)/\Nx w w'/\w.heap.size<=g/\xs.length<=c/\c<=maxLen
theorem TQ (D:Nat->Prop) (key:ByteArray) (A:Option Addr) (n c:Nat) (xs:List Nat) (piece tries wait:Int) (w:World) (hrd:Rd w D 1 A n (bl xs)) (hl:xs.length=n) (hok:Xj n piece tries wait):
 Calls Tryz.prog 64 #[.string key,.slice A n c,.int .i64 piece,.int .i64 tries,.int .i64 wait] w (Yg w key xs piece tries wait):=by
 obtain ⟨h1,h2,h3,h4,h5,h6,h7⟩:=hok;have Hl:=ah hl;clear hl;go_enter Tryz.func64,Tryz.ntmps64;go_wp2_with fail
 all_goals
  with_reducible refine (clone_any D A n c xs _ hrd (by omega)).mono ?_
  rintro e w1 ⟨A1,c1,rfl,r1,n1,hc1,hc2⟩;go_wp2_with fail;go_ret;refine ⟨w1.heap.size,A1,c1,rfl,?_,r1.nx (by omega) ((Ch.refl _ w1).alloc _),n1.alloc _,n1.size,hc1,hc2⟩;unfold jr;rw[Hl.out]
  first
  |(rw[show max piece (((n:Int)+31) / 32)=piece by omega];exact aG.new _ _ _)
  |(rw[show max piece (((n:Int)+31) / 32)=((n:Int)+32-1) / 32 by omega];exact aG.new _ _ _)
def cO (kind:Int) (key:ByteArray) (dv:Value) (ver at_ n id:Int):Value:=.agg #[.int .i64 kind,.string key,dv,.int .i64 ver,.int .i64 at_,.int .i64 n,.int .i64 id]
section
variable {w : World} {g : Nat} {u : Up} {dv : Value}
def YU (w:World) (g:Nat) (u:Up) (dv:Value) (c:Value) (e:Ending) (w':World):Prop:=e=.returned (.tuple #[c,.bool true])/\jL w g { u with asked:=true} dv w'
theorem z3x (h:Iu w g u dv) (now:Int) (h5:u.Zj=0) (h13:u.asked=false) (h10:u.due<=now):
 Calls Tryz.prog 39 #[.pointer (some ⟨g,0,none⟩),.int .i64 now] w (YU w g u dv (cO 7 u.key (.slice none 0 0) 0 0 0 0)):=by
 have d0:w.cell? ⟨g,0,none⟩=some (.string u.key):=h.cell_ 0;have d5:w.cell? ⟨g,5,none⟩=some (.int .i64 u.Zj):=h.cell_ 5;have d10:w.cell? ⟨g,10,none⟩=some (.int .i64 u.due):=h.cell_ 10;have d13:w.cell? ⟨g,13,none⟩=some (.bool u.asked):=h.cell_ 13;have hf:=h.frozen;have hlt:=h.lt;rw[h5]at d5;rw[h13]at d13;have uY:=ah ((jL.refl h).JA true);clear h h5 h13;go_enter Tryz.func39,Tryz.ntmps39;go_wp2_with fail;exact bodyPost_ret (v:=.tuple #[cO 7 u.key (.slice none 0 0) 0 0 0 0,.bool true]) (by simp[results,Tryz.results39,go_sem,cO]) rfl ⟨rfl,uY.out.nx ((Ch.refl _ _).alloc _)⟩
end
end Go.Proofs.YtdbfejfhpkakhaaGreat
