/- Contracts and plain laws that the last text rests on. Conditions: each theorem states its own. -/
import Derived.Test.YtdbfejfhpkakhaaGreatKKf2Q3
import Derived.Test.YtdbfejfhpkakhaaGreatKKf2PbLaw
import Derived.Maps.Views
import Derived.Maps.OwnOps
import Derived.Maps.OwnSet
import Derived.Maps.OwnRows
import Derived.Maps.Range
import Derived.Maps.RangeWalk
import Derived.StringKeys
set_option maxRecDepth 100000
set_option linter.unusedVariables false
namespace Go.Proofs.YtdbfejfhpkakhaaGreat
open Go.RowKit Go.Maps Go.WideElems Go.WideMaps
theorem Tryz.gq:Keyed Tryz.prog 9:=Keyed.of_law (string_law Tryz.underlying9)
def iU (v:Value):Option (DataW Value×List MemPlace):=some (.held v,[])
def sL (s:ByteArray):Lit:=.string s.data.toList
abbrev fU (s:ByteArray):Prop:=s.size<=maxLen
theorem vX {s:ByteArray} (h:fU s):keyOf Tryz.prog 9 (.string s)=some (sL s):=keyOf_string_mk Tryz.underlying9 h
theorem lN {a b:ByteArray} (h:sL a=sL b):a=b:=by
 unfold sL at h;injection h with h;cases a;cases b
 congr 1
 exact Array.toList_inj.1 h
theorem lM (s:ByteArray):WideAt.IsKeyLit (sL s):=trivial
def dX (w:World) (b n:Nat) (f:ByteArray->Option Value):Prop:=∃D:DataW Value,w.ownsMap Tryz.prog 9 iU b n D/\IsMap D/\
 ∀s,fU s->has D (sL s)=(f s).isSome/\∀v,f s=some v->∀zd,D.atKey (sL s) zd=.held v
theorem dX.made (w:World):dX (w.alloc (.map #[] 0)) w.heap.size 0 (fun _=>none):=⟨_,World.ownsMap_made w _ _ _,isMap_empty,fun s _=>⟨rfl,fun v h=>by cases h⟩⟩
section
variable {w w' : World} {b n : Nat} {f : ByteArray → Option Value}
theorem dX.lt (h:dX w b n f):b<w.heap.size:=h.choose_spec.1.lt
theorem Ae {D:DataW Value} {k:TypeId} {R:Value->Option (DataW Value×List MemPlace)} {P:Program} {S:Nat->Prop} (h:w.ownsMap P k R b n D) (c:Ch S w w') (hb:¬S b):w'.ownsMap P k R b n D:=by
 have hlt:=h.lt;obtain ⟨es,clock,hb2,F,hs,hD⟩:=h;exact ⟨es,clock,(c.block b hlt hb).trans hb2,F,hs,hD⟩
theorem dX.ch {S:Nat->Prop} (h:dX w b n f) (c:Ch S w w') (hb:¬S b):dX w' b n f:=by
 obtain ⟨D,h1,h2⟩:=h;exact ⟨D,Ae h1 c hb,h2⟩
theorem dX.nx (h:dX w b n f) (c:Nx w w'):dX w' b n f:=h.ch c fun hf=>hf
theorem dX.congr {g:ByteArray->Option Value} (h:dX w b n f) (e:∀s,fU s->f s=g s):dX w b n g:=by
 obtain ⟨D,h1,h2,h3⟩:=h;exact ⟨D,h1,h2,fun s hs=>by rw[←e s hs];exact h3 s hs⟩
theorem um {v:Value} {y:DataW Value×List MemPlace} (h:iU v=some y):y=(.held v,[]):=by injection h with h;exact h.symm
theorem dX.look (h:dX w b n f) {t E:TypeId} (ht:Tryz.prog.underlying t=some (.map 9 E)) {z:Value} (hz:(zeroValue E).run Tryz.prog w=.ok z w) {s:ByteArray} (hs:fU s):
 (Instr.lookup t (.map (some b)) (.string s) true).run Tryz.prog w=.ok (.tuple #[(f s).getD z,.bool (f s).isSome]) w/\(Instr.lookup t (.map (some b)) (.string s) false).run Tryz.prog w=.ok ((f s).getD z) w:=by
 obtain ⟨D,h1,h2,h3⟩:=h;obtain ⟨es,clock,hb,F,hsz,rfl⟩:=h1;obtain ⟨e1,e2⟩:=h3 s hs
 have key:∀c:Bool,(Instr.lookup t (.map (some b)) (.string s) c).run Tryz.prog w=.ok (if c then .tuple #[(f s).getD z,.bool (f s).isSome] else (f s).getD z) w:=fun c=>by
  rcases Maps.fit_look c Tryz.gq ht hz hb F (vX hs) with ⟨hrun,_,hat⟩|⟨e0,y,hm,hk0,hrun,hrd,hat,hx⟩
  ·rw[has_false_of_atKey hat]at e1
   have:f s=none:=by cases hf:f s with
    |none=>rfl
    |some v=>rw[hf]at e1;cases e1
   rw[hrun,this];cases c<;>rfl
  ·have hh:=has_true_of_atKey hat
   rw[hh]at e1;obtain ⟨v,hv⟩:=Option.isSome_iff_exists.1 e1.symm;have h5:=e2 v hv .nil;rw[hat]at h5;rw[um hrd]at h5;injection h5 with h6;rw[hrun,hv,←h6];cases c<;>rfl
 exact ⟨by simpa using key true,by simpa using key false⟩
theorem dX.put (h:dX w b n f) (hn:n<maxLen) {t E:TypeId} (ht:Tryz.prog.underlying t=some (.map 9 E)) {s:ByteArray} (hs:fU s) (v:Value):
 ∃w',(Instr.mapUpdate t (.map (some b)) (.string s) v).run Tryz.prog w=.ok () w'/\dX w' b (n+1) (fun x=>if x=s then some v else f x)/\w.grownBy w' (some b)/\Ch (· =b) w w':=by
 obtain ⟨D,h1,h2,h3⟩:=h;obtain ⟨w',hrun,hown,hg⟩:=h1.update Tryz.gq ht hn (vX hs) (show iU v=some (.held v,[]) from rfl);refine ⟨w',hrun,⟨_,hown,h2.put _ _,fun x hx=>?_⟩,hg,(Ch.refl (· =b) w).grown hg (fun k hk _=>by cases hk;rfl)⟩;dsimp only
 by_cases e:x=s
 ·subst e
  rw[if_pos rfl];exact ⟨has_put_same h2 (lM x) _,fun u hu zd=>by injection hu with hu;rw[←hu];exact atKey_put_same h2 (lM x) _ _⟩
 ·have hne:sL x≠sL s:=fun e2=>e (lN e2)
  rw[if_neg e,has_put_other hne];exact ⟨(h3 x hx).1,fun u hu zd=>by rw[atKey_put_other hne];exact (h3 x hx).2 u hu zd⟩
/-! going through -/
def iL (w:World) (b r n:Nat) (f:ByteArray->Option Value) (left:ByteArray->Bool) (cnt:Nat):Prop:=∃(D:DataW Value) (lf:Lit->Bool),w.ranges Tryz.prog 9 iU b r n D lf cnt/\IsMap D/\
 (∀s,fU s->has D (sL s)=(f s).isSome/\∀v,f s=some v->∀zd,D.atKey (sL s) zd=.held v)/\(∀s,lf (sL s)=left s)/\∀s,left s=true->fU s
variable {r cnt : Nat} {left : ByteArray → Bool}
theorem iL.ne (h:iL w b r n f left cnt):r≠b:=by
 obtain ⟨D,lf,h1, -⟩:=h;exact h1.ne
theorem iL.left_eq (h:iL w b r n f left cnt):w.rangeLeft b r=cnt:=by
 obtain ⟨D,lf,h1, -⟩:=h;exact h1.left_eq
theorem iL.ch {S:Nat->Prop} (h:iL w b r n f left cnt) (c:Ch S w w') (hb:¬S b) (hr:¬S r):iL w' b r n f left cnt:=by
 obtain ⟨D,lf,h1,h2⟩:=h;refine ⟨D,lf,?_,h2⟩;have l1:=h1.owns.lt;have l2:=h1.lt;obtain ⟨es,clock,since,seen,c0,hb2,F,hs,hD,hr2,rest⟩:=h1;exact ⟨es,clock,since,seen,c0,(c.block b l1 hb).trans hb2,F,hs,hD,(c.block r l2 hr).trans hr2,rest⟩
theorem Af {D:DataW Value} (h:w.ownsMap Tryz.prog 9 iU b n D) {s:ByteArray} (hh:has D (sL s)=true):fU s:=by
 obtain ⟨es,clock,hb,F,hs,rfl⟩:=h;obtain ⟨p,hp,hpk⟩:=List.any_eq_true.1 hh;obtain ⟨x,hx,rfl⟩:=List.mem_map.1 (mem_sorted.1 hp);obtain ⟨y,hy⟩:=F.reads x hx;obtain ⟨t,ht1,ht2,ht3⟩:=string_of_keyOf Tryz.underlying9 (rd_key hy);have h1:=WideAt.sameKey_eq hpk;rw[rg_of hy,ht2]at h1;have:t=s:=lN h1;rw[←this];exact ht3
theorem dX.range (h:dX w b n f) {t E:TypeId} (ht:Tryz.prog.underlying t=some (.map 9 E)):
 ∃w' cnt,(Instr.range t (.map (some b))).run Tryz.prog w=.ok (.pointer (some ⟨w.heap.size,0,none⟩)) w'/\iL w' b w.heap.size n f (fun s=>decide (fU s)&&(f s).isSome) cnt/\w.grownBy w' none/\w'.heap.size=w.heap.size+1/\cnt<=n:=by
 obtain ⟨D,h1,h2,h3⟩:=h;obtain ⟨w',hrun,hr,hg,hsz⟩:=h1.range Tryz.gq ht;refine ⟨w',_,hrun,⟨D,_,hr,h2,h3,fun s=>?_,fun s hs=>?_⟩,hg,hsz,h1.size_le⟩
 ·by_cases hk:fU s
  ·rw[(h3 s hk).1]
   simp[hk]
  ·have:has D (sL s)=false:=by
    cases hh:has D (sL s) with
    |false=>rfl
    |true=>exact absurd (Af h1 hh) hk
   rw[this];simp[hk]
 ·rw[Bool.and_eq_true,decide_eq_true_eq]at hs
  exact hs.1
theorem iL.next (h:iL w b r n f left cnt) (ty:TypeId):
 (cnt=0/\(∀s,left s=false)/\(Instr.next (.pointer (some ⟨r,0,none⟩)) false ty).run Tryz.prog w=.ok (.tuple #[.bool false]) w)∨
 ∃s v w' cnt',fU s/\left s=true/\f s=some v/\(Instr.next (.pointer (some ⟨r,0,none⟩)) false ty).run Tryz.prog w=.ok (.tuple #[.bool true,.string s,v]) w'/\
  iL w' b r n f (fun x=>left x&& !decide (x=s)) cnt'/\cnt'<cnt/\w.grownBy w' (some r)/\w'.heap.size=w.heap.size/\(Instr.entry (.pointer (some ⟨r,0,none⟩))).run Tryz.prog w'=.ok (.tuple #[.string s,v]) w':=by
 obtain ⟨D,lf,h1,h2,h3,h4,h5⟩:=h;rcases h1.next Tryz.gq ty with ⟨e0,hl,hrun⟩|⟨key,v,kl,y,w',cnt',hkey,hlk,hv,hat,hrun,hr,hlt,hg,hsz,hen⟩
 ·exact .inl ⟨e0,fun s=>by rw[←h4];exact hl _,hrun⟩
 ·obtain ⟨s,rfl,rfl,hs⟩:=string_of_keyOf Tryz.underlying9 hkey
  have hls:left s=true:=by rw[←h4];exact hlk
  have hy:=um hv;subst hy
  have hhas:has D (sL s)=true:=by
   exact has_true_of_atKey hat
  have hf:f s=some v:=by
   obtain ⟨a1,a2⟩:=h3 s hs;rw[hhas]at a1;obtain ⟨u,hu⟩:=Option.isSome_iff_exists.1 a1.symm;have a3:=a2 u hu .nil;have a4:=hat .nil;have a5:(DataW.held v:DataW Value)=.held u:=a4.symm.trans a3;injection a5 with a5;rw[hu,a5]
  refine .inr ⟨s,v,w',cnt',hs,hls,hf,hrun,⟨D,_,hr,h2,h3,fun x=>?_,fun x hx=>?_⟩,hlt,hg,hsz,hen⟩
  ·simp only[h4]
   congr 2
   by_cases e:x=s
   ·subst e
    rw[show (sL x).sameKey (Lit.string x.data.toList)=true from WideAt.sameKey_self (lM x)];simp
   ·rw[show Lit.string s.data.toList=sL s from rfl,sameKey_ne (fun e2=>e (lN e2))]
    simp[e]
  ·rw[Bool.and_eq_true]at hx
   exact h5 x hx.1
end
end Go.Proofs.YtdbfejfhpkakhaaGreat
