/- Contracts and plain laws that the last text rests on. Conditions: each theorem states its own. -/
import Derived.Test.YtdbfejfhpkakhaaGreatKKd2Q3
import Derived.Test.YtdbfejfhpkakhaaGreatKKd2PbLaw
import Derived.Maps.Views
import Derived.Maps.OwnOps
import Derived.Maps.OwnSet
import Derived.Maps.OwnRows
import Derived.Maps.Range
import Derived.Maps.RangeWalk
import Derived.StringKeys
set_option maxRecDepth 100000
set_option linter.unusedVariables false
set_option linter.unusedSimpArgs false
namespace Go.Proofs.YtdbfejfhpkakhaaGreat
open Go.RowKit Go.Maps Go.WideElems Go.WideMaps
theorem Tryz.gq:Keyed Tryz.prog 9:=Keyed.of_law (string_law Tryz.underlying9)
def iW (v:Value):Option (DataW Value×List MemPlace):=some (.held v,[])
def sL (s:ByteArray):Lit:=.string s.data.toList
abbrev fC (s:ByteArray):Prop:=s.size<=maxLen
theorem wC {s:ByteArray} (h:fC s):keyOf Tryz.prog 9 (.string s)=some (sL s):=keyOf_string_mk Tryz.underlying9 h
theorem lU {a b:ByteArray} (h:sL a=sL b):a=b:=by
 unfold sL at h;injection h with h;cases a;cases b
 congr 1
 exact Array.toList_inj.1 h
theorem lT (s:ByteArray):WideAt.IsKeyLit (sL s):=trivial
def dY (w:World) (b n:Nat) (f:ByteArray->Option Value):Prop:=∃D:DataW Value,w.ownsMap Tryz.prog 9 iW b n D/\IsMap D/\
 ∀s,fC s->has D (sL s)=(f s).isSome/\∀v,f s=some v->∀zd,D.atKey (sL s) zd=.held v
theorem dY.made (w:World):dY (w.alloc (.map #[] 0)) w.heap.size 0 (fun _=>none):=⟨_,World.ownsMap_made w _ _ _,isMap_empty,fun s _=>⟨rfl,fun v h=>by cases h⟩⟩
section
variable {w w' : World} {b n : Nat} {f : ByteArray → Option Value}
theorem dY.lt (h:dY w b n f):b<w.heap.size:=h.choose_spec.1.lt
theorem AL {D:DataW Value} {k:TypeId} {R:Value->Option (DataW Value×List MemPlace)} {P:Program} {S:Nat->Prop} (h:w.ownsMap P k R b n D) (c:Ch S w w') (hb:¬S b):w'.ownsMap P k R b n D:=by
 have hlt:=h.lt;obtain ⟨es,clock,hb2,F,hs,hD⟩:=h;exact ⟨es,clock,(c.block b hlt hb).trans hb2,F,hs,hD⟩
theorem dY.ch {S:Nat->Prop} (h:dY w b n f) (c:Ch S w w') (hb:¬S b):dY w' b n f:=by
 obtain ⟨D,h1,h2⟩:=h;exact ⟨D,AL h1 c hb,h2⟩
theorem dY.nx (h:dY w b n f) (c:Nx w w'):dY w' b n f:=h.ch c fun hf=>hf
theorem dY.congr {g:ByteArray->Option Value} (h:dY w b n f) (e:∀s,fC s->f s=g s):dY w b n g:=by
 obtain ⟨D,h1,h2,h3⟩:=h;exact ⟨D,h1,h2,fun s hs=>by rw[←e s hs];exact h3 s hs⟩
theorem uG {v:Value} {y:DataW Value×List MemPlace} (h:iW v=some y):y=(.held v,[]):=by injection h with h;exact h.symm
theorem dY.look (h:dY w b n f) {t E:TypeId} (ht:Tryz.prog.underlying t=some (.map 9 E)) {z:Value} (hz:(zeroValue E).run Tryz.prog w=.ok z w) {s:ByteArray} (hs:fC s):
 (Instr.lookup t (.map (some b)) (.string s) true).run Tryz.prog w=.ok (.tuple #[(f s).getD z,.bool (f s).isSome]) w/\(Instr.lookup t (.map (some b)) (.string s) false).run Tryz.prog w=.ok ((f s).getD z) w:=by
 obtain ⟨D,h1,h2,h3⟩:=h;obtain ⟨es,clock,hb,F,hsz,rfl⟩:=h1;obtain ⟨e1,e2⟩:=h3 s hs
 have key:∀c:Bool,(Instr.lookup t (.map (some b)) (.string s) c).run Tryz.prog w=.ok (if c then .tuple #[(f s).getD z,.bool (f s).isSome] else (f s).getD z) w:=fun c=>by
  rcases Maps.fit_look c Tryz.gq ht hz hb F (wC hs) with ⟨hrun,_,hat⟩|⟨e0,y,hm,hk0,hrun,hrd,hat,hx⟩
  ·rw[has_false_of_atKey hat]at e1
   have:f s=none:=by cases hf:f s with
    |none=>rfl
    |some v=>rw[hf]at e1;cases e1
   rw[hrun,this];cases c<;>rfl
  ·have hh:=has_true_of_atKey hat
   rw[hh]at e1;obtain ⟨v,hv⟩:=Option.isSome_iff_exists.1 e1.symm;have h5:=e2 v hv .nil;rw[hat]at h5;rw[uG hrd]at h5;injection h5 with h6;rw[hrun,hv,←h6];cases c<;>rfl
 exact ⟨by simpa using key true,by simpa using key false⟩
theorem dY.put (h:dY w b n f) (hn:n<maxLen) {t E:TypeId} (ht:Tryz.prog.underlying t=some (.map 9 E)) {s:ByteArray} (hs:fC s) (v:Value):
 ∃w',(Instr.mapUpdate t (.map (some b)) (.string s) v).run Tryz.prog w=.ok () w'/\dY w' b (n+1) (fun x=>if x=s then some v else f x)/\w.grownBy w' (some b)/\Ch (· =b) w w':=by
 obtain ⟨D,h1,h2,h3⟩:=h;obtain ⟨w',hrun,hown,hg⟩:=h1.update Tryz.gq ht hn (wC hs) (show iW v=some (.held v,[]) from rfl);refine ⟨w',hrun,⟨_,hown,h2.put _ _,fun x hx=>?_⟩,hg,(Ch.refl (· =b) w).grown hg (fun k hk _=>by cases hk;rfl)⟩;dsimp only
 by_cases e:x=s
 ·subst e
  rw[if_pos rfl];exact ⟨has_put_same h2 (lT x) _,fun u hu zd=>by injection hu with hu;rw[←hu];exact atKey_put_same h2 (lT x) _ _⟩
 ·have hne:sL x≠sL s:=fun e2=>e (lU e2)
  rw[if_neg e,has_put_other hne];exact ⟨(h3 x hx).1,fun u hu zd=>by rw[atKey_put_other hne];exact (h3 x hx).2 u hu zd⟩
/-! going through -/
def iD (w:World) (b r n:Nat) (f:ByteArray->Option Value) (left:ByteArray->Bool) (cnt:Nat):Prop:=∃(D:DataW Value) (lf:Lit->Bool),w.ranges Tryz.prog 9 iW b r n D lf cnt/\IsMap D/\
 (∀s,fC s->has D (sL s)=(f s).isSome/\∀v,f s=some v->∀zd,D.atKey (sL s) zd=.held v)/\(∀s,lf (sL s)=left s)/\∀s,left s=true->fC s
variable {r cnt : Nat} {left : ByteArray → Bool}
theorem iD.ne (h:iD w b r n f left cnt):r≠b:=by
 obtain ⟨D,lf,h1, -⟩:=h;exact h1.ne
theorem iD.left_eq (h:iD w b r n f left cnt):w.rangeLeft b r=cnt:=by
 obtain ⟨D,lf,h1, -⟩:=h;exact h1.left_eq
theorem iD.ch {S:Nat->Prop} (h:iD w b r n f left cnt) (c:Ch S w w') (hb:¬S b) (hr:¬S r):iD w' b r n f left cnt:=by
 obtain ⟨D,lf,h1,h2⟩:=h;refine ⟨D,lf,?_,h2⟩;have l1:=h1.owns.lt;have l2:=h1.lt;obtain ⟨es,clock,since,seen,c0,hb2,F,hs,hD,hr2,rest⟩:=h1;exact ⟨es,clock,since,seen,c0,(c.block b l1 hb).trans hb2,F,hs,hD,(c.block r l2 hr).trans hr2,rest⟩
theorem AO {D:DataW Value} (h:w.ownsMap Tryz.prog 9 iW b n D) {s:ByteArray} (hh:has D (sL s)=true):fC s:=by
 obtain ⟨es,clock,hb,F,hs,rfl⟩:=h;obtain ⟨p,hp,hpk⟩:=List.any_eq_true.1 hh;obtain ⟨x,hx,rfl⟩:=List.mem_map.1 (mem_sorted.1 hp);obtain ⟨y,hy⟩:=F.reads x hx;obtain ⟨t,ht1,ht2,ht3⟩:=string_of_keyOf Tryz.underlying9 (rd_key hy);have h1:=WideAt.sameKey_eq hpk;rw[rg_of hy,ht2]at h1;have:t=s:=lU h1;rw[←this];exact ht3
theorem dY.range (h:dY w b n f) {t E:TypeId} (ht:Tryz.prog.underlying t=some (.map 9 E)):
 ∃w' cnt,(Instr.range t (.map (some b))).run Tryz.prog w=.ok (.pointer (some ⟨w.heap.size,0,none⟩)) w'/\iD w' b w.heap.size n f (fun s=>decide (fC s)&&(f s).isSome) cnt/\w.grownBy w' none/\w'.heap.size=w.heap.size+1/\cnt<=n:=by
 obtain ⟨D,h1,h2,h3⟩:=h;obtain ⟨w',hrun,hr,hg,hsz⟩:=h1.range Tryz.gq ht;refine ⟨w',_,hrun,⟨D,_,hr,h2,h3,fun s=>?_,fun s hs=>?_⟩,hg,hsz,h1.size_le⟩
 ·by_cases hk:fC s
  ·rw[(h3 s hk).1]
   simp[hk]
  ·have:has D (sL s)=false:=by
    cases hh:has D (sL s) with
    |false=>rfl
    |true=>exact absurd (AO h1 hh) hk
   rw[this];simp[hk]
 ·rw[Bool.and_eq_true,decide_eq_true_eq]at hs
  exact hs.1
theorem iD.next (h:iD w b r n f left cnt) (ty:TypeId):
 (cnt=0/\(∀s,left s=false)/\(Instr.next (.pointer (some ⟨r,0,none⟩)) false ty).run Tryz.prog w=.ok (.tuple #[.bool false]) w)∨
 ∃s v w' cnt',fC s/\left s=true/\f s=some v/\(Instr.next (.pointer (some ⟨r,0,none⟩)) false ty).run Tryz.prog w=.ok (.tuple #[.bool true,.string s,v]) w'/\
  iD w' b r n f (fun x=>left x&& !decide (x=s)) cnt'/\cnt'<cnt/\w.grownBy w' (some r)/\w'.heap.size=w.heap.size/\(Instr.entry (.pointer (some ⟨r,0,none⟩))).run Tryz.prog w'=.ok (.tuple #[.string s,v]) w':=by
 obtain ⟨D,lf,h1,h2,h3,h4,h5⟩:=h;rcases h1.next Tryz.gq ty with ⟨e0,hl,hrun⟩|⟨key,v,kl,y,w',cnt',hkey,hlk,hv,hat,hrun,hr,hlt,hg,hsz,hen⟩
 ·exact .inl ⟨e0,fun s=>by rw[←h4];exact hl _,hrun⟩
 ·obtain ⟨s,rfl,rfl,hs⟩:=string_of_keyOf Tryz.underlying9 hkey
  have hls:left s=true:=by rw[←h4];exact hlk
  have hy:=uG hv;subst hy
  have hhas:has D (sL s)=true:=by
   exact has_true_of_atKey hat
  have hf:f s=some v:=by
   obtain ⟨a1,a2⟩:=h3 s hs;rw[hhas]at a1;obtain ⟨u,hu⟩:=Option.isSome_iff_exists.1 a1.symm;have a3:=a2 u hu .nil;have a4:=hat .nil;have a5:(DataW.held v:DataW Value)=.held u:=a4.symm.trans a3;injection a5 with a5;rw[hu,a5]
  refine .inr ⟨s,v,w',cnt',hs,hls,hf,hrun,⟨D,_,hr,h2,h3,fun x=>?_,fun x hx=>?_⟩,hlt,hg,hsz,hen⟩
  ·simp only[h4]
   congr 2
   by_cases e:x=s
   ·subst e
    rw[show (sL x).sameKey (Lit.string x.data.toList)=true from WideAt.sameKey_self (lT x)];simp
   ·rw[show Lit.string s.data.toList=sL s from rfl,sameKey_ne (fun e2=>e (lU e2))]
    simp[e]
  ·rw[Bool.and_eq_true]at hx
   exact h5 x hx.1
end
end Go.Proofs.YtdbfejfhpkakhaaGreat
