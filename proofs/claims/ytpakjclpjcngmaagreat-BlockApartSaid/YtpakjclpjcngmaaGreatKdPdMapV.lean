/- Contracts and plain laws that the last text rests on. Conditions: each theorem states its own. -/
import Derived.Test.YtpakjclpjcngmaaGreatKdQ4
import Derived.Test.YtpakjclpjcngmaaGreatKdPdLaw
import Derived.Maps.Views
import Derived.Maps.OwnOps
import Derived.Maps.OwnSet
import Derived.Maps.OwnRows
import Derived.Maps.Range
import Derived.Maps.RangeWalk
import Derived.StringKeys
set_option maxRecDepth 100000
set_option linter.unusedVariables false
namespace Go.Proofs.YtpakjclpjcngmaaGreat
open Go.RowKit Go.Maps Go.WideElems Go.WideMaps
theorem Tryz.jY:Keyed Tryz.prog 9:=Keyed.of_law (string_law Tryz.underlying9)
def lG (v:Value):Option (DataW Value×List MemPlace):=some (.held v,[])
def sL (s:ByteArray):Lit:=.string s.data.toList
abbrev nH (s:ByteArray):Prop:=s.size<=maxLen
theorem QM {s:ByteArray} (h:nH s):keyOf Tryz.prog 9 (.string s)=some (sL s):=keyOf_string_mk Tryz.underlying9 h
theorem yw {a b:ByteArray} (h:sL a=sL b):a=b:=by
 unfold sL at h;injection h with h;cases a;cases b
 congr 1
 exact Array.toList_inj.1 h
theorem QN (s:ByteArray):WideAt.IsKeyLit (sL s):=trivial
def abb (w:World) (b n:Nat) (f:ByteArray->Option Value):Prop:=∃D:DataW Value,w.ownsMap Tryz.prog 9 lG b n D/\IsMap D/\
 ∀s,nH s->has D (sL s)=(f s).isSome/\∀v,f s=some v->∀zd,D.atKey (sL s) zd=.held v
section
variable {w w' : World} {b n : Nat} {f : ByteArray → Option Value}
theorem KW {v:Value} {y:DataW Value×List MemPlace} (h:lG v=some y):y=(.held v,[]):=by injection h with h;exact h.symm
/-! going through -/
def lC (w:World) (b r n:Nat) (f:ByteArray->Option Value) (left:ByteArray->Bool) (cnt:Nat):Prop:=∃(D:DataW Value) (lf:Lit->Bool),w.ranges Tryz.prog 9 lG b r n D lf cnt/\IsMap D/\
 (∀s,nH s->has D (sL s)=(f s).isSome/\∀v,f s=some v->∀zd,D.atKey (sL s) zd=.held v)/\(∀s,lf (sL s)=left s)/\∀s,left s=true->nH s
variable {r cnt : Nat} {left : ByteArray → Bool}
theorem lC.ne (h:lC w b r n f left cnt):r≠b:=by
 obtain ⟨D,lf,h1, -⟩:=h;exact h1.ne
theorem lC.left_eq (h:lC w b r n f left cnt):w.rangeLeft b r=cnt:=by
 obtain ⟨D,lf,h1, -⟩:=h;exact h1.left_eq
theorem lC.ch {S:Nat->Prop} (h:lC w b r n f left cnt) (c:Ch S w w') (hb:¬S b) (hr:¬S r):lC w' b r n f left cnt:=by
 obtain ⟨D,lf,h1,h2⟩:=h;refine ⟨D,lf,?_,h2⟩;have l1:=h1.owns.lt;have l2:=h1.lt;obtain ⟨es,clock,since,seen,c0,hb2,F,hs,hD,hr2,rest⟩:=h1;exact ⟨es,clock,since,seen,c0,(c.block b l1 hb).trans hb2,F,hs,hD,(c.block r l2 hr).trans hr2,rest⟩
theorem GZ {D:DataW Value} (h:w.ownsMap Tryz.prog 9 lG b n D) {s:ByteArray} (hh:has D (sL s)=true):nH s:=by
 obtain ⟨es,clock,hb,F,hs,rfl⟩:=h;obtain ⟨p,hp,hpk⟩:=List.any_eq_true.1 hh;obtain ⟨x,hx,rfl⟩:=List.mem_map.1 (mem_sorted.1 hp);obtain ⟨y,hy⟩:=F.reads x hx;obtain ⟨t,ht1,ht2,ht3⟩:=string_of_keyOf Tryz.underlying9 (rd_key hy);have h1:=WideAt.sameKey_eq hpk;rw[rg_of hy,ht2]at h1;have:t=s:=yw h1;rw[←this];exact ht3
theorem abb.range (h:abb w b n f) {t E:TypeId} (ht:Tryz.prog.underlying t=some (.map 9 E)):
 ∃w' cnt,(Instr.range t (.map (some b))).run Tryz.prog w=.ok (.pointer (some ⟨w.heap.size,0,none⟩)) w'/\lC w' b w.heap.size n f (fun s=>decide (nH s)&&(f s).isSome) cnt/\w.grownBy w' none/\w'.heap.size=w.heap.size+1/\cnt<=n:=by
 obtain ⟨D,h1,h2,h3⟩:=h;obtain ⟨w',hrun,hr,hg,hsz⟩:=h1.range Tryz.jY ht;refine ⟨w',_,hrun,⟨D,_,hr,h2,h3,fun s=>?_,fun s hs=>?_⟩,hg,hsz,h1.size_le⟩
 ·by_cases hk:nH s
  ·rw[(h3 s hk).1]
   simp[hk]
  ·have:has D (sL s)=false:=by
    cases hh:has D (sL s) with
    |false=>rfl
    |true=>exact absurd (GZ h1 hh) hk
   rw[this];simp[hk]
 ·rw[Bool.and_eq_true,decide_eq_true_eq]at hs
  exact hs.1
theorem lC.next (h:lC w b r n f left cnt) (ty:TypeId):
 (cnt=0/\(∀s,left s=false)/\(Instr.next (.pointer (some ⟨r,0,none⟩)) false ty).run Tryz.prog w=.ok (.tuple #[.bool false]) w)∨
 ∃s v w' cnt',nH s/\left s=true/\f s=some v/\(Instr.next (.pointer (some ⟨r,0,none⟩)) false ty).run Tryz.prog w=.ok (.tuple #[.bool true,.string s,v]) w'/\
  lC w' b r n f (fun x=>left x&& !decide (x=s)) cnt'/\cnt'<cnt/\w.grownBy w' (some r)/\w'.heap.size=w.heap.size/\(Instr.entry (.pointer (some ⟨r,0,none⟩))).run Tryz.prog w'=.ok (.tuple #[.string s,v]) w':=by
 obtain ⟨D,lf,h1,h2,h3,h4,h5⟩:=h;rcases h1.next Tryz.jY ty with ⟨e0,hl,hrun⟩|⟨key,v,kl,y,w',cnt',hkey,hlk,hv,hat,hrun,hr,hlt,hg,hsz,hen⟩
 ·exact .inl ⟨e0,fun s=>by rw[←h4];exact hl _,hrun⟩
 ·obtain ⟨s,rfl,rfl,hs⟩:=string_of_keyOf Tryz.underlying9 hkey
  have hls:left s=true:=by rw[←h4];exact hlk
  have hy:=KW hv;subst hy
  have hhas:has D (sL s)=true:=by
   exact has_true_of_atKey hat
  have hf:f s=some v:=by
   obtain ⟨a1,a2⟩:=h3 s hs;rw[hhas]at a1;obtain ⟨u,hu⟩:=Option.isSome_iff_exists.1 a1.symm;have a3:=a2 u hu .nil;have a4:=hat .nil;have a5:(DataW.held v:DataW Value)=.held u:=a4.symm.trans a3;injection a5 with a5;rw[hu,a5]
  refine .inr ⟨s,v,w',cnt',hs,hls,hf,hrun,⟨D,_,hr,h2,h3,fun x=>?_,fun x hx=>?_⟩,hlt,hg,hsz,hen⟩
  ·simp only[h4]
   congr 2
   by_cases e:x=s
   ·subst e
    rw[show (sL x).sameKey (Lit.string x.data.toList)=true from WideAt.sameKey_self (QN x)];simp
   ·rw[show Lit.string s.data.toList=sL s from rfl,sameKey_ne (fun e2=>e (yw e2))]
    simp[e]
  ·rw[Bool.and_eq_true]at hx
   exact h5 x hx.1
end
end Go.Proofs.YtpakjclpjcngmaaGreat
