/- Contracts and plain laws that the last text rests on. Conditions: each theorem states its own. -/
import Derived.Test.YtpakjclpjcngmaaGreatKqQ2
import Derived.ProofKit
import Derived.SizedLaws
import Derived.OpenShut
import Derived.ShutString
import Derived.ChangeOld
import Derived.Test.YtpakjclpjcngmaaGreatKqQ3
set_option maxRecDepth 100000
set_option linter.unusedVariables false
namespace Go.Proofs.YtpakjclpjcngmaaGreat
open Go.ChangeShapes Go.WideShapes Go.ChangeAt Go.RowKit
open Go.ChangeMaps (open_string shut_string)
theorem Tryz.own_:ownKnob Tryz.prog.godebug=none:=by kernel_rfl
theorem Tryz.RX:laidOutB Tryz.prog=true:=by kernel_rfl
theorem uD {H:Type} {enc:TypeId×Value->H} {W W':World} (hb:Below W.heap.size W W'):∀{ts:List TypeId} {vs:List Value} {ds:List (DataW H)} {ps:List MemPlace},
 (∀t∈ts,Tryz.prog.readableRec t=true/\t<Tryz.prog.types.size)->DataW.TrodAll enc Tryz.prog W 0 (fun _=>true) true ts vs ds ps->(∀x∈ps,x.block<W.heap.size)->
 DataW.TrodAll enc Tryz.prog W' 0 (fun b=>decide (b<W.heap.size)) true ts vs ds ps:=by
 intro ts;induction ts with
 |nil=>
  intro vs ds ps _ h _;obtain ⟨rfl,rfl,rfl⟩:=trodAll_nil h;exact trodAll_mk0
 |cons t ts ih=>
  intro vs ds ps hr h hlt;obtain ⟨v,vs',d,ds',p,q,rfl,rfl,rfl,h0,r0⟩:=trodAll_cons h
  exact trodAll_cons_mk (Below.trod Tryz.RX (hr t (by simp)).1 (hr t (by simp)).2 h0 hb (fun x hx=>hlt x (by simp[hx])))
   (ih (fun u hu=>hr u (by simp[hu])) r0 (fun x hx=>hlt x (by simp[hx])))
structure Told {H:Type} (enc:TypeId×Value->H) (ts:List TypeId) (W:World) (args:Array Value) (ds:List (DataW H)) (ps:List MemPlace):Prop where
 trod:DataW.TrodAll enc Tryz.prog W 0 (fun _=>true) true ts args.toList ds ps
 okw:∀(j:Nat) t v,ts[j]?=some t->args[j]?=some v->∃b,Value.okWide Tryz.prog W .any b t v
 lt:∀x∈ps,x.block<W.heap.size
 sized:(DataW.weightsEach Tryz.prog ts ds).all (· <=reachBytes)=true
/-! ### arguments opened -/
section
variable {H : Type} {enc : TypeId × Value → H} {W : World} {args : Array Value} {ds : List (DataW H)} {ps : List MemPlace}
theorem Told.cons {t:TypeId} {ts:List TypeId} (h:Told enc (t::ts) W args ds ps):∃v vs d ds' p q,args=(v::vs).toArray/\ds=d::ds'/\DataW.Trod enc Tryz.prog W 0 (fun _=>true) true t v d p/\
 (∃b,Value.okWide Tryz.prog W .any b t v)/\(∀x∈p,x.block<W.heap.size)/\(DataW.weightsEach Tryz.prog [t] [d]).all (· <=reachBytes)=true/\Told enc ts W vs.toArray ds' q:=by
 obtain ⟨h1,h2,h3,h4⟩:=h;obtain ⟨v,vs,d,ds',p,q,ha,rfl,rfl,h0,r0⟩:=trodAll_cons h1;obtain ⟨args⟩:=args;simp at ha;subst ha
 have hw:(DataW.weightsEach Tryz.prog [t] [d]).all (· <=reachBytes)=true/\(DataW.weightsEach Tryz.prog ts ds').all (· <=reachBytes)=true:=by
  simp only[DataW.weightsEach,List.all_append,Bool.and_eq_true]at h4 ⊢;exact ⟨⟨h4.1,by simp⟩,h4.2⟩
 exact ⟨v,vs,d,ds',p,q,rfl,rfl,h0,h2 0 t v rfl rfl,fun x hx=>h3 x (by simp[hx]),hw.1,
  ⟨by simpa using r0,fun j t' v' ht hv=>h2 (j+1) t' v' (by simpa using ht) (by simpa using hv),fun x hx=>h3 x (by simp[hx]),hw.2⟩⟩
theorem Told.nil (h:Told enc [] W args ds ps):args= #[]:=by
 obtain ⟨h1,_⟩:=h;obtain ⟨h2,_,_⟩:=trodAll_nil h1;obtain ⟨args⟩:=args;simpa using h2
def i64 (a:Int):Prop:= -9223372036854775808<=a/\a<=9223372036854775807
theorem wJ {a:Int} (h:(Lit.int .i64 a).wf=true):i64 a:=by
 have h1:IntKind.i64.min= -9223372036854775808:=rfl;have h2:IntKind.i64.max=9223372036854775807:=rfl;simp only[Lit.wf,Bool.and_eq_true,decide_eq_true_eq]at h;exact ⟨by omega,by omega⟩
theorem Told.int {ts:List TypeId} (h:Told enc (3::ts) W args ds ps):∃(a:Int) (vs:List Value) (ds':List (DataW H)) (q:List MemPlace),args=(.int .i64 a::vs).toArray/\i64 a/\Told enc ts W vs.toArray ds' q:=by
 obtain ⟨v,vs,d,ds',p,q,rfl,rfl,h0,⟨b,ho⟩,_,_,h'⟩:=h.cons;obtain ⟨a,rfl,rfl,rfl,wf⟩:=open_int Tryz.underlying3 ho h0;exact ⟨a,vs,ds',q,rfl,wJ wf,h'⟩
def il (zs:List Int):List Value:=zs.map (Value.int .i64)
end
end Go.Proofs.YtpakjclpjcngmaaGreat
namespace Go.Proofs.YtpakjclpjcngmaaGreat
def qO (x:Int):Prop:= -1152921504606846976<=x/\x<=1152921504606846976
instance (x:Int):Decidable (qO x):=by unfold qO;exact inferInstance
def kZ (l:List Int) (fr k:Nat):List Int:=(List.range l.length).map fun j=>if k<j/\fr<=j then l.getD j 0-l.getD (j-1) 0 else l.getD j 0
def Pj (l:List Int) (fr:Nat):List Int:=(List.range l.length).map fun j=>if fr<=j then l.getD j 0-l.getD (j-1) 0 else l.getD j 0
def aK (l:List Int):Nat->List Int
 |0=>l
 |k+1=>Pj (aK l k) (k+1)
theorem z3A (l:List Int) (fr k:Nat):(kZ l fr k).length=l.length:=by simp[kZ]
theorem sV (l:List Int) (fr:Nat):(Pj l fr).length=l.length:=by simp[Pj]
theorem Zz (l:List Int):∀k,(aK l k).length=l.length:=by
 intro k;induction k with
 |zero=>rfl
 |succ k ih=>rw[aK,sV,ih]
theorem xZ (l:List Int) (fr k:Nat) (h:l.length<=k+1):kZ l fr k=l:=by
 apply List.ext_getElem
 ·simp[kZ]
 ·intro i h1 h2
  simp only[kZ,List.getElem_map,List.getElem_range];rw[if_neg (by omega)];simp[List.getD,h2]
theorem FW (l:List Int) (fr k:Nat) (h:k<fr):kZ l fr k=Pj l fr:=by
 unfold kZ Pj;refine List.map_congr_left fun j _=>?_;by_cases hj:fr<=j
 ·rw[if_pos ⟨by omega,hj⟩,if_pos hj]
 ·rw[if_neg (by omega),if_neg hj]
theorem z2Y (l:List Int) (fr k j:Nat) (hj:j<l.length):(kZ l fr k).getD j 0=if k<j/\fr<=j then l.getD j 0-l.getD (j-1) 0 else l.getD j 0:=by
 simp[kZ,List.getD,hj]
theorem FV (l:List Int) (fr k:Nat) (hk:k+1<l.length) (hf:fr<=k+1):(kZ l fr (k+1)).set (k+1) ((kZ l fr (k+1)).getD (k+1) 0-(kZ l fr (k+1)).getD k 0)=kZ l fr k:=by
 rw[z2Y l fr (k+1) (k+1) hk,z2Y l fr (k+1) k (by omega),if_neg (by omega),if_neg (by omega)];apply List.ext_getElem
 ·simp[kZ]
 ·intro i h1 h2
  rw[List.getElem_set];simp only[kZ,List.getElem_map,List.getElem_range];by_cases e:k+1=i
  ·subst e
   rw[if_pos rfl,if_pos ⟨by omega,hf⟩];simp
  ·rw[if_neg e]
   by_cases h:k+1<i/\fr<=i
   ·rw[if_pos h,if_pos (by omega)]
   ·rw[if_neg h,if_neg (by omega)]
def mJ (B:Int) (l:List Int):Prop:=∀x∈l, -B<=x/\x<=B
theorem JF {B:Int} {l:List Int} (h:mJ B l) (hB:0<=B) (i:Nat): -B<=l.getD i 0/\l.getD i 0<=B:=by
 by_cases hi:i<l.length
 ·have e:l.getD i 0=l[i]:=by simp[List.getD,hi]
  rw[e];exact h _ (List.getElem_mem hi)
 ·rw[List.getD_eq_getElem?_getD,List.getElem?_eq_none (by omega)]
  simp only[Option.getD_none];omega
theorem FX {B:Int} {l:List Int} (h:mJ B l) (hB:0<=B) (fr k:Nat):mJ (2 * B) (kZ l fr k):=by
 intro x hx;simp only[kZ,List.mem_map]at hx;obtain ⟨j,_,rfl⟩:=hx;have h1:=JF h hB j;have h2:=JF h hB (j-1);split<;>omega
theorem z3X {B:Int} {l:List Int} (h:mJ B l) (hB:0<=B) (fr:Nat):mJ (2 * B) (Pj l fr):=by
 intro x hx;simp only[Pj,List.mem_map]at hx;obtain ⟨j,_,rfl⟩:=hx;have h1:=JF h hB j;have h2:=JF h hB (j-1);split<;>omega
theorem z1U {l:List Int} (h:∀x∈l,qO x):∀k,k<=2->mJ 4611686018427387904 (aK l k):=by
 have h0:mJ 1152921504606846976 l:=fun x hx=>h x hx;have h1:=z3X h0 (by omega) 1;have h2:=z3X h1 (by omega) 2;intro k hk;match k,hk with
 |0,_=>intro x hx;have:=h0 x hx;omega
 |1,_=>intro x hx;have:=h1 x hx;omega
 |2,_=>intro x hx;have:=h2 x hx;omega
def kG (l:List Int):List Nat:=l.flatMap fun x=>ak (zig x)
def bJ (l:List Int) (w:Nat):List Nat:=ak l.length++kG (aK l w)
theorem z2q {l:List Int} {k:Nat} (h:k<l.length):kG (l.take (k+1))=kG (l.take k)++ak (zig (l.getD k 0)):=by
 have e:l.getD k 0=l[k]:=by simp[List.getD,h]
 rw[e,List.take_succ_eq_append_getElem h];unfold kG;rw[List.flatMap_append];simp
theorem JA {B:Int} {l:List Int} (h:mJ B l) (hB:B<=4611686018427387904) {x:Int} (hx:x∈l):zig x<18446744073709551616:=by
 have:=h x hx;exact lU (by omega) (by omega)
theorem IC {l:List Int} (h:mJ 4611686018427387904 l):okB (kG l):=by
 intro x hx;simp only[kG,List.mem_flatMap]at hx;obtain ⟨y,hy,hx⟩:=hx;exact jV (JA h (Int.le_refl _) hy) x hx
theorem DU {l:List Int} (h:mJ 4611686018427387904 l):(kG l).length<=10 * l.length:=by
 induction l with
 |nil=>simp[kG]
 |cons x l ih=>
  have h1:=(z06 (JA h (Int.le_refl _) (x:=x) (by simp))).2;have h2:=ih (fun y hy=>h y (by simp[hy]));have e:kG (x::l)=ak (zig x)++kG l:=rfl;rw[e,List.length_append,List.length_cons];omega
theorem oq {l:List Int} (h:∀x∈l,qO x) (hl:l.length<18446744073709551616) {k:Nat} (hk:k<=2):okB (bJ l k):=fun x hx=>by
 rcases List.mem_append.1 hx with h1|h1
 ·exact jV hl x h1
 ·exact IC (z1U h k hk) x h1
theorem z3c {l:List Int} (h:∀x∈l,qO x) (hl:l.length<18446744073709551616) {k:Nat} (hk:k<=2):1<=(bJ l k).length/\(bJ l k).length<=10+10 * l.length:=by
 have h1:=z06 hl;have h2:=DU (z1U h k hk);rw[Zz]at h2;unfold bJ;rw[List.length_append];omega
def aS (l:List Int):Int:=if 2048<l.length then 5 else if ∀x∈l,qO x then 0 else 2
def bst (l:List Int):Nat->Nat×Int
 |0=>(0, -1)
 |k+1=>if (bst l k).2<0∨((bJ l k).length:Int)<(bst l k).2 then (k,((bJ l k).length:Int)) else bst l k
theorem aaU (l:List Int):∀k,(bst l k).1<=k-1:=by
 intro k;induction k with
 |zero=>exact Nat.le_refl _
 |succ k ih=>
  simp only[bst];split
  ·exact Nat.le_refl _
  ·omega
def bQ (l:List Int):Nat:=if aS l≠0 then 0 else (bst l 3).1
theorem z26 (l:List Int):bQ l<=2:=by
 unfold bQ;split
 ·omega
 ·exact aaU l 3
theorem z13 {l:List Int} (h:aS l=0):l.length<=2048/\∀x∈l,qO x:=by
 unfold aS at h;split at h
 ·cases h
 ·split at h
  ·exact ⟨by omega,by assumption⟩
  ·cases h
end Go.Proofs.YtpakjclpjcngmaaGreat
