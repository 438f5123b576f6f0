/- Contracts and plain laws that the last text rests on. Conditions: each theorem states its own. -/
import Derived.Test.YtdbfejfhpkakhaaGreatKKd2Q6
import Derived.Test.YtdbfejfhpkakhaaGreatKKd2Q3
import Derived.OrdersIn
import Derived.OwnWalkIn
set_option maxRecDepth 100000
set_option linter.unusedVariables false
set_option linter.unusedSimpArgs false
namespace Go.Proofs.YtdbfejfhpkakhaaGreat
open Go
section
variable {P : Program} {ops : Array Oper} {Q : Exit → Act → World → Prop} {md : Region.Mode} {n l : Nat}
def WJ (ops:Array Oper):Bool:=ops.all fun o=>match o.op with| .defer _=>false|_=>true
theorem AP (h:WJ ops=true) {i:Nat} {o:Oper} (ho:ops[i]?=some o):∀c,o.op≠ .defer c:=by
 intro c hc;unfold WJ at h;obtain ⟨hi,rfl⟩:=Array.getElem?_eq_some_iff.1 ho;have h2:=Array.all_eq_true.1 h i hi;rw[hc]at h2;simp at h2
theorem OD {row:String} {args:Array Value} {w:World} {R:Value->World->Prop} (h:Rows P row args w R):RowsIn (Fence.wide.inRound l) n P row args w R:=
 fun c cs _=>let ⟨v,w',r,s⟩:=h c cs;⟨v,w',r,stepsIn_wide.2 s⟩
theorem VH {f:FuncId} {args:Array Value} {w:World} {R:Ending->World->Prop} (h:Calls P f args w R):CallsIn (Fence.wide.inRound l) n P f args w R:=
 (callsIn_wide (n:=n)).2 h
theorem Ph {o:Oper} (hd:∀c,o.op≠ .defer c) {K:Act->World->Prop} {a:Act} {w:World} (h:o.wp P a w K Q):o.wpIn (Fence.wide.inRound l) n P a w K Q:=by
 unfold Oper.wp at h;unfold Oper.wpIn;refine ⟨fun _ _=>trivial,?_⟩;rw[Oper.semAt_plain _ _ _ hd];generalize (execOp a.eval o).run P w=r at *;have XM:(Fence.wide.inRound l).depth.isSome=true->1<=n:=by simp[Fence.wide,Fence.inRound]
 cases r with
 |ok x w'=>
  cases x<;>simp only[Oper.upon]at h<;>simp only[Oper.uponIn]
  case value u=>exact h
  case skip=>exact h
  case defer d=>exact h
  case enter f args=>exact ⟨XM,VH h⟩
  case row row args=>exact ⟨XM,OD h⟩
 |halt x w'=>
  cases x<;>simp only[Oper.upon]at h<;>simp only[Oper.uponIn]
  case panic u=>exact h
theorem Oc (hnd:WJ ops=true) (hQ:¬LetsOut Q) {i:Nat} {K:Act->World->Prop} {a:Act} {w:World} (h:wpOp P ops Q i K a w):wpOpIn (Fence.wide.inRound l) n P ops Q i K a w:=by
 unfold wpOp at h;unfold wpOpIn;split
 ·rename_i ho;simp only[ho]at h;exact h
 ·rename_i o ho
  simp only[ho]at h;split
  ·rename_i hw
   simp only[hw,if_true]at h;rcases h with h|h
   ·exact Ph (AP hnd ho) h
   ·exact (hQ h.2).elim
  ·rename_i hw
   simp only[hw]at h;exact ⟨fun _ _=>trivial,h⟩
theorem vM (hnd:WJ ops=true) (hQ:¬LetsOut Q):∀(fuel:Nat) (li:Array Bool) (a:Act) (w:World),wpAny P md ops Q fuel li a w->wpAnyIn (Fence.wide.inRound l) n P md ops Q fuel li a w
 |0,_,_,_,h=>h
 |fuel+1,_,_,_,h=>⟨h.1,fun i hi=>wpOpIn_mono (fun a' w' h'=>vM hnd hQ fuel _ a' w' h') (Oc hnd hQ (h.2 i hi))⟩
theorem z2Q (S:World->Prop) (ex:Nat->Bool) {id:Nat} {a:Act} {w:World} (hm:P.follows .mixedOrders=true) (hnd:WJ ops=true) (hQ:¬LetsOut Q) (hS:S w.drew)
 (h:S w.drew->yY P .any ops Q S ex ops.size (Array.replicate ops.size false) a w.drew):(Code.region id ops true).wpIn (Fence.wide.inRound l) n P Q a w:=
 wpIn_region_any hm (vM hnd hQ _ _ _ _ (z2C _ _ _ _ (h hS)))
end
end Go.Proofs.YtdbfejfhpkakhaaGreat
