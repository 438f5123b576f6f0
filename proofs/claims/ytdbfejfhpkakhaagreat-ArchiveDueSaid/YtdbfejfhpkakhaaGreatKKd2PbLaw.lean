/- Contracts and plain laws that the last text rests on. Conditions: each theorem states its own. -/
import Derived.Test.YtdbfejfhpkakhaaGreatKKd2Q2
import Derived.ProofKit
import Derived.SizedLaws
import Derived.OpenShut
import Derived.ShutString
import Derived.ChangeOld
set_option maxRecDepth 100000
set_option linter.unusedVariables false
set_option linter.unusedSimpArgs false
namespace Go.Proofs.YtdbfejfhpkakhaaGreat
open Go.ChangeShapes Go.WideShapes Go.ChangeAt Go.RowKit
open Go.ChangeMaps (open_string shut_string)
theorem Tryz.own_:ownKnob Tryz.prog.godebug=none:=by kernel_rfl
theorem Tryz.wX:laidOutB Tryz.prog=true:=by kernel_rfl
theorem pO {H:Type} {enc:TypeId×Value->H} {W W':World} (hb:Below W.heap.size W W'):∀{ts:List TypeId} {vs:List Value} {ds:List (DataW H)} {ps:List MemPlace},
 (∀t∈ts,Tryz.prog.readableRec t=true/\t<Tryz.prog.types.size)->DataW.TrodAll enc Tryz.prog W 0 (fun _=>true) true ts vs ds ps->(∀x∈ps,x.block<W.heap.size)->
 DataW.TrodAll enc Tryz.prog W' 0 (fun b=>decide (b<W.heap.size)) true ts vs ds ps:=by
 intro ts;induction ts with
 |nil=>
  intro vs ds ps _ h _;obtain ⟨rfl,rfl,rfl⟩:=trodAll_nil h;exact trodAll_mk0
 |cons t ts ih=>
  intro vs ds ps hr h hlt;obtain ⟨v,vs',d,ds',p,q,rfl,rfl,rfl,h0,r0⟩:=trodAll_cons h
  exact trodAll_cons_mk (Below.trod Tryz.wX (hr t (by simp)).1 (hr t (by simp)).2 h0 hb (fun x hx=>hlt x (by simp[hx])))
   (ih (fun u hu=>hr u (by simp[hu])) r0 (fun x hx=>hlt x (by simp[hx])))
structure Told {H:Type} (enc:TypeId×Value->H) (ts:List TypeId) (W:World) (args:Array Value) (ds:List (DataW H)) (ps:List MemPlace):Prop where
 trod:DataW.TrodAll enc Tryz.prog W 0 (fun _=>true) true ts args.toList ds ps
 okw:∀(j:Nat) t v,ts[j]?=some t->args[j]?=some v->∃b,Value.okWide Tryz.prog W .any b t v
 lt:∀x∈ps,x.block<W.heap.size
 sized:(DataW.weightsEach Tryz.prog ts ds).all (· <=reachBytes)=true
def Walks (F:Nat) (fn:Func):Prop:=
 ∀(H:Type) (enc:TypeId×Value->H) (W:World) (args:Array Value) (ds:List (DataW H)) (ps:List MemPlace),Told enc fn.params.toList W args ds ps->
  Calls Tryz.prog F args W fun e W'=>e=.returned (.bool true)/\Nx W W'
theorem law_lifted {F:Nat} {fn:Func} {s:ChangeSpec} (hfn:Tryz.prog.funcs[F]?=some fn) (noInit:Tryz.checked.prog.inits.idxOf? F=none) (hres:fn.resultTypes= #[4]) (hvars:s.vars=[])
 (hs:∀(H:Type) (ds:List (DataW H)),ds.length=fn.params.toList.length->s.fn H (ds++[])={ results:=[.lit (.bool true)],args:=ds})
 (hread:∀t∈fn.params.toList,Tryz.prog.readableRec t=true/\t<Tryz.prog.types.size) (walk:Walks F fn)
 (os:Os) (started:os.Started) (H:Type) (enc:TypeId×Value->H)
 (wit:∃(w:World) (tape:Tape) (i:Input),w.os=os/\(w.forCall tape i).Shaped Tryz.checked.prog/\i.vars=[]/\Input.okWide Tryz.checked.prog (w.forCall tape i) .any w.heap.size F i/\
   s.pre6 enc Tryz.checked.prog fn [] false (w.forCall tape i).memory i.args/\Assume.holds {} Tryz.checked.prog (lone (Frame.enter Tryz.checked.prog F i.args .normal) [] (w.forCall tape i))):
 ReturnsInHanded {} Tryz.checked os F .any (s.pre6 enc Tryz.prog fn [] false) (s.post enc Tryz.prog fn false true false false):=by
 refine returnsInHanded_of_change_sized (C:=Tryz.checked) Tryz.own_ started noInit hfn wit ?_;intro W base args ds gs before hval0 hW _ hsz0 _;have hW':=hW;obtain ⟨p,q,hA0,hV,rfl,hfz,hnd⟩:=hW;have hA:DataW.TrodAll enc Tryz.prog W 0 (fun _=>true) true fn.params.toList args.toList ds p:=hA0;rw[hvars]at hV;obtain ⟨rfl,rfl⟩:=trodVars_none hV;have hlt:∀x∈p,x.block<W.heap.size:=fun x hx=>by simpa using hW'.lt x (by simpa using hx)
 have hlen:∀(ts:List TypeId) (vs:List Value) (ds:List (DataW H)) (ps:List MemPlace),DataW.TrodAll enc Tryz.prog W 0 (fun _=>true) true ts vs ds ps->ds.length=ts.length:=by
  intro ts;induction ts with
  |nil=>intro vs ds ps h;obtain ⟨rfl,rfl,rfl⟩:=trodAll_nil h;rfl
  |cons t ts ih=>
   intro vs ds ps h;obtain ⟨v,vs',d,ds',p,q,rfl,rfl,rfl,h0,r0⟩:=trodAll_cons h;simp[ih _ _ _ r0]
 have hsz:(DataW.weightsEach Tryz.prog fn.params.toList ds).all (· <=reachBytes)=true:=by
  have:s.plain.varTypes Tryz.prog=[]:=by simp[DataSpec.varTypes,ChangeSpec.plain,hvars]
  have h2:(DataW.weightsEach Tryz.prog (fn.params.toList++s.plain.varTypes Tryz.prog) (ds++[])).all (· <=reachBytes)=true:=hsz0;rw[this,List.append_nil,List.append_nil]at h2;exact h2
 refine (walk H enc W args ds p ⟨hA,fun j t v ht hv=>⟨base,hval0 j t v (by simpa using ht) hv⟩,hlt,hsz⟩).mono fun e W' ⟨he,hn⟩=>?_;subst he;have hsd:=hs H ds (hlen _ _ _ _ hA);refine ⟨_,rfl,_,_,_,[],p,[],hW',?_,?_,?_,hn.below.frame _,fun h=>by cases h⟩
 ·rw[hsd,hres]
  exact trodAll_mk1 (shut_bool Tryz.underlying4 _)
 ·rw[hsd]
  exact pO hn.below hread hA hlt
 ·rw[hsd,hvars]
  rfl
/-! ### arguments opened -/
section
variable {H : Type} {enc : TypeId × Value → H} {W : World} {args : Array Value} {ds : List (DataW H)} {ps : List MemPlace}
theorem Told.cons {t:TypeId} {ts:List TypeId} (h:Told enc (t::ts) W args ds ps):∃v vs d ds' p q,args=(v::vs).toArray/\ds=d::ds'/\DataW.Trod enc Tryz.prog W 0 (fun _=>true) true t v d p/\
 (∃b,Value.okWide Tryz.prog W .any b t v)/\(∀x∈p,x.block<W.heap.size)/\(DataW.weightsEach Tryz.prog [t] [d]).all (· <=reachBytes)=true/\Told enc ts W vs.toArray ds' q:=by
 obtain ⟨h1,h2,h3,h4⟩:=h;obtain ⟨v,vs,d,ds',p,q,ha,rfl,rfl,h0,r0⟩:=trodAll_cons h1;obtain ⟨args⟩:=args;simp at ha;subst ha
 have hw:(DataW.weightsEach Tryz.prog [t] [d]).all (· <=reachBytes)=true/\(DataW.weightsEach Tryz.prog ts ds').all (· <=reachBytes)=true:=by
  simp only[DataW.weightsEach,List.all_append,Bool.and_eq_true]at h4 ⊢;exact ⟨⟨h4.1,by simp⟩,h4.2⟩
 exact ⟨v,vs,d,ds',p,q,rfl,rfl,h0,h2 0 t v rfl rfl,fun x hx=>h3 x (by simp[hx]),hw.1,
  ⟨by simpa using r0,fun j t' v' ht hv=>h2 (j+1) t' v' (by simpa using ht) (by simpa using hv),fun x hx=>h3 x (by simp[hx]),hw.2⟩⟩
theorem Told.nil (h:Told enc [] W args ds ps):args= #[]:=by
 obtain ⟨h1,_⟩:=h;obtain ⟨h2,_,_⟩:=trodAll_nil h1;obtain ⟨args⟩:=args;simpa using h2
def i64 (a:Int):Prop:= -9223372036854775808<=a/\a<=9223372036854775807
theorem qU {a:Int} (h:(Lit.int .i64 a).wf=true):i64 a:=by
 have h1:IntKind.i64.min= -9223372036854775808:=rfl;have h2:IntKind.i64.max=9223372036854775807:=rfl;simp only[Lit.wf,Bool.and_eq_true,decide_eq_true_eq]at h;exact ⟨by omega,by omega⟩
theorem Told.int {ts:List TypeId} (h:Told enc (3::ts) W args ds ps):∃(a:Int) (vs:List Value) (ds':List (DataW H)) (q:List MemPlace),args=(.int .i64 a::vs).toArray/\i64 a/\Told enc ts W vs.toArray ds' q:=by
 obtain ⟨v,vs,d,ds',p,q,rfl,rfl,h0,⟨b,ho⟩,_,_,h'⟩:=h.cons;obtain ⟨a,rfl,rfl,rfl,wf⟩:=open_int Tryz.underlying3 ho h0;exact ⟨a,vs,ds',q,rfl,qU wf,h'⟩
def il (zs:List Int):List Value:=zs.map (Value.int .i64)
end
end Go.Proofs.YtdbfejfhpkakhaaGreat
