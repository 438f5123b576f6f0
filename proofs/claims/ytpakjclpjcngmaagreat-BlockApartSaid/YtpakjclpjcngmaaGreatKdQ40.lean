/- Contracts and plain laws that the last text rests on. Conditions: each theorem states its own. -/
import Derived.Test.YtpakjclpjcngmaaGreatKdPdLaw
import Derived.HandedShaped
import Derived.Test.YtpakjclpjcngmaaGreatRows
import Derived.JoinedOf
set_option maxRecDepth 100000
set_option maxHeartbeats 4000000
set_option linter.unusedVariables false
namespace Go.Proofs.YtpakjclpjcngmaaGreat
open Go.ChangeShapes Go.WideShapes Go.ChangeAt Go.RowKit
def UK (F:Nat) (fn:Func):Prop:=
 ∀(H:Type) (enc:TypeId×Value->H) (W:World) (args:Array Value) (ds:List (DataW H)) (ps:List MemPlace),W.ShapedOpen Tryz.prog->Told enc fn.params.toList W args ds ps->
  Calls Tryz.prog F args W fun e W'=>e=.returned (.bool true)/\Nx W W'
theorem Ii {F:Nat} {fn:Func} {s:ChangeSpec} (hfn:Tryz.prog.funcs[F]?=some fn) (noInit:Tryz.checked.prog.inits.idxOf? F=none) (hres:fn.resultTypes= #[4]) (hvars:s.vars=[])
 (hs:∀(H:Type) (ds:List (DataW H)),ds.length=fn.params.toList.length->s.fn H (ds++[])={ results:=[.lit (.bool true)],args:=ds})
 (hread:∀t∈fn.params.toList,Tryz.prog.readableRec t=true/\t<Tryz.prog.types.size) (walk:UK F fn)
 (os:Os) (started:os.Started) (H:Type) (enc:TypeId×Value->H)
 (wit:∃(w:World) (tape:Tape) (i:Input),w.os=os/\(w.forCall tape i).Shaped Tryz.checked.prog/\i.vars=[]/\Input.okWide Tryz.checked.prog (w.forCall tape i) .any w.heap.size F i/\
   s.pre6 enc Tryz.checked.prog fn [] false (w.forCall tape i).memory i.args/\Assume.holds {} Tryz.checked.prog (lone (Frame.enter Tryz.checked.prog F i.args .normal) [] (w.forCall tape i))):
 ReturnsInHanded {} Tryz.checked os F .any (s.pre6 enc Tryz.prog fn [] false) (s.post enc Tryz.prog fn false true false false):=by
 refine returnsInHanded_of_change_shaped (C:=Tryz.checked) Tryz.own_ started noInit hfn wit ?_;intro W base args ds gs before hval0 hW _ hsz0 hsh _;have hW':=hW;obtain ⟨p,q,hA0,hV,rfl,hfz,hnd⟩:=hW;have hA:DataW.TrodAll enc Tryz.prog W 0 (fun _=>true) true fn.params.toList args.toList ds p:=hA0;rw[hvars]at hV;obtain ⟨rfl,rfl⟩:=trodVars_none hV;have hlt:∀x∈p,x.block<W.heap.size:=fun x hx=>by simpa using hW'.lt x (by simpa using hx)
 have hlen:∀(ts:List TypeId) (vs:List Value) (ds:List (DataW H)) (ps:List MemPlace),DataW.TrodAll enc Tryz.prog W 0 (fun _=>true) true ts vs ds ps->ds.length=ts.length:=by
  intro ts;induction ts with
  |nil=>intro vs ds ps h;obtain ⟨rfl,rfl,rfl⟩:=trodAll_nil h;rfl
  |cons t ts ih=>
   intro vs ds ps h;obtain ⟨v,vs',d,ds',p,q,rfl,rfl,rfl,h0,r0⟩:=trodAll_cons h;simp[ih _ _ _ r0]
 have hsz:(DataW.weightsEach Tryz.prog fn.params.toList ds).all (· <=reachBytes)=true:=by
  have:s.plain.varTypes Tryz.prog=[]:=by simp[DataSpec.varTypes,ChangeSpec.plain,hvars]
  have h2:(DataW.weightsEach Tryz.prog (fn.params.toList++s.plain.varTypes Tryz.prog) (ds++[])).all (· <=reachBytes)=true:=hsz0;rw[this,List.append_nil,List.append_nil]at h2;exact h2
 refine (walk H enc W args ds p hsh ⟨hA,fun j t v ht hv=>⟨base,hval0 j t v (by simpa using ht) hv⟩,hlt,hsz⟩).mono fun e W' ⟨he,hn⟩=>?_;subst he;have hsd:=hs H ds (hlen _ _ _ _ hA);refine ⟨_,rfl,_,_,_,[],p,[],hW',?_,?_,?_,hn.below.frame _,fun h=>by cases h⟩
 ·rw[hsd,hres]
  exact trodAll_mk1 (shut_bool Tryz.underlying4 _)
 ·rw[hsd]
  exact uz hn.below hread hA hlt
 ·rw[hsd,hvars]
  rfl
end Go.Proofs.YtpakjclpjcngmaaGreat
namespace Go.Proofs.YtpakjclpjcngmaaGreat
theorem aeD {a b:Bool} (h1:a=true) (h2:b=true):(a&&b)=true:=by rw[h1,h2];rfl
theorem tK:joinedFacts Tryz.pinned.checked.prog 9 Tryz.f9 Rows.blockApartSpec Rows.blockApartRow=true:=by
 unfold joinedFacts
 iterate 31 (refine aeD ?_ (by as_aux_lemma=>kernel_rfl))
 as_aux_lemma=>kernel_rfl
end Go.Proofs.YtpakjclpjcngmaaGreat
