/- Contracts and plain laws that the last text rests on. Conditions: each theorem states its own. -/
import Derived.Test.YtpakjclpjcngmaaGreatKdQ40
import Derived.Test.YtpakjclpjcngmaaGreatKdQ19
set_option maxRecDepth 100000
set_option linter.unusedVariables false
namespace Go.Proofs.YtpakjclpjcngmaaGreat
open Go.ChangeShapes Go.WideShapes Go.ChangeAt Go.RowKit Go.Deep
section
variable {H : Type} {enc : TypeId × Value → H} {W : World}
theorem MR {n:Nat} {x:RV} {y:DataW H×List MemPlace} (h:DataW.trod enc Tryz.prog W 0 (fun _=>true) true n 58 x.cs=some y) (hw:∀k∈DataW.weights Tryz.prog 58 y.1,k<=reachBytes):x.row.aB.length<=4398046511104:=by
 obtain ⟨⟨kind,time,aB,text,value,null,maker,seq,place⟩,A,c⟩:=x;obtain ⟨ys,n',hn',hy,hlen,hyl,hf⟩:=DataW.trod_struct Tryz.underlying58 h;have g0:DataW.trod enc Tryz.prog W 0 (fun _=>true) true n' 56 ((RV.cs ⟨⟨kind,time,aB,text,value,null,maker,seq,place⟩,A,c⟩).take (Tryz.prog.cellsOf 56))=ys[0]?:=hf 0 _ rfl;have el:Tryz.prog.cellsOf 54=1:=by kernel_rfl
 have er:Tryz.prog.cellsOf 56=6:=by kernel_rfl
 have hyl4:ys.length=4:=hyl;simp only[er,RV.cs,List.take_succ_cons,List.take_zero]at g0;rw[List.getElem?_eq_getElem (by omega)]at g0;obtain ⟨zs,n2,_,hz,_,hzl,hf2⟩:=DataW.trod_struct Tryz.underlying56 g0;have r2:DataW.trod enc Tryz.prog W 0 (fun _=>true) true n2 54 (([.int .i64 kind,.int .i64 time,.slice A aB.length c,.string text,.int .i64 value,.bool null].drop 2).take (Tryz.prog.cellsOf 54))=zs[2]?:=hf2 2 _ rfl;have hzl6:zs.length=6:=hzl;simp only[el,List.take_succ_cons,List.take_zero,List.drop_succ_cons,List.drop_zero]at r2;rw[List.getElem?_eq_getElem (by omega)]at r2;rcases open_slice Tryz.underlying54 r2 with ⟨hcs,hx⟩|⟨a,len,cap,m,nn,D,Pl,hcs,hb,hl,hm,hmm,hx,hi⟩
 ·simp at hcs
  obtain ⟨-,h0, -⟩:=hcs;show aB.length<=_
  simp[h0]
 ·simp at hcs
  obtain ⟨-,rfl, -⟩:=hcs;show aB.length<=_
  have Iw:Tryz.prog.bytesOf 135=32:=by kernel_rfl
  have w1:(aB.length+(m-aB.length)) * 32∈DataW.weights Tryz.prog 54 zs[2].1:=by
   rw[hx];simp only[DataW.weights,Tryz.underlying54,List.length_map,List.length_range,Iw];exact List.mem_cons_self
  have w2:(aB.length+(m-aB.length)) * 32∈DataW.weights Tryz.prog 56 ys[0].1:=by
   rw[hz];simp only[DataW.weights,Tryz.underlying56];exact DataW.weights_mem_each (j:=2) rfl (by rw[List.getElem?_map,List.getElem?_eq_getElem (by omega)];rfl) _ w1
  have w3:(aB.length+(m-aB.length)) * 32∈DataW.weights Tryz.prog 58 y.1:=by
   rw[hy];simp only[DataW.weights,Tryz.underlying58];exact DataW.weights_mem_each (j:=0) rfl (by rw[List.getElem?_map,List.getElem?_eq_getElem (by omega)];rfl) _ w2
  have h1:=hw _ w3;have h2:=reachBytes_lt;omega
variable {args : Array Value} {ds : List (DataW H)} {ps : List MemPlace}
theorem Told.Yz {ts:List TypeId} (h:Told enc (22::ts) W args ds ps):∃(A:Option Addr) (c:Nat) (l:List RV) (vs:List Value) (ds':List (DataW H)) (q:List MemPlace),args=(.slice A l.length c::vs).toArray/\
 Rd W (· <W.heap.size) 9 A l.length (ji l)/\(∀x∈l,(x.ok W (· <W.heap.size)/\x.row.small)/\x.row.aB.length<=4398046511104)/\l.length<=c/\c<=maxLen/\Told enc ts W vs.toArray ds' q:=by
 obtain ⟨v,vs,d,ds',p,q,rfl,rfl,h0,⟨b,ho⟩,hlt,hw,h'⟩:=h.cons;obtain ⟨A,n,c,rfl⟩:=okWide_slice Tryz.underlying22 ho;obtain ⟨fuel,hf⟩:=h0;rcases open_slice Tryz.underlying22 hf with ⟨hcs,hx⟩|⟨a,len,cap,m,nn,D,Pl,hcs,hb,hl,hm,hmm,hx,hi⟩
 ·simp[Value.cells]at hcs
  obtain ⟨rfl,rfl,rfl⟩:=hcs;exact ⟨none,0,[],vs,ds',q,rfl,Rd.none_ _ _ _ _,by simp,Nat.le_refl _,by simp[maxLen],h'⟩
 ·simp[Value.cells]at hcs
  obtain ⟨rfl,rfl,rfl⟩:=hcs;simp only[if_true]at hmm;have hC:Tryz.prog.cellsOf 58=9:=by kernel_rfl
  rw[hC]at hi
  have hwd:∀i,i<n->∀k∈DataW.weights Tryz.prog 58 (D i),k<=reachBytes:=fun i hin k hk=>by
   have he:d=.slice ((List.range n).map D) ((List.range (m-n)).map fun j=>D (n+j)):=congrArg Prod.fst hx
   have hall:∀(l:List Nat),i∈l->k∈DataW.weightsAll Tryz.prog 58 (l.map D):=fun l=>by
    induction l with
    |nil=>intro h;cases h
    |cons z l ih=>
     intro h;rw[List.map_cons,DataW.weightsAll,List.mem_append];rcases List.mem_cons.1 h with rfl|h
     ·exact .inl hk
     ·exact .inr (ih h)
   have hmem:k∈DataW.weights Tryz.prog 22 d:=by
    rw[he];simp only[DataW.weights,Tryz.underlying22];exact List.mem_cons_of_mem _ (List.mem_append.2 (.inl (hall _ (List.mem_range.2 hin))))
   have:=List.all_eq_true.1 hw k (DataW.weights_mem_each (j:=0) rfl rfl k hmem);simpa using this
  obtain ⟨l,h1,h2,h3⟩:=z5R (W:=W) (a:=a) (n:=n) (good:=fun x:RV=>(x.ok W (· <W.heap.size)/\x.row.small)/\x.row.aB.length<=4398046511104) RV.dP (by decide) (fun i hin=>by
   obtain ⟨cs',hc,ht'⟩:=hi i (by omega);obtain ⟨x,rfl,hx1,hx2⟩:=BM ht';obtain ⟨_,hcl,hat⟩:=World.cells?_some hc;refine ⟨x,⟨⟨hx1,hx2⟩,MR ht' (hwd i hin)⟩,fun j u hj hu=>?_⟩;rw[←Go.Deep.add_add,hat j hj,←hu])
  subst h1;exact ⟨some a,c,l,vs,ds',q,rfl,h3,h2,hl,hm,h'⟩
end
end Go.Proofs.YtpakjclpjcngmaaGreat
