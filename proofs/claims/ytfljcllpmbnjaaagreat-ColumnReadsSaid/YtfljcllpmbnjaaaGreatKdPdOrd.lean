/- Contracts and plain laws that the last text rests on. Conditions: each theorem states its own. -/
import Derived.Test.YtfljcllpmbnjaaaGreatKdQ3
import Derived.OrdersHeld
import Derived.Deep.RegionHeld
set_option maxRecDepth 100000
set_option linter.unusedVariables false
namespace Go.Proofs.YtfljcllpmbnjaaaGreat
open Go
section
variable {P : Program} {ops : Array Oper} {Q : Exit → Act → World → Prop} {md : Region.Mode} {S : World → Prop} {ex : Nat → Bool}
def QF (md:Region.Mode) (ops:Array Oper):Nat->Nat->Nat->Bool
 |0,_,_=>false
 |f+1,j,i=>match ops[j]? with
  |some oj=>oj.after.any fun e=>Region.binds md e&&(e.on==i||QF md ops f e.on i)
  |none=>false
def lJ (md:Region.Mode) (ops:Array Oper) (l:Array Bool):Bool:=
 (List.range ops.size).all fun j=> !(l.getD j false)||match ops[j]? with
   |some oj=>oj.after.all fun e=> !(Region.binds md e)||l.getD e.on false
   |none=>true
def wu (md:Region.Mode) (ops:Array Oper) (ex:Nat->Bool) (i:Nat):Bool:=(List.range ops.size).all fun j=> !(ex j)||QF md ops ops.size j i
def Closed (md:Region.Mode) (ops:Array Oper) (l:Array Bool):Prop:=∀j oj,ops[j]?=some oj->l.getD j false=true->∀e∈oj.after,Region.binds md e=true->l.getD e.on false=true
theorem IW {l:Array Bool} (h:lJ md ops l=true):Closed md ops l:=by
 intro j oj hj hl e he hb;unfold lJ at h;rw[List.all_eq_true]at h;have h1:=h j (List.mem_range.2 (Array.getElem?_eq_some_iff.1 hj).1);rw[hl,hj]at h1;simp only[Bool.not_true,Bool.false_or]at h1;have h2:=Array.all_eq_true'.1 h1 e he;rw[hb]at h2;simpa using h2
theorem qc {l:Array Bool} (hc:Closed md ops l) {i:Nat}:∀(f j:Nat) (oj:Oper),ops[j]?=some oj->(∀e∈oj.after,Region.binds md e=true->l.getD e.on false=true)->QF md ops f j i=true->l.getD i false=true:=by
 intro f;induction f with
 |zero=>intro j oj _ _ h;simp[QF]at h
 |succ f ih=>
  intro j oj hj hall h;unfold QF at h;rw[hj]at h;simp only at h;obtain ⟨e,he,hb⟩:=Array.any_eq_true'.1 h;rw[Bool.and_eq_true,Bool.or_eq_true]at hb;obtain ⟨hb1,hb2⟩:=hb;have hl:=hall e he hb1;rcases hb2 with hb2|hb2
  ·rw[beq_iff_eq]at hb2;rw[←hb2];exact hl
  ·cases ho:ops[e.on]? with
   |none=>cases f with
    |zero=>simp[QF]at hb2
    |succ f=>simp[QF,ho]at hb2
   |some oe=>exact ih e.on oe ho (hc e.on oe ho hl) hb2
def AX (P:Program) (md:Region.Mode) (ops:Array Oper) (Q:Exit->Act->World->Prop) (S:World->Prop) (ex:Nat->Bool):Nat->Array Bool->Act->World->Prop
 |0,l,a,w=>Region.ready md ops l=[]/\Q .normal a w
 |fuel+1,l,a,w=>(Region.ready md ops l=[]->Q .normal a w)/\
  ∀i∈Region.ready md ops l,wpOp P ops Q i (fun a' w'=>(ex i=false->S w')/\AX P md ops Q S ex fuel (l.setIfInBounds i true) a' w') a w
theorem lU:∀(fuel:Nat) (l:Array Bool) (a:Act) (w:World),AX P md ops Q S ex fuel l a w->wpAny P md ops Q fuel l a w
 |0,_,_,_,h=>h
 |fuel+1,_,_,_,h=>⟨h.1,fun i hi=>wpOp_mono (fun a' w' h'=>lU fuel _ a' w' h'.2) (h.2 i hi)⟩
theorem um {i:Nat} {oi:Oper} {v:Value} (hi:ops[i]?=some oi) (hsel:∀(j:Nat) (o:Oper) cs b,ops[j]?=some o->o.op≠ .select cs b)
 (hQ:∀c a w,Q (.panic c) (a.put oi.dst v) w->Q (.panic c) a w) (VF:∀j,j<ops.size->ex j=true->QF md ops ops.size j i=true) (hil:ex i=false):
 ∀(fuel:Nat) (l:Array Bool) (a:Act) (w:World),Closed md ops l->
  (∀j oj,ops[j]?=some oj->j≠i->l.getD j true=false->(∀e∈oj.after,Region.binds md e=true->e.on≠i)->oi.apart ops oj=true)->
  i∈Region.ready md ops l->YieldsIf P ops S oi v a->S w->
  AX P md ops Q S ex fuel (l.setIfInBounds i true) (a.put oi.dst v) w->AX P md ops Q S ex (fuel+1) l a w:=by
 intro fuel;induction fuel with
 |zero=>
  intro l a w _ _ hr hy hS H;refine ⟨fun h=>(by rw[h]at hr;cases hr),fun j hj=>?_⟩;by_cases hji:j=i
  ·subst hji;exact hy.wpOp hi hS ⟨fun _=>hS,H⟩
  ·have:=ready_mono hj hji
   rw[H.1]at this;cases this
 |succ fuel ih=>
  intro l a w hcl hfree hr hy hS H;refine ⟨fun h=>(by rw[h]at hr;cases hr),fun j hj=>?_⟩;by_cases hji:j=i
  ·subst hji;exact hy.wpOp hi hS ⟨fun _=>hS,H⟩
  ·have h1:=H.2 j (ready_mono hj hji)
   obtain ⟨hjun,oj,hoj,hall⟩:=mem_ready.1 hj;have h0:=(mem_ready.1 hr).1
   have Md:l.getD i false=true->False:=fun h1=>by
    rcases Nat.lt_or_ge i l.size with h'|h'
    ·simp[h']at h0 h1;rw[h0]at h1;cases h1
    ·simp[Array.getElem?_eq_none h']at h1
   have hnot:∀e∈oj.after,Region.binds md e=true->e.on≠i:=fun e he hb heq=>by
    have h1:=hall e he hb;rw[heq]at h1;exact Md h1
   have hjl:ex j=false:=by
    cases hx:ex j with
    |false=>rfl
    |true=>exact (Md (qc hcl _ j oj hoj hall (VF j (Array.getElem?_eq_some_iff.1 hoj).1 hx))).elim
   have h2:=wpOp_putIf hoj (hfree j oj hoj hji hjun hnot) (fun cs b=>hsel i oi cs b hi) (fun cs b=>hsel j oj cs b hoj) hQ hy h1
   have hfree':∀k ok,ops[k]?=some ok->k≠i->(l.setIfInBounds j true).getD k true=false->
    (∀e∈ok.after,Region.binds md e=true->e.on≠i)->oi.apart ops ok=true:=fun k ok hk hki hun hno=>by
    refine hfree k ok hk hki ?_ hno;by_cases hjk:j=k
    ·subst hjk;exact hjun
    ·rw[getD_set_ne true hjk]at hun;exact hun
   have hcl':Closed md ops (l.setIfInBounds j true):=fun k ok hk hlk e he hb=>by
    refine getD_set_true ?_;by_cases hjk:j=k
    ·subst hjk
     rw[hoj]at hk;injection hk with hk;subst hk;exact hall e he hb
    ·rw[getD_set_ne false hjk]at hlk
     exact hcl k ok hk hlk e he hb
   refine wpOp_mono (fun a' w' h3=>⟨h3.2.1,ih (l.setIfInBounds j true) a' w' hcl' hfree' (ready_mono hr (Ne.symm hji)) h3.1 (h3.2.1 hjl) ?_⟩) h2;rw[Array.setIfInBounds_comm _ _ hji];exact h3.2.2
theorem xH {i:Nat} {oi:Oper} {v:Value} {fuel:Nat} {l:Array Bool} {a:Act} {w:World} (hi:ops[i]?=some oi)
 (hs:Region.noSelect ops=true) (hf:Region.free md ops l i=true) (hr:(Region.ready md ops l).contains i=true) (hc:lJ md ops l=true) (hw:wu md ops ex i=true) (hil:ex i=false)
 (hQ:∀c a w,Q (.panic c) (a.put oi.dst v) w->Q (.panic c) a w) (hy:YieldsIf P ops S oi v a) (hS:S w)
 (h:AX P md ops Q S ex fuel (l.setIfInBounds i true) (a.put oi.dst v) w):AX P md ops Q S ex (fuel+1) l a w:=
 um hi (Region.noSelect_spec hs) hQ (fun j hj hx=>by
  unfold wu at hw;rw[List.all_eq_true]at hw;have:=hw j (List.mem_range.2 hj);rw[hx]at this;simpa using this) hil fuel l a w (IW hc) (Region.free_spec hi hf) (by simpa using hr) hy hS h
theorem z09 {i:Nat} {oi:Oper} {v:Value} {fuel:Nat} {l:Array Bool} {a:Act} {w:World} (hi:ops[i]?=some oi) (hQ:∀c a w,Q (.panic c) (a.put oi.dst v) w->Q (.panic c) a w) (hy:YieldsIf P ops S oi v a)
 (h:AX P md ops Q S ex fuel (l.setIfInBounds i true) (a.put oi.dst v) w) (hs:Region.noSelect ops=true:=by kernel_rfl) (hf:Region.free md ops l i=true:=by kernel_rfl) (hr:(Region.ready md ops l).contains i=true:=by kernel_rfl) (hc:lJ md ops l=true:=by kernel_rfl) (hw:wu md ops ex i=true:=by kernel_rfl) (hil:ex i=false:=by decide) (hS:S w:=by assumption):AX P md ops Q S ex (fuel+1) l a w:=
 xH hi hs hf hr hc hw hil hQ hy hS h
theorem ZH (S':World->Prop) (ex':Nat->Bool) (hS:∀w,S w):∀{fuel:Nat} {l:Array Bool} {a:Act} {w:World},
 AX P md ops Q S' ex' fuel l a w->AX P md ops Q S ex fuel l a w
 |0,_,_,_,h=>h
 |fuel+1,_,_,_,h=>⟨h.1,fun i hi=>wpOp_mono (fun a' w' h'=>⟨fun _=>hS _,ZH S' ex' hS h'.2⟩) (h.2 i hi)⟩
def jW (P:Program) (md:Region.Mode) (ops:Array Oper) (Q:Exit->Act->World->Prop) (S:World->Prop) (ex:Nat->Bool) (fuel:Nat) (l:Array Bool) (a:Act) (w:World) (rs:List Nat):Prop:=
 ∀i∈rs,wpOp P ops Q i (fun a' w'=>(ex i=false->S w')/\AX P md ops Q S ex fuel (l.setIfInBounds i true) a' w') a w
theorem jW.nil {fuel:Nat} {l:Array Bool} {a:Act} {w:World}:jW P md ops Q S ex fuel l a w []:=fun _ h=>by cases h
theorem jW.cons {fuel:Nat} {l:Array Bool} {a:Act} {w:World} {i:Nat} {o:Oper} {rs:List Nat} (ho:ops[i]?=some o)
 (h:∀K':Act->World->Prop,Shut (∀a w,(ex i=false->S w)->((ex i=false->S w)->AX P md ops Q S ex fuel (l.setIfInBounds i true) a w)->K' a w)->if Region.wanted o (yielded ops a.tmps)=true then Oper.wp P o a w K' Q else K' (a.put o.dst undef) w)
 (hs:jW P md ops Q S ex fuel l a w rs):jW P md ops Q S ex fuel l a w (i::rs):=fun j hj=>by
 rcases List.mem_cons.1 hj with rfl|hj
 ·exact wpOp_step ho (fun K' hK=>h K' (fun a w hS hW=>hK a w ⟨hS,hW hS⟩))
 ·exact hs j hj
theorem Ou {rs:List Nat} {fuel:Nat} {l:Array Bool} {a:Act} {w:World} (hr:Region.ready md ops l=rs) (hne:rs≠[])
 (h:jW P md ops Q S ex fuel l a w rs):AX P md ops Q S ex (fuel+1) l a w:=⟨fun h0=>absurd (hr▸h0) hne,hr▸h⟩
theorem z4L {l:Array Bool} {a:Act} {w:World} (hr:Region.ready md ops l=[]) (h:Q .normal a w):∀fuel,AX P md ops Q S ex fuel l a w
 |0=>⟨hr,h⟩
 |_+1=>⟨fun _=>h,by rw[hr];simp⟩
theorem z4K (S:World->Prop) (ex:Nat->Bool) {id:Nat} {a:Act} {w:World} (hm:P.follows .mixedOrders=true) (hS:S w.drew)
 (h:S w.drew->AX P .any ops Q S ex ops.size (Array.replicate ops.size false) a w.drew):(Code.region id ops true).wp P Q a w:=
 wp_region_any hm (lU _ _ _ _ (h hS))
end
end Go.Proofs.YtfljcllpmbnjaaaGreat
