/- Contracts and plain laws that the last text rests on. Conditions: each theorem states its own. -/
import Derived.Test.YtdbfejfhpkakhaaGreatKKd2Q3
import Derived.OrdersHeld
import Derived.Deep.RegionHeld
import Derived.Test.YtdbfejfhpkakhaaGreatKKd2Q2
import Derived.IntWalk
import Derived.Deep.RegionHeld3
set_option maxRecDepth 100000
set_option maxHeartbeats 8000000
set_option linter.unusedVariables false
set_option linter.unusedSimpArgs false
namespace Go.Proofs.YtdbfejfhpkakhaaGreat
open Go
section
variable {P : Program} {ops : Array Oper} {Q : Exit → Act → World → Prop} {md : Region.Mode} {S : World → Prop} {ex : Nat → Bool}
def QY (md:Region.Mode) (ops:Array Oper):Nat->Nat->Nat->Bool
 |0,_,_=>false
 |f+1,j,i=>match ops[j]? with
  |some oj=>oj.after.any fun e=>Region.binds md e&&(e.on==i||QY md ops f e.on i)
  |none=>false
def kU (md:Region.Mode) (ops:Array Oper) (l:Array Bool):Bool:=
 (List.range ops.size).all fun j=> !(l.getD j false)||match ops[j]? with
   |some oj=>oj.after.all fun e=> !(Region.binds md e)||l.getD e.on false
   |none=>true
def uH (md:Region.Mode) (ops:Array Oper) (ex:Nat->Bool) (i:Nat):Bool:=(List.range ops.size).all fun j=> !(ex j)||QY md ops ops.size j i
def Closed (md:Region.Mode) (ops:Array Oper) (l:Array Bool):Prop:=∀j oj,ops[j]?=some oj->l.getD j false=true->∀e∈oj.after,Region.binds md e=true->l.getD e.on false=true
theorem Hw {l:Array Bool} (h:kU md ops l=true):Closed md ops l:=by
 intro j oj hj hl e he hb;unfold kU at h;rw[List.all_eq_true]at h;have h1:=h j (List.mem_range.2 (Array.getElem?_eq_some_iff.1 hj).1);rw[hl,hj]at h1;simp only[Bool.not_true,Bool.false_or]at h1;have h2:=Array.all_eq_true'.1 h1 e he;rw[hb]at h2;simpa using h2
theorem oM {l:Array Bool} (hc:Closed md ops l) {i:Nat}:∀(f j:Nat) (oj:Oper),ops[j]?=some oj->(∀e∈oj.after,Region.binds md e=true->l.getD e.on false=true)->QY md ops f j i=true->l.getD i false=true:=by
 intro f;induction f with
 |zero=>intro j oj _ _ h;simp[QY]at h
 |succ f ih=>
  intro j oj hj hall h;unfold QY at h;rw[hj]at h;simp only at h;obtain ⟨e,he,hb⟩:=Array.any_eq_true'.1 h;rw[Bool.and_eq_true,Bool.or_eq_true]at hb;obtain ⟨hb1,hb2⟩:=hb;have hl:=hall e he hb1;rcases hb2 with hb2|hb2
  ·rw[beq_iff_eq]at hb2;rw[←hb2];exact hl
  ·cases ho:ops[e.on]? with
   |none=>cases f with
    |zero=>simp[QY]at hb2
    |succ f=>simp[QY,ho]at hb2
   |some oe=>exact ih e.on oe ho (hc e.on oe ho hl) hb2
def yY (P:Program) (md:Region.Mode) (ops:Array Oper) (Q:Exit->Act->World->Prop) (S:World->Prop) (ex:Nat->Bool):Nat->Array Bool->Act->World->Prop
 |0,l,a,w=>Region.ready md ops l=[]/\Q .normal a w
 |fuel+1,l,a,w=>(Region.ready md ops l=[]->Q .normal a w)/\
  ∀i∈Region.ready md ops l,wpOp P ops Q i (fun a' w'=>(ex i=false->S w')/\yY P md ops Q S ex fuel (l.setIfInBounds i true) a' w') a w
theorem z2C:∀(fuel:Nat) (l:Array Bool) (a:Act) (w:World),yY P md ops Q S ex fuel l a w->wpAny P md ops Q fuel l a w
 |0,_,_,_,h=>h
 |fuel+1,_,_,_,h=>⟨h.1,fun i hi=>wpOp_mono (fun a' w' h'=>z2C fuel _ a' w' h'.2) (h.2 i hi)⟩
theorem sH {i:Nat} {oi:Oper} {v:Value} (hi:ops[i]?=some oi) (hsel:∀(j:Nat) (o:Oper) cs b,ops[j]?=some o->o.op≠ .select cs b)
 (hQ:∀c a w,Q (.panic c) (a.put oi.dst v) w->Q (.panic c) a w) (Xx:∀j,j<ops.size->ex j=true->QY md ops ops.size j i=true) (hil:ex i=false):
 ∀(fuel:Nat) (l:Array Bool) (a:Act) (w:World),Closed md ops l->
  (∀j oj,ops[j]?=some oj->j≠i->l.getD j true=false->(∀e∈oj.after,Region.binds md e=true->e.on≠i)->oi.apart ops oj=true)->
  i∈Region.ready md ops l->YieldsIf P ops S oi v a->S w->
  yY P md ops Q S ex fuel (l.setIfInBounds i true) (a.put oi.dst v) w->yY P md ops Q S ex (fuel+1) l a w:=by
 intro fuel;induction fuel with
 |zero=>
  intro l a w _ _ hr hy hS H;refine ⟨fun h=>(by rw[h]at hr;cases hr),fun j hj=>?_⟩;by_cases hji:j=i
  ·subst hji;exact hy.wpOp hi hS ⟨fun _=>hS,H⟩
  ·have:=ready_mono hj hji
   rw[H.1]at this;cases this
 |succ fuel ih=>
  intro l a w hcl hfree hr hy hS H;refine ⟨fun h=>(by rw[h]at hr;cases hr),fun j hj=>?_⟩;by_cases hji:j=i
  ·subst hji;exact hy.wpOp hi hS ⟨fun _=>hS,H⟩
  ·have h1:=H.2 j (ready_mono hj hji)
   obtain ⟨hjun,oj,hoj,hall⟩:=mem_ready.1 hj;have h0:=(mem_ready.1 hr).1
   have Le:l.getD i false=true->False:=fun h1=>by
    rcases Nat.lt_or_ge i l.size with h'|h'
    ·simp[h']at h0 h1;rw[h0]at h1;cases h1
    ·simp[Array.getElem?_eq_none h']at h1
   have hnot:∀e∈oj.after,Region.binds md e=true->e.on≠i:=fun e he hb heq=>by
    have h1:=hall e he hb;rw[heq]at h1;exact Le h1
   have hjl:ex j=false:=by
    cases hx:ex j with
    |false=>rfl
    |true=>exact (Le (oM hcl _ j oj hoj hall (Xx j (Array.getElem?_eq_some_iff.1 hoj).1 hx))).elim
   have h2:=wpOp_putIf hoj (hfree j oj hoj hji hjun hnot) (fun cs b=>hsel i oi cs b hi) (fun cs b=>hsel j oj cs b hoj) hQ hy h1
   have hfree':∀k ok,ops[k]?=some ok->k≠i->(l.setIfInBounds j true).getD k true=false->
    (∀e∈ok.after,Region.binds md e=true->e.on≠i)->oi.apart ops ok=true:=fun k ok hk hki hun hno=>by
    refine hfree k ok hk hki ?_ hno;by_cases hjk:j=k
    ·subst hjk;exact hjun
    ·rw[getD_set_ne true hjk]at hun;exact hun
   have hcl':Closed md ops (l.setIfInBounds j true):=fun k ok hk hlk e he hb=>by
    refine getD_set_true ?_;by_cases hjk:j=k
    ·subst hjk
     rw[hoj]at hk;injection hk with hk;subst hk;exact hall e he hb
    ·rw[getD_set_ne false hjk]at hlk
     exact hcl k ok hk hlk e he hb
   refine wpOp_mono (fun a' w' h3=>⟨h3.2.1,ih (l.setIfInBounds j true) a' w' hcl' hfree' (ready_mono hr (Ne.symm hji)) h3.1 (h3.2.1 hjl) ?_⟩) h2;rw[Array.setIfInBounds_comm _ _ hji];exact h3.2.2
theorem z03 {i:Nat} {oi:Oper} {v:Value} {fuel:Nat} {l:Array Bool} {a:Act} {w:World} (hi:ops[i]?=some oi)
 (hs:Region.noSelect ops=true) (hf:Region.free md ops l i=true) (hr:(Region.ready md ops l).contains i=true) (hc:kU md ops l=true) (hw:uH md ops ex i=true) (hil:ex i=false)
 (hQ:∀c a w,Q (.panic c) (a.put oi.dst v) w->Q (.panic c) a w) (hy:YieldsIf P ops S oi v a) (hS:S w)
 (h:yY P md ops Q S ex fuel (l.setIfInBounds i true) (a.put oi.dst v) w):yY P md ops Q S ex (fuel+1) l a w:=
 sH hi (Region.noSelect_spec hs) hQ (fun j hj hx=>by
  unfold uH at hw;rw[List.all_eq_true]at hw;have:=hw j (List.mem_range.2 hj);rw[hx]at this;simpa using this) hil fuel l a w (Hw hc) (Region.free_spec hi hf) (by simpa using hr) hy hS h
theorem z00 {i:Nat} {oi:Oper} {v:Value} {fuel:Nat} {l:Array Bool} {a:Act} {w:World} (hi:ops[i]?=some oi) (hQ:∀c a w,Q (.panic c) (a.put oi.dst v) w->Q (.panic c) a w) (hy:YieldsIf P ops S oi v a)
 (h:yY P md ops Q S ex fuel (l.setIfInBounds i true) (a.put oi.dst v) w) (hs:Region.noSelect ops=true:=by kernel_rfl) (hf:Region.free md ops l i=true:=by kernel_rfl) (hr:(Region.ready md ops l).contains i=true:=by kernel_rfl) (hc:kU md ops l=true:=by kernel_rfl) (hw:uH md ops ex i=true:=by kernel_rfl) (hil:ex i=false:=by decide) (hS:S w:=by assumption):yY P md ops Q S ex (fuel+1) l a w:=
 z03 hi hs hf hr hc hw hil hQ hy hS h
theorem W_ (S':World->Prop) (ex':Nat->Bool) (hS:∀w,S w):∀{fuel:Nat} {l:Array Bool} {a:Act} {w:World},
 yY P md ops Q S' ex' fuel l a w->yY P md ops Q S ex fuel l a w
 |0,_,_,_,h=>h
 |fuel+1,_,_,_,h=>⟨h.1,fun i hi=>wpOp_mono (fun a' w' h'=>⟨fun _=>hS _,W_ S' ex' hS h'.2⟩) (h.2 i hi)⟩
def z01 (P:Program) (md:Region.Mode) (ops:Array Oper) (Q:Exit->Act->World->Prop) (S:World->Prop) (ex:Nat->Bool) (fuel:Nat) (l:Array Bool) (a:Act) (w:World) (rs:List Nat):Prop:=
 ∀i∈rs,wpOp P ops Q i (fun a' w'=>(ex i=false->S w')/\yY P md ops Q S ex fuel (l.setIfInBounds i true) a' w') a w
theorem z01.nil {fuel:Nat} {l:Array Bool} {a:Act} {w:World}:z01 P md ops Q S ex fuel l a w []:=fun _ h=>by cases h
theorem z01.cons {fuel:Nat} {l:Array Bool} {a:Act} {w:World} {i:Nat} {o:Oper} {rs:List Nat} (ho:ops[i]?=some o)
 (h:∀K':Act->World->Prop,Shut (∀a w,(ex i=false->S w)->((ex i=false->S w)->yY P md ops Q S ex fuel (l.setIfInBounds i true) a w)->K' a w)->if Region.wanted o (yielded ops a.tmps)=true then Oper.wp P o a w K' Q else K' (a.put o.dst undef) w)
 (hs:z01 P md ops Q S ex fuel l a w rs):z01 P md ops Q S ex fuel l a w (i::rs):=fun j hj=>by
 rcases List.mem_cons.1 hj with rfl|hj
 ·exact wpOp_step ho (fun K' hK=>h K' (fun a w hS hW=>hK a w ⟨hS,hW hS⟩))
 ·exact hs j hj
theorem z02 {rs:List Nat} {fuel:Nat} {l:Array Bool} {a:Act} {w:World} (hr:Region.ready md ops l=rs) (hne:rs≠[])
 (h:z01 P md ops Q S ex fuel l a w rs):yY P md ops Q S ex (fuel+1) l a w:=⟨fun h0=>absurd (hr▸h0) hne,hr▸h⟩
theorem kE {l:Array Bool} {a:Act} {w:World} (hr:Region.ready md ops l=[]) (h:Q .normal a w):∀fuel,yY P md ops Q S ex fuel l a w
 |0=>⟨hr,h⟩
 |_+1=>⟨fun _=>h,by rw[hr];simp⟩
theorem sD (S:World->Prop) (ex:Nat->Bool) {id:Nat} {a:Act} {w:World} (hm:P.follows .mixedOrders=true) (hS:S w.drew)
 (h:S w.drew->yY P .any ops Q S ex ops.size (Array.replicate ops.size false) a w.drew):(Code.region id ops true).wp P Q a w:=
 wp_region_any hm (z2C _ _ _ _ (h hS))
end
end Go.Proofs.YtdbfejfhpkakhaaGreat
namespace Go.Proofs.YtdbfejfhpkakhaaGreat
open Go.RowKit
set_option maxRecDepth 100000 in
theorem Ov (D:Nat->Prop) (A:Option Addr) (c:Nat) (xs:List Nat) (i k:Nat) (W:World) (hr:Rd W D 1 A xs.length (bl xs)) (ok:okB xs) (hik:i<k) (hk:k<xs.length) (hl:xs.length<=65536):
 Calls Tryz.prog 229 #[.slice A xs.length c,.int .i64 (i:Int),.int .i64 (k:Int)] W fun e w'=>e=.returned (.int .i64 (eP xs i k:Int))/\Nx W w':=by
 go_enter Tryz.func229,Tryz.ntmps229;go_wp2_with fail;go_loopw [7] (fun v wr=>∃m:Nat,m<=258/\v=.int .i64 m/\Nx W wr/\Hid (eP xs i k=yZ xs i k (258-m) m)) (fun v _=>258-(intOf v).toNat)
 case atStart=>exact ⟨0,by omega,rfl,Ch.refl _ _,ah rfl⟩
 case round=>
  obtain ⟨w1,rfl⟩:∃w1:World,w1=wr:=⟨_,rfl⟩;obtain ⟨m,hm,rfl,nx,H⟩:=hrel;by_cases h1:m<258
  ·have e1:258-m=(258-(m+1))+1:=by omega
   by_cases h2:k+m<xs.length
   ·obtain ⟨ad,u,rfl,UF,hu,hc⟩:=(hr.nx (by decide) nx).at_ (show i+m<xs.length by omega)
    obtain ⟨ad2,u2,hae,hDa2,hu2,hc2⟩:=(hr.nx (by decide) nx).at_ h2;injection hae with hae;subst hae;rw[nU (by omega)]at hu hu2;injection hu with hu;injection hu2 with hu2;subst hu hu2;have k1:IntKind.i64.wrap ((i:Int)+(m:Int))=(i:Int)+(m:Int):=IntWalk.i64_in _ (by omega);have k2:IntKind.i64.wrap ((k:Int)+(m:Int))=(k:Int)+(m:Int):=IntWalk.i64_in _ (by omega);have t1:((i:Int)+(m:Int)).toNat=i+m:=(by omega);have t2:((k:Int)+(m:Int)).toNat=k+m:=(by omega);have q1:decide ((m:Int)<258)=true:=by simp;omega
    have q2:decide ((k:Int)+(m:Int)<(xs.length:Int))=true:=by simp;omega
    have i1:(0:Int)<=(i:Int)+(m:Int):=(by omega);have i2:(i:Int)+(m:Int)<(xs.length:Int):=(by omega);have i3:(0:Int)<=(k:Int)+(m:Int):=(by omega);have i4:(k:Int)+(m:Int)<(xs.length:Int):=(by omega);by_cases h3:xs.getD (i+m) 0=xs.getD (k+m) 0
    ·have Hs:Hid (eP xs i k=yZ xs i k (258-(m+1)) (m+1)):=ah (by rw[H.out,e1,yZ,if_pos ⟨h2,h3⟩])
     rw[←h3]at hc2;clear h3 e1;generalize xs.getD (i+m) 0=x at *;go_wp2_with fail;go_quiet (fail)
     go_wp2_with fail;go_roundw
     case rel=>exact ⟨m+1,by omega,by go_num,nx.drewN _,Hs⟩
     case measure=>simp[intOf];omega
    ·have Hs:Hid (eP xs i k=m):=ah (by rw[H.out,e1,yZ,if_neg (fun hh=>h3 hh.2)])
     have h3':((xs.getD (i+m) 0:Int)==(xs.getD (k+m) 0:Int))=false:=by rw[beq_eq_false_iff_ne];omega
     clear h3 e1;generalize xs.getD (i+m) 0=x at *;generalize xs.getD (k+m) 0=y at *;go_wp2_with fail;go_quiet (fail)
     go_wp2_with fail;go_ret;exact ⟨by rw[Hs.out];rfl,nx.drewN _⟩
   ·have Hs:Hid (eP xs i k=m):=ah (by rw[H.out,e1,yZ,if_neg (fun hh=>h2 hh.1)])
    have k2:IntKind.i64.wrap ((k:Int)+(m:Int))=(k:Int)+(m:Int):=IntWalk.i64_in _ (by omega);have q1:decide ((m:Int)<258)=true:=by simp;omega
    have q2:decide ((k:Int)+(m:Int)<(xs.length:Int))=false:=by simp;omega
    clear e1;go_wp2_with fail;go_quiet (fail)
    go_wp2_with fail;go_ret;exact ⟨by rw[Hs.out];rfl,nx.drewN _⟩
  ·have hm8:m=258:=by omega
   subst hm8;have Hs:Hid (eP xs i k=258):=ah (by rw[H.out];rfl);go_wp2_with fail;go_quiet (fail)
   go_wp2_with fail;go_ret;exact ⟨by rw[Hs.out];rfl,nx.drewN _⟩
set_option maxRecDepth 100000 in
theorem TD (D:Nat->Prop) (bx:Nat) (A:Option Addr) (c:Nat) (xs:List Nat) (i:Nat) (W:World) (hb:W.cell? ⟨bx,0,none⟩=some (.slice A xs.length c)) (hr:Rd W D 1 A xs.length (bl xs)) (ok:okB xs) (hi:i+2<xs.length) (hl:xs.length<=65536):
 Calls Tryz.prog 228 #[.int .i64 (i:Int),.pointer (some ⟨bx,0,none⟩)] W fun e w'=>e=.returned (.agg #[.int .u8 (xs.getD i 0:Int),.int .u8 (xs.getD (i+1) 0:Int),.int .u8 (xs.getD (i+2) 0:Int)])/\Nx W w':=by
 obtain ⟨ad,u,rfl,UF,hu,hc⟩:=hr.at_ (show i<xs.length by omega);obtain ⟨ad2,u2,hae,hDa2,hu2,hc2⟩:=hr.at_ (show i+1<xs.length by omega);injection hae with hae;subst hae;obtain ⟨ad3,u3,hae,hDa3,hu3,hc3⟩:=hr.at_ hi;injection hae with hae;subst hae;rw[nU (by omega)]at hu hu2 hu3;injection hu with hu;injection hu2 with hu2;injection hu3 with hu3;subst hu hu2 hu3;have hblt:bx<W.heap.size:=World.block_lt_of_cell? W _ hb
 have halt:ad.block<W.heap.size:=by
  have:=World.block_lt_of_cell? W _ hc;rwa [vw]at this
 generalize xs.getD i 0=x at *;generalize xs.getD (i+1) 0=y at *;generalize xs.getD (i+2) 0=z at *;obtain ⟨i1,e1⟩:∃i1,i+1=i1:=⟨_,rfl⟩;obtain ⟨i2,e2⟩:∃i2,i+2=i2:=⟨_,rfl⟩;rw[e1]at hc2;rw[e2]at hc3;have f1:(i:Int)+1=(i1:Int):=by omega
 have f2:(i:Int)+2=(i2:Int):=by omega
 go_enter Tryz.func228,Tryz.ntmps228;go_wp2_with fail;have n0:Nx W (W.alloc (.cells #[.int .u8 0,.int .u8 0,.int .u8 0] 319)):=(Ch.refl _ W).alloc _;have g0:=(n0.cell (p:=⟨bx,0,none⟩) hblt).trans hb;have g1:=(n0.cell (p:=ad.add i) (by rw[vw];exact halt)).trans hc;have g2:=(n0.cell (p:=ad.add i1) (by rw[vw];exact halt)).trans hc2;have g3:=(n0.cell (p:=ad.add i2) (by rw[vw];exact halt)).trans hc3;have hB:=aG.new W 319 #[.int .u8 0,.int .u8 0,.int .u8 0];have j0:(i:Int)<(xs.length:Int):=by omega
 have j1:(i1:Int)<(xs.length:Int):=by omega
 have j2:(i2:Int)<(xs.length:Int):=by omega
 have k1:IntKind.i64.wrap (i1:Int)=(i1:Int):=IntWalk.i64_in _ (by omega);have k2:IntKind.i64.wrap (i2:Int)=(i2:Int):=IntWalk.i64_in _ (by omega);clear e1 e2;have n1:Nx W (W.alloc (.cells #[.int .u8 (x:Int),.int .u8 (y:Int),.int .u8 (z:Int)] 319)).drew:=((Ch.refl _ W).alloc _).drew
 have hkeep:(W.alloc (.cells #[.int .u8 (x:Int),.int .u8 (y:Int),.int .u8 (z:Int)] 319)).drew.cell? ⟨bx,0,none⟩=some (.slice (some ad) xs.length c)/\(W.alloc (.cells #[.int .u8 (x:Int),.int .u8 (y:Int),.int .u8 (z:Int)] 319)).drew.cell? (ad.add i)=some (.int .u8 (x:Int))/\
  (W.alloc (.cells #[.int .u8 (x:Int),.int .u8 (y:Int),.int .u8 (z:Int)] 319)).drew.cell? (ad.add i1)=some (.int .u8 (y:Int))/\(W.alloc (.cells #[.int .u8 (x:Int),.int .u8 (y:Int),.int .u8 (z:Int)] 319)).drew.cell? (ad.add i2)=some (.int .u8 (z:Int)):=
  ⟨(n1.cell (p:=⟨bx,0,none⟩) hblt).trans hb,(n1.cell (p:=ad.add i) (by rw[vw];exact halt)).trans hc,(n1.cell (p:=ad.add i1) (by rw[vw];exact halt)).trans hc2,(n1.cell (p:=ad.add i2) (by rw[vw];exact halt)).trans hc3⟩
 have yN:=ah hkeep;clear hb hc hc2 hc3 hkeep;go_region_held3 (fun w'=>w'.cell? ⟨bx,0,none⟩=some (.slice (some ad) xs.length c)/\w'.cell? (ad.add i)=some (.int .u8 (x:Int))/\w'.cell? (ad.add i1)=some (.int .u8 (y:Int))/\w'.cell? (ad.add i2)=some (.int .u8 (z:Int))) (first|exact yN.out|exact yN.out.1|exact yN.out.2.1|exact yN.out.2.2.1|exact yN.out.2.2.2|go_keep) (fail)
 all_goals go_wp2_with fail
 all_goals refine bodyPost_ret (v:=.agg #[.int .u8 (x:Int),.int .u8 (y:Int),.int .u8 (z:Int)]) (by simp[results,Tryz.results228,go_sem]) rfl ⟨rfl,n1⟩
end Go.Proofs.YtdbfejfhpkakhaaGreat
