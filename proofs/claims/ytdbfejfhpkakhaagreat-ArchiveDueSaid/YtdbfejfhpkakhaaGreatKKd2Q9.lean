/- Contracts and plain laws that the last text rests on. Conditions: each theorem states its own. -/
import Derived.Test.YtdbfejfhpkakhaaGreatKKd2Q4
import Derived.Conc.LoneCalls
import Derived.Conc.LoneSelect
import Derived.Conc.SmallLaws
import Derived.Test.YtdbfejfhpkakhaaGreatKKd2PbMapV
set_option maxRecDepth 100000
set_option maxHeartbeats 4000000
set_option linter.unusedVariables false
set_option linter.unusedSimpArgs false
namespace Go.Proofs.YtdbfejfhpkakhaaGreat
open Go.RowKit
def jJ (w:World) (r:Nat):World:=(w.alloc (.chan r #[] false 0 0 false)).alloc (.cells #[.chan (some w.heap.size)] 116)
theorem EC (r:Nat) (h1:1<=r) (h2:r<=2048) (w:World):
 Calls Tryz.prog 43 #[.int .i64 (r:Int)] w fun e w'=>e=.returned (.pointer (some ⟨w.heap.size+1,0,none⟩))/\jJ w r=w':=by
 obtain ⟨i0,hi0,hz0,hz1,hz2⟩:=info_parts Tryz.fZ;have hmk:∀w:World,(Instr.makeChan 114 (.int .i64 (r:Int))).run Tryz.prog w=.ok (.chan (some w.heap.size)) (w.alloc (.chan r #[] false 0 0 false)):=fun w=>Go.Conc.run_makeChan Tryz.underlying114 hi0 .i64 r (by omega) (by rw[hz2];omega);have e1:¬(r:Int)<1:=by omega
 have e2:¬(2048:Int)<(r:Int):=by omega
 clear hz0 hz1 hz2 hi0 h1 h2;unfold jJ;go_enter Tryz.func43,Tryz.ntmps43;go_wp2_with fail;go_ret;exact ⟨by simp,rfl⟩
def yK (w:World) (r:Nat):World:=((jJ w r).alloc (.map #[] 0)).alloc (.cells #[.int .i64 (r:Int),.map (some (jJ w r).heap.size)] 104)
theorem rO (w:World) (r:Nat):(jJ w r).heap.size=w.heap.size+2:=by unfold jJ;simp
theorem QE (r:Nat) (h1:1<=r) (h2:r<=2048) (w:World):
 Calls Tryz.prog 23 #[.int .i64 (r:Int)] w fun e w'=>e=.returned (.pointer (some ⟨w.heap.size+3,0,none⟩))/\yK w r=w':=by
 have hmm:= @run_makeMap Tryz.prog;have HN:=ah (EC r h1 h2 w);have hs:=rO w r;unfold yK;clear h1 h2;generalize jJ w r=B at *;go_enter Tryz.func23,Tryz.ntmps23;go_wp2_with fail;refine HN.out.mono ?_;rintro e w1 ⟨rfl,rfl⟩;go_wp2_with fail;go_ret;exact ⟨by simp,by rw[hs]⟩
end Go.Proofs.YtdbfejfhpkakhaaGreat
namespace Go.Proofs.YtdbfejfhpkakhaaGreat
open Go.RowKit Go.Conc
theorem Qo (b c cap:Nat) (buf:Array Value) (s r:Nat) (x:RV) (w:World) (h0:w.cell? ⟨b,0,none⟩=some (.chan (some c))) (hc:w.heap[c]?=some (.chan cap buf false s r false)) (hroom:buf.size<cap):
 Calls Tryz.prog 49 #[.pointer (some ⟨b,0,none⟩),aK x] w fun e w'=>e=.returned (.bool true)/\(w.alloc (.cells x.cs.toArray 79)).setChan c cap (buf.push (aK x)) false (s+1) r false=w':=by
 refine calls_of_loneTo (fun cs=>?_) (by rintro _ ⟨h,_⟩;cases h)
 have e:Frame.enter Tryz.prog 49 #[.pointer (some ⟨b,0,none⟩),aK x] .normal=(base 49).at ⟨#[.pointer (some ⟨b,0,none⟩),aK x,undef,undef,undef,undef,undef,undef,undef,undef,undef,undef,undef,undef,undef],[]⟩ [.code (Tryz.f49.body.getD .skip)]:=by
  simp[Frame.enter,Frame.at,Tryz.func49,base,Tryz.f49]
 rw[e];refine LoneTo.goes (n:=40) ?_;simp only[Tryz.f49,Option.getD_some];unfold aK RV.cs;have h1:∀o,(w.alloc o).cell? ⟨b,0,none⟩=some (.chan (some c)):=fun o=>(World.cell?_alloc_lt w o _ (World.block_lt_of_cell? w _ h0)).trans h0;s_c stepG_seq
 s_reg
 s_op
 s_op
 s_c stepG_region_end
 s_c stepG_seq
 s_c stepG_seq
 s_reg
 s_op
 s_op
 s_c stepG_region_end
 s_cond false
 s_c stepG_skip
 s_c stepG_seq
 s_c stepG_seq
 s_reg
 s_op
 s_op
 s_op
 s_op
 s_c stepG_region_end
 s_reg
 s_op
 s_c stepG_region_end
 s_c stepG_seq
 s_reg
 s_stop
 have hc2:(w.alloc (.cells #[.int .i64 x.row.kind,.int .i64 x.row.time,.slice x.A x.row.ak.length x.c,.string x.row.text,.int .i64 x.row.value,.bool x.row.null,.int .i64 x.row.maker,.int .i64 x.row.seq,.int .i64 x.row.place] 79)).heap[c]?=some (.chan cap buf false s r false):=(Below.heap_alloc w _ c (by have:=Array.getElem?_eq_some_iff.1 hc;exact this.1)).trans hc
 refine LoneTo.step (step_lone_select_send_room (c:=c) (cap:=cap) (buf:=buf) (s:=s) (r:=r) (tm:=false) (v:=(.agg #[.int .i64 x.row.kind,.int .i64 x.row.time,.slice x.A x.row.ak.length x.c,.string x.row.text,.int .i64 x.row.value,.bool x.row.null,.int .i64 x.row.maker,.int .i64 x.row.seq,.int .i64 x.row.place]))
  (stepG_comm (cases:= #[scase c (.agg #[.int .i64 x.row.kind,.int .i64 x.row.time,.slice x.A x.row.ak.length x.c,.string x.row.text,.int .i64 x.row.value,.bool x.row.null,.int .i64 x.row.maker,.int .i64 x.row.seq,.int .i64 x.row.place]) (.agg #[.int .i64 0,.int .i64 0,.slice none 0 0,.string ⟨#[]⟩,.int .i64 0,.bool false,.int .i64 0,.int .i64 0,.int .i64 0])]) (blocking:=false) (shape:=.select) (w':=w.alloc (.cells #[.int .i64 x.row.kind,.int .i64 x.row.time,.slice x.A x.row.ak.length x.c,.string x.row.text,.int .i64 x.row.value,.bool x.row.null,.int .i64 x.row.maker,.int .i64 x.row.seq,.int .i64 x.row.place] 79)) rfl rfl (by decide) (by simp[go_sem,execOp,scase])) hc2 hroom) ?_
 rw[Frame.finish_at];walk_nrm
 refine LoneTo.goes (n:=12) ?_;s_op
 s_op
 s_c stepG_region_end
 s_c stepG_block
 s_cond true
 s_c stepG_seq
 s_reg
 s_op
 s_c stepG_region_end
 s_c stepG_ret'
 s_stop
 exact LoneTo.done ⟨.returned (.bool true),_,rfl,⟨rfl,rfl⟩,rfl,rfl,rfl,rfl,_,Tryz.func49,by simp[results,Tryz.f49,Frame.at]⟩
def VG:RV:=⟨⟨0,0,[],⟨#[]⟩,0,false,0,0,0⟩,none,0⟩
theorem Ij (b c cap:Nat) (s r:Nat) (w:World) (h0:w.cell? ⟨b,0,none⟩=some (.chan (some c))) (hc:w.heap[c]?=some (.chan cap #[] false s r false)):
 Calls Tryz.prog 82 #[.pointer (some ⟨b,0,none⟩)] w fun e w'=>e=.returned (.tuple #[aK VG,.bool false])/\Nx w w'/\w'.heap[c]?=some (.chan cap #[] false s r false):=by
 refine calls_of_loneTo (fun cs=>?_) (by rintro _ ⟨h,_⟩;cases h)
 have e:Frame.enter Tryz.prog 82 #[.pointer (some ⟨b,0,none⟩)] .normal=(base 82).at ⟨#[.pointer (some ⟨b,0,none⟩),undef,undef,undef,undef,undef,undef,undef,undef,undef,undef,undef,undef,undef,undef,undef,undef],[]⟩ [.code (Tryz.f82.body.getD .skip)]:=by
  simp[Frame.enter,Frame.at,Tryz.func82,base,Tryz.f82]
 rw[e];refine LoneTo.goes (n:=40) ?_;simp only[Tryz.f82,Option.getD_some];have h1:∀o,(w.alloc o).cell? ⟨b,0,none⟩=some (.chan (some c)):=fun o=>(World.cell?_alloc_lt w o _ (World.block_lt_of_cell? w _ h0)).trans h0;s_c stepG_seq
 s_reg
 s_op
 s_op
 s_c stepG_region_end
 s_c stepG_seq
 s_c stepG_seq
 s_reg
 s_op
 s_op
 s_c stepG_region_end
 s_cond false
 s_c stepG_skip
 s_c stepG_seq
 s_reg
 s_op
 s_op
 s_op
 s_op
 s_c stepG_region_end
 s_c stepG_seq
 s_reg
 s_stop
 have hc2:(w.alloc (.cells #[.int .i64 0,.int .i64 0,.slice none 0 0,.string ⟨#[]⟩,.int .i64 0,.bool false,.int .i64 0,.int .i64 0,.int .i64 0] 79)).heap[c]?=some (.chan cap #[] false s r false):=(Below.heap_alloc w _ c (by have:=Array.getElem?_eq_some_iff.1 hc;exact this.1)).trans hc
 refine LoneTo.step (step_lone_select_default (c:=c) (cap:=cap) (s:=s) (r:=r) (tm:=false) (z:=(.agg #[.int .i64 0,.int .i64 0,.slice none 0 0,.string ⟨#[]⟩,.int .i64 0,.bool false,.int .i64 0,.int .i64 0,.int .i64 0]))
  (stepG_comm (cases:= #[rcase c (.agg #[.int .i64 0,.int .i64 0,.slice none 0 0,.string ⟨#[]⟩,.int .i64 0,.bool false,.int .i64 0,.int .i64 0,.int .i64 0])]) (blocking:=false) (shape:=.select) (w':=w.alloc (.cells #[.int .i64 0,.int .i64 0,.slice none 0 0,.string ⟨#[]⟩,.int .i64 0,.bool false,.int .i64 0,.int .i64 0,.int .i64 0] 79)) rfl rfl (by decide) (by simp[go_sem,execOp,rcase])) hc2) ?_
 rw[Frame.finish_at];walk_nrm
 refine LoneTo.goes (n:=22) ?_;s_op
 s_op
 s_c stepG_region_end
 s_c stepG_block
 s_cond false
 s_c stepG_seq
 s_reg
 s_op
 s_op
 s_op
 s_c stepG_region_end
 s_c stepG_ret'
 s_stop
 exact LoneTo.done ⟨.returned (.tuple #[(.agg #[.int .i64 0,.int .i64 0,.slice none 0 0,.string ⟨#[]⟩,.int .i64 0,.bool false,.int .i64 0,.int .i64 0,.int .i64 0]),.bool false]),_,rfl,⟨rfl,(Ch.refl _ w).alloc _,hc2⟩,rfl,rfl,rfl,rfl,_,Tryz.func82,by simp[results,Tryz.f82,Frame.at,go_sem]⟩
end Go.Proofs.YtdbfejfhpkakhaaGreat
namespace Go.Proofs.YtdbfejfhpkakhaaGreat
open Go.RowKit
def VD (w:World) (k:Nat):Prop:=∃cs t z,w.heap[k]?=some (.cells cs t z)
def NC (ξ:Nat) (w:World) (k:Nat):Prop:=ξ<=k/\¬VD w k
theorem aG.Qg {w:World} {g:Nat} {t:TypeId} {cs:Array Value} (h:aG w g t cs):VD w g:=⟨cs,t,_,h⟩
theorem aG.nc {ξ:Nat} {w:World} {g:Nat} {t:TypeId} {cs:Array Value} (h:aG w g t cs):¬NC ξ w g:=fun n=>n.2 h.Qg
theorem Ch.jQ {ξ:Nat} {a b c:World} (h:Ch (NC ξ a) a b) (k:Ch (NC ξ b) b c):Ch (NC ξ a) a c:=
 h.trans k fun i hi hn=>⟨hn.1,fun hc=>hn.2 (by
  obtain ⟨cs,t,z,e⟩:=hc;exact ⟨cs,t,z,(h.block i hi (fun hx=>hx.2 ⟨cs,t,z,e⟩)).trans e⟩)⟩
theorem Nx.nc {ξ:Nat} {a b:World} (h:Nx a b):Ch (NC ξ a) a b:=h.mono fun _ _ hf=>hf.elim
structure bC (ξ:Nat) (w:World) (b room m n:Nat) (ch:ByteArray->Option Nat) (R:ByteArray->List RV):Prop where
 blk:aG w b 104 #[.int .i64 (room:Int),.map (some m)]
 map:dY w m n (fun s=>(ch s).map fun c=>.agg #[.chan (some c)])
 box:∀s c,ch s=some c->∃p q,w.heap[c]?=some (.chan room ((R s).map aK).toArray false p q false)
 non:∀s,ch s=none->R s=[]
 inj:∀s t c,ch s=some c->ch t=some c->s=t
 few:∀s,(R s).length<=room
 Kt:ξ<=m
 ND:∀s c,ch s=some c->ξ<=c
section
variable {ξ : Nat} {w w' : World} {b room m n : Nat} {ch : ByteArray → Option Nat} {R : ByteArray → List RV}
theorem dY.nc {f:ByteArray->Option Value} (h:dY w m n f):¬VD w m:=by
 obtain ⟨D,⟨es,clock,hb,_⟩,_⟩:=h;rintro ⟨cs,t,z,e⟩;rw[hb]at e;cases e
theorem bC.uj (h:bC ξ w b room m n ch R):NC ξ w m:=⟨h.Kt,h.map.nc⟩
theorem bC.kW (h:bC ξ w b room m n ch R) {s:ByteArray} {c:Nat} (hc:ch s=some c):NC ξ w c:=by
 refine ⟨h.ND s c hc,?_⟩;obtain ⟨p,q,e⟩:=h.box s c hc;rintro ⟨cs,t,z,e2⟩;rw[e]at e2;cases e2
theorem bC.iQ (h:bC ξ w b room m n ch R) {s:ByteArray} {c:Nat} (hc:ch s=some c):c<w.heap.size:=by
 obtain ⟨p,q,e⟩:=h.box s c hc;exact (Array.getElem?_eq_some_iff.1 e).1
theorem bC.jC (h:bC ξ w b room m n ch R) {s:ByteArray} {c:Nat} (hc:ch s=some c):c≠m/\c≠b:=by
 constructor
 ·rintro rfl
  obtain ⟨p,q,e⟩:=h.box s c hc;obtain ⟨D,⟨es,clock,hb,_⟩,_⟩:=h.map;rw[hb]at e;cases e
 ·rintro rfl
  exact h.blk.nc (h.kW hc)
theorem bC.TT (h:bC ξ w b room m n ch R):m≠b:=by
 rintro rfl;exact h.map.nc h.blk.Qg
theorem bC.Ib {S:Nat->Prop} (h:bC ξ w b room m n ch R) (c:Ch S w w') (hb:¬S b) (hS:∀k,k<w.heap.size->S k->VD w k):bC ξ w' b room m n ch R where
 blk:=h.blk.ch c hb
 map:=h.map.ch c fun hs=>h.map.nc (hS m h.map.lt hs)
 box:=fun s k hk=>by
  obtain ⟨p,q,e⟩:=h.box s k hk;exact ⟨p,q,(c.block k (h.iQ hk) fun hs=>(h.kW hk).2 (hS k (h.iQ hk) hs)).trans e⟩
 non:=h.non
 inj:=h.inj
 few:=h.few
 Kt:=h.Kt
 ND:=h.ND
theorem bC.base {ζ:Nat} (h:bC ξ w b room m n ch R) (hz:ζ<=ξ):bC ζ w b room m n ch R:=⟨h.blk,h.map,h.box,h.non,h.inj,h.few,Nat.le_trans hz h.Kt,fun s c hc=>Nat.le_trans hz (h.ND s c hc)⟩
theorem bC.nx (h:bC ξ w b room m n ch R) (c:Nx w w'):bC ξ w' b room m n ch R:=h.Ib c (fun hf=>hf) fun _ _ hf=>hf.elim
end
def Zt (x:ByteArray×RV):List Value:=.string x.1::x.2.cs
theorem uX (x:ByteArray×RV):(Zt x).length=10:=rfl
def DW (l:List (ByteArray×RV)):List Value:=l.flatMap Zt
theorem PD (l:List (ByteArray×RV)):(DW l).length=l.length * 10:=zy uX l
theorem Bj (a b:List (ByteArray×RV)):DW (a++b)=DW a++DW b:=by simp[DW]
def dP (l:List (ByteArray×RV)) (s:ByteArray):Nat:=(l.filter fun p=>decide (p.1=s)).length
def fK (l:List (ByteArray×RV)) (s:ByteArray):List RV:=(l.filter fun p=>decide (p.1=s)).map (·.2)
theorem qH (l:List (ByteArray×RV)) (s:ByteArray):(fK l s).length=dP l s:=by simp[fK,dP]
theorem ZT {l:List (ByteArray×RV)} {k:Nat} (h:k<l.length) (s:ByteArray):dP (l.take (k+1)) s=dP (l.take k) s+(if l[k].1=s then 1 else 0):=by
 unfold dP;rw[List.take_succ_eq_append_getElem h,List.filter_append,List.length_append,List.filter_cons];by_cases e:l[k].1=s<;>simp[e]
theorem Am {l:List (ByteArray×RV)} {k:Nat} (h:k<l.length) (s:ByteArray):fK (l.take (k+1)) s=fK (l.take k) s++(if l[k].1=s then [l[k].2] else []):=by
 unfold fK;rw[List.take_succ_eq_append_getElem h,List.filter_append,List.map_append,List.filter_cons];by_cases e:l[k].1=s<;>simp[e]
theorem Em (l:List (ByteArray×RV)) (s:ByteArray):dP l s<=l.length:=List.length_filter_le _ _
theorem z2Y (l:List (ByteArray×RV)) (k:Nat) (s:ByteArray):dP (l.take k) s<=dP l s:=by
 unfold dP;exact (((List.take_sublist k l).filter _).length_le)
def gu (l:List (ByteArray×RV)) (s:ByteArray):Option Value:=if dP l s=0 then none else some (.int .i64 (dP l s:Int))
theorem Gq (l:List (ByteArray×RV)) (s:ByteArray):(gu l s).getD (.int .i64 0)=.int .i64 (dP l s:Int):=by
 unfold gu;split
 ·next h=>rw[h];rfl
 ·rfl
theorem AY {l:List (ByteArray×RV)} {k:Nat} (h:k<l.length):(fun s=>if s=l[k].1 then some (Value.int .i64 ((dP (l.take k) l[k].1:Nat)+1:Int)) else gu (l.take k) s)=gu (l.take (k+1)):=by
 funext s
 by_cases e:s=l[k].1
 ·subst e
  have h1:dP (l.take (k+1)) l[k].1=dP (l.take k) l[k].1+1:=by rw[ZT h,if_pos rfl]
  rw[if_pos rfl];unfold gu;rw[h1,if_neg (by omega)];simp
 ·have h1:dP (l.take (k+1)) s=dP (l.take k) s:=by rw[ZT h,if_neg (fun e2=>e e2.symm),Nat.add_zero]
  rw[if_neg e];unfold gu;rw[h1]
theorem RJ {w:World} {D:Nat->Prop} {A:Option Addr} {n k:Nat} {l:List (ByteArray×RV)} (h:Rd w D 10 A n (DW l)) (hk:k<l.length):∃ad,A=some ad/\D ad.block/\w.cell? (ad.add (k * 10))=some (.string l[k].1)/\
 ∀i u,(RV.cs l[k].2)[i]?=some u->w.cell? ⟨(ad.add (k * 10)).block,(ad.add (k * 10)).off+(i+1),none⟩=some u:=by
 have hn:0<n:=by have:=h.1;rw[PD]at this;omega
 obtain ⟨ad,rfl,hb,hc⟩:=h.2 hn;refine ⟨ad,rfl,hb,hc (k * 10+0) _ (oI uX hk (by decide)),fun i u hu=>?_⟩;have hi:i<9:=by have:=List.getElem?_eq_some_iff.1 hu;have:=this.1;rw[RV.aQ]at this;exact this
 have h1:=hc (k * 10+(i+1)) u ((oI uX hk (by omega)).trans hu);exact z09 i h1
end Go.Proofs.YtdbfejfhpkakhaaGreat
namespace Go.Proofs.YtdbfejfhpkakhaaGreat
open Go.RowKit Go.Maps
theorem ER (w:World):(zeroValue 3).run Tryz.prog w=.ok (.int .i64 0) w:=by kernel_rfl
theorem IX (w:World):(zeroValue 116).run Tryz.prog w=.ok (.agg #[.chan none]) w:=by kernel_rfl
section
variable (w : World) {ops : Array Oper} {rest : List Oper} {o : Oper} {a : Act} {Q : Exit → Act → World → Prop} {b r n cnt : Nat} {f : ByteArray → Option Value} {left : ByteArray → Bool}
theorem z2o (hg:o.guard=none) (m:Operand) (t:TypeId) (hop:o.op=Op.range t m) {E:TypeId} (ht:Tryz.prog.underlying t=some (.map 9 E)) (hm:a.eval m=.map (some b)) (h:dY w b n f)
 (hK:∀w' cnt,iD w' b w.heap.size n f (fun s=>decide (fC s)&&(f s).isSome) cnt->w.grownBy w' none->w'.heap.size=w.heap.size+1->cnt<=n->wpList Tryz.prog ops Q rest (a.put o.dst (.pointer (some ⟨w.heap.size,0,none⟩))) w'):
 wpList Tryz.prog ops Q (o::rest) a w:=by
 refine wpList_plain hg fun K' hK'=>?_;obtain ⟨w',cnt,hrun,r1,r2,r3,r4⟩:=h.range ht;unfold Oper.wp;simp[execOp,hop,hm,hrun,Result.andThen];exact hK' _ _ (hK w' cnt r1 r2 r3 r4)
end
end Go.Proofs.YtdbfejfhpkakhaaGreat
namespace Go.Proofs.YtdbfejfhpkakhaaGreat
open Go.RowKit Go.Conc
theorem Ch.vZ {S:Nat->Prop} {a w:World} (h:Ch S a w) {c:Nat} (hp:c<a.heap.size->S c) (cap:Nat) (buf:Array Value) (cl:Bool) (s r:Nat) (tm:Bool):Ch S a (w.setChan c cap buf cl s r tm):=
 ⟨h.os,h.tape,h.output,by simpa [World.setChan]using h.size,fun k hk hn=>by
   simp only[World.setChan];rw[Array.getElem?_setIfInBounds_ne (fun e=>hn (by subst e;exact hp hk))];exact h.block k hk hn⟩
theorem Ii (b c cap:Nat) (buf:Array Value) (s r:Nat) (x:RV) (w:World) (h0:w.cell? ⟨b,0,none⟩=some (.chan (some c))) (hc:w.heap[c]?=some (.chan cap buf false s r false)) (hx:buf[0]?=some (aK x)):
 Calls Tryz.prog 82 #[.pointer (some ⟨b,0,none⟩)] w fun e w'=>e=.returned (.tuple #[aK x,.bool true])/\Ch (· =c) w w'/\w'.heap[c]?=some (.chan cap (buf.extract 1 buf.size) false s (r+1) false):=by
 refine calls_of_loneTo (fun cs=>?_) (by rintro _ ⟨h,_⟩;cases h)
 have e:Frame.enter Tryz.prog 82 #[.pointer (some ⟨b,0,none⟩)] .normal=(base 82).at ⟨#[.pointer (some ⟨b,0,none⟩),undef,undef,undef,undef,undef,undef,undef,undef,undef,undef,undef,undef,undef,undef,undef,undef],[]⟩ [.code (Tryz.f82.body.getD .skip)]:=by
  simp[Frame.enter,Frame.at,Tryz.func82,base,Tryz.f82]
 rw[e];refine LoneTo.goes (n:=40) ?_;simp only[Tryz.f82,Option.getD_some];have h1:∀o,(w.alloc o).cell? ⟨b,0,none⟩=some (.chan (some c)):=fun o=>(World.cell?_alloc_lt w o _ (World.block_lt_of_cell? w _ h0)).trans h0;s_c stepG_seq
 s_reg
 s_op
 s_op
 s_c stepG_region_end
 s_c stepG_seq
 s_c stepG_seq
 s_reg
 s_op
 s_op
 s_c stepG_region_end
 s_cond false
 s_c stepG_skip
 s_c stepG_seq
 s_reg
 s_op
 s_op
 s_op
 s_op
 s_c stepG_region_end
 s_c stepG_seq
 s_reg
 s_stop
 have hc2:(w.alloc (.cells #[.int .i64 0,.int .i64 0,.slice none 0 0,.string ⟨#[]⟩,.int .i64 0,.bool false,.int .i64 0,.int .i64 0,.int .i64 0] 79)).heap[c]?=some (.chan cap buf false s r false):=(Below.heap_alloc w _ c (by have:=Array.getElem?_eq_some_iff.1 hc;exact this.1)).trans hc;have hsz:0<buf.size:=by have:=Array.getElem?_eq_some_iff.1 hx;exact this.1
 have hg:buf.getD 0 undef=aK x:=by rw[Array.getD_eq_getD_getElem?,hx];rfl
 refine LoneTo.step (step_lone_select_recv_buf (c:=c) (cap:=cap) (buf:=buf) (closed:=false) (s:=s) (r:=r) (tm:=false) (z:=(.agg #[.int .i64 0,.int .i64 0,.slice none 0 0,.string ⟨#[]⟩,.int .i64 0,.bool false,.int .i64 0,.int .i64 0,.int .i64 0]))
  (stepG_comm (cases:= #[rcase c (.agg #[.int .i64 0,.int .i64 0,.slice none 0 0,.string ⟨#[]⟩,.int .i64 0,.bool false,.int .i64 0,.int .i64 0,.int .i64 0])]) (blocking:=false) (shape:=.select) (w':=w.alloc (.cells #[.int .i64 0,.int .i64 0,.slice none 0 0,.string ⟨#[]⟩,.int .i64 0,.bool false,.int .i64 0,.int .i64 0,.int .i64 0] 79)) rfl rfl (by decide) (by simp[go_sem,execOp,rcase])) hc2 hsz) ?_
 have hne:w.heap.size≠c:=fun e=>by have:=(Array.getElem?_eq_some_iff.1 hc).1;omega
 have hB:aG ((w.alloc (.cells #[.int .i64 0,.int .i64 0,.slice none 0 0,.string ⟨#[]⟩,.int .i64 0,.bool false,.int .i64 0,.int .i64 0,.int .i64 0] 79)).setChan c cap (buf.extract 1 buf.size) false s (r+1) false) w.heap.size 79 #[.int .i64 0,.int .i64 0,.slice none 0 0,.string ⟨#[]⟩,.int .i64 0,.bool false,.int .i64 0,.int .i64 0,.int .i64 0]:=by
  unfold aG World.setChan;simp only[Array.getElem?_setIfInBounds_ne (Ne.symm hne)];exact aG.new w 79 _
 have hN:Ch (· =c) w ((w.alloc (.cells #[.int .i64 0,.int .i64 0,.slice none 0 0,.string ⟨#[]⟩,.int .i64 0,.bool false,.int .i64 0,.int .i64 0,.int .i64 0] 79)).setChan c cap (buf.extract 1 buf.size) false s (r+1) false):=((Ch.refl (· =c) w).alloc _).vZ (fun _=>rfl) _ _ _ _ _ _;have hC:((w.alloc (.cells #[.int .i64 0,.int .i64 0,.slice none 0 0,.string ⟨#[]⟩,.int .i64 0,.bool false,.int .i64 0,.int .i64 0,.int .i64 0] 79)).setChan c cap (buf.extract 1 buf.size) false s (r+1) false).heap[c]?=some (.chan cap (buf.extract 1 buf.size) false s (r+1) false):=heap_setChan _ _ _ _ _ _ _ _ (by have:=(Array.getElem?_eq_some_iff.1 hc).1;simp;omega);rw[Frame.finish_at,hg];generalize (w.alloc (.cells #[.int .i64 0,.int .i64 0,.slice none 0 0,.string ⟨#[]⟩,.int .i64 0,.bool false,.int .i64 0,.int .i64 0,.int .i64 0] 79)).setChan c cap (buf.extract 1 buf.size) false s (r+1) false=W2 at *;have f0:=hB.frozen;have k0:=hB.cell 0;have k1:=hB.cell 1;have k2:=hB.cell 2;have k3:=hB.cell 3;have k4:=hB.cell 4;have k5:=hB.cell 5;have k6:=hB.cell 6;have k7:=hB.cell 7;have k8:=hB.cell 8;simp at k0 k1 k2 k3 k4 k5 k6 k7 k8;unfold aK;walk_nrm
 refine LoneTo.goes (n:=30) ?_;s_op
 s_op
 s_c stepG_region_end
 s_c stepG_block
 s_cond true
 s_c stepG_seq
 s_reg
 s_op
 s_op
 s_c stepG_region_end
 s_c stepG_seq
 obtain ⟨W3,hW⟩:∃W3,W3=dI W2 w.heap.size 0 (RV.cs x):=⟨_,rfl⟩;have b3:aG W3 w.heap.size 79 x.cs.toArray:=by rw[hW];exact VN hB _ rfl
 have hch:Ch (fun k=>k=w.heap.size) W2 W3:=by rw[hW];exact NT _ _ _
 simp only[RV.cs,dI]at hW;rw[←hW];have hC3:=(hch.block c (by have:=(Array.getElem?_eq_some_iff.1 hC).1;exact this) (fun e=>hne e.symm)).trans hC;have hN3:Ch (· =c) w W3:=hN.trans hch fun i hi e=>by omega
 clear hW hch hN hC hB f0 k0 k1 k2 k3 k4 k5 k6 k7 k8;have f0:=b3.frozen;have k0:W3.cell? ⟨w.heap.size,0,none⟩=_:=b3.cell 0;have k1:W3.cell? ⟨w.heap.size,1,none⟩=_:=b3.cell 1;have k2:W3.cell? ⟨w.heap.size,2,none⟩=_:=b3.cell 2;have k3:W3.cell? ⟨w.heap.size,3,none⟩=_:=b3.cell 3;have k4:W3.cell? ⟨w.heap.size,4,none⟩=_:=b3.cell 4;have k5:W3.cell? ⟨w.heap.size,5,none⟩=_:=b3.cell 5;have k6:W3.cell? ⟨w.heap.size,6,none⟩=_:=b3.cell 6;have k7:W3.cell? ⟨w.heap.size,7,none⟩=_:=b3.cell 7;have k8:W3.cell? ⟨w.heap.size,8,none⟩=_:=b3.cell 8;simp[RV.cs]at k0 k1 k2 k3 k4 k5 k6 k7 k8;s_reg
 s_op
 s_op
 obtain ⟨W4,hW⟩:∃W4,W4=dI W3 w.heap.size 0 (RV.cs x):=⟨_,rfl⟩;have b4:aG W4 w.heap.size 79 x.cs.toArray:=by rw[hW];exact VN b3 _ rfl
 have hch:Ch (fun k=>k=w.heap.size) W3 W4:=by rw[hW];exact NT _ _ _
 simp only[RV.cs,dI]at hW;rw[←hW];have hC4:=(hch.block c (by have:=(Array.getElem?_eq_some_iff.1 hC3).1;exact this) (fun e=>hne e.symm)).trans hC3;have hN4:Ch (· =c) w W4:=hN3.trans hch fun i hi e=>by omega
 clear hW hch hN3 hC3 b3 f0 k0 k1 k2 k3 k4 k5 k6 k7 k8;have d:=b4.cell;s_op
 s_c stepG_region_end
 s_c stepG_ret'
 s_stop
 exact LoneTo.done ⟨.returned (.tuple #[aK x,.bool true]),_,rfl,⟨rfl,hN4,hC4⟩,rfl,rfl,rfl,rfl,_,Tryz.func82,by simp[results,Tryz.f82,Frame.at,go_sem,aK,d,RV.cs]⟩
end Go.Proofs.YtdbfejfhpkakhaaGreat
