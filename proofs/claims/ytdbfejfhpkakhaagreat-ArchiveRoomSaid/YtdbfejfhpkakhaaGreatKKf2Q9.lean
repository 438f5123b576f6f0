/- Contracts and plain laws that the last text rests on. Conditions: each theorem states its own. -/
import Derived.Test.YtdbfejfhpkakhaaGreatKKf2Q4
import Derived.Conc.LoneCalls
import Derived.Conc.LoneSelect
import Derived.Conc.SmallLaws
set_option maxRecDepth 100000
set_option maxHeartbeats 4000000
set_option linter.unusedVariables false
namespace Go.Proofs.YtdbfejfhpkakhaaGreat
open Go.RowKit
def jF (w:World) (r:Nat):World:=(w.alloc (.chan r #[] false 0 0 false)).alloc (.cells #[.chan (some w.heap.size)] 116)
theorem Eh (r:Nat) (h1:1<=r) (h2:r<=2048) (w:World):
 Calls Tryz.prog 43 #[.int .i64 (r:Int)] w fun e w'=>e=.returned (.pointer (some ⟨w.heap.size+1,0,none⟩))/\jF w r=w':=by
 obtain ⟨i0,hi0,hz0,hz1,hz2⟩:=info_parts Tryz.fH;have hmk:∀w:World,(Instr.makeChan 114 (.int .i64 (r:Int))).run Tryz.prog w=.ok (.chan (some w.heap.size)) (w.alloc (.chan r #[] false 0 0 false)):=fun w=>Go.Conc.run_makeChan Tryz.underlying114 hi0 .i64 r (by omega) (by rw[hz2];omega);have e1:¬(r:Int)<1:=by omega
 have e2:¬(2048:Int)<(r:Int):=by omega
 clear hz0 hz1 hz2 hi0 h1 h2;unfold jF;go_enter Tryz.func43,Tryz.ntmps43;go_wp2_with fail;go_ret;exact ⟨by simp,rfl⟩
def yB (w:World) (r:Nat):World:=((jF w r).alloc (.map #[] 0)).alloc (.cells #[.int .i64 (r:Int),.map (some (jF w r).heap.size)] 104)
theorem rE (w:World) (r:Nat):(jF w r).heap.size=w.heap.size+2:=by unfold jF;simp
theorem Qq (r:Nat) (h1:1<=r) (h2:r<=2048) (w:World):
 Calls Tryz.prog 23 #[.int .i64 (r:Int)] w fun e w'=>e=.returned (.pointer (some ⟨w.heap.size+3,0,none⟩))/\yB w r=w':=by
 have hmm:= @run_makeMap Tryz.prog;have HN:=ah (Eh r h1 h2 w);have hs:=rE w r;unfold yB;clear h1 h2;generalize jF w r=B at *;go_enter Tryz.func23,Tryz.ntmps23;go_wp2_with fail;refine HN.out.mono ?_;rintro e w1 ⟨rfl,rfl⟩;go_wp2_with fail;go_ret;exact ⟨by simp,by rw[hs]⟩
end Go.Proofs.YtdbfejfhpkakhaaGreat
namespace Go.Proofs.YtdbfejfhpkakhaaGreat
open Go.RowKit Go.Conc
theorem Qa (b c cap:Nat) (buf:Array Value) (s r:Nat) (x:RV) (w:World) (h0:w.cell? ⟨b,0,none⟩=some (.chan (some c))) (hc:w.heap[c]?=some (.chan cap buf false s r false)) (hroom:buf.size<cap):
 Calls Tryz.prog 49 #[.pointer (some ⟨b,0,none⟩),aK x] w fun e w'=>e=.returned (.bool true)/\(w.alloc (.cells x.cs.toArray 79)).setChan c cap (buf.push (aK x)) false (s+1) r false=w':=by
 refine calls_of_loneTo (fun cs=>?_) (by rintro _ ⟨h,_⟩;cases h)
 have e:Frame.enter Tryz.prog 49 #[.pointer (some ⟨b,0,none⟩),aK x] .normal=(base 49).at ⟨#[.pointer (some ⟨b,0,none⟩),aK x,undef,undef,undef,undef,undef,undef,undef,undef,undef,undef,undef,undef,undef],[]⟩ [.code (Tryz.f49.body.getD .skip)]:=by
  simp[Frame.enter,Frame.at,Tryz.func49,base,Tryz.f49]
 rw[e];refine LoneTo.goes (n:=40) ?_;simp only[Tryz.f49,Option.getD_some];unfold aK RV.cs;have h1:∀o,(w.alloc o).cell? ⟨b,0,none⟩=some (.chan (some c)):=fun o=>(World.cell?_alloc_lt w o _ (World.block_lt_of_cell? w _ h0)).trans h0;s_c stepG_seq
 s_reg
 s_op
 s_op
 s_c stepG_region_end
 s_c stepG_seq
 s_c stepG_seq
 s_reg
 s_op
 s_op
 s_c stepG_region_end
 s_cond false
 s_c stepG_skip
 s_c stepG_seq
 s_c stepG_seq
 s_reg
 s_op
 s_op
 s_op
 s_op
 s_c stepG_region_end
 s_reg
 s_op
 s_c stepG_region_end
 s_c stepG_seq
 s_reg
 s_stop
 have hc2:(w.alloc (.cells #[.int .i64 x.row.kind,.int .i64 x.row.time,.slice x.A x.row.ak.length x.c,.string x.row.text,.int .i64 x.row.value,.bool x.row.null,.int .i64 x.row.maker,.int .i64 x.row.seq,.int .i64 x.row.place] 79)).heap[c]?=some (.chan cap buf false s r false):=(Below.heap_alloc w _ c (by have:=Array.getElem?_eq_some_iff.1 hc;exact this.1)).trans hc
 refine LoneTo.step (step_lone_select_send_room (c:=c) (cap:=cap) (buf:=buf) (s:=s) (r:=r) (tm:=false) (v:=(.agg #[.int .i64 x.row.kind,.int .i64 x.row.time,.slice x.A x.row.ak.length x.c,.string x.row.text,.int .i64 x.row.value,.bool x.row.null,.int .i64 x.row.maker,.int .i64 x.row.seq,.int .i64 x.row.place]))
  (stepG_comm (cases:= #[scase c (.agg #[.int .i64 x.row.kind,.int .i64 x.row.time,.slice x.A x.row.ak.length x.c,.string x.row.text,.int .i64 x.row.value,.bool x.row.null,.int .i64 x.row.maker,.int .i64 x.row.seq,.int .i64 x.row.place]) (.agg #[.int .i64 0,.int .i64 0,.slice none 0 0,.string ⟨#[]⟩,.int .i64 0,.bool false,.int .i64 0,.int .i64 0,.int .i64 0])]) (blocking:=false) (shape:=.select) (w':=w.alloc (.cells #[.int .i64 x.row.kind,.int .i64 x.row.time,.slice x.A x.row.ak.length x.c,.string x.row.text,.int .i64 x.row.value,.bool x.row.null,.int .i64 x.row.maker,.int .i64 x.row.seq,.int .i64 x.row.place] 79)) rfl rfl (by decide) (by simp[go_sem,execOp,scase])) hc2 hroom) ?_
 rw[Frame.finish_at];walk_nrm
 refine LoneTo.goes (n:=12) ?_;s_op
 s_op
 s_c stepG_region_end
 s_c stepG_block
 s_cond true
 s_c stepG_seq
 s_reg
 s_op
 s_c stepG_region_end
 s_c stepG_ret'
 s_stop
 exact LoneTo.done ⟨.returned (.bool true),_,rfl,⟨rfl,rfl⟩,rfl,rfl,rfl,rfl,_,Tryz.func49,by simp[results,Tryz.f49,Frame.at]⟩
def Vo:RV:=⟨⟨0,0,[],⟨#[]⟩,0,false,0,0,0⟩,none,0⟩
theorem G_ (b c cap:Nat) (s r:Nat) (w:World) (h0:w.cell? ⟨b,0,none⟩=some (.chan (some c))) (hc:w.heap[c]?=some (.chan cap #[] false s r false)):
 Calls Tryz.prog 82 #[.pointer (some ⟨b,0,none⟩)] w fun e w'=>e=.returned (.tuple #[aK Vo,.bool false])/\Nx w w'/\w'.heap[c]?=some (.chan cap #[] false s r false):=by
 refine calls_of_loneTo (fun cs=>?_) (by rintro _ ⟨h,_⟩;cases h)
 have e:Frame.enter Tryz.prog 82 #[.pointer (some ⟨b,0,none⟩)] .normal=(base 82).at ⟨#[.pointer (some ⟨b,0,none⟩),undef,undef,undef,undef,undef,undef,undef,undef,undef,undef,undef,undef,undef,undef,undef,undef],[]⟩ [.code (Tryz.f82.body.getD .skip)]:=by
  simp[Frame.enter,Frame.at,Tryz.func82,base,Tryz.f82]
 rw[e];refine LoneTo.goes (n:=40) ?_;simp only[Tryz.f82,Option.getD_some];have h1:∀o,(w.alloc o).cell? ⟨b,0,none⟩=some (.chan (some c)):=fun o=>(World.cell?_alloc_lt w o _ (World.block_lt_of_cell? w _ h0)).trans h0;s_c stepG_seq
 s_reg
 s_op
 s_op
 s_c stepG_region_end
 s_c stepG_seq
 s_c stepG_seq
 s_reg
 s_op
 s_op
 s_c stepG_region_end
 s_cond false
 s_c stepG_skip
 s_c stepG_seq
 s_reg
 s_op
 s_op
 s_op
 s_op
 s_c stepG_region_end
 s_c stepG_seq
 s_reg
 s_stop
 have hc2:(w.alloc (.cells #[.int .i64 0,.int .i64 0,.slice none 0 0,.string ⟨#[]⟩,.int .i64 0,.bool false,.int .i64 0,.int .i64 0,.int .i64 0] 79)).heap[c]?=some (.chan cap #[] false s r false):=(Below.heap_alloc w _ c (by have:=Array.getElem?_eq_some_iff.1 hc;exact this.1)).trans hc
 refine LoneTo.step (step_lone_select_default (c:=c) (cap:=cap) (s:=s) (r:=r) (tm:=false) (z:=(.agg #[.int .i64 0,.int .i64 0,.slice none 0 0,.string ⟨#[]⟩,.int .i64 0,.bool false,.int .i64 0,.int .i64 0,.int .i64 0]))
  (stepG_comm (cases:= #[rcase c (.agg #[.int .i64 0,.int .i64 0,.slice none 0 0,.string ⟨#[]⟩,.int .i64 0,.bool false,.int .i64 0,.int .i64 0,.int .i64 0])]) (blocking:=false) (shape:=.select) (w':=w.alloc (.cells #[.int .i64 0,.int .i64 0,.slice none 0 0,.string ⟨#[]⟩,.int .i64 0,.bool false,.int .i64 0,.int .i64 0,.int .i64 0] 79)) rfl rfl (by decide) (by simp[go_sem,execOp,rcase])) hc2) ?_
 rw[Frame.finish_at];walk_nrm
 refine LoneTo.goes (n:=22) ?_;s_op
 s_op
 s_c stepG_region_end
 s_c stepG_block
 s_cond false
 s_c stepG_seq
 s_reg
 s_op
 s_op
 s_op
 s_c stepG_region_end
 s_c stepG_ret'
 s_stop
 exact LoneTo.done ⟨.returned (.tuple #[(.agg #[.int .i64 0,.int .i64 0,.slice none 0 0,.string ⟨#[]⟩,.int .i64 0,.bool false,.int .i64 0,.int .i64 0,.int .i64 0]),.bool false]),_,rfl,⟨rfl,(Ch.refl _ w).alloc _,hc2⟩,rfl,rfl,rfl,rfl,_,Tryz.func82,by simp[results,Tryz.f82,Frame.at,go_sem]⟩
theorem Ch.vS {S:Nat->Prop} {a w:World} (h:Ch S a w) {c:Nat} (hp:c<a.heap.size->S c) (cap:Nat) (buf:Array Value) (cl:Bool) (s r:Nat) (tm:Bool):Ch S a (w.setChan c cap buf cl s r tm):=
 ⟨h.os,h.tape,h.output,by simpa [World.setChan]using h.size,fun k hk hn=>by
   simp only[World.setChan];rw[Array.getElem?_setIfInBounds_ne (fun e=>hn (by subst e;exact hp hk))];exact h.block k hk hn⟩
theorem GZ (b c cap:Nat) (buf:Array Value) (s r:Nat) (x:RV) (w:World) (h0:w.cell? ⟨b,0,none⟩=some (.chan (some c))) (hc:w.heap[c]?=some (.chan cap buf false s r false)) (hx:buf[0]?=some (aK x)):
 Calls Tryz.prog 82 #[.pointer (some ⟨b,0,none⟩)] w fun e w'=>e=.returned (.tuple #[aK x,.bool true])/\Ch (· =c) w w'/\w'.heap[c]?=some (.chan cap (buf.extract 1 buf.size) false s (r+1) false):=by
 refine calls_of_loneTo (fun cs=>?_) (by rintro _ ⟨h,_⟩;cases h)
 have e:Frame.enter Tryz.prog 82 #[.pointer (some ⟨b,0,none⟩)] .normal=(base 82).at ⟨#[.pointer (some ⟨b,0,none⟩),undef,undef,undef,undef,undef,undef,undef,undef,undef,undef,undef,undef,undef,undef,undef,undef],[]⟩ [.code (Tryz.f82.body.getD .skip)]:=by
  simp[Frame.enter,Frame.at,Tryz.func82,base,Tryz.f82]
 rw[e];refine LoneTo.goes (n:=40) ?_;simp only[Tryz.f82,Option.getD_some];have h1:∀o,(w.alloc o).cell? ⟨b,0,none⟩=some (.chan (some c)):=fun o=>(World.cell?_alloc_lt w o _ (World.block_lt_of_cell? w _ h0)).trans h0;s_c stepG_seq
 s_reg
 s_op
 s_op
 s_c stepG_region_end
 s_c stepG_seq
 s_c stepG_seq
 s_reg
 s_op
 s_op
 s_c stepG_region_end
 s_cond false
 s_c stepG_skip
 s_c stepG_seq
 s_reg
 s_op
 s_op
 s_op
 s_op
 s_c stepG_region_end
 s_c stepG_seq
 s_reg
 s_stop
 have hc2:(w.alloc (.cells #[.int .i64 0,.int .i64 0,.slice none 0 0,.string ⟨#[]⟩,.int .i64 0,.bool false,.int .i64 0,.int .i64 0,.int .i64 0] 79)).heap[c]?=some (.chan cap buf false s r false):=(Below.heap_alloc w _ c (by have:=Array.getElem?_eq_some_iff.1 hc;exact this.1)).trans hc;have hsz:0<buf.size:=by have:=Array.getElem?_eq_some_iff.1 hx;exact this.1
 have hg:buf.getD 0 undef=aK x:=by rw[Array.getD_eq_getD_getElem?,hx];rfl
 refine LoneTo.step (step_lone_select_recv_buf (c:=c) (cap:=cap) (buf:=buf) (closed:=false) (s:=s) (r:=r) (tm:=false) (z:=(.agg #[.int .i64 0,.int .i64 0,.slice none 0 0,.string ⟨#[]⟩,.int .i64 0,.bool false,.int .i64 0,.int .i64 0,.int .i64 0]))
  (stepG_comm (cases:= #[rcase c (.agg #[.int .i64 0,.int .i64 0,.slice none 0 0,.string ⟨#[]⟩,.int .i64 0,.bool false,.int .i64 0,.int .i64 0,.int .i64 0])]) (blocking:=false) (shape:=.select) (w':=w.alloc (.cells #[.int .i64 0,.int .i64 0,.slice none 0 0,.string ⟨#[]⟩,.int .i64 0,.bool false,.int .i64 0,.int .i64 0,.int .i64 0] 79)) rfl rfl (by decide) (by simp[go_sem,execOp,rcase])) hc2 hsz) ?_
 have hne:w.heap.size≠c:=fun e=>by have:=(Array.getElem?_eq_some_iff.1 hc).1;omega
 have hB:aB ((w.alloc (.cells #[.int .i64 0,.int .i64 0,.slice none 0 0,.string ⟨#[]⟩,.int .i64 0,.bool false,.int .i64 0,.int .i64 0,.int .i64 0] 79)).setChan c cap (buf.extract 1 buf.size) false s (r+1) false) w.heap.size 79 #[.int .i64 0,.int .i64 0,.slice none 0 0,.string ⟨#[]⟩,.int .i64 0,.bool false,.int .i64 0,.int .i64 0,.int .i64 0]:=by
  unfold aB World.setChan;simp only[Array.getElem?_setIfInBounds_ne (Ne.symm hne)];exact aB.new w 79 _
 have hN:Ch (· =c) w ((w.alloc (.cells #[.int .i64 0,.int .i64 0,.slice none 0 0,.string ⟨#[]⟩,.int .i64 0,.bool false,.int .i64 0,.int .i64 0,.int .i64 0] 79)).setChan c cap (buf.extract 1 buf.size) false s (r+1) false):=((Ch.refl (· =c) w).alloc _).vS (fun _=>rfl) _ _ _ _ _ _;have hC:((w.alloc (.cells #[.int .i64 0,.int .i64 0,.slice none 0 0,.string ⟨#[]⟩,.int .i64 0,.bool false,.int .i64 0,.int .i64 0,.int .i64 0] 79)).setChan c cap (buf.extract 1 buf.size) false s (r+1) false).heap[c]?=some (.chan cap (buf.extract 1 buf.size) false s (r+1) false):=heap_setChan _ _ _ _ _ _ _ _ (by have:=(Array.getElem?_eq_some_iff.1 hc).1;simp;omega);rw[Frame.finish_at,hg];generalize (w.alloc (.cells #[.int .i64 0,.int .i64 0,.slice none 0 0,.string ⟨#[]⟩,.int .i64 0,.bool false,.int .i64 0,.int .i64 0,.int .i64 0] 79)).setChan c cap (buf.extract 1 buf.size) false s (r+1) false=W2 at *;have f0:=hB.frozen;have k0:=hB.cell 0;have k1:=hB.cell 1;have k2:=hB.cell 2;have k3:=hB.cell 3;have k4:=hB.cell 4;have k5:=hB.cell 5;have k6:=hB.cell 6;have k7:=hB.cell 7;have k8:=hB.cell 8;simp at k0 k1 k2 k3 k4 k5 k6 k7 k8;unfold aK;walk_nrm
 refine LoneTo.goes (n:=30) ?_;s_op
 s_op
 s_c stepG_region_end
 s_c stepG_block
 s_cond true
 s_c stepG_seq
 s_reg
 s_op
 s_op
 s_c stepG_region_end
 s_c stepG_seq
 obtain ⟨W3,hW⟩:∃W3,W3=dF W2 w.heap.size 0 (RV.cs x):=⟨_,rfl⟩;have b3:aB W3 w.heap.size 79 x.cs.toArray:=by rw[hW];exact Vw hB _ rfl
 have hch:Ch (fun k=>k=w.heap.size) W2 W3:=by rw[hW];exact ND _ _ _
 simp only[RV.cs,dF]at hW;rw[←hW];have hC3:=(hch.block c (by have:=(Array.getElem?_eq_some_iff.1 hC).1;exact this) (fun e=>hne e.symm)).trans hC;have hN3:Ch (· =c) w W3:=hN.trans hch fun i hi e=>by omega
 clear hW hch hN hC hB f0 k0 k1 k2 k3 k4 k5 k6 k7 k8;have f0:=b3.frozen;have k0:W3.cell? ⟨w.heap.size,0,none⟩=_:=b3.cell 0;have k1:W3.cell? ⟨w.heap.size,1,none⟩=_:=b3.cell 1;have k2:W3.cell? ⟨w.heap.size,2,none⟩=_:=b3.cell 2;have k3:W3.cell? ⟨w.heap.size,3,none⟩=_:=b3.cell 3;have k4:W3.cell? ⟨w.heap.size,4,none⟩=_:=b3.cell 4;have k5:W3.cell? ⟨w.heap.size,5,none⟩=_:=b3.cell 5;have k6:W3.cell? ⟨w.heap.size,6,none⟩=_:=b3.cell 6;have k7:W3.cell? ⟨w.heap.size,7,none⟩=_:=b3.cell 7;have k8:W3.cell? ⟨w.heap.size,8,none⟩=_:=b3.cell 8;simp[RV.cs]at k0 k1 k2 k3 k4 k5 k6 k7 k8;s_reg
 s_op
 s_op
 obtain ⟨W4,hW⟩:∃W4,W4=dF W3 w.heap.size 0 (RV.cs x):=⟨_,rfl⟩;have b4:aB W4 w.heap.size 79 x.cs.toArray:=by rw[hW];exact Vw b3 _ rfl
 have hch:Ch (fun k=>k=w.heap.size) W3 W4:=by rw[hW];exact ND _ _ _
 simp only[RV.cs,dF]at hW;rw[←hW];have hC4:=(hch.block c (by have:=(Array.getElem?_eq_some_iff.1 hC3).1;exact this) (fun e=>hne e.symm)).trans hC3;have hN4:Ch (· =c) w W4:=hN3.trans hch fun i hi e=>by omega
 clear hW hch hN3 hC3 b3 f0 k0 k1 k2 k3 k4 k5 k6 k7 k8;have d:=b4.cell;s_op
 s_c stepG_region_end
 s_c stepG_ret'
 s_stop
 exact LoneTo.done ⟨.returned (.tuple #[aK x,.bool true]),_,rfl,⟨rfl,hN4,hC4⟩,rfl,rfl,rfl,rfl,_,Tryz.func82,by simp[results,Tryz.f82,Frame.at,go_sem,aK,d,RV.cs]⟩
end Go.Proofs.YtdbfejfhpkakhaaGreat
