/- Contracts and plain laws that the last text rests on. Conditions: each theorem states its own. -/
import Derived.Test.YtdbfejfhpkakhaaGreatKKd2Q9
import Derived.Test.YtdbfejfhpkakhaaGreatKKd2Q10
import Derived.Conc.LoneSelectN
import Derived.Maps.RangeWalk
import Derived.Deep.CutBlock
import Derived.Deep.DeepCutAuto
import Derived.Deep.RegionHeld
set_option maxRecDepth 100000
set_option maxHeartbeats 16000000
set_option linter.unusedVariables false
set_option linter.unusedSimpArgs false
namespace Go.Proofs.YtdbfejfhpkakhaaGreat
open Go.RowKit Go.Conc
theorem Mc (b c cap:Nat) (l:List RV) (s r:Nat) (w:World) (h0:w.cell? ⟨b,0,none⟩=some (.chan (some c))) (hc:w.heap[c]?=some (.chan cap (l.map aK).toArray false s r false)):
 Calls Tryz.prog 82 #[.pointer (some ⟨b,0,none⟩)] w fun e w'=>e=.returned (.tuple #[aK (l.headD VG),.bool (!l.isEmpty)])/\Ch (· =c) w w'/\∃s r,w'.heap[c]?=some (.chan cap (l.tail.map aK).toArray false s r false):=by
 cases l with
 |nil=>
  refine (Ij b c cap s r w h0 hc).mono ?_;rintro e w' ⟨rfl,n,h⟩;exact ⟨rfl,n.mono fun _ _ hf=>hf.elim,s,r,h⟩
 |cons x l=>
  refine (Ii b c cap _ s r x w h0 hc rfl).mono ?_;rintro e w' ⟨rfl,n,h⟩;refine ⟨rfl,n,s,r+1,?_⟩;rw[h];congr 2
  simp
  exact List.take_of_length_le (by simp)
theorem Qp (b c cap:Nat) (buf:Array Value) (s r:Nat) (w:World) (h0:w.cell? ⟨b,0,none⟩=some (.chan (some c))) (hc:w.heap[c]?=some (.chan cap buf false s r false)):
 Calls Tryz.prog 48 #[.pointer (some ⟨b,0,none⟩)] w fun e w'=>e=.returned (.int .i64 (buf.size:Int))/\w=w':=by
 have hl:=fun ty=>run_len_chan (P:=Tryz.prog) 114 ty Tryz.underlying114 hc;clear hc;go_enter Tryz.func48,Tryz.ntmps48;go_wp2_with fail;go_ret;exact ⟨rfl,rfl⟩
theorem Me (b:Nat) (w:World) (h0:w.cell? ⟨b,0,none⟩=some (.chan none)):
 Calls Tryz.prog 48 #[.pointer (some ⟨b,0,none⟩)] w fun e w'=>e=.returned (.int .i64 0)/\w=w':=by
 have hl:∀ty,(Builtin.len_ #[114] ty #[.chan none]).run Tryz.prog w=.ok (goInt 0) w:=fun ty=>by
  simp[Builtin.len_,run_underlying Tryz.underlying114]
 go_enter Tryz.func48,Tryz.ntmps48;go_wp2_with fail;go_ret;exact ⟨rfl,rfl⟩
def lenV (v:Value):Nat:=match v with| .slice _ n _=>n|_=>0
def DrI (zs done:List RV) (x:RV) (l:List RV) (ok:Bool):Prop:=(ok=true/\done++x::l=zs)∨(ok=false/\done=zs/\l=[])
structure DrM (w wr:World) (c cap:Nat) (v:Value) (g:Nat) (done:List RV) (x:RV) (l:List RV):Prop where
 own:wr.ownsRow w.heap.size 79 9 v done.length (bM done)
 blk:aG wr g 79 x.cs.toArray
 ge:w.heap.size<=g
 apart:v.ownBlock≠some g
 ch:Ch (· =c) w wr
 chan:∃s r,wr.heap[c]?=some (.chan cap (l.map aK).toArray false s r false)
theorem Ik (b c cap:Nat) (zs:List RV) (s r:Nat) (w:World) (h0:w.cell? ⟨b,0,none⟩=some (.chan (some c))) (hc:w.heap[c]?=some (.chan cap (zs.map aK).toArray false s r false)) (hn:zs.length<=1000000):
 Calls Tryz.prog 59 #[.pointer (some ⟨b,0,none⟩)] w fun e w'=>∃v,e=.returned v/\w'.ownsRow w.heap.size 79 9 v zs.length (bM zs)/\Ch (· =c) w w'/\∃s r,w'.heap[c]?=some (.chan cap #[] false s r false):=by
 obtain ⟨i0,hi0,hz0,hz1,hz2⟩:=info_parts Tryz.fZ;have hbl:=World.block_lt_of_cell? w _ h0;have hcl:c<w.heap.size:=(Array.getElem?_eq_some_iff.1 hc).1
 have hbc:b≠c:=by
  rintro rfl;unfold World.cell? at h0;simp[hc]at h0
 have HT:=ah (fun w' (l:List RV) (n:Ch (· =c) w w') s r (hc':w'.heap[c]?=some (.chan cap (l.map aK).toArray false s r false))=>Mc b c cap l s r w' (by rw[n.cell hbl (by exact hbc)];exact h0) hc');have HC:=ah hc;clear hc;obtain ⟨n,hzn⟩:∃n,zs.length=n:=⟨_,rfl⟩;have HZN:=ah hzn;rw[hzn]at hn ⊢;clear hzn;go_enter Tryz.func59,Tryz.ntmps59;go_wp2_with fail;refine (HT.out w zs (Ch.refl _ _) s r HC.out).mono ?_;rintro e w1 ⟨rfl,c1,s1,r1,hc1⟩
 have hi0':DrI zs [] (zs.headD VG) zs.tail (!zs.isEmpty):=by
  cases zs with
  |nil=>exact .inr ⟨rfl,rfl,rfl⟩
  |cons x l=>exact .inl ⟨rfl,rfl⟩
 have HI0:=ah hi0';have C1:=ah c1;have HC1:=ah (⟨s1,r1,hc1⟩:∃s r,w1.heap[c]?=some (.chan cap (zs.tail.map aK).toArray false s r false));clear hi0' c1 hc1 HC;generalize zs.headD VG=x0 at *;generalize zs.tail=l0 at *;generalize (!zs.isEmpty)=q0 at *;have B1:=ah (aG.new w1 79 x0.cs.toArray);have C2:=ah (C1.out.alloc (.cells x0.cs.toArray 79));obtain ⟨⟨kind,time,ak,text,value,null,maker,seq,place⟩,A1,cc1⟩:=x0;unfold aK;unfold RV.cs at B1 C2;simp only at B1 C2 ⊢;go_wp2_with fail;go_loopw [3,4,5] (fun v p ok wr=>∃(g:Nat) (done:List RV) (x:RV) (l:List RV) (q:Bool),p=.pointer (some ⟨g,0,none⟩)/\ok=.bool q/\Hid (DrI zs done x l q)/\Hid (DrM w wr c cap v g done x l)) (fun v _ _ _=>n-lenV v)
 case atStart=>exact ⟨_,[],_,l0,q0,rfl,rfl,HI0,ah ⟨World.ownsRow_nil _ _ _ _,B1.out,C1.out.size,by simp[Value.ownBlock],C2.out,by
  obtain ⟨s,r,h⟩:=HC1.out;exact ⟨s,r,(Below.heap_alloc _ _ c (by have:=C1.out.size;omega)).trans h⟩⟩⟩
 case round=>
  obtain ⟨w4,rfl⟩:∃w4:World,w4=wr:=⟨_,rfl⟩;obtain ⟨g,done,x,l,q,rfl,rfl,HI,HM⟩:=hrel;cases q
  ·have hdl:done=zs/\l=[]:=by
    rcases HI.out with ⟨h,_⟩|⟨_,h1,h2⟩
    ·cases h
    ·exact ⟨h1,h2⟩
   have HO:Hid (w4.ownsRow w.heap.size 79 9 u3 n (bM zs)):=ah (by have:=HM.out.own;rw[hdl.1,HZN.out]at this;exact this);have HE:Hid (∃s r,w4.heap[c]?=some (.chan cap #[] false s r false)):=ah (by have:=HM.out.chan;rw[hdl.2]at this;exact this);clear hdl;go_wp2_with fail;go_ret;exact ⟨_,rfl,HO.out,HM.out.ch,HE.out⟩
  ·have hz:done++x::l=zs:=by
    rcases HI.out with ⟨_,h⟩|⟨h,_⟩
    ·exact h
    ·cases h
   have HZ:=ah hz;have hdn:done.length<n:=by rw[←HZN.out,←hz];simp
   clear hz HI;have hb:=HM.out.blk;unfold RV.cs at hb;obtain ⟨A3,c3,hv3,hc31,hc32⟩:=h_ HM.out.own;have QT:=ah HM.out.ch;have hge:=HM.out.ge;have HL9:=ah (Rd.wW w4 x);have HOW:=ah HM.out.own;have HB:=ah HM.out.blk;have HAP:=ah HM.out.apart;have IJ:=ah HM.out.chan;clear HM;obtain ⟨⟨kind,time,ak,text,value,null,maker,seq,place⟩,A1,cc1⟩:=x;simp only at hb HL9;have p0:w4.cell? ⟨g,0,none⟩=some (.int .i64 kind):=hb.cell 0;have p1:w4.cell? ⟨g,1,none⟩=some (.int .i64 time):=hb.cell 1;have p2:w4.cell? ⟨g,2,none⟩=some (.slice A1 ak.length cc1):=hb.cell 2;have p3:w4.cell? ⟨g,3,none⟩=some (.string text):=hb.cell 3;have p4:w4.cell? ⟨g,4,none⟩=some (.int .i64 value):=hb.cell 4;have p5:w4.cell? ⟨g,5,none⟩=some (.bool null):=hb.cell 5;have p6:w4.cell? ⟨g,6,none⟩=some (.int .i64 maker):=hb.cell 6;have p7:w4.cell? ⟨g,7,none⟩=some (.int .i64 seq):=hb.cell 7;have p8:w4.cell? ⟨g,8,none⟩=some (.int .i64 place):=hb.cell 8;have hs4:=QT.out.size;clear hb;go_wp2_with (at_builtin;refine z04 _ rfl (.tmp 17) (.tmp 19) _ rfl w.heap.size 79 i0 _ 9 96 Tryz.underlying34 hi0 hz0 hz1 hz2 rfl (by omega) u3 done.length (bM done) rfl (z06 HOW.out ((Ch.refl (fun _=>False) w4).alloc _) (fun _ _ hf=>hf)) _ (some ⟨w4.heap.size,0,none⟩) 1 1 _ rfl HL9.out (IY _) (by simp only[maxLen];omega) (by omega) (by simp;omega) ?_;intro v7 w7 dn gr7 at7;have O7:=ah dn;have G7:=ah gr7;have A7:=ah at7;have b7:=(HB.out.alloc (.cells #[.int .i64 kind,.int .i64 time,.slice A1 ak.length cc1,.string text,.int .i64 value,.bool null,.int .i64 maker,.int .i64 seq,.int .i64 place] 79)).grown gr7 (fun e=>HAP.out e.symm);clear dn gr7 at7 p0 p1 p2 p3 p4 p5 p6 p7 p8;have p0:w7.cell? ⟨g,0,none⟩=some (.int .i64 kind):=b7.cell 0;have p1:w7.cell? ⟨g,1,none⟩=some (.int .i64 time):=b7.cell 1;have p2:w7.cell? ⟨g,2,none⟩=some (.slice A1 ak.length cc1):=b7.cell 2;have p3:w7.cell? ⟨g,3,none⟩=some (.string text):=b7.cell 3;have p4:w7.cell? ⟨g,4,none⟩=some (.int .i64 value):=b7.cell 4;have p5:w7.cell? ⟨g,5,none⟩=some (.bool null):=b7.cell 5;have p6:w7.cell? ⟨g,6,none⟩=some (.int .i64 maker):=b7.cell 6;have p7:w7.cell? ⟨g,7,none⟩=some (.int .i64 seq):=b7.cell 7;have p8:w7.cell? ⟨g,8,none⟩=some (.int .i64 place):=b7.cell 8;clear b7)
   have C7:Hid (Ch (· =c) w w7):=ah ((QT.out.alloc _).grown G7.out fun k hk hkw=>by
    have:=(World.ownsRow.lt HOW.out k (hv3▸hk)).1;omega)
   have C8:=ah (C7.out.alloc (.cells #[.int .i64 kind,.int .i64 time,.slice A1 ak.length cc1,.string text,.int .i64 value,.bool null,.int .i64 maker,.int .i64 seq,.int .i64 place] 79));have B8:=ah (aG.new w7 79 #[.int .i64 kind,.int .i64 time,.slice A1 ak.length cc1,.string text,.int .i64 value,.bool null,.int .i64 maker,.int .i64 seq,.int .i64 place]);have hs7:=C7.out.size;obtain ⟨s7,r7,hc7⟩:=IJ.out
   have HC7:Hid (w7.heap[c]?=some (.chan cap (l.map aK).toArray false s7 r7 false)):=ah (by
    refine (G7.out.block c (by simp;omega) (fun e=>?_)).trans ((Below.heap_alloc _ _ c (by omega)).trans hc7);have:=(World.ownsRow.lt HOW.out c (hv3▸e.symm)).1;omega)
   have HC8:=ah ((Below.heap_alloc w7 (.cells #[.int .i64 kind,.int .i64 time,.slice A1 ak.length cc1,.string text,.int .i64 value,.bool null,.int .i64 maker,.int .i64 seq,.int .i64 place] 79) c (by omega)).trans HC7.out);clear hc7 p0 p1 p2 p3 p4 p5 p6 p7 p8 HL9 IJ
   have HO7:=ah (show w7.ownsRow w.heap.size 79 9 v7 (done++[(⟨⟨kind,time,ak,text,value,null,maker,seq,place⟩,A1,cc1⟩:RV)]).length (bM (done++[(⟨⟨kind,time,ak,text,value,null,maker,seq,place⟩,A1,cc1⟩:RV)])) from by
    rw[List.length_append,show bM (done++[(⟨⟨kind,time,ak,text,value,null,maker,seq,place⟩,A1,cc1⟩:RV)])=bM done++bM [(⟨⟨kind,time,ak,text,value,null,maker,seq,place⟩,A1,cc1⟩:RV)] by simp[bM]];exact O7.out)
   have HD2:=ah (show DrI zs (done++[(⟨⟨kind,time,ak,text,value,null,maker,seq,place⟩,A1,cc1⟩:RV)]) (l.headD VG) l.tail (!l.isEmpty) from by
    have:=HZ.out;cases l with
    |nil=>exact .inr ⟨rfl,this,rfl⟩
    |cons y l2=>exact .inl ⟨rfl,by rw[List.append_assoc];exact this⟩)
   have hl7:lenV v7=done.length+1:=by
    obtain ⟨_,_,hv,_⟩:=h_ O7.out;rw[hv];simp[lenV]
   have HL7:=ah hl7;have EK:=ah (fun k (hk:v7.ownBlock=some k)=>(World.ownsRow.lt O7.out k hk).2);clear O7 A7 HZ hl7;generalize done++[(⟨⟨kind,time,ak,text,value,null,maker,seq,place⟩,A1,cc1⟩:RV)]=done2 at *;refine (HT.out _ l C8.out s7 r7 HC8.out).mono ?_;rintro e w9 ⟨rfl,c9,hc9⟩;have HC9:=ah hc9;have b9:=B8.out.ch c9 (show ¬w7.heap.size=c by omega);have B9:=ah b9;have C9:=ah (C8.out.trans c9 fun _ _ h=>h);have N79:=ah (((Ch.refl (· =c) w7).alloc (.cells #[.int .i64 kind,.int .i64 time,.slice A1 ak.length cc1,.string text,.int .i64 value,.bool null,.int .i64 maker,.int .i64 seq,.int .i64 place] 79)).trans c9 fun _ _ h=>h);have f9:=b9.frozen;have d9:=b9.cell;clear hc9 c9 b9;generalize l.headD VG=y at *;generalize l.tail=l2 at *;generalize (!l.isEmpty)=q2 at *;obtain ⟨⟨kind2,aU,bJ,bH,value2,bI,aP,seq2,aO⟩,A12,cc12⟩:=y;unfold aK;simp only;go_wp2_with fail;obtain ⟨w10,hW⟩:∃w10,w10=dI w9 w7.heap.size 0 (RV.cs ⟨⟨kind2,aU,bJ,bH,value2,bI,aP,seq2,aO⟩,A12,cc12⟩):=⟨_,rfl⟩;have b10:aG w10 w7.heap.size 79 (RV.cs ⟨⟨kind2,aU,bJ,bH,value2,bI,aP,seq2,aO⟩,A12,cc12⟩).toArray:=by rw[hW];exact VN B9.out _ rfl
   have hch:Ch (fun k=>k=w7.heap.size) w9 w10:=by rw[hW];exact NT _ _ _
   have HO10:=ah (z06 (z06 HO7.out N79.out fun k hk e=>by have:=(World.ownsRow.lt HO7.out k hk).1;omega) hch fun k hk e=>by have:=EK.out k hk;omega);have C10:=ah (C9.out.trans hch fun i hi e=>by omega)
   have HC10:Hid (∃s r,w10.heap[c]?=some (.chan cap (l2.map aK).toArray false s r false)):=ah (by
    obtain ⟨s,r,h⟩:=HC9.out;exact ⟨s,r,(hch.block c (Array.getElem?_eq_some_iff.1 h).1 (by omega)).trans h⟩)
   have B10:=ah b10;simp only[RV.cs,dI]at hW;rw[←hW];clear hW f9 d9 b10 hch;go_roundw
   case rel=>exact ⟨_,done2,_,l2,q2,rfl,rfl,HD2,ah ⟨HO10.out,B10.out,by omega,fun e=>by have:=EK.out _ e;omega,C10.out,HC10.out⟩⟩
   case measure=>
    rw[HL7.out,hv3];simp[lenV];omega
end Go.Proofs.YtdbfejfhpkakhaaGreat
namespace Go.Proofs.YtdbfejfhpkakhaaGreat
open Go.RowKit
theorem Md (b c cap:Nat) (l:List RV) (s r:Nat) (x:RV) (w:World) (h0:w.cell? ⟨b,0,none⟩=some (.chan (some c))) (hc:w.heap[c]?=some (.chan cap (l.map aK).toArray false s r false)) (hroom:l.length<cap):
 Calls Tryz.prog 49 #[.pointer (some ⟨b,0,none⟩),aK x] w fun e w'=>e=.returned (.bool true)/\Ch (· =c) w w'/\w'.heap[c]?=some (.chan cap ((l++[x]).map aK).toArray false (s+1) r false):=by
 have hcl:=(Array.getElem?_eq_some_iff.1 hc).1;refine (Qo b c cap _ s r x w h0 hc (by simpa using hroom)).mono ?_;rintro e w' ⟨rfl,rfl⟩;refine ⟨rfl,((Ch.refl (· =c) w).alloc _).vZ (fun _=>rfl) _ _ _ _ _ _,?_⟩;rw[Go.Conc.heap_setChan _ _ _ _ _ _ _ _ (by simp;omega)];simp
section
variable {w w' w1 w2 : World} {b room m n : Nat} {ch : ByteArray → Option Nat} {R : ByteArray → List RV}
theorem bC.look {ξ:Nat} (h:bC ξ w b room m n ch R) {s:ByteArray} (hs:fC s):
 (Instr.lookup 102 (.map (some m)) (.string s) true).run Tryz.prog w=.ok (.tuple #[.agg #[.chan (ch s)],.bool (ch s).isSome]) w/\
   (Instr.lookup 102 (.map (some m)) (.string s) false).run Tryz.prog w=.ok (.agg #[.chan (ch s)]) w:=by
 obtain ⟨h1,h2⟩:=h.map.look Tryz.underlying102 (IX w) hs;cases hc:ch s with
 |none=>rw[hc]at h1 h2;exact ⟨h1,h2⟩
 |some c=>rw[hc]at h1 h2;exact ⟨h1,h2⟩
theorem bC.len {ξ:Nat} (h:bC ξ w b room m n ch R) (s:ByteArray) (g:Nat) (hg:w.cell? ⟨g,0,none⟩=some (.chan (ch s))):
 Calls Tryz.prog 48 #[.pointer (some ⟨g,0,none⟩)] w fun e w'=>e=.returned (.int .i64 ((R s).length:Int))/\w=w':=by
 cases hc:ch s with
 |none=>
  rw[hc]at hg;rw[h.non s hc];exact Me g w hg
 |some c=>
  rw[hc]at hg;obtain ⟨p,q,e⟩:=h.box s c hc;have:=Qp g c room _ p q w hg e;simpa using this
theorem bC.put {ξ:Nat} (h:bC ξ w b room m n ch R) {s:ByteArray} {c:Nat} {x:RV} (hc:ch s=some c) (C:Ch (· =c) w w') {p q:Nat} (h2:w'.heap[c]?=some (.chan room ((R s++[x]).map aK).toArray false p q false)) (hf:(R s).length+1<=room):
 bC ξ w' b room m n ch (fun t=>if t=s then R s++[x] else R t) where
 blk:=h.blk.ch C (fun e=>(h.jC hc).2 e.symm)
 map:=h.map.ch C (fun e=>(h.jC hc).1 e.symm)
 box:=fun t k hk=>by
  by_cases e:t=s
  ·subst e
   rw[hc]at hk;injection hk with hk;subst hk;exact ⟨p,q,by rw[if_pos rfl];exact h2⟩
  ·obtain ⟨p',q',e'⟩:=h.box t k hk
   exact ⟨p',q',by rw[if_neg e];exact (C.block k (h.iQ hk) (fun e2=>e (h.inj t s c (by rw[hk,e2]) hc))).trans e'⟩
 non:=fun t ht=>by
  have:t≠s:=by rintro rfl;rw[hc]at ht;cases ht
  try dsimp only
  rw[if_neg this];exact h.non t ht
 inj:=h.inj
 few:=fun t=>by
  try dsimp only
  split
  ·rw[List.length_append];exact hf
  ·exact h.few t
 Kt:=h.Kt
 ND:=h.ND
theorem bC.add {ξ:Nat} (h:bC ξ w1 b room m n ch R) {s:ByteArray} {c:Nat} (hno:ch s=none) {p q:Nat} (hc:w1.heap[c]?=some (.chan room #[] false p q false)) (hnew:∀t,ch t≠some c) (hge:ξ<=c) (C:Ch (· =m) w1 w2)
 (hm:dY w2 m (n+1) (fun x=>if x=s then some (.agg #[.chan (some c)]) else (ch x).map fun c=>.agg #[.chan (some c)])):bC ξ w2 b room m (n+1) (fun x=>if x=s then some c else ch x) R where
 blk:=h.blk.ch C (fun e=>h.TT e.symm)
 map:=hm.congr fun x _=>by
  by_cases e:x=s
  ·simp[e]
  ·simp[e]
 box:=fun t k hk=>by
  try dsimp only at hk
  by_cases e:t=s
  ·subst e
   rw[if_pos rfl]at hk;injection hk with hk;subst hk;refine ⟨p,q,?_⟩;rw[h.non t hno];refine (C.block c (Array.getElem?_eq_some_iff.1 hc).1 (fun e=>?_)).trans hc;subst e;obtain ⟨D,⟨es,clock,hb,_⟩,_⟩:=h.map;rw[hb]at hc;cases hc
  ·rw[if_neg e]at hk
   obtain ⟨p',q',e'⟩:=h.box t k hk;exact ⟨p',q',(C.block k (h.iQ hk) (fun e2=>(h.jC hk).1 e2)).trans e'⟩
 non:=fun t ht=>by
  try dsimp only at ht
  by_cases e:t=s
  ·rw[if_pos e]at ht;cases ht
  ·rw[if_neg e]at ht;exact h.non t ht
 inj:=fun t u k h1 h2=>by
  try dsimp only at h1 h2
  by_cases e:t=s<;>by_cases e2:u=s
  ·rw[e,e2]
  ·rw[if_pos e]at h1
   rw[if_neg e2]at h2;injection h1 with h1;subst h1;exact absurd h2 (hnew u)
  ·rw[if_neg e]at h1
   rw[if_pos e2]at h2;injection h2 with h2;subst h2;exact absurd h1 (hnew t)
  ·rw[if_neg e]at h1
   rw[if_neg e2]at h2;exact h.inj t u k h1 h2
 few:=h.few
 Kt:=h.Kt
 ND:=fun t k hk=>by
  try dsimp only at hk
  by_cases e:t=s
  ·rw[if_pos e]at hk
   injection hk with hk;subst hk;exact hge
  ·rw[if_neg e]at hk
   exact h.ND t k hk
end
theorem z3Q {w:World} {p:Addr} {v:Value} (h:w.cell? p=some v):VD w p.block:=by
 unfold World.cell? at h;split at h
 ·next cs t z e=>exact ⟨cs,t,z,e⟩
 all_goals first|cases h|(simp at h;done)|skip
theorem Rd.nc {ξ:Nat} {w w':World} {D:Nat->Prop} {size n:Nat} {A:Option Addr} {xs:List Value} (h:Rd w D size A n xs) (hs:0<size) (hc:Ch (NC ξ w) w w'):Rd w' D size A n xs:=
 ⟨h.1,fun hn=>by
   obtain ⟨ad,e,hb,hc'⟩:=h.2 hn;refine ⟨ad,e,hb,fun j u hu=>?_⟩;have h1:=hc' j u hu;have h2:=z3Q h1;exact (World.cell?_of_block (hc.block _ (World.block_lt_of_cell? w _ h1) (fun hx=>hx.2 h2))).trans h1⟩
def VF (ξ:Nat) (w:World) (b room m n:Nat) (R:ByteArray->List RV) (ks:List (ByteArray×RV)) (e:Ending) (w':World):Prop:=
 ∃(q:Bool) (n':Nat) (ch':ByteArray->Option Nat),e=.returned (.bool q)/\(q=true↔∀s,fC s->dP ks s+(R s).length<=room)/\n'<=n+ks.length/\
  bC ξ w' b room m n' ch' (fun s=>if q=true then R s++fK ks s else R s)/\Ch (NC ξ w) w w'
theorem AX {ks:List (ByteArray×RV)} {s:ByteArray} {v:Value} (h:gu ks s=some v):v=.int .i64 (dP ks s:Int):=by
 unfold gu at h;split at h
 ·cases h
 ·injection h with h
  exact h.symm
theorem AZ {ks:List (ByteArray×RV)} {s:ByteArray} (h:(gu ks s).isSome=false):dP ks s=0:=by
 unfold gu at h;split at h
 ·next e=>exact e
 ·cases h
def VB (ks:List (ByteArray×RV)) (R:ByteArray->List RV) (room:Nat) (left:ByteArray->Bool):Prop:=∀s,fC s->left s=false->dP ks s+(R s).length<=room
theorem nP (w:World) (r:Nat):Nx w (jJ w r)/\aG (jJ w r) (w.heap.size+1) 116 #[.chan (some w.heap.size)]/\(jJ w r).heap[w.heap.size]?=some (.chan r #[] false 0 0 false):=by
 unfold jJ;refine ⟨((Ch.refl _ w).alloc _).alloc _,?_,?_⟩
 ·have:=aG.new (w.alloc (.chan r #[] false 0 0 false)) 116 #[.chan (some w.heap.size)]
  simpa using this
 ·rw[Below.heap_alloc _ _ _ (by simp)]
  exact heap_alloc_new w _
theorem QD {ξ:Nat} {w:World} {D:Nat->Prop} {b room m n:Nat} {ch:ByteArray->Option Nat} {R:ByteArray->List RV} (h:bC ξ w b room m n ch R) (A:Option Addr) (c N:Nat) (ks:List (ByteArray×RV)) (hr:Rd w D 10 A N (DW ks)) (hl:ks.length=N) (hN:N<=1000000)
 (hk:∀x∈ks,fC x.1) (hr1:1<=room) (hr2:room<=2048) (hn:n<=1000000000000):
 Calls Tryz.prog 28 #[.pointer (some ⟨b,0,none⟩),.slice A N c] w (VF ξ w b room m n R ks):=by
 have H:=ah hr;have jM:=ah h;have HK:=ah hk;have Hl:=ah hl;have hbl:=h.blk.lt;have HM0:=ah (dY.made w);have hmm:= @run_makeMap Tryz.prog;clear hr h hk hl;go_enter Tryz.func28,Tryz.ntmps28;go_wp2_with fail;have N0:=ah ((Ch.refl (fun _=>False) w).alloc (.map #[] 0));go_loopw [23] (fun i wr=>∃k n1:Nat,k<=N/\n1<=k/\i=.int .i64 (k:Int)/\Hid (dY wr w.heap.size n1 (gu (ks.take k)))/\Hid (Nx w wr)) (fun i _=>N-(intOf i).toNat)
 case atStart=>exact ⟨0,0,Nat.zero_le _,Nat.zero_le _,rfl,ah (HM0.out.congr fun s _=>rfl),N0⟩
 case round=>
  obtain ⟨w4,rfl⟩:∃w4:World,w4=wr:=⟨_,rfl⟩;obtain ⟨k,n1,hkn,hn1,rfl,HM,N4⟩:=hrel;by_cases hlt:k<N
  ·have hkl:k<ks.length:=by rw[Hl.out];exact hlt
   obtain ⟨ad,rfl,hb,p0,pr⟩:=RJ (H.out.nx (by decide) N4.out) hkl;have hok:=HK.out _ (List.getElem_mem hkl);have HF:=ah (AY hkl);have hcl:=Nat.le_trans (z2Y ks k ks[k].1) (Em ks ks[k].1);rw[Hl.out]at hcl;have p1:=pr 0 _ rfl;have p2:=pr 1 _ rfl;have p3:=pr 2 _ rfl;have p4:=pr 3 _ rfl;have p5:=pr 4 _ rfl;have p6:=pr 5 _ rfl;have p7:=pr 6 _ rfl;have p8:=pr 7 _ rfl;have p9:=pr 8 _ rfl;have HG:=ah (Gq (ks.take k) ks[k].1);clear hb pr;generalize ks[k]=x at *;obtain ⟨ky,⟨⟨kind,time,ak,text,value,null,maker,seq,place⟩,A1,c1⟩⟩:=x;simp only at p0 p1 p2 p3 p4 p5 p6 p7 p8 p9 hok HF hcl HG;have N5:=ah ((Ch.refl (fun _=>False) w4).alloc (.cells #[.string ky,.int .i64 kind,.int .i64 time,.slice A1 ak.length c1,.string text,.int .i64 value,.bool null,.int .i64 maker,.int .i64 seq,.int .i64 place] 113));have hlk:=((HM.out.nx N5.out).look Tryz.underlying111 (ER _) hok).2;rw[HG.out]at hlk;obtain ⟨w6,hup,HM6, -,C6⟩:=(HM.out.nx N5.out).put (by simp only[maxLen];omega) Tryz.underlying111 hok (.int .i64 ((dP (ks.take k) ky:Nat)+1:Int));rw[HF.out]at HM6;have HM7:=ah HM6;have C46:Ch (· =w.heap.size) w4 w6:=(N5.out.mono fun _ _ hf=>hf.elim).trans C6 fun _ _ h=>h;have N7:=ah (N4.out.trans C46 fun i hi e=>by have e2:i=w.heap.size:=e;omega);clear C46;clear HM6 C6 HG HF;generalize dP (ks.take k) ky=t at *;go_wp2_with fail;go_roundw
   case rel=>exact ⟨k+1,n1+1,by omega,by omega,by go_num,HM7,N7⟩
   case measure=>simp[intOf];omega
  ·have HM4:=ah (show dY w4 w.heap.size n1 (gu ks) from by have:=HM.out;rw[List.take_of_length_le (by have:=Hl.out;omega)]at this;exact this)
   clear HM;go_wp2_with (at_range;refine z2o _ rfl _ _ rfl Tryz.underlying111 rfl HM4.out ?_;intro w5 cnt hmr hgr hsz hcn;have zq:=ah hmr;have N5:=ah (N4.out.trans (Ch.grown (Ch.refl (fun _=>False) w4) hgr (fun k hk _=>by cases hk)) fun _ _ hf=>hf);clear hmr hgr)
   have HF0:Hid (VB ks R room (fun s=>decide (fC s)&&(gu ks s).isSome)):=ah (fun s hs hf=>by
    dsimp only at hf
    rw[decide_eq_true hs,Bool.true_and]at hf;rw[AZ hf,Nat.zero_add];exact jM.out.few s)
   have HNS:=ah N4.out.size;obtain ⟨r,hr⟩:∃r,w4.heap.size=r:=⟨_,rfl⟩;rw[hr]at zq HNS;simp only[hr];generalize (fun s=>decide (fC s)&&(gu ks s).isSome)=left0 at *;clear HM4 hr hsz HM0 N0;go_frame
   go_loopw [] (fun wr=>∃(cnt:Nat) (left:ByteArray->Bool),Hid (iD wr w.heap.size r n1 (gu ks) left cnt)/\Hid (Nx w wr)/\Hid (VB ks R room left)) (fun wr=>wr.rangeLeft w.heap.size r)
   case atStart=>exact ⟨cnt,left0,zq,N5,HF0⟩
   case round=>
    clear zq N5 HF0 N4;obtain ⟨w6,rfl⟩:∃w6:World,w6=wr:=⟨_,rfl⟩;obtain ⟨cnt6,left,zq,N6,HF⟩:=hrel;rcases zq.out.next 0 with ⟨h0,hl0,hrun⟩|⟨s,v,w7,UH,hs,hls,hf,hrun,hmr,hlt,hgr,Ul,hen⟩
    ·have YI:=ah (fun s (hs:fC s)=>HF.out s hs (hl0 s))
     clear hl0 h0;go_wp2_with fail;clear hrun zq HF hlt hkn hn1 hcn HNS;have HB0:=ah (show bC ξ w6 b room m n ch (fun s=>R s++fK (ks.take 0) s) from by simpa [fK]using jM.out.nx N6.out);have C0:=ah (Nx.nc (ξ:=ξ) N6.out);clear jM N6;go_loopw [56] (fun i wr=>∃(j n3:Nat) (ch3:ByteArray->Option Nat),j<=N/\n3<=n+j/\i=.int .i64 (j:Int)/\Hid (bC ξ wr b room m n3 ch3 (fun s=>R s++fK (ks.take j) s))/\Hid (Ch (NC ξ w) w wr)) (fun i _=>N-(intOf i).toNat)
     case atStart=>exact ⟨0,n,ch,Nat.zero_le _,Nat.le_refl _,rfl,HB0,C0⟩
     case round=>
      obtain ⟨w7,rfl⟩:∃w7:World,w7=wr:=⟨_,rfl⟩;clear HB0 C0;obtain ⟨j,n3,ch3,hj,hn3,rfl,HB,C7⟩:=hrel;by_cases hlt:j<N
      ·have hkl:j<ks.length:=by rw[Hl.out];exact hlt
       obtain ⟨ad,rfl,hb,p0,pr⟩:=RJ (Rd.nc H.out (by decide) C7.out) hkl;have hok:=HK.out _ (List.getElem_mem hkl);have p1:=pr 0 _ rfl;have p2:=pr 1 _ rfl;have p3:=pr 2 _ rfl;have p4:=pr 3 _ rfl;have p5:=pr 4 _ rfl;have p6:=pr 5 _ rfl;have p7:=pr 6 _ rfl;have p8:=pr 7 _ rfl;have p9:=pr 8 _ rfl;have HT1:=ah (fun s=>Am hkl s);have HT2:=ah (show dP (ks.take j) ks[j].1+1<=dP ks ks[j].1 from by have:=z2Y ks (j+1) ks[j].1;rw[ZT hkl,if_pos rfl]at this;exact this);clear hb pr;generalize ks[j]=x at *;obtain ⟨ky,⟨⟨kind,time,ak,text,value,null,maker,seq,place⟩,A1,c1⟩⟩:=x;simp only at p0 p1 p2 p3 p4 p5 p6 p7 p8 p9 hok HT1 HT2;have BK:=ah (aG.new w7 113 #[.string ky,.int .i64 kind,.int .i64 time,.slice A1 ak.length c1,.string text,.int .i64 value,.bool null,.int .i64 maker,.int .i64 seq,.int .i64 place]);have N8:=ah ((Ch.refl (fun _=>False) w7).alloc (.cells #[.string ky,.int .i64 kind,.int .i64 time,.slice A1 ak.length c1,.string text,.int .i64 value,.bool null,.int .i64 maker,.int .i64 seq,.int .i64 place] 113));go_upto_region 18 with fail
       obtain ⟨w8,hW⟩:∃w8,w7.alloc (.cells #[.string ky,.int .i64 kind,.int .i64 time,.slice A1 ak.length c1,.string text,.int .i64 value,.bool null,.int .i64 maker,.int .i64 seq,.int .i64 place] 113)=w8:=⟨_,rfl⟩;obtain ⟨gx,hg⟩:∃gx,w7.heap.size=gx:=⟨_,rfl⟩;have hgb:=HB.out.blk.lt;rw[hW]at N8 BK;rw[hg]at BK hgb;simp only[hW,hg];have HG:=ah hg;have HB8:=ah (HB.out.nx N8.out);have gK:=ah (fun w' (c':Nx w8 w')=>(⟨(HB8.out.nx c').blk.cell 1,(BK.out.nx c').cell 0,((HB8.out.nx c').look hok).1⟩:w'.cell? ⟨b,1,none⟩=some (.map (some m))/\w'.cell? ⟨gx,0,none⟩=some (.string ky)/\(Instr.lookup 102 (.map (some m)) (.string ky) true).run Tryz.prog w'=.ok (.tuple #[.agg #[.chan (ch3 ky)],.bool (ch3 ky).isSome]) w'));have hgl:=BK.out.lt;clear hW hg p0 p1 p2 p3 p4 p5 p6 p7 p8 p9;go_cut [13,14] (fun s13 s14 wx=>∃g,s13=.pointer (some ⟨g,0,none⟩)/\s14=.bool (ch3 ky).isSome/\Hid (aG wx g 116 #[.chan (ch3 ky)])/\Hid (Nx w8 wx)/\w8.heap.size<=g)
       case first=>
        have hs8:b<w8.heap.size:=(by omega);obtain ⟨q0,q1,q2⟩:=gK.out w8.drew (Ch.refl _ w8).drew;have HB1:=ah ((aG.new w8 116 #[.chan (ch3 ky)]).drew);have HN1:=ah (((Ch.refl (fun _=>False) w8).alloc (.cells #[.chan (ch3 ky)] 116)).drew);go_region_held3 (fun w'=>w'.cell? ⟨b,1,none⟩=some (.map (some m))/\w'.cell? ⟨gx,0,none⟩=some (.string ky)/\(Instr.lookup 102 (.map (some m)) (.string ky) true).run Tryz.prog w'=.ok (.tuple #[.agg #[.chan (ch3 ky)],.bool (ch3 ky).isSome]) w') (first|(with_reducible exact ⟨q0,q1,q2⟩)|(refine gK.out _ ?_;repeat (first|exact Ch.refl _ _|refine Ch.drew ?_|refine Ch.alloc ?_ _|refine Ch.setCell ?_ (fun h=>by simp at h;omega) _))) (fail)
        all_goals
         go_wp2_with fail;go_meet
         exact ⟨_,rfl,rfl,HB1,HN1,Nat.le_refl _⟩
       case rest=>
        obtain ⟨g,rfl,rfl,BG,NG,hge⟩:=hcut;obtain ⟨w9,rfl⟩:∃w9:World,w9=wc:=⟨_,rfl⟩;obtain ⟨R1,hR1⟩:∃R1,(fun s=>R s++fK (ks.take j) s)=R1:=⟨_,rfl⟩;rw[hR1]at HB8;have HR1:=ah hR1;have HB9:=ah (HB8.out.nx NG.out);have BK9:=ah (BK.out.nx NG.out);obtain ⟨o,ho⟩:∃o,ch3 ky=o:=⟨_,rfl⟩;rw[ho]at BG;simp only[ho];have HO:=ah ho;have hgx:=hgl;clear ho hR1 gK HB hgl;go_upto_if 71 with fail
        go_cut [] (fun wx=>∃(n4:Nat) (ch4:ByteArray->Option Nat) (c4:Nat),n4<=n3+1/\ch4 ky=some c4/\Hid (bC ξ wx b room m n4 ch4 R1)/\Hid (aG wx g 116 #[.chan (some c4)])/\Hid (Ch (NC ξ w8) w8 wx))
        case first=>
         cases o with
         |some c3=>
          go_wp2_with fail;go_meet
          exact ⟨n3,ch3,c3,by omega,HO.out,HB9,BG,ah (Nx.nc (ξ:=ξ) NG.out)⟩
         |none=>
          have d0:w9.cell? ⟨b,0,none⟩=some (.int .i64 (room:Int)):=HB9.out.blk.cell 0;have Nc:=ah (EC room hr1 hr2 w9);go_wp2_with fail;refine Nc.out.mono ?_;rintro e w10 ⟨rfl,hw10⟩;obtain ⟨N10,B10,C10⟩:=nP w9 room;rw[hw10]at N10 B10 C10;have hcn:w9.heap.size<w10.heap.size:=(Array.getElem?_eq_some_iff.1 C10).1;have NN10:=ah N10;have CC10:=ah C10;have BG10:=ah (BG.out.nx N10);have p0:w10.cell? ⟨w9.heap.size+1,0,none⟩=some (.chan (some w9.heap.size)):=B10.cell 0;have pf:=BG10.out.frozen;have pg:=BG10.out.cell;have hgl:=BG.out.lt;clear N10 B10 C10 hw10 d0 Nc;go_upto_region 21 with fail
          obtain ⟨c4,hc4⟩:∃c4,w9.heap.size=c4:=⟨_,rfl⟩;rw[hc4]at CC10 hgl;simp only[hc4];have BG11:=ah (BG10.out.aS 0 (.chan (some c4)));have C11:=ah ((Ch.refl (· =g) w10).setCell (p:=⟨g,0,none⟩) (fun _=>rfl) (.chan (some c4)));obtain ⟨w11,hW⟩:∃w11,w10.setCell ⟨g,0,none⟩ (.chan (some c4))=w11:=⟨_,rfl⟩;rw[hW]at BG11 C11;simp only[hW];have hgb':b<w8.heap.size:=(by omega);have N11:=ah ((NG.out.tr NN10.out).trans C11.out fun i hi e=>by have e2:i=g:=e;omega);have HB11:=ah ((HB9.out.nx NN10.out).Ib C11.out (fun e=>by have e2:b=g:=e;omega) (fun k _ e=>by have e2:k=g:=e;subst e2;exact BG10.out.Qg));have HC11:Hid (w11.drew.heap[c4]?=some (.chan room #[] false 0 0 false)):=ah ((C11.out.block c4 (Array.getElem?_eq_some_iff.1 CC10.out).1 (fun e=>by have e2:c4=g:=e;omega)).trans CC10.out);have BK11:=ah (BK.out.nx N11.out);have HNEW:=ah (show ∀t,ch3 t≠some c4 from fun t e=>by have:=HB9.out.iQ e;omega);have EM:=ah (HB11.out.nx (Ch.refl _ w11).drew);obtain ⟨w12,hup,HM12, -,C12⟩:=EM.out.map.put (by simp only[maxLen];omega) Tryz.underlying102 hok (.agg #[.chan (some c4)]);have HB12:=ah (EM.out.add HO.out HC11.out HNEW.out (by have:=HB9.out.Kt;have:=HB9.out.map.lt;omega) C12 HM12);have hmg:m≠g:=by rintro rfl;exact HB11.out.uj.2 BG11.out.Qg
          have hmx:m≠gx:=by rintro rfl;exact HB11.out.uj.2 BK11.out.Qg
          have BG12:Hid (aG w12 g 116 #[.chan (some c4)]):=ah (by have:=BG11.out.drew.ch C12 (fun e=>hmg e.symm);simpa using this);have BK12:=ah (BK11.out.drew.ch C12 (fun e=>hmx e.symm));have C82:=ah ((Nx.nc (ξ:=ξ) (N11.out.drew)).jQ (C12.mono fun i _ e=>by have e2:i=m:=e;subst e2;exact EM.out.uj));have q0:w11.drew.cell? ⟨b,1,none⟩=some (.map (some m)):=EM.out.blk.cell 1;have q1:w11.drew.cell? ⟨gx,0,none⟩=some (.string ky):=BK11.out.drew.cell 0;have q2:w11.drew.cell? ⟨g,0,none⟩=some (.chan (some c4)):=by have:=BG11.out.drew.cell 0;simpa using this
          have r0:w12.cell? ⟨b,1,none⟩=some (.map (some m)):=HB12.out.blk.cell 1;have r1:w12.cell? ⟨gx,0,none⟩=some (.string ky):=BK12.out.cell 0;have r2:w12.cell? ⟨g,0,none⟩=some (.chan (some c4)):=BG12.out.cell 0;clear hW C12 HM12 p0 pf pg hmg hmx hc4;go_region_held3 (fun w'=>w'.cell? ⟨b,1,none⟩=some (.map (some m))/\w'.cell? ⟨gx,0,none⟩=some (.string ky)/\w'.cell? ⟨g,0,none⟩=some (.chan (some c4))) (first|(with_reducible exact ⟨q0,q1,q2⟩)|(with_reducible exact ⟨r0,r1,r2⟩)) (fail)
          all_goals
           go_wp2_with fail;go_meet
           exact ⟨n3+1,_,c4,Nat.le_refl _,if_pos rfl,HB12,BG12,C82⟩
        case rest=>
         obtain ⟨n4,ch4,c4,hn4,hc4,HB10,BG10,C10⟩:=hcut;obtain ⟨w10,rfl⟩:∃w10:World,w10=wc:=⟨_,rfl⟩;have PW:∀s,R1 s=R s++fK (ks.take j) s:=fun s=>(congrFun HR1.out s).symm
         have hrl:(R1 ky).length+1<=room:=by
          have h1:=YI.out ky hok;have h2:=HT2.out;rw[PW,List.length_append,qH];omega
         have hRN:(fun t=>if t=ky then R1 ky++[(⟨⟨kind,time,ak,text,value,null,maker,seq,place⟩,A1,c1⟩:RV)] else R1 t)=fun s=>R s++fK (ks.take (j+1)) s:=by
          funext s
          rw[HT1.out s];by_cases e:s=ky
          ·subst e
           rw[if_pos rfl,if_pos rfl,PW,List.append_assoc]
          ·rw[if_neg e,if_neg (fun e2=>e e2.symm),PW,List.append_nil]
         have HRN:=ah hRN;have HCE:=ah hc4;obtain ⟨p,q,hch⟩:=HB10.out.box ky c4 hc4;have NK:=ah (Md g c4 room (R1 ky) p q ⟨⟨kind,time,ak,text,value,null,maker,seq,place⟩,A1,c1⟩ w10 (BG10.out.cell 0) hch (by omega));have XO:=HB10.out.kW hc4;have HNCC:=ah XO;have CZ:=ah hrl;have b10:=BK.out.ch C10.out BK.out.nc;have p1:w10.cell? ⟨gx,1,none⟩=some (.int .i64 kind):=b10.cell 1;have p2:w10.cell? ⟨gx,2,none⟩=some (.int .i64 time):=b10.cell 2;have p3:w10.cell? ⟨gx,3,none⟩=some (.slice A1 ak.length c1):=b10.cell 3;have p4:w10.cell? ⟨gx,4,none⟩=some (.string text):=b10.cell 4;have p5:w10.cell? ⟨gx,5,none⟩=some (.int .i64 value):=b10.cell 5;have p6:w10.cell? ⟨gx,6,none⟩=some (.bool null):=b10.cell 6;have p7:w10.cell? ⟨gx,7,none⟩=some (.int .i64 maker):=b10.cell 7;have p8:w10.cell? ⟨gx,8,none⟩=some (.int .i64 seq):=b10.cell 8;have p9:w10.cell? ⟨gx,9,none⟩=some (.int .i64 place):=b10.cell 9;unfold aK at NK;simp only at NK;clear b10 XO hch hc4 hRN PW hrl;go_wp2_with fail;refine NK.out.mono ?_;rintro e w11 ⟨rfl,c11,h11⟩
         have HB11:Hid (bC ξ w11 b room m n4 ch4 (fun s=>R s++fK (ks.take (j+1)) s)):=ah (by
          have:=HB10.out.put HCE.out c11 h11 CZ.out;rw[HRN.out]at this;exact this)
         have C11:=ah (C7.out.jQ ((Nx.nc (ξ:=ξ) N8.out).jQ (C10.out.jQ (c11.mono fun i _ e=>by have e2:i=c4:=e;subst e2;exact HNCC.out))));clear c11 h11 p1 p2 p3 p4 p5 p6 p7 p8 p9;go_wp2_with fail;go_roundw
         case rel=>exact ⟨j+1,n4,ch4,by omega,by omega,by go_num,HB11,C11⟩
         case measure=>simp[intOf];omega
      ·have HF3:Hid (bC ξ w7 b room m n3 ch3 (fun s=>R s++fK ks s)):=ah (by have:=HB.out;rw[List.take_of_length_le (by have:=Hl.out;omega)]at this;exact this)
       go_wp2_with fail;go_ret;refine ⟨true,n3,ch3,rfl,⟨fun _=>YI.out,fun _=>rfl⟩,by have:=Hl.out;omega,by simpa using HF3.out,C7.out⟩
    ·have hv:=AX hf
     subst hv;have N7:=ah (N6.out.trans (Ch.grown (Ch.refl (fun k=>k=r) w6) hgr (fun k hk _=>by injection hk with hk;exact hk.symm)) fun i hi e=>by have:=HNS.out;have e2:i=r:=e;omega);have B7:=jM.out.nx N7.out;have d0:w7.cell? ⟨b,0,none⟩=some (.int .i64 (room:Int)):=B7.blk.cell 0;have d1:w7.cell? ⟨b,1,none⟩=some (.map (some m)):=B7.blk.cell 1;have hlk:=(B7.look hs).2;have hb7:=B7.blk.lt;have hfw:=B7.few s;have hcl:=Em ks s;rw[Hl.out]at hcl;have YC:=ah hmr;have EK:Hid (w7.rangeLeft w.heap.size r<w6.rangeLeft w.heap.size r):=ah (by rw[hmr.left_eq,zq.out.left_eq];exact hlt);have HB7:=ah B7;clear B7 hmr hgr hlt hf hls Ul;go_wp2_with fail;have H8:=ah (aG.new w7 116 #[.chan (ch s)]);have N8:=ah ((Ch.refl (fun _=>False) w7).alloc (.cells #[.chan (ch s)] 116));have IB:=ah (YC.out.ch N8.out (fun hf=>hf) (fun hf=>hf));have QN:Hid ((w7.alloc (.cells #[.chan (ch s)] 116)).rangeLeft w.heap.size r<w6.rangeLeft w.heap.size r):=ah (by rw[IB.out.left_eq,←YC.out.left_eq];exact EK.out);obtain ⟨w8,hW⟩:∃w8,w7.alloc (.cells #[.chan (ch s)] 116)=w8:=⟨_,rfl⟩;obtain ⟨g,hg⟩:∃g,w7.heap.size=g:=⟨_,rfl⟩;rw[hW]at H8 N8 IB QN;rw[hg]at H8;simp only[hW,hg];have HB8:=ah (HB7.out.nx N8.out);have HLEN:=ah (fun q=>(HB8.out.nx (Dr.A_ w8 q).nx).len s g (H8.out.cell 0));have e0:w8.cell? ⟨b,0,none⟩=some (.int .i64 (room:Int)):=HB8.out.blk.cell 0;have NN8:=ah (N7.out.tr N8.out);clear hW hg d0 d1 hlk hb7 hen N8 N7;obtain ⟨rl,hrl⟩:∃rl,(R s).length=rl:=⟨_,rfl⟩;have CZ:=ah hrl;rw[hrl]at HLEN hfw;clear hrl;by_cases hfit:dP ks s+rl<=room
     ·have hq:¬((room:Int)-(rl:Int)<(dP ks s:Int)):=by omega
      have HFN:Hid (VB ks R room (fun x=>left x&& !decide (x=s))):=ah (fun x hx hf=>by
       by_cases e:x=s
       ·subst e
        rw[CZ.out];exact hfit
       ·exact HF.out x hx (by simpa [e]using hf))
      generalize dP ks s=cn at *;go_quiet ((go_at_call 48;with_reducible exact z14 (HLEN.out _)))
      go_wp2_with fail;go_roundw
      case rel=>exact ⟨UH,_,ah (IB.out.ch (Dr.A_ w8 _).nx (fun hf=>hf) (fun hf=>hf)),ah (NN8.out.tr (Dr.A_ w8 _).nx),HFN⟩
      case measure=>exact QN.out
     ·have hq:(room:Int)-(rl:Int)<(dP ks s:Int):=by omega
      have HNO:Hid (¬∀x,fC x->dP ks x+(R x).length<=room):=ah (fun h=>hfit (by have:=h s hs;rw[CZ.out]at this;exact this));clear hfit;generalize dP ks s=cn at *;go_quiet ((go_at_call 48;with_reducible exact z14 (HLEN.out _)))
      go_wp2_with fail;go_ret;exact ⟨false,n,ch,rfl,by simpa using HNO.out,Nat.le_add_right _ _,by simpa using HB8.out.nx (Dr.A_ w8 _).nx,Nx.nc (ξ:=ξ) (NN8.out.tr (Dr.A_ w8 _).nx)⟩
def MW (R:ByteArray->List RV) (left:ByteArray->Bool) (k:Nat):Prop:=(∀s,fC s->left s=false->(R s).length<=k)/\(k=0∨∃s,fC s/\(R s).length=k)
def UY (w:World) (R:ByteArray->List RV) (e:Ending) (w':World):Prop:=∃k:Nat,e=.returned (.int .i64 (k:Int))/\(∀s,fC s->(R s).length<=k)/\(k=0∨∃s,fC s/\(R s).length=k)/\Nx w w'
theorem MK {ξ:Nat} {w:World} {b room m n:Nat} {ch:ByteArray->Option Nat} {R:ByteArray->List RV} (h:bC ξ w b room m n ch R) (hr2:room<=2048):
 Calls Tryz.prog 35 #[.pointer (some ⟨b,0,none⟩)] w (UY w R):=by
 have jM:=ah h;have hbl:=h.blk.lt;have d1:w.cell? ⟨b,1,none⟩=some (.map (some m)):=h.blk.cell 1;clear h;go_enter Tryz.func35,Tryz.ntmps35;go_wp2_with (at_range;refine z2o _ rfl _ _ rfl Tryz.underlying102 rfl jM.out.map ?_;intro w5 cnt hmr hgr hsz hcn;have zq:=ah hmr;have N5:=ah (Ch.grown (Ch.refl (fun _=>False) w) hgr (fun k hk _=>by cases hk));clear hmr hgr)
 have HF0:Hid (MW R (fun s=>decide (fC s)&&((ch s).map fun c=>Value.agg #[Value.chan (some c)]).isSome) 0):=ah ⟨fun s hs hf=>by
  dsimp only at hf
  rw[decide_eq_true hs,Bool.true_and]at hf
  have:ch s=none:=by cases hc:ch s with
   |none=>rfl
   |some c=>rw[hc]at hf;cases hf
  rw[jM.out.non s this];exact Nat.le_refl _,.inl rfl⟩
 obtain ⟨r,hr⟩:∃r,w.heap.size=r:=⟨_,rfl⟩;rw[hr]at zq;have HR:=ah hr;simp only[hr];generalize (fun s=>decide (fC s)&&((ch s).map fun c=>Value.agg #[Value.chan (some c)]).isSome)=left0 at *;clear hr hsz;go_frame
 go_loopw [3] (fun v wr=>∃(k cnt:Nat) (left:ByteArray->Bool),k<=room/\v=.int .i64 (k:Int)/\Hid (iD wr m r n (fun s=>(ch s).map fun c=>.agg #[.chan (some c)]) left cnt)/\Hid (Nx w wr)/\Hid (MW R left k)) (fun _ wr=>wr.rangeLeft m r)
 case atStart=>exact ⟨0,cnt,left0,Nat.zero_le _,rfl,zq,N5,HF0⟩
 case round=>
  clear zq N5 HF0 d1;obtain ⟨w6,rfl⟩:∃w6:World,w6=wr:=⟨_,rfl⟩;obtain ⟨k,cnt6,left,hkr,rfl,zq,N6,HF⟩:=hrel;rcases zq.out.next 0 with ⟨h0,hl0,hrun⟩|⟨s,v,w7,UH,hs,hls,hf,hrun,hmr,hlt,hgr,Ul,hen⟩
  ·have HX:=ah (fun s (hs:fC s)=>HF.out.1 s hs (hl0 s))
   clear hl0 h0;go_wp2_with fail;go_ret;exact ⟨k,rfl,HX.out,HF.out.2,N6.out⟩
  ·obtain ⟨c,hc,hv⟩:∃c,ch s=some c/\.agg #[.chan (some c)]=v:=by
    cases hc:ch s with
    |none=>rw[hc]at hf;cases hf
    |some c=>rw[hc]at hf;injection hf with hf;exact ⟨c,rfl,hf⟩
   subst hv;have N7:=ah (N6.out.trans (Ch.grown (Ch.refl (fun k=>k=r) w6) hgr (fun k hk _=>by injection hk with hk;exact hk.symm)) fun i hi e=>by have:=HR.out;have e2:i=r:=e;omega);have H8:=ah (aG.new w7 116 #[.chan (some c)]);have N78:=ah ((Ch.refl (fun _=>False) w7).alloc (.cells #[.chan (some c)] 116));have IB:=ah (hmr.ch N78.out (fun hf=>hf) (fun hf=>hf));have QN:Hid ((w7.alloc (.cells #[.chan (some c)] 116)).rangeLeft m r<w6.rangeLeft m r):=ah (by rw[IB.out.left_eq,zq.out.left_eq];exact hlt);have N8:=ah (N7.out.tr N78.out);have HLEN:=ah ((jM.out.nx N8.out).len s w7.heap.size (by rw[hc];exact H8.out.cell 0));have hfw:=jM.out.few s;obtain ⟨rl,hrl⟩:∃rl,(R s).length=rl:=⟨_,rfl⟩
   have HF8:Hid (MW R (fun x=>left x&& !decide (x=s)) (max k rl)):=ah ⟨fun x hx hf=>by
    by_cases e:x=s
    ·subst e;rw[hrl];omega
    ·have:=HF.out.1 x hx (by simpa [e]using hf)
     omega,by
    rcases Nat.le_total k rl with h|h
    ·rw[Nat.max_eq_right h];exact .inr ⟨s,hs,hrl⟩
    ·rw[Nat.max_eq_left h];exact HF.out.2⟩
   rw[hrl]at HLEN hfw;clear hmr hgr hlt hf hls Ul hc hrl;go_wp2_with fail;refine HLEN.out.mono ?_;rintro e w9 ⟨rfl,rfl⟩;go_wp2_with fail;go_roundw
   case rel=>exact ⟨max k rl,UH,_,by omega,by congr 1;split<;>omega,IB,N8,HF8⟩
   case measure=>exact QN.out
end Go.Proofs.YtdbfejfhpkakhaaGreat
