/- Contracts and plain laws that the last text rests on. Conditions: each theorem states its own. -/
import Derived.Test.YtdbfejfhpkakhaaGreatKKd2PbArK
import Derived.Test.YtdbfejfhpkakhaaGreatKKd2Q24
import Derived.Test.YtdbfejfhpkakhaaGreatKKd2Q16
import Derived.Test.YtdbfejfhpkakhaaGreatKKd2Q27
set_option maxRecDepth 100000
set_option maxHeartbeats 32000000
set_option linter.unusedVariables false
set_option linter.unusedSimpArgs false
namespace Go.Proofs.YtdbfejfhpkakhaaGreat
open Go.RowKit Ps
theorem Tryz.Ug:(Tryz.prog.info? 37).map (fun i=>(i.zero,i.size,i.bytes))=some (some (.agg #[.int .i64 0,.int .i64 0,.slice none 0 0]),3,40):=by kernel_rfl
theorem Qm (l:List dF):∀u∈uT l,u.oneCell'=true:=by
 intro u hu;obtain ⟨x,_,hx⟩:=List.mem_flatMap.1 hu;simp[dF.cs]at hx;rcases hx with rfl|rfl|rfl<;>rfl
theorem RV.ok.nc {ξ:Nat} {w w':World} {D:Nat->Prop} {x:RV} (h:x.ok w D) (hc:Ch (NC ξ w) w w'):x.ok w' D:=⟨h.1.nc (by decide) hc,h.2⟩
theorem dF.ok.nc {ξ:Nat} {w w':World} {D:Nat->Prop} {b:dF} (h:b.ok w D) (hc:Ch (NC ξ w) w w'):b.ok w' D:=⟨h.rd.nc (by decide) hc,fun x hx=>(h.ok x hx).nc hc,h.mid,h.named,h.cap,h.max⟩
theorem dF.ok.more {w:World} {D D':Nat->Prop} {b:dF} (h:b.ok w D) (hD:∀i,D i->D' i):b.ok w D':=h.ch (Ch.refl (fun _=>False) w) (fun _ _ _ hf=>hf) hD
theorem Rd.ltD {w:World} {D:Nat->Prop} {size n:Nat} {A:Option Addr} {xs:List Value} (h:Rd w D size A n xs) (hs:0<size):Rd w (fun i=>D i/\i<w.heap.size) size A n xs:=
 ⟨h.1,fun hn=>by
   obtain ⟨ad,e,hb,hc⟩:=h.2 hn;obtain ⟨ad',e',_,hlt⟩:=h.lt_ hs hn;rw[e]at e';injection e' with e';subst e';exact ⟨ad,e,⟨hb,hlt⟩,hc⟩⟩
theorem dF.ok.lt {w:World} {D:Nat->Prop} {b:dF} (h:b.ok w D):b.ok w (fun i=>D i/\i<w.heap.size):=⟨h.rd.ltD (by decide),fun x hx=>⟨(h.ok x hx).1.ltD (by decide),(h.ok x hx).2⟩,h.mid,h.named,h.cap,h.max⟩
theorem Rd.Xn (w:World) (x:RV):Rd (w.alloc (.cells #[.int .i64 x.row.kind,.int .i64 x.row.time,.slice x.A x.row.ak.length x.c,.string x.row.text,.int .i64 x.row.value,.bool x.row.null] 57)) (fun k=>k=w.heap.size) 6 (some ⟨w.heap.size,0,none⟩) 1 (oD [x]):=
 ⟨rfl,fun _=>⟨_,rfl,rfl,fun j u hu=>by
   have:=(aG.new w 57 #[.int .i64 x.row.kind,.int .i64 x.row.time,.slice x.A x.row.ak.length x.c,.string x.row.text,.int .i64 x.row.value,.bool x.row.null]);exact World.news_of_block this j u (by simpa [oD,RV.rs]using hu)⟩⟩
def dD (C:aV) (l:List aC) (s:ByteArray):Nat:=(l.filter fun r=>decide (Bq C.window C.aH r=s)).length
theorem uP {C:aV} {ks:List (ByteArray×RV)} {l:List aC} (h:ks.map (fun p=>(p.1,p.2.row))=l.map fun r=>(Bq C.window C.aH r,r)) (s:ByteArray):dP ks s=dD C l s:=by
 unfold dP dD
 have h1:((ks.map fun p=>(p.1,p.2.row)).filter fun p=>decide (p.1=s)).length=(ks.filter fun p=>decide (p.1=s)).length:=by
  rw[List.filter_map,List.length_map];rfl
 rw[←h1,h,List.filter_map,List.length_map];rfl
def je (ξ:Nat) (w:World) (a:Nat) (ag life:Int) (C:aV) (aN:List dF) (cnt:ByteArray->Nat) (since:Int) (fl:Bool) (K:Nat) (wt:Value):Prop:=
 ∃A k bb m n ch R,ou ξ w a ag life C A k bb m n ch R wt (.slice none 0 0) since fl (.slice none 0 0) 0/\n<=64 * K/\w.ownsRow (a+1) 37 3 wt aN.length (uT aN)/\
  (∀b∈aN,b.ok w (fun i=>a<i/\wt.ownBlock≠some i)/\fB b.maker b.seq (b.l.map fun x=>x.row)=0)/\∀s,fC s->(R s).length=cnt s
def og (ξ:Nat) (w:World) (a:Nat) (wt:Value) (i:Nat):Prop:=NC ξ w i∨i=a∨wt.ownBlock=some i
def iZ (C:aV) (aN:List dF) (cnt:ByteArray->Nat) (b:dF):Prop:=
 fB b.maker b.seq (b.l.map fun x=>x.row)=0/\aN.any (dX b.maker b.seq)=false/\∀s,fC s->dD C (b.l.map fun x=>x.row) s+cnt s<=C.buffer.toNat
def jT (ξ:Nat) (w:World) (a:Nat) (ag life:Int) (C:aV) (aN:List dF) (cnt:ByteArray->Nat) (since:Int) (fl:Bool) (K:Nat) (wt:Value) (b:dF) (now:Int) (e:Ending) (w':World):Prop:=
 ∃er:Int,e=.returned (.int .i64 er)/\(er=0↔iZ C aN cnt b)/\Ch (og ξ w a wt) w w'/\(er≠0->je ξ w' a ag life C aN cnt since fl (K+1) wt)/\
  (er=0->∃(b':dF) (wt':Value),b'.maker=b.maker/\b'.seq=b.seq/\(b'.l.map fun x=>x.row)=(b.l.map fun x=>x.row)/\je ξ w' a ag life C (aN++[b']) (fun s=>cnt s+dD C (b.l.map fun x=>x.row) s) (if aN=[] then now else since) fl (K+1) wt'/\(∀i,wt'.ownBlock=some i->wt.ownBlock=some i∨w.heap.size<=i)/\b'.ok w' (fun i=>w.heap.size<=i))
section
variable {w w' : World} {a : Nat} {ag life : Int} {C : aV} {aN : List dF} {cnt : ByteArray → Nat} {since : Int} {fl : Bool} {K : Nat} {wt : Value} {b : dF} {now : Int}
theorem je.nx {ξ:Nat} (h:je ξ w a ag life C aN cnt since fl K wt) (c:Nx w w'):je ξ w' a ag life C aN cnt since fl K wt:=by
 obtain ⟨A,k,bb,m,n,ch,R,h1,h2,h3,h4,h5⟩:=h;exact ⟨A,k,bb,m,n,ch,R,h1.nx c,h2,z06 h3 c (fun _ _ hf=>hf),fun b hb=>⟨(h4 b hb).1.nx c,(h4 b hb).2⟩,h5⟩
theorem je.up {ξ:Nat} (h:je ξ w a ag life C aN cnt since fl K wt):je ξ w a ag life C aN cnt since fl (K+1) wt:=by
 obtain ⟨A,k,bb,m,n,ch,R,h1,h2,h3⟩:=h;exact ⟨A,k,bb,m,n,ch,R,h1,by omega,h3⟩
theorem jT.bad {ξ:Nat} {er:Int} (h0:er≠0) (hn:¬iZ C aN cnt b) (hc:Ch (og ξ w a wt) w w') (h:je ξ w' a ag life C aN cnt since fl (K+1) wt):jT ξ w a ag life C aN cnt since fl K wt b now (.returned (.int .i64 er)) w':=
 ⟨er,rfl,⟨fun h=>absurd h h0,fun h=>absurd h hn⟩,hc,fun _=>h,fun h=>absurd h h0⟩
theorem Nx.sub {ξ:Nat} (h:Nx w w'):Ch (og ξ w a wt) w w':=h.mono fun _ _ hf=>hf.elim
theorem z1n {mk sq:Int} {l:List aC} (h:fB mk sq l=0):l.length<=64/\l≠[]/\1<=sq/\sq<1099511627776/\1<=mk/\mk<=64/\∀r∈l,aT r=true:=by
 unfold fB at h;split at h
 ·cases h
 ·next h64=>
  split at h
  ·next hq=>
   simp only[Bool.and_eq_true,decide_eq_true_eq,List.all_eq_true]at hq;obtain ⟨⟨⟨⟨⟨h1,h2⟩,h3⟩,h4⟩,h5⟩,h6⟩:=hq;exact ⟨by omega,fun e=>h5 (by rw[e];rfl),h3,h4,h1,h2,h6⟩
  ·cases h
theorem TU {ks:List (ByteArray×RV)} {l:List aC} (h:ks.map (fun p=>(p.1,p.2.row))=l.map fun r=>(Bq C.window C.aH r,r)) (hl:∀r∈l,aT r=true) (x:ByteArray×RV) (hx:x∈ks):fC x.1:=by
 have h1:(x.1,x.2.row)∈ks.map fun p=>(p.1,p.2.row):=List.mem_map_of_mem hx;rw[h]at h1;obtain ⟨r,hr,e⟩:=List.mem_map.1 h1;have e1:x.1=Bq C.window C.aH r:=by injection e with e _;exact e.symm
 rw[e1];have hrec:=hl r hr;unfold aT at hrec;rw[Bool.and_eq_true,Bool.and_eq_true,decide_eq_true_eq]at hrec;have ht:=hrec.1.1
 have h2:(r.time.tdiv C.window).toNat<18446744073709551616:=by
  have h3:(r.time.tdiv C.window).natAbs<=r.time.natAbs:=by rw[Int.natAbs_tdiv];exact Nat.div_le_self _ _
  omega
 have h4:=(z08 h2).2;have h5:=z2K r.ak C.aH;show (iT (aB (r.time.tdiv C.window).toNat)++partT r.ak C.aH).size<=maxLen
 rw[ByteArray.size_append,ZK];simp only[maxLen];omega
theorem Rd.lit3 (w:World) (b:dF):Rd (w.alloc (.cells #[.int .i64 b.maker,.int .i64 b.seq,.slice b.A b.l.length b.c] 37)) (fun k=>k=w.heap.size) 3 (some ⟨w.heap.size,0,none⟩) 1 (uT [b]):=
 ⟨rfl,fun _=>⟨_,rfl,rfl,fun j u hu=>by
   have:=(aG.new w 37 #[.int .i64 b.maker,.int .i64 b.seq,.slice b.A b.l.length b.c]);exact World.news_of_block this j u (by simpa [uT,dF.cs]using hu)⟩⟩
theorem zQ {ξ:Nat} {w w8 w9 w11 w12 W13 w15 wF:World} {a gB:Nat} {ag life:Int} {C:aV} {A:Option Addr} {k bb m n8:Nat} {ch8:ByteArray->Option Nat} {R8:ByteArray->List RV} {Aw:Option Addr} {cw:Nat} {aN:List dF} {cnt:ByteArray->Nat} {since sn:Int} {fl:Bool} {K:Nat} {now:Int} {b:dF} {A3:Option Addr} {c3:Nat} {zs:List RV} {A9:Option Addr} {c9:Nat}
 (hso:iZ C aN cnt b) (cs8:Ch (og ξ w a (.slice Aw aN.length cw)) w w8) (d9:Ch (· =a) w8 w9) (d11:Ch (· =gB) w9 w11) (d12:Ch (· =gB) w11 w12) (n13:Nx w12 W13) (c15:Ch (fun i=>(Value.slice Aw aN.length cw).ownBlock=some i) W13 w15) (cF:Ch (· =a) w15 wF) (hag:a<gB) (hgb:w.heap.size=gB)
 (hwg:∀i,(Value.slice Aw aN.length cw).ownBlock=some i->i<gB) (hM:ou ξ W13 a ag life C A k bb m n8 ch8 R8 (.slice Aw aN.length cw) (.slice none 0 0) sn fl (.slice none 0 0) 0)
 (bF:aG wF a 83 ((zn ag life C A k bb (.slice Aw aN.length cw) (.slice none 0 0) sn fl (.slice none 0 0) 0).setIfInBounds 15 (.slice A9 (aN.length+1) c9))) (hn:n8<=64 * (K+1))
 (o9:w15.ownsRow (a+1) 37 3 (.slice A9 (aN.length+1) c9) (aN.length+1) (uT aN++uT [⟨b.maker,b.seq,A3,c3,zs⟩])) (at9:(Value.slice A9 (aN.length+1) c9).ownBlock=(Value.slice Aw aN.length cw).ownBlock∨(Value.slice A9 (aN.length+1) c9).ownBlock=some W13.heap.size)
 (o13:W13.ownsRow (a+1) 37 3 (.slice Aw aN.length cw) aN.length (uT aN)) (hb12:∀x∈aN,x.ok w12 (fun i=>(a<i/\(Value.slice Aw aN.length cw).ownBlock≠some i)/\i<gB)/\fB x.maker x.seq (x.l.map fun y=>y.row)=0)
 (hok:(⟨b.maker,b.seq,A3,c3,zs⟩:dF).ok w12 (fun i=>w9.heap.size<=i/\i<w12.heap.size)) (hzs:zs.map (fun x=>x.row)=b.l.map fun x=>x.row) (he:fB b.maker b.seq (b.l.map fun x=>x.row)=0) (hcn:∀s,fC s->(R8 s).length=cnt s+dD C (b.l.map fun x=>x.row) s)
 (hsn:(if aN=[] then now else since)=sn) (hg9:gB<w9.heap.size) (hs12:w11.heap.size<=w12.heap.size):jT ξ w a ag life C aN cnt since fl K (.slice Aw aN.length cw) b now (.returned (.int .i64 0)) wF:=by
 have hs13:=n13.size;have s9:=d11.size;have hC15:Ch (fun i=>i=a∨(Value.slice Aw aN.length cw).ownBlock=some i) w12 wF:=((n13.mono fun _ _ hf=>hf.elim).trans c15 fun _ _ h=>Or.inr h).trans cF fun _ _ h=>Or.inl h;refine ⟨0,rfl,⟨fun _=>hso,fun _=>rfl⟩,?_,fun h=>absurd rfl h,fun _=>⟨⟨b.maker,b.seq,A3,c3,zs⟩,.slice A9 (aN.length+1) c9,rfl,rfl,hzs,⟨A,k,bb,m,n8,ch8,R8,?_,hn,?_,?_,hcn⟩,?_⟩⟩
 ·refine cs8.trans (((d9.mono (T:=fun i=>i=a∨i=gB∨(Value.slice Aw aN.length cw).ownBlock=some i) fun _ _ h=>.inl h).trans (d11.trans d12 fun _ _ h=>h) fun _ _ h=>.inr (.inl h)).trans hC15 fun _ _ h=>h.elim .inl fun h=>.inr (.inr h)) fun i hi h=>?_
  rcases h with h|h|h
  ·exact .inr (.inl h)
  ·omega
  ·exact .inr (.inr h)
 ·have h1:=hM.Ib c15 fun i _ hs=>⟨Rk o13 hs,by have:=(World.ownsRow.lt o13 i hs).1;omega⟩
  rw[hsn];refine h1.aS cF ?_;exact bF
 ·rw[List.length_append,show uT (aN++[⟨b.maker,b.seq,A3,c3,zs⟩])=uT aN++uT [⟨b.maker,b.seq,A3,c3,zs⟩] by simp[uT]]
  exact z06 o9 cF fun i hi e=>by have e2:i=a:=e;have:=(World.ownsRow.lt o9 i hi).1;omega
 ·intro x hx
  rcases List.mem_append.1 hx with hx|hx
  ·obtain ⟨h1,h2⟩:=hb12 x hx
   refine ⟨h1.ch hC15 (fun i _ hd hs=>?_) fun i hd=>⟨hd.1.1,fun e=>?_⟩,h2⟩
   ·rcases hs with hs|hs
    ·have:=hd.1.1;omega
    ·exact hd.1.2 hs
   ·rcases at9 with e2|e2
    ·exact hd.1.2 (e2.symm.trans e)
    ·rw[e2]at e
     injection e with e;have:=hd.2;omega
  ·rw[List.mem_singleton]at hx
   subst hx;refine ⟨hok.ch hC15 (fun i _ hd hs=>?_) fun i hd=>⟨by have:=hd.1;omega,fun e=>?_⟩,by show fB b.maker b.seq (zs.map fun x=>x.row)=0;rw[hzs];exact he⟩
   ·rcases hs with hs|hs
    ·have:=hd.1;omega
    ·have:=hwg i hs;have:=hd.1;omega
   ·rcases at9 with e2|e2
    ·have:=hwg i (e2.symm.trans e);have:=hd.1;omega
    ·rw[e2]at e
     injection e with e;have:=hd.2;omega
 ·refine ⟨fun i hi=>?_,hok.ch hC15 (fun i _ hd hs=>?_) fun i hd=>by have:=hd.1;omega⟩
  ·rcases at9 with e2|e2
   ·exact .inl (e2.symm.trans hi)
   ·rw[e2]at hi
    injection hi with hi;exact .inr (by omega)
  ·rcases hs with hs|hs
   ·have:=hd.1;omega
   ·have:=hwg i hs;have:=hd.1;omega
theorem lI {ξ:Nat} (h:je ξ w a ag life C aN cnt since fl K wt) (b:dF) {D:Nat->Prop} (hb:b.ok w D) (hD:∀i,D i->i≠a) (hK:K<=10000) (hbn:aN.length<=10000) (now:Int):
 Calls Tryz.prog 11 #[.pointer (some ⟨a,0,none⟩),oG b,.int .i64 now] w (jT ξ w a ag life C aN cnt since fl K wt b now):=by
 have HAS:=ah h;have QV:=ah hb;have HD:=ah hD;have hal:a<w.heap.size:=by obtain ⟨A,k,bb,m,n,ch,R,h1, -⟩:=h;exact h1.blk.lt
 have HWL:Hid (∀i,wt.ownBlock=some i->i<w.heap.size):=ah (by obtain ⟨A,k,bb,m,n,ch,R,h1,h2,h3, -⟩:=h;exact fun i hi=>(World.ownsRow.lt h3 i hi).2);have HBTW:Hid (∀x∈aN,x.ok w (fun i=>(a<i/\wt.ownBlock≠some i)/\i<w.heap.size)/\fB x.maker x.seq (x.l.map fun y=>y.row)=0):=ah (by obtain ⟨A,k,bb,m,n,ch,R,h1,h2,h3,h4, -⟩:=h;exact fun x hx=>⟨(h4 x hx).1.lt,(h4 x hx).2⟩);have HCK:=ah (fun w' (n:Nx w w')=>check_any b (hb.nx n));clear h hb hD;have HB0:=ah (fun w' (c:Nx (w.alloc (.cells #[.int .i64 b.maker,.int .i64 b.seq,.slice b.A b.l.length b.c] 37)) w')=>(aG.new w 37 #[.int .i64 b.maker,.int .i64 b.seq,.slice b.A b.l.length b.c]).nx c);have HN:=ah ((Ch.refl (fun _=>False) w).alloc (.cells #[.int .i64 b.maker,.int .i64 b.seq,.slice b.A b.l.length b.c] 37));have HER:Hid (fB b.maker b.seq (b.l.map fun x=>x.row)=0->iZ C aN cnt b∨¬iZ C aN cnt b):=ah (fun _=>Classical.em _);unfold oG at *;obtain ⟨er,her⟩:∃er,fB b.maker b.seq (b.l.map fun x=>x.row)=er:=⟨_,rfl⟩;rw[her]at HCK;have HE:=ah her;by_cases h0:er=0
 ·subst h0
  obtain ⟨c1,c2,c3,c4,c5,c6,c7⟩:=z1n her;have HC7:=ah c7;have HL64:=ah (show b.l.length<=64 by rw[List.length_map]at c1;exact c1);clear c7 c2 c1 her;go_enter Tryz.func11,Tryz.ntmps11;go_wp2_with fail;refine (HCK.out _ HN.out).mono ?_;rintro e w3 ⟨rfl,n3⟩;have N3:=ah (HN.out.tr n3);have B3:=ah (HB0.out _ n3);clear n3;go_wp2_with fail;obtain ⟨gB,hgB⟩:∃gB,w.heap.size=gB:=⟨_,rfl⟩;have Ux:a<gB:=by omega
  have HGB:=ah hgB;rw[hgB]at B3;simp only[hgB];obtain ⟨A,k,bb,m,n,ch,R,hM,hnK,ho,hbt,hcnt⟩:=HAS.out.nx N3.out;obtain ⟨Aw,cw,rfl, -, -⟩:=h_ ho;have HM3:=ah hM;have HO3:=ah ho;have QU:=ah hbt;have IJ:=ah hcnt;have ha3:a<w3.heap.size:=hM.blk.lt;have hg3:gB<w3.heap.size:=B3.out.lt;clear hM ho hbt hcnt HAS hgB;have HK6:=ah (fun w' (c:Nx w3 w')=>(⟨(HM3.out.nx c).blk.cell 23,(HM3.out.nx c).blk.cell 24,(HM3.out.nx c).blk.cell 25,(HM3.out.nx c).blk.cell 26,(HM3.out.nx c).blk.cell 27,(HM3.out.nx c).blk.cell 28,(B3.out.nx c).cell 0,(B3.out.nx c).cell 1⟩:w'.cell? ⟨a,23,none⟩=some (.int .i64 0)/\w'.cell? ⟨a,24,none⟩=some (.int .i64 0)/\w'.cell? ⟨a,25,none⟩=some (.int .i64 0)/\w'.cell? ⟨a,26,none⟩=some (.slice none 0 0)/\w'.cell? ⟨a,27,none⟩=some (.slice none 0 0)/\w'.cell? ⟨a,28,none⟩=some (.slice none 0 0)/\w'.cell? ⟨gB,0,none⟩=some (.int .i64 b.maker)/\w'.cell? ⟨gB,1,none⟩=some (.int .i64 b.seq)));have hs0:¬b.seq<=0:=by omega
  obtain ⟨q0,q1,q2,q3,q4,q5,q6,q7⟩:=HK6.out w3.drew (Ch.refl _ w3).drew
  go_region_held3 (fun w'=>w'.cell? ⟨a,23,none⟩=some (.int .i64 0)/\w'.cell? ⟨a,24,none⟩=some (.int .i64 0)/\w'.cell? ⟨a,25,none⟩=some (.int .i64 0)/\w'.cell? ⟨a,26,none⟩=some (.slice none 0 0)/\w'.cell? ⟨a,27,none⟩=some (.slice none 0 0)/\w'.cell? ⟨a,28,none⟩=some (.slice none 0 0)/\w'.cell? ⟨gB,0,none⟩=some (.int .i64 b.maker)/\w'.cell? ⟨gB,1,none⟩=some (.int .i64 b.seq)) (first|(with_reducible exact ⟨q0,q1,q2,q3,q4,q5,q6,q7⟩)|fail) (first
   |(go_at_call 25;refine (Gt b.maker _).mono ?_;rintro e w4 ⟨rfl,n4⟩;have N34:=ah ((Ch.refl (fun _=>False) w3).drew.tr n4);obtain ⟨q0,q1,q2,q3,q4,q5,q6,q7⟩:=HK6.out w4 N34.out;clear n4))
  have HM4:=ah (HM3.out.nx N34.out);have B4:=ah (B3.out.nx N34.out);have HO4:=ah (z06 HO3.out N34.out (fun _ _ hf=>hf));have ha4:a<w4.heap.size:=HM4.out.blk.lt;have hg4:gB<w4.heap.size:=B4.out.lt;have HK8:=ah (fun w' (c:Nx w4 w')=>(⟨(HM4.out.nx c).blk.cell 15,(HM4.out.nx c).blk.cell 16⟩:w'.cell? ⟨a,15,none⟩=some (.slice Aw aN.length cw)/\w'.cell? ⟨a,16,none⟩=some (.slice none 0 0)));clear HK6 q0 q1 q2 q3 q4 q5 q6 q7;go_wp2_with fail;obtain ⟨q0,q1⟩:=HK8.out w4.drew (Ch.refl _ w4).drew;go_region_held3 (fun w'=>w'.cell? ⟨a,15,none⟩=some (.slice Aw aN.length cw)/\w'.cell? ⟨a,16,none⟩=some (.slice none 0 0)) (first|(with_reducible exact ⟨q0,q1⟩)|(refine HK8.out _ ?_;repeat (first|exact Ch.refl _ _|refine Ch.drew ?_|refine Ch.alloc ?_ _))) (fail)
  go_wp2_with fail;have B5:=ah ((aG.new w4 33 #[.slice none 0 0,.slice Aw aN.length cw]).drew);have N45:=ah (((Ch.refl (fun _=>False) w4).alloc (.cells #[.slice none 0 0,.slice Aw aN.length cw] 33)).drew);obtain ⟨w5,hW⟩:∃w5,(w4.alloc (.cells #[.slice none 0 0,.slice Aw aN.length cw] 33)).drew=w5:=⟨_,rfl⟩;obtain ⟨p5,hp5⟩:∃p5,w4.heap.size=p5:=⟨_,rfl⟩;rw[hW]at B5 N45;rw[hp5]at B5;simp only[hW,hp5];have N35:=ah (N34.out.tr N45.out);have B5b:=ah (B4.out.nx N45.out);have HO5:=ah (z06 HO4.out N45.out (fun _ _ hf=>hf));clear hW hp5 HK8 q0 q1;go_loopw [40] (fun i wr=>∃kk:Nat,kk<=2/\i=.int .i64 (kk:Int)/\Hid (Nx w5 wr)/\Hid (kk=2->aN.any (dX b.maker b.seq)=false)) (fun i _=>2-(intOf i).toNat)
  case atStart=>exact ⟨0,Nat.zero_le _,rfl,ah (Ch.refl _ _),ah (fun h=>by cases h)⟩
  case round=>
   obtain ⟨w6,rfl⟩:∃w6:World,w6=wr:=⟨_,rfl⟩;obtain ⟨kk,hkk,rfl,N6,HNC⟩:=hrel;have hg6:w6.cell? ⟨gB,0,none⟩=some (.int .i64 b.maker):=(B5b.out.nx N6.out).cell 0;have hg7:w6.cell? ⟨gB,1,none⟩=some (.int .i64 b.seq):=(B5b.out.nx N6.out).cell 1;by_cases hlt:kk<2
   ·obtain ⟨A1,n1,c1,l1,hcell,hl1,Un,hk0,hk1⟩:∃(A1:Option Addr) (n1 c1:Nat) (l1:List dF),(#[Value.slice none 0 0,.slice Aw aN.length cw]:Array Value)[kk]?=some (.slice A1 n1 c1)/\l1.length=n1/\Rd w6 (fun _=>True) 3 A1 n1 (uT l1)/\(kk=0->l1=[])/\(kk=1->l1=aN):=by
     rcases (show kk=0∨kk=1 by omega) with rfl|rfl
     ·exact ⟨none,0,0,[],rfl,rfl,Rd.none_ _ _ _ _,(fun _=>rfl),(fun h=>by cases h)⟩
     ·exact ⟨Aw,aN.length,cw,aN,rfl,rfl,(Rd.bW (z06 HO5.out N6.out (fun _ _ hf=>hf))).more (fun _ _=>trivial),(fun h=>by cases h),(fun _=>rfl)⟩
    have hc5:=(B5.out.nx N6.out).cell kk;rw[hcell]at hc5
    have hc6:w6.cell? ((⟨p5,0,none⟩:Addr).add kk)=some (.slice A1 n1 c1):=by
     rw[show (⟨p5,0,none⟩:Addr).add kk=⟨p5,kk,none⟩ by unfold Addr.add;split<;>simp_all];exact hc5
    have SV:=ah (fun w' (c:Nx w6 w')=>nG (w:=w') A1 n1 c1 gB l1 b.maker b.seq (Un.nx (by decide) c) hl1 (by
     rcases (show kk=0∨kk=1 by omega) with h|h
     ·rw[hk0 h]at hl1;simp at hl1;omega
     ·rw[hk1 h]at hl1;omega) (by rw[c.cell (World.block_lt_of_cell? w6 _ hg6)];exact hg6) (by rw[c.cell (World.block_lt_of_cell? w6 _ hg7)];exact hg7))
    have hn1:n1<=10000:=by
     rcases (show kk=0∨kk=1 by omega) with h|h
     ·rw[hk0 h]at hl1;simp at hl1;omega
     ·rw[hk1 h]at hl1;omega
    cases hq:l1.any (dX b.maker b.seq)
    ·rw[hq]at SV
     have HF:Hid (kk+1=2->aN.any (dX b.maker b.seq)=false):=ah (fun h=>by rw[←hk1 (by omega)];exact hq);clear hq hcell Un hk0 hk1 hl1;go_wp2_with fail;refine (SV.out _ (by first|exact Ch.refl _ _|exact (Ch.refl _ _).drew)).mono ?_;rintro e w7 ⟨rfl,n7⟩;have N7:=ah (N6.out.tr n7);clear n7;go_wp2_with fail;go_roundw
     case rel=>exact ⟨kk+1,by omega,by go_num,N7,HF⟩
     case measure=>simp[intOf];omega
    ·rw[hq]at SV
     have HX:=ah (show ¬iZ C aN cnt b from fun h=>by
      have h2:=h.2.1;rcases (show kk=0∨kk=1 by omega) with h3|h3
      ·rw[hk0 h3]at hq;cases hq
      ·rw[hk1 h3,h2]at hq;cases hq)
     clear hq hcell Un hk0 hk1 hl1;go_wp2_with fail;refine (SV.out _ (by first|exact Ch.refl _ _|exact (Ch.refl _ _).drew)).mono ?_;rintro e w7 ⟨rfl,n7⟩;have N7:=ah (N35.out.tr (N6.out.tr n7));clear n7;go_wp2_with fail;go_ret;exact jT.bad (by decide) HX.out (Nx.sub (N3.out.tr N7.out)) (je.up ⟨A,k,bb,m,n,ch,R,HM3.out.nx N7.out,hnK,z06 HO3.out N7.out (fun _ _ hf=>hf),fun b hb=>⟨(QU.out b hb).1.nx N7.out,(QU.out b hb).2⟩,IJ.out⟩)
   ·have ZE:=ah (HNC.out (by omega))
    go_wp2_with fail;have N36:=ah (N35.out.tr N6.out);have HM6:=ah (HM3.out.nx N36.out);have B6:=ah (B5b.out.nx N6.out);have NW6:=ah (N3.out.tr N36.out);have ha6:a<w6.heap.size:=HM6.out.blk.lt;have hgl6:gB<w6.heap.size:=B6.out.lt;have HK14:=ah (fun w' (c:Ch (NC ξ w6) w6 w')=>(⟨(HM6.out.blk.ch c HM6.out.blk.nc).cell 14,(B6.out.ch c B6.out.nc).cell 0,(B6.out.ch c B6.out.nc).cell 1,(B6.out.ch c B6.out.nc).cell 2⟩:w'.cell? ⟨a,14,none⟩=some (.pointer (some ⟨bb,0,none⟩))/\w'.cell? ⟨gB,0,none⟩=some (.int .i64 b.maker)/\w'.cell? ⟨gB,1,none⟩=some (.int .i64 b.seq)/\w'.cell? ⟨gB,2,none⟩=some (.slice b.A b.l.length b.c)));have hky:=GK (HM6.out.nx (Ch.refl _ w6).drew) b ((QV.out.nx NW6.out).nx (Ch.refl _ w6).drew) (fun x hx=>HC7.out x.row (List.mem_map_of_mem hx)) (by have:=HL64.out;omega);unfold oG at hky;have Vq:=ah hky;obtain ⟨-, -, -,⟨hbu1,hbu2⟩, -⟩:=N_ HM6.out.fits;obtain ⟨q0,q1,q2,q3⟩:=HK14.out w6.drew (Nx.nc (ξ:=ξ) (Ch.refl _ w6).drew);clear hky hg6 hg7
    go_region_held3 (fun w'=>w'.cell? ⟨a,14,none⟩=some (.pointer (some ⟨bb,0,none⟩))/\w'.cell? ⟨gB,0,none⟩=some (.int .i64 b.maker)/\w'.cell? ⟨gB,1,none⟩=some (.int .i64 b.seq)/\w'.cell? ⟨gB,2,none⟩=some (.slice b.A b.l.length b.c)) (first|(with_reducible exact ⟨q0,q1,q2,q3⟩)|fail) (first
     |(go_at_call 29;refine Vq.out.mono ?_;rintro e w7 ⟨vk,ks,rfl,ok,hks⟩;obtain ⟨Ak,ck,rfl, -, -⟩:=ok.form;have N67:=ah ((Ch.refl (fun _=>False) w6).drew.tr ok.nx);have IV:=ah hks;have hkl:ks.length<=64:=(by have:=congrArg List.length hks;simp only[List.length_map]at this;have:=HL64.out;omega);have NK:=ah (QD ((HM6.out.nx N67.out).CB) Ak ck ks.length ks (ok.rd.more (D':=fun _=>True) fun _ _=>trivial) rfl (by omega) (fun x hx=>TU hks HC7.out x hx) (by omega) (by omega) (by omega));obtain ⟨q0,q1,q2,q3⟩:=HK14.out w7 (Nx.nc (ξ:=ξ) N67.out);clear ok hks)
     |(go_at_call 28;refine NK.out.mono ?_;rintro e w8 ⟨q,n8,ch8,rfl,hqi,hn8,hb8,c8⟩;have C68:=ah ((Nx.nc (ξ:=ξ) N67.out).jQ c8);have HQI:=ah hqi;have HB8:=ah hb8;have C8:=ah c8;obtain ⟨q0,q1,q2,q3⟩:=HK14.out w8 C68.out;clear hqi hb8 c8))
    have HM7:=ah (HM6.out.nx N67.out);have HO7:=ah (z06 (z06 HO3.out N36.out (fun _ _ hf=>hf)) N67.out (fun _ _ hf=>hf));have YN:=ah (fun x hx=>((QU.out x hx).1.nx N36.out).nx N67.out);have HO8:=ah (z06 HO7.out C8.out fun k hk hs=>hs.2 (Rk HO7.out hk));have HBT8:=ah (fun x hx=>(⟨(YN.out x hx).nc C8.out,(QU.out x hx).2⟩:x.ok w8 (fun i=>a<i/\(Value.slice Aw aN.length cw).ownBlock≠some i)/\fB x.maker x.seq (x.l.map fun y=>y.row)=0));have CW8:=ah (show Ch (NC ξ w) w w8 from (Nx.nc (ξ:=ξ) NW6.out).jQ C68.out);have CS8:=ah (show Ch (og ξ w a (.slice Aw aN.length cw)) w w8 from CW8.out.mono fun _ _ h=>.inl h);have hn8':n8<=64 * (K+1):=(by omega);have B8:=ah (B6.out.ch C68.out B6.out.nc);have HBO8:=ah (QV.out.nc CW8.out);clear q0 q1 q2 q3 HK14 NK Vq B3 B5 YN HNC;cases q
    ·have HX:=ah (show ¬iZ C aN cnt b from fun h=>by
      have h1:=HQI.out.2 (fun s hs=>by rw[uP IV.out s,IJ.out s hs];exact h.2.2 s hs);cases h1)
     have HB8':=ah (show bC ξ w8 bb C.buffer.toNat m n8 ch8 R from by simpa using HB8.out);go_wp2_with fail;go_ret;exact jT.bad (by decide) HX.out CS8.out ⟨A,k,bb,m,n8,ch8,R,HM7.out.nc C8.out HB8'.out,hn8',HO8.out,HBT8.out,IJ.out⟩
    ·have NJ:=ah (show iZ C aN cnt b from ⟨HE.out,ZE.out,fun s hs=>by
      have:=HQI.out.1 rfl s hs;rw[uP IV.out s,IJ.out s hs]at this;exact this⟩)
     have HB8':=ah (show bC ξ w8 bb C.buffer.toNat m n8 ch8 (fun s=>R s++fK ks s) from by simpa using HB8.out)
     have HCN8:=ah (show ∀s,fC s->((fun s=>R s++fK ks s) s).length=cnt s+dD C (b.l.map fun x=>x.row) s from fun s hs=>by
      dsimp only
      rw[List.length_append,qH,uP IV.out s,IJ.out s hs])
     have HM8:=ah (HM7.out.nc C8.out HB8'.out);generalize (fun s=>R s++fK ks s)=R8 at *;have d15:w8.cell? ⟨a,15,none⟩=some (.slice Aw aN.length cw):=HM8.out.blk.cell 15;have f8:=HM8.out.blk.frozen;have c8:=HM8.out.blk.cell;have ha8:a<w8.heap.size:=HM8.out.blk.lt;obtain ⟨sn,hsn⟩:∃sn,(if aN=[] then now else since)=sn:=⟨_,rfl⟩;have HSN:=ah hsn;clear hsn HQI HB8 HB8' HM7 HO7 IV N67;go_upto_if 62 with fail
     go_cut [] (fun wx=>Hid (ou ξ wx a ag life C A k bb m n8 ch8 R8 (.slice Aw aN.length cw) (.slice none 0 0) sn fl (.slice none 0 0) 0)/\Hid (Ch (· =a) w8 wx))
     case first=>
      by_cases hb0:aN=[]
      ·have hl0:aN.length=0:=by rw[hb0];rfl
       have hq0:((aN.length:Int)==0)=true:=by rw[hl0];rfl
       have HS1:Hid (now=sn):=ah (by have:=HSN.out;rw[if_pos hb0]at this;exact this);have HBK:=ah (HM8.out.blk.aS 17 (.int .i64 now));have YL:=ah ((Ch.refl (· =a) w8).setCell (p:=⟨a,17,none⟩) (fun _=>rfl) (.int .i64 now));clear hb0 hl0;go_wp2_with fail;go_meet
       refine ⟨ah (HM8.out.aS YL.out ?_),YL⟩;have:=HBK.out;rw[HS1.out]at this ⊢;exact this
      ·have hl0:aN.length≠0:=fun h=>hb0 (List.eq_nil_of_length_eq_zero h)
       have hq0:((aN.length:Int)==0)=false:=by rw[beq_eq_false_iff_ne];omega
       have HS1:Hid (since=sn):=ah (by have:=HSN.out;rw[if_neg hb0]at this;exact this);clear hb0 hl0;go_wp2_with fail;go_meet
       exact ⟨ah (by have:=HM8.out;rw[HS1.out]at this;exact this),ah (Ch.refl _ _)⟩
     case rest=>
      obtain ⟨HM9,C9⟩:=hcut;obtain ⟨w9,rfl⟩:∃w9:World,w9=wc:=⟨_,rfl⟩;have B9:=ah (B8.out.ch C9.out (show ¬gB=a by omega));have HBO9:=ah (HBO8.out.ch (D':=D) C9.out (fun i _ hd e=>HD.out i hd e) fun _ h=>h);have hrw:=lZ b HBO9.out (by have:=HL64.out;omega) (fun x hx=>by have:=(Nu (Nw (HC7.out x.row (List.mem_map_of_mem hx))).1).1;omega);unfold oG at hrw;have HRW:=ah hrw;have e0:w9.cell? ⟨gB,0,none⟩=some (.int .i64 b.maker):=B9.out.cell 0;have e1:w9.cell? ⟨gB,1,none⟩=some (.int .i64 b.seq):=B9.out.cell 1;have e2:w9.cell? ⟨gB,2,none⟩=some (.slice b.A b.l.length b.c):=B9.out.cell 2;clear hrw;go_wp2_with fail;refine HRW.out.mono ?_;rintro e w10 ⟨vr0,zs,rfl,hro,hzs⟩;obtain ⟨Az,cz,rfl, -, -⟩:=hro.form;have SI:=ah hro;have Ve:=ah hzs;have B10:=ah (B9.out.nx hro.own.nx);have f10:=B10.out.frozen;have c10:=B10.out.cell;have hg9:gB<w9.heap.size:=B9.out.lt;have hg10:gB<w10.heap.size:=B10.out.lt;clear hro hzs HRW e0 e1 e2;obtain ⟨Z,hZ⟩:∃Z,zs.length=Z:=⟨_,rfl⟩;have EH:=ah hZ
      have hZ64:Z<=64:=by
       have:=congrArg List.length Ve.out;simp only[List.length_map]at this;have:=HL64.out;omega
      simp only[hZ];clear hZ;go_wp2_with fail;have B11:=ah (B10.out.aS 2 (.slice none 0 0));have C11:=ah ((Ch.refl (· =gB) w10).setCell (p:=⟨gB,2,none⟩) (fun _=>rfl) (.slice none 0 0));obtain ⟨w11,hW⟩:∃w11,w10.setCell ⟨gB,2,none⟩ (.slice none 0 0)=w11:=⟨_,rfl⟩;rw[hW]at B11 C11;simp only[hW];have YS:=ah (show Ch (· =gB) w9 w11 from (SI.out.own.nx.mono fun _ _ hf=>hf.elim).trans C11.out fun _ _ h=>h)
      have HRZ:=ah (show Rd w11 (fun i=>w9.heap.size<=i) 9 Az Z (bM zs) from by
       have h1:=SI.out.own.rd;have h2:=h1.ch (by decide) C11.out fun i _ hd e=>by have e2:i=gB:=e;have:=hd.2.1;omega
       have h3:=h2.more (D':=fun i=>w9.heap.size<=i) fun i hi=>hi.2.1;rw[EH.out]at h3;exact h3)
      have Vf:=ah (fun z hz=>(SI.out.ok z hz).ch (D':=fun i=>w9.heap.size<=i/\i<w11.heap.size) C11.out (fun i _ hd e=>by have e2:i=gB:=e;have:=hd.1;omega) fun i hd=>⟨hd.1,by have:=C11.out.size;have:=hd.2.1;omega⟩);have hs911:=YS.out.size;obtain ⟨i1,hi1,hy0,hy1,hy2⟩:=info_parts Tryz.PK;clear hW f10 c10 B10 C11 SI;go_loopw [72] (fun i wr=>∃(j:Nat) (vr:Value),j<=Z/\i=.int .i64 (j:Int)/\Hid (aG wr gB 37 #[.int .i64 b.maker,.int .i64 b.seq,vr])/\Hid (wr.ownsRow w11.heap.size 57 6 vr j (oD (zs.take j)))/\Hid (Ch (· =gB) w11 wr)) (fun i _=>Z-(intOf i).toNat)
      case atStart=>exact ⟨0,.slice none 0 0,Nat.zero_le _,rfl,ah B11.out,ah (World.ownsRow_nil _ _ _ _),ah (Ch.refl _ _)⟩
      case round=>
       obtain ⟨w12,rfl⟩:∃w12:World,w12=wr:=⟨_,rfl⟩;obtain ⟨j,vr,hjZ,rfl,B12,HR12,C12⟩:=hrel;obtain ⟨A3,c3,hv3,hc31,hc32⟩:=h_ HR12.out;subst hv3;have b12:w12.cell? ⟨gB,2,none⟩=some (.slice A3 j c3):=B12.out.cell 2;have hg12:gB<w12.heap.size:=B12.out.lt;have hs12:=C12.out.size;by_cases PS:j<Z
       ·have hjz:j<zs.length:=by rw[EH.out];exact PS
        obtain ⟨ad,rfl, -,p0,p1,p2,p3,p4,p5,p6,p7,p8⟩:=qg (HRZ.out.ch (by decide) C12.out fun i _ hd e=>by have e2:i=gB:=e;have hd2:w9.heap.size<=i:=hd;omega) hjz;have HT:=ah (List.take_succ_eq_append_getElem hjz);generalize zs[j]=x at *;obtain ⟨⟨kind,time,ak,text,value,null,maker,seq,place⟩,A1,c1⟩:=x;simp only at p0 p1 p2 p3 p4 p5 p6 p7 p8;have N13:=ah (((Ch.refl (fun _=>False) w12).alloc (.cells #[.int .i64 kind,.int .i64 time,.slice A1 ak.length c1,.string text,.int .i64 value,.bool null,.int .i64 maker,.int .i64 seq,.int .i64 place] 79)).alloc (.cells #[.int .i64 kind,.int .i64 time,.slice A1 ak.length c1,.string text,.int .i64 value,.bool null] 57));have HL6:=ah (Rd.Xn (w12.alloc (.cells #[.int .i64 kind,.int .i64 time,.slice A1 ak.length c1,.string text,.int .i64 value,.bool null,.int .i64 maker,.int .i64 seq,.int .i64 place] 79)) ⟨⟨kind,time,ak,text,value,null,maker,seq,place⟩,A1,c1⟩);have B13:=ah (B12.out.nx N13.out);have HR13:=ah (z06 HR12.out N13.out (fun _ _ hf=>hf));have C13:=ah (C12.out.tr N13.out);simp only[World.size_alloc]at HL6;go_wp2_with (at_builtin;refine z04 _ rfl (.tmp 77) (.tmp 80) _ rfl w11.heap.size 57 i1 _ 6 72 Tryz.underlying35 hi1 hy0 hy1 hy2 rfl (by omega) (.slice A3 j c3) j (oD (zs.take j)) rfl HR13.out _ (some ⟨w12.heap.size+1,0,none⟩) 1 1 _ rfl HL6.out (OM _) (by simp only[maxLen];omega) (by omega) (by simp;omega) ?_;intro v7 w7 dn gr7 at7;obtain ⟨A7,c7,hv7, -, -⟩:=h_ dn;subst hv7;have HR7:=ah dn;have B7:=ah (B13.out.grown gr7 (fun e=>z07 HR13.out B13.out (by decide) e.symm));have C7:=ah (C13.out.grown gr7 fun k hk hkw=>by have:=(World.ownsRow.lt HR13.out k hk).1;omega);have bf:=B7.out.frozen;have bc:=B7.out.cell;have hg7:gB<w7.heap.size:=B7.out.lt;clear dn gr7 at7)
        have B8b:=ah (B7.out.aS 2 (.slice A7 (j+1) c7));have C8b:=ah ((Ch.refl (· =gB) w7).setCell (p:=⟨gB,2,none⟩) (fun _=>rfl) (.slice A7 (j+1) c7));have HR8:=ah (z06 HR7.out C8b.out fun k hk e=>by have e2:k=gB:=e;subst e2;exact z07 HR7.out B7.out (by decide) hk);have C78:=ah (C7.out.trans C8b.out fun _ _ h=>h);go_roundw
        case rel=>exact ⟨j+1,.slice A7 (j+1) c7,by omega,by go_num,B8b,ah (by rw[HT.out,AA];exact HR8.out),C78⟩
        case measure=>simp[intOf];omega
       ·have HRF:=ah (show w12.ownsRow w11.heap.size 57 6 (.slice A3 j c3) j (oD zs) from by have:=HR12.out;rw[List.take_of_length_le (by have:=EH.out;omega)]at this;exact this)
        have hjZ2:j=Z:=(by omega);subst hjZ2;have HM12:=ah ((HM9.out.Ib YS.out fun i _ e=>by have e2:i=gB:=e;subst e2;exact ⟨B9.out.Qg,Ux⟩).Ib C12.out fun i _ e=>by have e2:i=gB:=e;subst e2;exact ⟨B11.out.Qg,Ux⟩);have hwl:∀k,(Value.slice Aw aN.length cw).ownBlock=some k->k<gB:=fun k hk=>by have:=HWL.out k hk;have:=HGB.out;omega
        have Zw:=ah hwl;have HO12:=ah (z06 (z06 (z06 HO8.out C9.out fun k hk e=>by have e2:k=a:=e;have:=(World.ownsRow.lt HO8.out k hk).1;omega) YS.out fun k hk e=>by have e2:k=gB:=e;have:=hwl k hk;omega) C12.out fun k hk e=>by have e2:k=gB:=e;have:=hwl k hk;omega)
        have HB12:Hid (∀x∈aN,x.ok w12 (fun i=>(a<i/\(Value.slice Aw aN.length cw).ownBlock≠some i)/\i<gB)/\fB x.maker x.seq (x.l.map fun y=>y.row)=0):=ah (fun x hx=>by
         obtain ⟨h1,h2⟩:=HBTW.out x hx;have h3:x.ok w8 (fun i=>(a<i/\(Value.slice Aw aN.length cw).ownBlock≠some i)/\i<gB):=(h1.nc CW8.out).more fun i hi=>⟨hi.1,by have:=hi.2;have:=HGB.out;omega⟩;have h4:=h3.ch (D':=fun i=>(a<i/\(Value.slice Aw aN.length cw).ownBlock≠some i)/\i<gB) C9.out (fun i _ hd e=>by have e2:i=a:=e;have:=hd.1.1;omega) fun _ h=>h;have h5:=h4.ch (D':=fun i=>(a<i/\(Value.slice Aw aN.length cw).ownBlock≠some i)/\i<gB) YS.out (fun i _ hd e=>by have e2:i=gB:=e;have:=hd.2;omega) fun _ h=>h;exact ⟨h5.ch (D':=fun i=>(a<i/\(Value.slice Aw aN.length cw).ownBlock≠some i)/\i<gB) C12.out (fun i _ hd e=>by have e2:i=gB:=e;have:=hd.2;omega) fun _ h=>h,h2⟩)
        have Yx:=ah (show Rd w12 (fun i=>w11.heap.size<=i/\i<w12.heap.size) 6 A3 zs.length (oD zs) from by
         have:=(Rd.bW HRF.out).more (D':=fun i=>w11.heap.size<=i/\i<w12.heap.size) fun i hi=>hi.2;rw[←EH.out]at this;exact this)
        have HZ12:=ah (fun z hz=>(Vf.out z hz).ch (D':=fun i=>w9.heap.size<=i/\i<w12.heap.size) C12.out (fun i _ hd e=>by have e2:i=gB:=e;have:=hd.1;omega) fun i hi=>⟨hi.1,by have:=hi.2;omega⟩);have ha12:a<w12.heap.size:=HM12.out.blk.lt;clear b12 HRZ Vf HRF
        have HMD:=ah (fun z (hz:z∈zs)=>show z.row.mid from by
         have h1:z.row∈zs.map fun x=>x.row:=List.mem_map_of_mem hz;rw[Ve.out]at h1;obtain ⟨x,hx,e⟩:=List.mem_map.1 h1;rw[←e];exact QV.out.mid x hx)
        have HNMD:=ah (fun i (h:i<zs.length)=>show (zs[i]).row.maker=b.maker/\(zs[i]).row.seq=b.seq/\(zs[i]).row.place=(i:Int) from by
         have h2:i<b.l.length:=by have:=congrArg List.length Ve.out;simp only[List.length_map]at this;omega
         have h1:(zs[i]).row=(b.l[i]).row:=by
          have h3:(zs.map fun x=>x.row)[i]?=(b.l.map fun x=>x.row)[i]?:=(by rw[Ve.out]);rw[List.getElem?_map,List.getElem?_map,List.getElem?_eq_getElem h,List.getElem?_eq_getElem h2]at h3;injection h3
         rw[h1];exact QV.out.named i h2)
        have hs912:w9.heap.size<=w11.heap.size:=hs911;have HOKB:Hid (({ maker:=b.maker,seq:=b.seq,A:=A3,c:=c3,l:=zs}:dF).ok w12 (fun i=>w9.heap.size<=i/\i<w12.heap.size)):=ah ⟨Yx.out.more fun i hi=>⟨by have:=hi.1;omega,hi.2⟩,HZ12.out,HMD.out,HNMD.out,by have:=EH.out;show zs.length<=c3;omega,hc32⟩;have N13:=ah (((Ch.refl (fun _=>False) w12).alloc (.cells #[.int .i64 b.maker,.int .i64 b.seq,.slice A3 j c3] 37)).drew);have IV:=ah (fun w' (c:Nx w12 w')=>(⟨(HM12.out.nx c).blk.cell 15,(B12.out.nx c).cell 0,(B12.out.nx c).cell 1,(B12.out.nx c).cell 2⟩:w'.cell? ⟨a,15,none⟩=some (.slice Aw aN.length cw)/\w'.cell? ⟨gB,0,none⟩=some (.int .i64 b.maker)/\w'.cell? ⟨gB,1,none⟩=some (.int .i64 b.seq)/\w'.cell? ⟨gB,2,none⟩=some (.slice A3 j c3)));have hl3:=Rd.lit3 w12 ⟨b.maker,b.seq,A3,c3,zs⟩;have HM13:=ah (HM12.out.nx N13.out);have HO13:=ah (z06 HO12.out N13.out (fun _ _ hf=>hf));have B13:=ah (B12.out.nx N13.out);have hzj:zs.length=j:=by have:=EH.out;omega
        rw[show (dF.l ⟨b.maker,b.seq,A3,c3,zs⟩).length=j from hzj]at hl3;simp only at hl3;have HL3:=ah (hl3.keep (w':=((w12.alloc (.cells #[.int .i64 b.maker,.int .i64 b.seq,.slice A3 j c3] 37)).drew)) (fun _ _=>rfl));clear hl3;obtain ⟨i2,hi2,hx0,hx1,hx2⟩:=info_parts Tryz.Ug;have HJ:=ah hzj;clear hzj;go_wp2_with fail;refine sD (fun w'=>w'.cell? ⟨a,15,none⟩=some (.slice Aw aN.length cw)/\w'.cell? ⟨gB,0,none⟩=some (.int .i64 b.maker)/\w'.cell? ⟨gB,1,none⟩=some (.int .i64 b.seq)/\w'.cell? ⟨gB,2,none⟩=some (.slice A3 j c3)) (fun i=>decide (8<=i)) rfl (IV.out _ (Ch.refl _ w12).drew) (fun hS0=>?_)
        try simp only[Act.put,aA,au,ay]
        refine z00 (i:=0) (oi:=_) (v:=?_) rfl (fun _ _ _ h=>h) (Or.inl ⟨by rfl,?_⟩) ?_;rotate_left
        ·(intro w hSw;(try dsimp only at hSw);go_split_ands;go_simp;try with_reducible rfl)
        try simp only[Act.put,aA,au,ay]
        refine z00 (i:=1) (oi:=_) (v:=?_) rfl (fun _ _ _ h=>h) (Or.inl ⟨by rfl,?_⟩) ?_;rotate_left
        ·(intro w hSw;(try dsimp only at hSw);go_split_ands;go_simp;try with_reducible rfl)
        try simp only[Act.put,aA,au,ay]
        refine z00 (i:=2) (oi:=_) (v:=?_) rfl (fun _ _ _ h=>h) (Or.inl ⟨by rfl,?_⟩) ?_;rotate_left
        ·(intro w hSw;(try dsimp only at hSw);go_split_ands;go_simp;try with_reducible rfl)
        try simp only[Act.put,aA,au,ay]
        refine z00 (i:=3) (oi:=_) (v:=?_) rfl (fun _ _ _ h=>h) (Or.inl ⟨by rfl,?_⟩) ?_;rotate_left
        ·(intro w hSw;(try dsimp only at hSw);go_split_ands;go_simp;try with_reducible rfl)
        try simp only[Act.put,aA,au,ay]
        refine z00 (i:=4) (oi:=_) (v:=?_) rfl (fun _ _ _ h=>h) (Or.inl ⟨by rfl,?_⟩) ?_;rotate_left
        ·(intro w hSw;(try dsimp only at hSw);go_split_ands;go_simp;try with_reducible rfl)
        try simp only[Act.put,aA,au,ay]
        refine z00 (i:=5) (oi:=_) (v:=?_) rfl (fun _ _ _ h=>h) (Or.inl ⟨by rfl,?_⟩) ?_;rotate_left
        ·(intro w hSw;(try dsimp only at hSw);go_split_ands;go_simp;try with_reducible rfl)
        try simp only[Act.put,aA,au,ay]
        refine z02 (rs:=[6]) (by kernel_rfl) (by simp) (z01.cons (o:=_) rfl (fun K hK=>?_) z01.nil);go_simp;refine hK.out _ _ (fun _=>IV.out _ N13.out) (fun aj=>?_);have hHeld:=aj (by decide);clear hK K aj
        try simp only[Act.put,aA,au,ay]
        refine z02 (rs:=[7]) (by kernel_rfl) (by simp) (z01.cons (o:=_) rfl (fun K hK=>?_) z01.nil);refine Ns _ rfl (.tmp 88) (.tmp 90) _ rfl (a+1) 37 i2 _ 3 40 Tryz.underlying33 hi2 hx0 hx1 hx2 rfl (by omega) (.slice Aw aN.length cw) aN.length (uT aN) rfl HO13.out _ (some ⟨w12.heap.size,0,none⟩) 1 1 _ rfl HL3.out (Qm _) (by simp only[maxLen];omega) (by omega) (by simp;omega) ?_;intro v9 w15 jq gr9 at9;obtain ⟨A9,c9,hv9, -, -⟩:=h_ jq;subst hv9;have bA:=HM13.out.blk.grown gr9 (fun e=>z07 HO13.out HM13.out.blk (by decide) e.symm);have bG:=B13.out.grown gr9 (fun e=>by have:=Zw.out _ e.symm;omega);have C15:=ah ((Ch.refl (fun i=>(Value.slice Aw aN.length cw).ownBlock=some i) ((w12.alloc (.cells #[.int .i64 b.maker,.int .i64 b.seq,.slice A3 j c3] 37)).drew)).grown gr9 fun k hk _=>hk);have BA:=ah bA;have O9:=ah jq;have A9T:=ah at9;have r0:w15.cell? ⟨a,15,none⟩=some (.slice Aw aN.length cw):=bA.cell 15;have r1:w15.cell? ⟨gB,0,none⟩=some (.int .i64 b.maker):=bG.cell 0;have r2:w15.cell? ⟨gB,1,none⟩=some (.int .i64 b.seq):=bG.cell 1;have r3:w15.cell? ⟨gB,2,none⟩=some (.slice A3 j c3):=bG.cell 2;have rf:=bA.frozen;have rc:=bA.cell;clear jq gr9 at9 bA bG;refine hK.out _ _ (fun _=>⟨r0,r1,r2,r3⟩) (fun aj=>?_);have hHeld:=aj (by decide);clear hK K aj
        try simp only[Act.put,aA,au,ay]
        refine z02 (rs:=[8]) (by kernel_rfl) (by simp) (z01.cons (o:=_) rfl (fun K hK=>?_) z01.nil);go_simp;refine hK.out _ _ (fun h=>absurd h (by decide)) (fun aj=>?_);clear hK K aj
        try simp only[Act.put,aA,au,ay]
        refine z02 (rs:=[9]) (by kernel_rfl) (by simp) (z01.cons (o:=_) rfl (fun K hK=>?_) z01.nil);go_simp;refine hK.out _ _ (fun h=>absurd h (by decide)) (fun aj=>?_);clear hK K aj
        try simp only[Act.put,aA,au,ay]
        refine z02 (rs:=[10]) (by kernel_rfl) (by simp) (z01.cons (o:=_) rfl (fun K hK=>?_) z01.nil);go_simp;refine hK.out _ _ (fun h=>absurd h (by decide)) (fun aj=>?_);clear hK K aj
        try simp only[Act.put,aA,au,ay]
        refine kE (by kernel_rfl) ?_ _;have CF:=ah ((Ch.refl (· =a) w15).setCell (p:=⟨a,15,none⟩) (fun _=>rfl) (.slice A9 (aN.length+1) c9));have BF:=ah (BA.out.aS 15 (.slice A9 (aN.length+1) c9));go_wp2_with fail;go_ret;generalize w15.setCell ⟨a,15,none⟩ (.slice A9 (aN.length+1) c9)=wF at *;exact zQ NJ.out CS8.out C9.out YS.out C12.out N13.out C15.out CF.out Ux HGB.out Zw.out HM13.out BF.out hn8' O9.out A9T.out HO13.out HB12.out HOKB.out Ve.out HE.out HCN8.out HSN.out hg9 C12.out.size
 ·have hq:(er !=0)=true:=by simpa using h0
  have HX:=ah (show ¬iZ C aN cnt b from fun h=>h0 (by rw[←HE.out];exact h.1));clear her;go_enter Tryz.func11,Tryz.ntmps11;go_wp2_with fail;refine (HCK.out _ HN.out).mono ?_;rintro e w3 ⟨rfl,n3⟩;have N3:=ah (HN.out.tr n3);clear n3;have H0:=ah h0;clear h0;go_wp2_with fail;go_ret;exact jT.bad H0.out HX.out (Nx.sub N3.out) (HAS.out.nx N3.out).up
end
theorem EZ {w:World} {g:Nat} {u:Up} {dv:Value} (h:Iu w g u dv):Calls Tryz.prog 65 #[.pointer (some ⟨g,0,none⟩)] w fun e w'=>e=.returned (.int .i64 u.ends)/\w=w':=by
 have d12:w.cell? ⟨g,12,none⟩=some (.int .i64 u.ends):=h.cell_ 12;clear h;go_enter Tryz.func65,Tryz.ntmps65;go_wp2_with fail;go_ret;exact ⟨rfl,rfl⟩
theorem rev1 (b c:Nat) (w:World):Calls Tryz.prog 99 #[.slice (some ⟨b,0,none⟩) 1 c] w fun e w'=>e=.returned (.tuple #[])/\w=w':=by
 go_enter Tryz.func99,Tryz.ntmps99;go_wp2_with fail;go_loopw [2,3] (fun i j wr=>i=.int .i64 0/\j=.int .i64 0/\w=wr) (fun _ _ _=>0)
 case atStart=>exact ⟨rfl,rfl,rfl⟩
 case round=>
  obtain ⟨rfl,rfl,rfl⟩:=hrel;go_wp2_with fail;go_end0
  exact ⟨rfl,rfl⟩
theorem dec1 (n:Nat) (hn:n<=9) (w:World):Calls Tryz.prog 62 #[.int .i64 (n:Int)] w fun e w'=>e=.returned (.string ⟨#[UInt8.ofNat (48+n)]⟩)/\Nx w w':=by
 obtain ⟨i0,hi0,hz0,hz1,hz2⟩:=info_parts Tryz.info5;have h1:(n:Int) % 10=(n:Int):=by omega
 have h1t:(n:Int).tmod 10=(n:Int):=by rw[Int.tmod_eq_emod_of_nonneg (by omega)];omega
 have h2:(n:Int) / 10=0:=by omega
 have h2t:(n:Int).tdiv 10=0:=by rw[Int.tdiv_eq_ediv_of_nonneg (by omega)];omega
 obtain ⟨d,hd⟩:∃d,48+n=d:=⟨_,rfl⟩;rw[hd];have h3:48+(n:Int)=(d:Int):=by omega
 have h4:IntKind.u8.wrap (d:Int)=(d:Int):=by simp[IntKind.wrap,IntKind.bits,IntKind.signed];omega
 have hdb:d<=57:=by omega
 clear hd;go_enter Tryz.func62,Tryz.ntmps62;go_wp2_with fail;go_loopw [0,3] (fun i v wr=>i=.int .i64 (n:Int)/\v=.slice none 0 0/\w=wr) (fun _ _ _=>0)
 case atStart=>exact ⟨rfl,rfl,rfl⟩
 case round=>
  obtain ⟨rfl,rfl,rfl⟩:=hrel;have HL:=ah (Rd.lit w #[.int .u8 (d:Int)] 5 (0,0));have HN1:=ah ((Ch.refl (fun _=>False) w).alloc (.cells #[.int .u8 (d:Int)] 5));go_wp2_with (at_builtin;refine z04 _ rfl (.tmp 4) (.tmp 9) _ rfl w.heap.size 5 i0 _ 1 1 Tryz.underlying47 hi0 hz0 hz1 hz2 rfl (by omega) (.slice none 0 0) 0 [] rfl (World.ownsRow_nil _ _ _ _) _ (some ⟨w.heap.size,0,none⟩) 1 1 (bl [d]) rfl HL.out (jk _) (by simp only[maxLen];omega) (by omega) (by simp) ?_;intro v7 w7 dn gr7 at7;obtain ⟨g7,pK,hv7, -, -⟩:=dn.form (by omega);subst hv7;have O7:=ah dn;have N7:=ah (HN1.out.grown gr7 (fun k hk _=>by cases hk));clear dn gr7 at7)
  have hcv:=Ze (P:=Tryz.prog) w7 47 9 5 Tryz.underlying47 Tryz.underlying5 Tryz.underlying9 _ _ _ pK _ (Rd.bW O7.out);refine (rev1 g7 pK w7).mono ?_;rintro e w8 ⟨rfl,rfl⟩;go_wp2_with fail;go_ret;exact ⟨rfl,N7.out⟩
theorem flush_any {ξ:Nat} {w:World} {a:Nat} {ag life:Int} {C:aV} {aN:List dF} {cnt:ByteArray->Nat} {since:Int} {fl:Bool} {K:Nat} {wt:Value} (h:je ξ w a ag life C aN cnt since fl K wt) (hne:aN≠[]):
 Calls Tryz.prog 17 #[.pointer (some ⟨a,0,none⟩)] w fun e w'=>e=.returned (.tuple #[])/\je ξ w' a ag life C aN cnt since true K wt/\Ch (· =a) w w':=by
 obtain ⟨A,k,bb,m,n,ch,R,h1,h2,h3,h4,h5⟩:=h;obtain ⟨Aw,cw,rfl, -, -⟩:=h_ h3;have d15:w.cell? ⟨a,15,none⟩=some (.slice Aw aN.length cw):=h1.blk.cell 15;have f:=h1.blk.frozen;have c:=h1.blk.cell;have ha:=h1.blk.lt;have hl:0<aN.length:=List.length_pos_iff.2 hne
 have HF:=ah (show je ξ (w.setCell ⟨a,18,none⟩ (.bool true)) a ag life C aN cnt since true K (.slice Aw aN.length cw)/\Ch (· =a) w (w.setCell ⟨a,18,none⟩ (.bool true)) from by
  have C1:=(Ch.refl (· =a) w).setCell (p:=⟨a,18,none⟩) (fun _=>rfl) (.bool true);refine ⟨⟨A,k,bb,m,n,ch,R,h1.aS C1 ?_,h2,z06 h3 C1 (fun i hi e=>by have e2:i=a:=e;have:=(World.ownsRow.lt h3 i hi).1;omega),fun x hx=>⟨(h4 x hx).1.ch C1 (fun i _ hd e=>by have e2:i=a:=e;have:=hd.1;omega) fun _ h=>h,(h4 x hx).2⟩,h5⟩,C1⟩;exact h1.blk.aS 18 (.bool true))
 clear h1 h2 h3 h4 h5 hne;go_enter Tryz.func17,Tryz.ntmps17;go_wp2_with fail;go_end0
 exact ⟨rfl,HF.out⟩
def YQ (w:World) (e:Ending) (w':World):Prop:=∃(k p:ByteArray) (x0 x1 x2 x3 x4 x6:Int) (x5:Nat),e=.returned (.agg #[.string k,.int .i64 x0,.string p,.int .i64 x1,.int .i64 x2,.int .i64 x3,.int .i64 x4,.int .u32 (x5:Int),.int .i64 x6])/\Nx w w'
theorem Hf {w:World} {D D2:Nat->Prop} (key part:ByteArray) (window born:Int) (A B:Option Addr) (n c nb cb:Nat) (l:List RV) (xs:List Nat) (h:Rd w D 9 A n (bM l)) (hl:l.length=n) (hn0:0<n) (hn:n<=1000000) (hb:Rd w D2 1 B nb (bl xs)) (hxl:xs.length=nb) (hok:okB xs) (hnb:nb<=9223372036854775807) (hD2:∀i,D2 i->i<w.heap.size):
 Calls Tryz.prog 63 #[.string key,.int .i64 window,.string part,.slice A n c,.slice B nb cb,.int .i64 born] w (YQ w):=by
 have HR:=ah h;have Hl:=ah hl;have HB:=ah hb;have HS:=ah (fun w' (c':Nx w w') (p pc:Nat) (hp:w'.cell? ⟨p,0,none⟩=some (.slice B nb cb))=>xZ D2 p pc B nb cb xs w' hp (hb.nx (by decide) c') (fun i hi=>Nat.lt_of_lt_of_le (hD2 i hi) c'.size) hok hxl hnb);clear h hl hb;go_enter Tryz.func63,Tryz.ntmps63;go_wp2_with fail;have HN2:=ah (((Ch.refl (fun _=>False) w).alloc (.cells #[.string ⟨#[]⟩,.int .i64 0,.string ⟨#[]⟩,.int .i64 0,.int .i64 0,.int .i64 0,.int .i64 0,.int .u32 0,.int .i64 0] 141)).alloc (.cells #[.slice B nb cb] 47));have HB1:=ah ((aG.new w 141 #[.string ⟨#[]⟩,.int .i64 0,.string ⟨#[]⟩,.int .i64 0,.int .i64 0,.int .i64 0,.int .i64 0,.int .u32 0,.int .i64 0]).alloc (.cells #[.slice B nb cb] 47));refine (HS.out _ HN2.out (w.heap.size+1) 1 (by simp)).mono ?_;rintro e w4 ⟨rfl,n4⟩;have N4:=ah (HN2.out.tr n4);have B4:=ah (HB1.out.nx n4);have hg4:w.heap.size<w4.heap.size:=B4.out.lt;obtain ⟨sm,hsm⟩:∃sm,sumF xs=sm:=⟨_,rfl⟩;rw[hsm];obtain ⟨g0,hg0⟩:∃g0,w.heap.size=g0:=⟨_,rfl⟩;rw[hg0]at B4 hg4;simp only[hg0];have HG0:=ah hg0;clear n4 hsm hg0 HN2 HB1;have B5:=ah (aG.new w4 141 #[.string key,.int .i64 window,.string part,.int .i64 0,.int .i64 0,.int .i64 (n:Int),.int .i64 (nb:Int),.int .u32 (sm:Int),.int .i64 born]);have N5:=ah ((Ch.refl (fun _=>False) w4).alloc (.cells #[.string key,.int .i64 window,.string part,.int .i64 0,.int .i64 0,.int .i64 (n:Int),.int .i64 (nb:Int),.int .u32 (sm:Int),.int .i64 born] 141));go_upto_if 28 with fail
 obtain ⟨w5,hW⟩:∃w5,w4.alloc (.cells #[.string key,.int .i64 window,.string part,.int .i64 0,.int .i64 0,.int .i64 (n:Int),.int .i64 (nb:Int),.int .u32 (sm:Int),.int .i64 born] 141)=w5:=⟨_,rfl⟩;obtain ⟨g5,hg5⟩:∃g5,w4.heap.size=g5:=⟨_,rfl⟩;rw[hW]at B5 N5;rw[hg5]at B5 hg4;simp only[hW,hg5];have HG5:=ah hg5;clear hW hg5;go_cut [] (fun wx=>∃f g:Int,Hid (aG wx g5 141 #[.string key,.int .i64 window,.string part,.int .i64 f,.int .i64 g,.int .i64 (n:Int),.int .i64 (nb:Int),.int .u32 (sm:Int),.int .i64 born])/\Hid (Nx w4 wx))
 case first=>
  have hp:(0:Int)<(n:Int):=by omega
  obtain ⟨j,hj⟩:∃j,n=j+1:=⟨n-1,by omega⟩;have hkj:(n:Int)-1=(j:Int):=by omega
  have hwj:IntKind.i64.wrap (j:Int)=(j:Int):=IntWalk.i64_in _ (by omega);have hjn:(j:Int)<(n:Int):=by omega
  have hjn2:j<n:=by omega
  obtain ⟨ad,e1, -, -,p1, -⟩:=qg HR.out (k:=0) (by rw[Hl.out];omega);obtain ⟨ad2,e2, -, -,p2, -⟩:=qg HR.out (k:=j) (by rw[Hl.out];omega);rw[e1]at e2;injection e2 with e2;subst e2;subst e1;generalize (l[0]'(by rw[Hl.out];omega)).row.time=f at *;generalize (l[j]'(by rw[Hl.out];omega)).row.time=g at *;have e0:ad.add (0 * 9)=ad:=by unfold Addr.add;simp
  rw[e0]at p1;have gK:=ah (fun w' (c':Nx w4 w')=>(⟨(Nx.cell (N4.out.tr c') (p:=⟨ad.block,ad.off+1,none⟩) (World.block_lt_of_cell? w _ p1)).trans p1,(Nx.cell (N4.out.tr c') (p:=⟨(ad.add (j * 9)).block,(ad.add (j * 9)).off+1,none⟩) (World.block_lt_of_cell? w _ p2)).trans p2⟩:w'.cell? ⟨ad.block,ad.off+1,none⟩=some (.int .i64 f)/\w'.cell? ⟨(ad.add (j * 9)).block,(ad.add (j * 9)).off+1,none⟩=some (.int .i64 g)));have hf5:=(B5.out.drew).frozen;have hc5:=(B5.out.drew).cell;have hgg:g5<w5.heap.size:=B5.out.lt;have hfa:=(B5.out.drew.aS 3 (.int .i64 f)).frozen;have hca:=(B5.out.drew.aS 3 (.int .i64 f)).cell;have hfb:=((B5.out.aS 3 (.int .i64 f)).drew).frozen;have hcb:=((B5.out.aS 3 (.int .i64 f)).drew).cell;have hfc:=(B5.out.drew.aS 4 (.int .i64 g)).frozen;have hcc:=(B5.out.drew.aS 4 (.int .i64 g)).cell;have hfd:=((B5.out.aS 4 (.int .i64 g)).drew).frozen;have hcd:=((B5.out.aS 4 (.int .i64 g)).drew).cell;have HS5:Hid (g5=w4.heap.size):=ah HG5.out.symm;have BF1:=ah ((B5.out.drew.aS 3 (.int .i64 f)).aS 4 (.int .i64 g));have BF2:=ah ((B5.out.drew.aS 4 (.int .i64 g)).aS 3 (.int .i64 f));have NF1:=ah ((N5.out.drew.setCell (p:=⟨g5,3,none⟩) (fun h=>by have:=HS5.out;have h2:g5<w4.heap.size:=h;omega) (.int .i64 f)).setCell (p:=⟨g5,4,none⟩) (fun h=>by have:=HS5.out;have h2:g5<w4.heap.size:=h;omega) (.int .i64 g));have NF2:=ah ((N5.out.drew.setCell (p:=⟨g5,4,none⟩) (fun h=>by have:=HS5.out;have h2:g5<w4.heap.size:=h;omega) (.int .i64 g)).setCell (p:=⟨g5,3,none⟩) (fun h=>by have:=HS5.out;have h2:g5<w4.heap.size:=h;omega) (.int .i64 f));obtain ⟨q0,q1⟩:=gK.out w5.drew N5.out.drew;clear p1 p2 e0 hj;go_wp2_with fail;go_region_held3 (fun w'=>w'.cell? ⟨ad.block,ad.off+1,none⟩=some (.int .i64 f)/\w'.cell? ⟨(ad.add (j * 9)).block,(ad.add (j * 9)).off+1,none⟩=some (.int .i64 g)) (first|(with_reducible exact ⟨q0,q1⟩)|(refine gK.out _ ?_;repeat (first|exact N5.out|refine Ch.drew ?_|refine Ch.setCell ?_ (fun h=>by have:=HS5.out;have h2:g5<w4.heap.size:=h;omega) _))) (fail)
  all_goals
   go_wp2_with fail;go_meet
   first
    |exact ⟨f,g,BF1,NF1⟩
    |exact ⟨f,g,BF2,NF2⟩
 case rest=>
  obtain ⟨f,g,B6,N6⟩:=hcut;obtain ⟨w6,rfl⟩:∃w6:World,w6=wc:=⟨_,rfl⟩;have b6:=B6.out;have b0:=B4.out.nx N6.out;have f0:=b0.frozen;have c0:=b0.cell;have d0:w6.cell? ⟨g5,0,none⟩=some (.string key):=b6.cell 0;have d1:w6.cell? ⟨g5,1,none⟩=some (.int .i64 window):=b6.cell 1;have d2:w6.cell? ⟨g5,2,none⟩=some (.string part):=b6.cell 2;have d3:w6.cell? ⟨g5,3,none⟩=some (.int .i64 f):=b6.cell 3;have d4:w6.cell? ⟨g5,4,none⟩=some (.int .i64 g):=b6.cell 4;have d5:w6.cell? ⟨g5,5,none⟩=some (.int .i64 (n:Int)):=b6.cell 5;have d6:w6.cell? ⟨g5,6,none⟩=some (.int .i64 (nb:Int)):=b6.cell 6;have d7:w6.cell? ⟨g5,7,none⟩=some (.int .u32 (sm:Int)):=b6.cell 7;have d8:w6.cell? ⟨g5,8,none⟩=some (.int .i64 born):=b6.cell 8;have B0:=ah b0;have hgw:=ah (show w.heap.size<=w6.heap.size from (N4.out.tr N6.out).size);clear b6 b0;go_wp2_with fail;obtain ⟨w7,hW⟩:∃w7,w7=dI w6 g0 0 [.string key,.int .i64 window,.string part,.int .i64 f,.int .i64 g,.int .i64 (n:Int),.int .i64 (nb:Int),.int .u32 (sm:Int),.int .i64 born]:=⟨_,rfl⟩;have b7:aG w7 g0 141 #[.string key,.int .i64 window,.string part,.int .i64 f,.int .i64 g,.int .i64 (n:Int),.int .i64 (nb:Int),.int .u32 (sm:Int),.int .i64 born]:=by rw[hW];exact VN B0.out _ rfl
  have hch:Ch (fun k=>k=g0) w6 w7:=by rw[hW];exact NT _ _ _
  have d:=b7.cell;have HNF:=ah (show Nx w w7 from (N4.out.tr N6.out).trans hch fun i hi e=>by have:=HG0.out;omega);simp only[dI]at hW;rw[←hW];clear hW hch;exact bodyPost_ret (v:=.agg #[.string key,.int .i64 window,.string part,.int .i64 f,.int .i64 g,.int .i64 (n:Int),.int .i64 (nb:Int),.int .u32 (sm:Int),.int .i64 born]) (by simp[results,Tryz.results63,go_sem,d]) rfl ⟨_,_,_,_,_,_,_,_,_,rfl,HNF.out⟩
end Go.Proofs.YtdbfejfhpkakhaaGreat
