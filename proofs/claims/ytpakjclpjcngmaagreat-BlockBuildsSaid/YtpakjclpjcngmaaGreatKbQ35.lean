/- Contracts and plain laws that the last text rests on. Conditions: each theorem states its own. -/
import Derived.Test.YtpakjclpjcngmaaGreatKbQ31
import Derived.Test.YtpakjclpjcngmaaGreatKbQ34
import Derived.Test.YtpakjclpjcngmaaGreatKbQ32
import Derived.Test.YtpakjclpjcngmaaGreatKbQ24
import Derived.Test.YtpakjclpjcngmaaGreatKbQ33
import Derived.Test.YtpakjclpjcngmaaGreatKbQ26
import Derived.Test.YtpakjclpjcngmaaGreatKbQ7
import Derived.Test.YtpakjclpjcngmaaGreatKbQ27
import Derived.Test.YtpakjclpjcngmaaGreatKbQ25
import Derived.Test.YtpakjclpjcngmaaGreatKbPcBkT
import Derived.Test.YtpakjclpjcngmaaGreatKbQ30
import Derived.Test.YtpakjclpjcngmaaGreatKbQ29
import Derived.Test.YtpakjclpjcngmaaGreatKbQ17
set_option maxRecDepth 100000
set_option maxHeartbeats 64000000
set_option linter.unusedVariables false
namespace Go.Proofs.YtpakjclpjcngmaaGreat
open Go.RowKit Go.Maps Go.Sort Go.Proofs
def lZ (W:World) (p q b3:Nat) (r:Nat):Prop:=r=b3∨(r≠p/\r≠q/\∃cs t fz,W.heap[r]?=some (.cells cs t fz))
theorem VZ {W W1 W2:World} {p q b3:Nat} (h:Ch (lZ W p q b3) W W1) (k:Ch (lZ W1 p q b3) W1 W2):Ch (lZ W p q b3) W W2:=
 h.trans k fun i hi hs=>by
  rcases hs with hs|⟨h1,h2,cs,t,fz,h3⟩
  ·exact .inl hs
  ·by_cases hS:lZ W p q b3 i
   ·exact hS
   ·exact .inr ⟨h1,h2,cs,t,fz,(h.block i hi hS).symm.trans h3⟩
theorem wE {W W1:World} (p q b3:Nat) (h:Nx W W1):Ch (lZ W p q b3) W W1:=h.mono fun _ _ hf=>hf.elim
theorem wC {W W1:World} {S:Nat->Prop} {p q b3:Nat} (h:Ch S W W1) (hS:∀i,S i->lZ W p q b3 i):Ch (lZ W p q b3) W W1:=h.mono fun i _ hi=>hS i hi
theorem wF {W:World} {g p q b3:Nat} {t tp tq:TypeId} {cs cp cq:Array Value} (h:aG W g t cs) (hp:aG W p tp cp) (hq:aG W q tq cq) (h1:t≠tp) (h2:t≠tq):lZ W p q b3 g:=
 .inr ⟨fun e=>h.Lj hp h1 (by rw[e]),fun e=>h.Lj hq h2 (by rw[e]),cs,t,(0,0),h⟩
theorem Si {W:World} {g p q b3:Nat} {t tp tq:TypeId} {cs cp cq:Array Value} {fz:Nat×Nat} (h:W.heap[g]?=some (.cells cs t fz)) (hp:aG W p tp cp) (hq:aG W q tq cq) (h1:t≠tp) (h2:t≠tq):lZ W p q b3 g:=by
 have key:∀{x:Nat} {tx:TypeId} {cx:Array Value},aG W x tx cx->t≠tx->g≠x:=fun {x tx cx} hx hne e=>by
  subst e;have hx:W.heap[g]?=some (.cells cx tx (0,0)):=hx;rw[h]at hx;injection hx with hx;injection hx with _ e;exact hne e
 exact .inr ⟨key hp h1,key hq h2,cs,t,fz,h⟩
theorem Je {W W':World} {p q b3 B:Nat} (h:Ch (lZ W p q b3) W W') (hb:b3<B):KeepsFrom B W W':=
 ⟨h.size,fun k o hB ho hc=>(h.block k (Array.getElem?_eq_some_iff.1 ho).1 fun hs=>by
   rcases hs with hs|⟨_,_,cs,t,fz,h3⟩
   ·omega
   ·rw[h3]at ho
    injection ho with ho;rw[←ho]at hc;cases hc).trans ho⟩
theorem Sj {W W':World} {p q b3:Nat} (h:Ch (lZ W p q b3) W W') (h1:p≠b3) (h2:q≠b3) (l1:p<W.heap.size) (l2:q<W.heap.size):Iq p q W W':=
 ⟨h.size,h.block p l1 fun hs=>by rcases hs with hs|⟨h3,_⟩;exact h1 hs;exact h3 rfl,h.block q l2 fun hs=>by rcases hs with hs|⟨_,h3,_⟩;exact h2 hs;exact h3 rfl⟩
theorem CQ.more {D:DataW Unit} {gs:List (List aA)} (h:CQ D gs gs.length []) (g:List aA):CQ D (gs++[g]) gs.length []:=by
 refine ⟨h.1,fun t ht=>?_⟩
 have e:fU (gs++[g]) gs.length [] t=fU gs gs.length [] t:=by
  unfold fU;rw[List.take_left,List.take_length]
 rw[e];exact h.2 t ht
theorem fK.more {w W:World} {B b1 b2 b3 b4:Nat} {gs:List (List aA)} {X:List Nat} {ss:List aK} (h:fK w B b1 b2 b3 b4 gs X ss gs.length [] W) (g:List aA):fK w B b1 b2 b3 b4 (gs++[g]) X ss gs.length [] W:=by
 obtain ⟨h1,h2,h3,D,n,g1,g2,g3,g4⟩:=h;exact ⟨h1,h2,h3,D,n,g1,g2.more g,g3,g4⟩
theorem z4B (g:List aA):∀(gs:List (List aA)) (a:Nat),iw a (gs++[g])=iw a gs++[⟨((a+(aN gs).length:Nat):Int),(aF g).length,g.length,FQ g,lastT g⟩]
 |[],a=>by simp[iw,aN]
 |x::gs,a=>by
  rw[List.cons_append,iw,z4B g gs,iw];simp[aN,Nat.add_assoc]
theorem Fp (gs:List (List aA)) (g:List aA):aN (gs++[g])=aN gs++aF g:=by simp[aN]
/-! the chunk's rows -/
def kU {α:Type} (l:List α) (per k:Nat):List α:=(l.drop (k * per)).take per
theorem z2G {α:Type} (l:List α) (per k:Nat):(kU l per k).length=dO l.length per k:=by
 unfold kU dO;rw[List.length_take,List.length_drop]
theorem Fg {α β:Type} (f:α->β) (l:List α) (per k:Nat):(kU l per k).map f=kU (l.map f) per k:=by
 unfold kU;rw[List.map_take,List.map_drop]
theorem rU {α:Type} (l:List α) (per n:Nat) (hn:l.length=n):(List.finRange (dN n per)).map (fun k=>kU l per k.val)=bT per l:=by
 subst hn;rw[XO (fun k=>kU l per k)];rfl
theorem qw {w:World} {D:Nat->Prop} {A:Option Addr} {n:Nat} {l:List RV} (h:Rd w D 9 A n (iE l)) (hl:l.length=n) (per k:Nat) (hk:k * per<=n):Rd w D 9 (A.map fun ad=>ad.add (k * per * 9)) (dO n per k) (iE (kU l per k)):=by
 have h1:=h.cut (k:=k * per) (cap:=n) hk (Nat.le_refl _);have h2:=h1.take (k:=dO n per k) (by unfold dO;omega)
 have e:((iE l).drop (k * per * 9)).take (dO n per k * 9)=iE (kU l per k):=by
  unfold iE kU;rw[J_ RV.eU,JZ RV.eU];congr 1
  unfold dO;rw[←hl,←List.length_drop,←List.take_eq_take_min]
 rw[e]at h2;by_cases h0:n=k * per
 ·have hz:dO n per k=0:=by unfold dO;omega
  have hz2:kU l per k=[]:=List.eq_nil_of_length_eq_zero (by rw[z2G,hl];exact hz);rw[hz,hz2];exact Rd.none_ _ _ _ _
 ·rw[if_neg (by omega)]at h2
  exact h2
def iQ (w1:World) (A:Option Addr) (n c per:Nat):World:=
 ((((((w1.alloc (.cells #[.int .u8 69,.int .u8 78,.int .u8 84,.int .u8 82,.int .u8 1] 5 (5,6))).alloc (.cells #[.slice (some ⟨w1.heap.size,0,none⟩) 5 5] 26)).alloc (.cells #[.slice none 0 0,.slice none 0 0] 49)).alloc (.map #[] 0)).alloc
   (.cells #[.map (some (w1.heap.size+1+1+1))] 75)).alloc (.cells #[.slice A n c] 22)).alloc (.cells #[.int .i64 (per:Int)] 3)
theorem z4x {w w1:World} (n1:Nx w w1) (A:Option Addr) (n c per:Nat):
 fK w (iQ w1 A n c per).heap.size (w1.heap.size+1) (w1.heap.size+1+1) (w1.heap.size+1+1+1) (w1.heap.size+1+1+1+1) [] headB [] 0 [] (iQ w1 A n c per)/\
 aG (iQ w1 A n c per) (w1.heap.size+1+1+1+1+1) 22 #[.slice A n c]/\aG (iQ w1 A n c per) (w1.heap.size+1+1+1+1+1+1) 3 #[.int .i64 (per:Int)]/\(iQ w1 A n c per).heap.size=w1.heap.size+7/\Nx w (iQ w1 A n c per):=by
 have hsz:=n1.size;obtain ⟨a1,h1⟩:∃a,a=w1.alloc (.cells #[.int .u8 69,.int .u8 78,.int .u8 84,.int .u8 82,.int .u8 1] 5 (5,6)):=⟨_,rfl⟩;have s1:a1.heap.size=w1.heap.size+1:=by rw[h1,World.size_alloc]
 have L1:a1.heap[w1.heap.size]?=some (.cells #[.int .u8 69,.int .u8 78,.int .u8 84,.int .u8 82,.int .u8 1] 5 (5,6)):=by rw[h1];exact heap_alloc_new w1 _
 have N1:Nx w a1:=by rw[h1];exact n1.trans ((Ch.refl _ w1).alloc _) fun _ _ hf=>hf
 have key:∀(o:Obj) (X:World),Nx a1 X->(X.alloc o).heap[w1.heap.size]?=some (.cells #[.int .u8 69,.int .u8 78,.int .u8 84,.int .u8 82,.int .u8 1] 5 (5,6)):=fun o X hX=>by
  have:=(hX.trans ((Ch.refl (fun _=>False) X).alloc o) fun _ _ hf=>hf).block w1.heap.size (by omega) fun hf=>hf;rw[this];exact L1
 unfold iQ;rw[←h1];have B1:=aG.new a1 26 #[.slice (some ⟨w1.heap.size,0,none⟩) 5 5];obtain ⟨a2,h2⟩:∃a,a=a1.alloc (.cells #[.slice (some ⟨w1.heap.size,0,none⟩) 5 5] 26):=⟨_,rfl⟩;rw[←h2]at B1 ⊢;have s2:a2.heap.size=w1.heap.size+1+1:=by rw[h2,World.size_alloc,s1]
 have N2:Nx a1 a2:=by rw[h2];exact (Ch.refl _ a1).alloc _
 have B2:=aG.new a2 49 #[.slice none 0 0,.slice none 0 0];obtain ⟨a3,h3⟩:∃a,a=a2.alloc (.cells #[.slice none 0 0,.slice none 0 0] 49):=⟨_,rfl⟩;rw[←h3]at B2 ⊢;have s3:a3.heap.size=w1.heap.size+1+1+1:=by rw[h3,World.size_alloc,s2]
 have N3:Nx a2 a3:=by rw[h3];exact (Ch.refl _ a2).alloc _
 have G:=World.ownsGroups_made (H:=Unit) a3 Tryz.prog 9 3 .i64;have GS:=World.Shuns_made a3 (· <w1.heap.size+7);obtain ⟨a4,h4⟩:∃a,a=a3.alloc (.map #[] 0):=⟨_,rfl⟩;rw[←h4]at G GS ⊢;have s4:a4.heap.size=w1.heap.size+1+1+1+1:=by rw[h4,World.size_alloc,s3]
 have N4:Nx a3 a4:=by rw[h4];exact (Ch.refl _ a3).alloc _
 have B4:=aG.new a4 75 #[.map (some (w1.heap.size+1+1+1))];obtain ⟨a5,h5⟩:∃a,a=a4.alloc (.cells #[.map (some (w1.heap.size+1+1+1))] 75):=⟨_,rfl⟩;rw[←h5]at B4 ⊢;have s5:a5.heap.size=w1.heap.size+1+1+1+1+1:=by rw[h5,World.size_alloc,s4]
 have N5:Nx a4 a5:=by rw[h5];exact (Ch.refl _ a4).alloc _
 have B5:=aG.new a5 22 #[.slice A n c];obtain ⟨a6,h6⟩:∃a,a=a5.alloc (.cells #[.slice A n c] 22):=⟨_,rfl⟩;rw[←h6]at B5 ⊢;have s6:a6.heap.size=w1.heap.size+1+1+1+1+1+1:=by rw[h6,World.size_alloc,s5]
 have N6:Nx a5 a6:=by rw[h6];exact (Ch.refl _ a5).alloc _
 have B6:=aG.new a6 3 #[.int .i64 (per:Int)];obtain ⟨a7,h7⟩:∃a,a=a6.alloc (.cells #[.int .i64 (per:Int)] 3):=⟨_,rfl⟩;rw[←h7]at B6 ⊢;have s7:a7.heap.size=w1.heap.size+7:=by rw[h7,World.size_alloc,s6]
 have N7:Nx a6 a7:=by rw[h7];exact (Ch.refl _ a6).alloc _
 rw[s1]at B1;rw[s2]at B2;rw[s3]at G GS;rw[s4]at B4;rw[s5]at B5;rw[s6]at B6;have T:=fun {a b c:World} (h:Nx a b) (k:Nx b c)=>(h.trans k fun _ _ hf=>hf:Nx a c);have N56:=T N5 (T N6 N7);have N456:=T N4 N56;have N27:=T N3 N456;have N17:=T N2 N27;have NW:=T N1 N17;refine ⟨⟨⟨_,B1.nx N27,.inr ⟨w1.heap.size,_,(5,6),rfl,(N17.block _ (by omega) fun hf=>hf).trans L1,rfl,hsz,NW⟩⟩,⟨_,B2.nx N456,ak.nil w a7 _ 5 NW⟩,B4.nx (T N6 N7),.map [],0,YT G N56 (fun hf=>hf) (fun _ _ _ _ hf=>hf),CQ.start [],Nat.le_refl _,?_⟩,B5.nx N7,B6,s7,NW⟩;rw[s7];exact YD GS G N56 fun hf=>hf
def Lc (R:List aA) (n per:Nat) (pre:List (Fin (dN n per))):List (List aA):=pre.map fun k=>kU R per k.val
structure FB (w:World) (m:Nat) (A:Option Addr) (n c per:Nat) (R:List aA) (pre:List (Fin (dN n per))) (W:World):Prop where
 bld:fK w (m+7) (m+1) (m+1+1) (m+1+1+1) (m+1+1+1+1) (Lc R n per pre) (headB++aN (Lc R n per pre)) (iw 5 (Lc R n per pre)) (Lc R n per pre).length [] W
 bp:aG W (m+1+1+1+1+1) 22 #[.slice A n c]
 bq:aG W (m+1+1+1+1+1+1) 3 #[.int .i64 (per:Int)]
 size:m+7<=W.heap.size
theorem FB.own {w:World} {m:Nat} {A:Option Addr} {n c per:Nat} {R:List aA} (hm:w.heap.size<=m):OwnFrom (m+7) (FB w m A n c per R):=by
 intro pre W W' row h hg hr;have c1:Ch (fun r=>row=some r) W W':=(Ch.refl (fun r=>row=some r) W).grown hg (fun r hr _=>hr)
 have hB:∀{g:Nat} {t:TypeId} {cs:Array Value},aG W g t cs->aG W' g t cs:=fun {g t cs} hb=>hb.ch c1 fun e=>by
  obtain ⟨_,o,h1,h2⟩:=hr _ e;have hb:W.heap[g]?=some (.cells cs t (0,0)):=hb;rw[hb]at h1;injection h1 with h1;rw[←h1]at h2;cases h2
 exact ⟨h.bld.from (B':=m+7) (by omega) (by omega) hg hr,hB h.bp,hB h.bq,Nat.le_trans h.size hg.size⟩
theorem FB.start {w w1:World} (n1:Nx w w1) (A:Option Addr) (n c per:Nat) (R:List aA):FB w w1.heap.size A n c per R [] (iQ w1 A n c per):=by
 obtain ⟨h1,h2,h3,h4,h5⟩:=z4x n1 A n c per;rw[h4]at h1;exact ⟨h1,h2,h3,by omega⟩
theorem jL.form {w W:World} {v:Value} {xs:List Nat} (h:jL w W v xs):∃A c,v=.slice A xs.length c:=by
 rcases h with o|⟨g,cs,fz,e1,_⟩
 ·obtain ⟨A,c,e,_⟩:=o.form
  exact ⟨A,c,e⟩
 ·exact ⟨_,_,e1⟩
def Gi (s:aK):Array Value:= #[.int .i64 s.place,.int .i64 s.size,.int .i64 s.rows,.int .i64 s.lo,.int .i64 s.hi]
theorem Rd.Vk (w:World) (x:aK):Rd (w.alloc (.cells (Gi x) 53)) (fun k=>k=w.heap.size) 5 (some ⟨w.heap.size,0,none⟩) 1 (spl [x]):=by
 have h:=Rd.lit w (Gi x) 53 (0,0);refine ⟨by simp[spl,aK.cs],fun _=>?_⟩;obtain ⟨ad,e,hD,hc⟩:=h.2 (by simp[Gi]);exact ⟨ad,e,hD,fun j u hu=>hc j u (by simpa [spl,aK.cs,Gi]using hu)⟩
theorem Gh (l:List aK):∀u∈spl l,u.oneCell'=true:=by
 intro u hu;obtain ⟨x,_,hx⟩:=List.mem_flatMap.1 hu;simp[aK.cs]at hx;rcases hx with rfl|rfl|rfl|rfl|rfl<;>rfl
theorem L_ (l:List aK) (x:aK):spl (l++[x])=spl l++spl [x]:=by simp[spl]
theorem qW {F:Fence} {n:Nat} {P:Program} {w w':World} {ops:Array Oper} {rest:List Oper} {o:Oper} {a:Act} {Q:Exit->Act->World->Prop} (hg:o.guard=none) (s x:Operand) (t:TypeId)
 (hop:o.op=Op.call { callee:=Callee.builtin Builtin.append,args:= #[s,x],argTypes:= #[t,t]}) {v y v':Value} (hs:a.eval s=v) (hx:a.eval x=y) (hrun:(Builtin.append_ #[t,t] o.type #[v,y]).run P w=.ok v' w')
 (h:wpListIn F n P ops Q rest (a.put o.dst v') w'):wpListIn F n P ops Q (o::rest) a w:=by
 refine wpListIn_plain hg fun K hK'=>?_;unfold Oper.wpIn;refine ⟨?_,?_⟩
 ·simp[Oper.about,hop,resolve,Target.leads,Sem.run_pure]
 ·rw[Oper.semAt_plain F _ _ (by rw[hop];intro c hc';cases hc')]
  simp[execOp,hop,resolve,invoke,builtin,hs,hx,hrun,Result.andThen];exact hK' _ _ h
theorem zi (n:Nat):0<(aj n).length:=by
 rw[aj];split<;>simp
theorem z20 {l:List aA} (h:dM l):(aF l).length<=1000000:=by
 rw[z4V];exact zn 9 (by omega) (QL h)
theorem pW (l:List aA):0<(aF l).length:=by
 rw[z4V,aad,List.length_append];have h3:=zi (ay 4 (aP (l.map fun x=>x.null))).length;have h4:(aO (ay 4 (aP (l.map fun x=>x.null)))).length=(aj (ay 4 (aP (l.map fun x=>x.null))).length).length+(ay 4 (aP (l.map fun x=>x.null))).length:=by unfold aO;rw[List.length_append]
 omega
theorem z3q:∀{gs:List (List aA)},(∀g∈gs,dM g)->(aN gs).length<=1000000 * gs.length
 |[],_=>by simp[aN]
 |g::gs,h=>by
  have h1:=z3q (gs:=gs) fun x hx=>h x (List.mem_cons_of_mem _ hx);have h2:=z20 (h g List.mem_cons_self);have e:aN (g::gs)=aF g++aN gs:=(by simp[aN]);rw[e,List.length_append,List.length_cons];omega
theorem z59 {R:List aA} {n per:Nat} (hp:per<=256) (h:∀x∈R,r_ x) (pre:List (Fin (dN n per))):∀g∈Lc R n per pre,dM g:=fun g hg=>by
 obtain ⟨k,_,rfl⟩:=List.mem_map.1 hg;refine ⟨?_,fun x hx=>h x (List.mem_of_mem_drop (List.mem_of_mem_take hx))⟩;rw[z2G];unfold dO;omega
def qJ (A:Option Addr) (ws:List ByteArray) (W:World):Prop:=Rd W (fun k=>∃cs,aG W k 9 cs) 1 A ws.length (b_ ws)
theorem qJ.ch {A:Option Addr} {ws:List ByteArray} {W W':World} {S:Nat->Prop} (h:qJ A ws W) (c:Ch S W W') (hS:∀g cs,aG W g 9 cs->¬S g):qJ A ws W':=by
 have h1:=Rd.ch h (by decide) c (fun k _ hk hs=>by obtain ⟨cs,hB⟩:=hk;exact hS k cs hB hs);exact h1.more fun k hk=>by obtain ⟨cs,hB⟩:=hk;exact ⟨cs,hB.ch c (hS k cs hB)⟩
def abM (W:World) (all:List ByteArray) (e:Ending) (w':World):Prop:=∃A c,e=.returned (.slice A all.length c)/\qJ A all w'/\Nx W w'
theorem CZ {W w:World} {v:Value} {n:Nat} {l:List ByteArray} (hl:l.length=n) (hn:n<=1000000) (o:ak W w 9 1 v n ((gK l).map Go.Proofs.encStr)):
 Calls Tryz.prog 41 #[v] w (abM W (bM l)):=by
 have GZ:(qH l).map Go.Proofs.encStr=b_ (bM l):=by rw[Gg];rfl
 have hallL:(qH l).length=(bM l).length:=by simp[bM]
 have hsl:(gK l).length=n:=by rw[z1L,hl]
 have e1:Lib.compact (gK l)=qH l:=rfl;rcases o.own.2 with ⟨rfl,hz⟩|⟨gb,cap',cur,rfl,hbase,hgb,r1,r2,r3,r4⟩
 ·have h0:l=[]:=List.eq_nil_of_length_eq_zero (by omega)
  subst h0;refine (Tryz.slices_Compact_string_empty none 0 w).mono ?_;rintro e w' ⟨rfl,rfl⟩;have e0:bM []=[]:=by simp[bM,qH,gK,Lib.compact,Lib.compactUpTo]
  rw[e0];exact ⟨none,0,rfl,Rd.none_ _ _ _ _,o.nx⟩
 ·have hH:Holds encStr w gb 0 (gK l).toArray:=holds_of_block hgb (by rw[hsl];rw[Nat.mul_one]at r4;exact r4)
  have hcon:=Tryz.slices_Compact_string gb 0 cap' (gK l) w hH (by omega) (by rw[hsl];exact r1);rw[←hsl]at r1 ⊢;refine hcon.mono ?_;rintro e w' ⟨rfl,q,rfl⟩;have hle:=Lib.compact_length_le (gK l);have e2:putRow encStr (Sort.ahead w q) gb 0 (Lib.compact (gK l)++List.replicate ((gK l).length-(Lib.compact (gK l)).length) []).toArray=grow (putRow encStr (Sort.ahead w q) gb 0 (Lib.compact (gK l)++List.replicate ((gK l).length-(Lib.compact (gK l)).length) []).toArray) #[]:=(grow_empty _).symm;have h1:=ownsRow_sorted (n:=q) (os:= #[]) (ss:=gK l) (ts:=Lib.compact (gK l)++List.replicate ((gK l).length-(Lib.compact (gK l)).length) []) (by simp;omega) hbase hgb r1 r2 r3;have h2:=grownBy_sorted (w:=w) (g:=gb) (n:=q) (os:= #[]) (Lib.compact (gK l)++List.replicate ((gK l).length-(Lib.compact (gK l)).length) []).toArray;rw[←e2]at h1 h2;generalize putRow encStr (Sort.ahead w q) gb 0 (Lib.compact (gK l)++List.replicate ((gK l).length-(Lib.compact (gK l)).length) []).toArray=w' at *;have h3:=(Rd.fH h1).take (k:=(Lib.compact (gK l)).length) hle;rw[Nat.mul_one,List.map_append,List.take_left' (by simp)]at h3;rw[e1,GZ,hallL]at h3;refine ⟨some ⟨gb,0,none⟩,cap',by rw[e1,hallL],?_,o.nx.grown h2 (fun j hj hlt=>by injection hj with hj;omega)⟩;exact Rd.more h3 fun k hk=>iJ h1 hk.1
section
variable {P : Program} {ops : Array Oper} {o : Oper} {a : Act} {K : Act → World → Prop} {Q : Exit → Act → World → Prop} {E : Prop} {w w' : World}
theorem sZ (hgd:o.guard=none) (s x:Operand) (t:TypeId) (ho:o.op=.call { callee:=.builtin .append,args:= #[s,x],argTypes:= #[t,t]}) {v y v':Value} (hs:a.eval s=v) (hx:a.eval x=y)
 (hrun:(Builtin.append_ #[t,t] o.type #[v,y]).run P w=.ok v' w') (h:K (a.put o.dst v') w'):if Region.wanted o (yielded ops a.tmps)=true then Oper.wp P o a w K Q else E:=by
 have hw:Region.wanted o (yielded ops a.tmps)=true:=by simp[Region.wanted,hgd]
 rw[if_pos hw];unfold Oper.wp;simp[execOp,ho,resolve,invoke,builtin,hs,hx,hrun,Result.andThen];exact h
theorem sV (hgd:o.guard=none) (m x:Operand) (t:TypeId) (ho:o.op=.lookup t m x false) {mv key v:Value} (hm:a.eval m=mv) (hx:a.eval x=key)
 (hrun:(Instr.lookup t mv key false).run P w=.ok v w') (h:K (a.put o.dst v) w'):if Region.wanted o (yielded ops a.tmps)=true then Oper.wp P o a w K Q else E:=by
 have hw:Region.wanted o (yielded ops a.tmps)=true:=by simp[Region.wanted,hgd]
 rw[if_pos hw];unfold Oper.wp;simp[execOp,ho,hm,hx,hrun,Result.andThen];exact h
theorem yF (hgd:o.guard=none) (m x y:Operand) (t:TypeId) (ho:o.op=.mapUpdate t m x y) {mv key v:Value} (hm:a.eval m=mv) (hx:a.eval x=key) (hy:a.eval y=v)
 (hrun:(Instr.mapUpdate t mv key v).run P w=.ok () w') (h:K (a.put o.dst undef) w'):if Region.wanted o (yielded ops a.tmps)=true then Oper.wp P o a w K Q else E:=by
 have hw:Region.wanted o (yielded ops a.tmps)=true:=by simp[Region.wanted,hgd]
 rw[if_pos hw];unfold Oper.wp;simp[execOp,ho,hm,hx,hy,hrun,Result.andThen];exact h
end
theorem Fz {l:List ByteArray} {j:Nat} (h:j<(bM l).length):(bM l)[j]∉(bM l).take j:=by
 intro hm;obtain ⟨i,hi,e⟩:=List.mem_iff_getElem.1 hm;rw[List.length_take]at hi;rw[List.getElem_take]at e;have:=List.pairwise_iff_getElem.1 (z3t l) i j (by omega) h (by omega);rw[e]at this;exact absurd this (List.lt_irrefl _)
theorem yw (G:List aA) {j:Nat} (hj:j<(bM (G.map aT)).length):(bM (G.map aT))[j]∉(bM (G.map aT)).take j/\mg (bM (G.map aT))[j]:=by
 refine ⟨Fz hj,?_⟩;obtain ⟨x,_,e⟩:=List.mem_map.1 (yt.1 (List.getElem_mem hj));have:=z11 x;rw[e]at this;show _<=maxLen
 unfold maxLen;omega
theorem z5a {w:World} {D:Nat->Prop} {A:Option Addr} {q:Nat} {l:List RV} (h:Rd w D 9 A q (iE l)) (hl:l.length=q) (h0:0<q):∀ca,A=some ca->w.cell? ⟨ca.block,ca.off+1,none⟩=some (.int .i64 (FQ (l.map fun x=>x.row)))/\w.cell? ⟨(ca.add ((q-1) * 9)).block,(ca.add ((q-1) * 9)).off+1,none⟩=some (.int .i64 (lastT (l.map fun x=>x.row))):=by
 intro ca hca;obtain ⟨a1,e1,_,_,f1,_⟩:=z18 h (k:=0) (by omega);obtain ⟨a2,e2,_,_,f2,_⟩:=z18 h (k:=q-1) (by omega);rw[hca]at e1 e2;injection e1 with e1;injection e2 with e2;subst e1;subst e2
 have g1:FQ (l.map fun x=>x.row)=l[0].row.time:=by
  unfold FQ;rw[List.head?_map,List.head?_eq_getElem?,List.getElem?_eq_getElem (by omega)];rfl
 have g2:lastT (l.map fun x=>x.row)=(l[q-1]'(by omega)).row.time:=by
  unfold lastT
  have e:l[l.length-1]?=some (l[q-1]'(by omega)):=by
   subst hl;exact List.getElem?_eq_getElem _
  rw[List.getLast?_map,List.getLast?_eq_getElem?,e];rfl
 rw[g1,g2];refine ⟨?_,f2⟩;simpa [Addr.add]using f1
theorem PS {w:World} {D:Nat->Prop} {A:Option Addr} {q:Nat} {l:List RV} (h:Rd w D 9 A q (iE l)) (hl:l.length=q) (hk:∀x∈l,x.ok w D/\x.row.few) (W:World) (c:Nx w W) (cp:Nat) (hq:q<=1000000):
 Calls Tryz.prog 44 #[.slice A q cp,.func (.func 45) #[] #[]] W (Gives W 9 1 q (b_ ((l.map fun x=>x.row).map aT))):=by
 have hx:∀w',Nx w w'->∀x∈l,Calls Tryz.prog 45 #[dA x] w' fun e w''=>e=.returned (Value.string (aT x.row))/\Nx w' w'':=fun w' c' x hx=>by
  have hx1:x.ok w' (fun _=>True):=(hk x hx).1.ch c' (fun _ _ _ hf=>hf) fun _ _=>trivial;exact uV x hx1 (hk x hx).2
 have:=Gy (c:=cp) (w:=W) aT (h.nx (by decide) c) hl (by omega) (fun w2 c2 x hx2=>hx w2 (c.tr c2) x hx2);simp only[Gf]at this;exact this
end Go.Proofs.YtpakjclpjcngmaaGreat
namespace Go.Proofs.YtpakjclpjcngmaaGreat
open Go.RowKit
theorem Gn (a:Int):decide (1099511627775<a)=decide (1099511627776<=a):=by rw[decide_eq_decide];omega
theorem uh (a:Int):decide (63<a)=decide (64<=a):=by rw[decide_eq_decide];omega
theorem JA {w:World} {D:Nat->Prop} {A:Option Addr} {n c:Nat} {l:List RV} (h:Rd w D 9 A n (iE l)) (hl:l.length=n) (hn:n<=1000000) (hk:∀x∈l,x.ok w D/\x.row.mid):
 Calls Tryz.prog 49 #[.slice A n c] w fun e w'=>e=.returned (.bool (fP (l.map fun x=>x.row)))/\Nx w w':=by
 by_cases hn0:n=0
 ·subst hn0
  have hl0:l=[]:=List.eq_nil_of_length_eq_zero hl;subst hl0;clear h hk;go_enter Tryz.func49,Tryz.ntmps49;go_wp2_with fail;go_ret;exact ⟨rfl,Ch.refl _ _⟩
 have hnz:((n:Int)==0)=false:=by rw[beq_eq_false_iff_ne];omega
 have Hl:=ah hl;have jo:=ah h;have HK:=ah hk;have HBAD:=ah (fun k (h1:k<l.length) h2=>zC (l:=l.map fun x=>x.row) (k:=k) (by rw[List.length_map];exact h1) h2);have Cc:=ah (uw (l:=l.map fun x=>x.row));have HM0:=ah (fun (h1:0<l.length)=>(pq (l:=l.map fun x=>x.row) (by rw[List.length_map];exact h1)).trans (by rw[YC l h1]));have HMS:=ah (fun j (h1:j+1<l.length)=>(pF (l:=l.map fun x=>x.row) (j:=j) (by rw[List.length_map];exact h1)).trans (by rw[YC l h1,YC l (Nat.lt_of_succ_lt h1)]));rw[List.length_map]at Cc;generalize hX:fP (l.map fun x=>x.row)=X at *;generalize hMA:kC (l.map fun x=>x.row)=MA at *;clear hl h hk hX hMA;go_enter Tryz.func49,Tryz.ntmps49;go_wp2_with fail;go_loopw [10] (fun i wr=>∃k:Nat,k<=n/\i=.int .i64 (k:Int)/\Hid (Nx w wr)/\Hid (∀i,i<k->MA i=true)) (fun i _=>n-(intOf i).toNat)
 case atStart=>exact ⟨0,Nat.zero_le _,rfl,ah (Ch.refl _ _),ah (fun i hi=>absurd hi (Nat.not_lt_zero _))⟩
 case round=>
  obtain ⟨w4,rfl⟩:∃w4:World,w4=wr:=⟨_,rfl⟩;obtain ⟨k,hkn,rfl,N4,HG⟩:=hrel;by_cases hlt:k<n
  ·have hkl:k<l.length:=by rw[Hl.out];exact hlt
   obtain ⟨ad,rfl, -,p0,p1,p2,p3,p4,p5,p6,p7,p8⟩:=z18 (jo.out.nx (by decide) N4.out) hkl;have qO:=ah (fun w' (c':Nx w w')=>DW (w:=w') l[k] (D:=fun _=>True) ((HK.out _ (List.getElem_mem hkl)).1.ch c' (fun _ _ _ hf=>hf) fun _ _=>trivial) (HK.out _ (List.getElem_mem hkl)).2);have HB:=ah (HBAD.out k hkl);cases k with
   |zero=>
    have HV:=ah (HM0.out hkl);have e0:ad.add (0 * 9)=ad:=(by simp[Addr.add]);rw[e0]at p0 p1 p2 p3 p4 p5 p6 p7 p8;clear e0;generalize l[0]=x at *;obtain ⟨⟨kind,time,aB,text,value,null,maker,seq,place⟩,A1,c1⟩:=x;simp only at p0 p1 p2 p3 p4 p5 p6 p7 p8 qO HV;generalize hrc:fA ⟨kind,time,aB,text,value,null,maker,seq,place⟩=rc at *;have Yt:Hid (EF ⟨kind,time,aB,text,value,null,maker,seq,place⟩=decide (1<=maker/\maker<=64/\1<=seq/\seq<1099511627776/\0<=place/\place<64)):=ah rfl;generalize EF ⟨kind,time,aB,text,value,null,maker,seq,place⟩=ib at *;clear hrc;have iC:=ah (aG.new w4 58 #[.int .i64 kind,.int .i64 time,.slice A1 aB.length c1,.string text,.int .i64 value,.bool null,.int .i64 maker,.int .i64 seq,.int .i64 place]);have N5:=ah (N4.out.alloc (.cells #[.int .i64 kind,.int .i64 time,.slice A1 aB.length c1,.string text,.int .i64 value,.bool null,.int .i64 maker,.int .i64 seq,.int .i64 place] 58));have KB:=ah (fun w' (c':Nx (w4.alloc (.cells #[.int .i64 kind,.int .i64 time,.slice A1 aB.length c1,.string text,.int .i64 value,.bool null,.int .i64 maker,.int .i64 seq,.int .i64 place] 58)) w')=>show w'.cell? ⟨w4.heap.size,0,none⟩=some (.int .i64 kind)/\w'.cell? ⟨w4.heap.size,1,none⟩=some (.int .i64 time)/\w'.cell? ⟨w4.heap.size,2,none⟩=some (.slice A1 aB.length c1)/\w'.cell? ⟨w4.heap.size,3,none⟩=some (.string text)/\w'.cell? ⟨w4.heap.size,4,none⟩=some (.int .i64 value)/\w'.cell? ⟨w4.heap.size,5,none⟩=some (.bool null)/\w'.cell? ⟨w4.heap.size,6,none⟩=some (.int .i64 maker)/\w'.cell? ⟨w4.heap.size,7,none⟩=some (.int .i64 seq)/\w'.cell? ⟨w4.heap.size,8,none⟩=some (.int .i64 place) from ⟨(iC.out.nx c').cell 0,(iC.out.nx c').cell 1,(iC.out.nx c').cell 2,(iC.out.nx c').cell 3,(iC.out.nx c').cell 4,(iC.out.nx c').cell 5,(iC.out.nx c').cell 6,(iC.out.nx c').cell 7,(iC.out.nx c').cell 8⟩);obtain ⟨b0,b1,b2,b3,b4,b5,b6,b7,b8⟩:=KB.out _ (Ch.refl _ _);rcases z3z (rc:=rc) (ib:=ib) Yt.out with ⟨rfl,HVV⟩|⟨rfl,q0,HVV⟩|⟨rfl,q0,q1,HVV⟩|⟨rfl,q0,q1,q2,HVV⟩|⟨rfl,q0,q1,q2,q3,HVV⟩|⟨rfl,q0,q1,q2,q3,q4,HVV⟩|⟨rfl,q0,q1,q2,q3,q4,q5,HVV⟩|⟨rfl,q0,q1,q2,q3,q4,q5,HVV⟩
    all_goals
     have e4:=Gn seq;have e6:=uh place;go_wp2_with fail;clear p0 p1 p2 p3 p4 p5 p6 p7 p8 b0 b1 b2 b3 b4 b5 b6 b7 b8;refine (qO.out _ N5.out).mono ?_;rintro e w5 ⟨rfl,n5⟩;obtain ⟨b0,b1,b2,b3,b4,b5,b6,b7,b8⟩:=KB.out _ n5;have N6:=ah (N5.out.tr n5);have M5:=ah n5;clear n5;go_wp2_with fail
     first
      |(have UH:Hid (X=false):=ah (HB.out (HV.out.trans HVV.out));go_ret;exact ⟨by rw[UH.out];first|done|rfl,N6.out⟩)
      |(go_quiet (fail);go_wp2_with fail;(have Lm:Hid (MA (0)=true):=ah (HV.out.trans HVV.out);go_roundw;(case rel=>exact ⟨0+1,by omega,by go_num,(ah (N6.out.drewN _)),ah (fun i hi=>if e:i=0 then (by rw[e];exact Lm.out) else HG.out i (by omega))⟩);(case measure=>(simp[intOf];omega))))
   |succ j=>
    have HV:=ah (HMS.out j hkl);have Yl:=ah (fun w' (c':Nx w4 w')=>z18 (jo.out.nx (by decide) (N4.out.tr c')) (Nat.lt_of_succ_lt hkl));have Ce:=ah (fun w'=>z3U l[j] l[j+1] w');generalize l[j+1]=x at *;generalize l[j]=y at *;obtain ⟨⟨kind,time,aB,text,value,null,maker,seq,place⟩,A1,c1⟩:=x;obtain ⟨⟨kind2,bV,dW,dQ,value2,dS,bI,seq2,bH⟩,A2,c2⟩:=y;simp only at p0 p1 p2 p3 p4 p5 p6 p7 p8 qO HV Yl Ce;unfold dA at Ce;simp only at Ce;generalize hrc:fA ⟨kind,time,aB,text,value,null,maker,seq,place⟩=rc at *;have HCN:=ah (BF ⟨kind2,bV,dW,dQ,value2,dS,bI,seq2,bH⟩ ⟨kind,time,aB,text,value,null,maker,seq,place⟩);generalize fQ ⟨kind2,bV,dW,dQ,value2,dS,bI,seq2,bH⟩ ⟨kind,time,aB,text,value,null,maker,seq,place⟩=z at *;generalize iO ⟨kind2,bV,dW,dQ,value2,dS,bI,seq2,bH⟩ ⟨kind,time,aB,text,value,null,maker,seq,place⟩=kl at *;have Yt:Hid (EF ⟨kind,time,aB,text,value,null,maker,seq,place⟩=decide (1<=maker/\maker<=64/\1<=seq/\seq<1099511627776/\0<=place/\place<64)):=ah rfl;generalize EF ⟨kind,time,aB,text,value,null,maker,seq,place⟩=ib at *;clear hrc;have iC:=ah (aG.new w4 58 #[.int .i64 kind,.int .i64 time,.slice A1 aB.length c1,.string text,.int .i64 value,.bool null,.int .i64 maker,.int .i64 seq,.int .i64 place]);have N5:=ah (N4.out.alloc (.cells #[.int .i64 kind,.int .i64 time,.slice A1 aB.length c1,.string text,.int .i64 value,.bool null,.int .i64 maker,.int .i64 seq,.int .i64 place] 58));have KB:=ah (fun w' (c':Nx (w4.alloc (.cells #[.int .i64 kind,.int .i64 time,.slice A1 aB.length c1,.string text,.int .i64 value,.bool null,.int .i64 maker,.int .i64 seq,.int .i64 place] 58)) w')=>show w'.cell? ⟨w4.heap.size,0,none⟩=some (.int .i64 kind)/\w'.cell? ⟨w4.heap.size,1,none⟩=some (.int .i64 time)/\w'.cell? ⟨w4.heap.size,2,none⟩=some (.slice A1 aB.length c1)/\w'.cell? ⟨w4.heap.size,3,none⟩=some (.string text)/\w'.cell? ⟨w4.heap.size,4,none⟩=some (.int .i64 value)/\w'.cell? ⟨w4.heap.size,5,none⟩=some (.bool null)/\w'.cell? ⟨w4.heap.size,6,none⟩=some (.int .i64 maker)/\w'.cell? ⟨w4.heap.size,7,none⟩=some (.int .i64 seq)/\w'.cell? ⟨w4.heap.size,8,none⟩=some (.int .i64 place) from ⟨(iC.out.nx c').cell 0,(iC.out.nx c').cell 1,(iC.out.nx c').cell 2,(iC.out.nx c').cell 3,(iC.out.nx c').cell 4,(iC.out.nx c').cell 5,(iC.out.nx c').cell 6,(iC.out.nx c').cell 7,(iC.out.nx c').cell 8⟩)
    have FACT:=ah (fun w' (c':Nx (w4.alloc (.cells #[.int .i64 kind,.int .i64 time,.slice A1 aB.length c1,.string text,.int .i64 value,.bool null,.int .i64 maker,.int .i64 seq,.int .i64 place] 58)) w')=>show w'.cell? ⟨w4.heap.size,0,none⟩=some (.int .i64 kind)/\w'.cell? ⟨w4.heap.size,1,none⟩=some (.int .i64 time)/\w'.cell? ⟨w4.heap.size,2,none⟩=some (.slice A1 aB.length c1)/\w'.cell? ⟨w4.heap.size,3,none⟩=some (.string text)/\w'.cell? ⟨w4.heap.size,4,none⟩=some (.int .i64 value)/\w'.cell? ⟨w4.heap.size,5,none⟩=some (.bool null)/\w'.cell? ⟨w4.heap.size,6,none⟩=some (.int .i64 maker)/\w'.cell? ⟨w4.heap.size,7,none⟩=some (.int .i64 seq)/\w'.cell? ⟨w4.heap.size,8,none⟩=some (.int .i64 place)/\w'.cell? (ad.add (j * 9))=some (.int .i64 kind2)/\w'.cell? ⟨(ad.add (j * 9)).block,(ad.add (j * 9)).off+1,none⟩=some (.int .i64 bV)/\w'.cell? ⟨(ad.add (j * 9)).block,(ad.add (j * 9)).off+2,none⟩=some (.slice A2 dW.length c2)/\w'.cell? ⟨(ad.add (j * 9)).block,(ad.add (j * 9)).off+3,none⟩=some (.string dQ)/\w'.cell? ⟨(ad.add (j * 9)).block,(ad.add (j * 9)).off+4,none⟩=some (.int .i64 value2)/\w'.cell? ⟨(ad.add (j * 9)).block,(ad.add (j * 9)).off+5,none⟩=some (.bool dS)/\w'.cell? ⟨(ad.add (j * 9)).block,(ad.add (j * 9)).off+6,none⟩=some (.int .i64 bI)/\w'.cell? ⟨(ad.add (j * 9)).block,(ad.add (j * 9)).off+7,none⟩=some (.int .i64 seq2)/\w'.cell? ⟨(ad.add (j * 9)).block,(ad.add (j * 9)).off+8,none⟩=some (.int .i64 bH) from by
     obtain ⟨ad2,had, -,s0,s1,s2,s3,s4,s5,s6,s7,s8⟩:=Yl.out w' (((Ch.refl (fun _=>False) w4).alloc _).tr c');injection had with had;subst had;exact ⟨(iC.out.nx c').cell 0,(iC.out.nx c').cell 1,(iC.out.nx c').cell 2,(iC.out.nx c').cell 3,(iC.out.nx c').cell 4,(iC.out.nx c').cell 5,(iC.out.nx c').cell 6,(iC.out.nx c').cell 7,(iC.out.nx c').cell 8,s0,s1,s2,s3,s4,s5,s6,s7,s8⟩)
    have hwj:IntKind.i64.wrap (j:Int)=(j:Int):=IntWalk.i64_in _ (by omega);have hjn:(j:Int)<(n:Int):=(by omega);clear Yl;obtain ⟨b0,b1,b2,b3,b4,b5,b6,b7,b8⟩:=KB.out _ (Ch.refl _ _);rcases o_ (rc:=rc) (ib:=ib) (kl:=kl) (z:=z) Yt.out HCN.out with ⟨rfl,HVV⟩|⟨rfl,q0,HVV⟩|⟨rfl,q0,q1,HVV⟩|⟨rfl,q0,q1,q2,HVV⟩|⟨rfl,q0,q1,q2,q3,HVV⟩|⟨rfl,q0,q1,q2,q3,q4,HVV⟩|⟨rfl,q0,q1,q2,q3,q4,q5,HVV⟩|⟨rfl,q0,q1,q2,q3,q4,q5,q6,HVV⟩|⟨rfl,q0,q1,q2,q3,q4,q5,q6,HVV⟩
    all_goals
     have e4:=Gn seq;have e6:=uh place;go_wp2_with fail;clear p0 p1 p2 p3 p4 p5 p6 p7 p8 b0 b1 b2 b3 b4 b5 b6 b7 b8;refine (qO.out _ N5.out).mono ?_;rintro e w5 ⟨rfl,n5⟩;obtain ⟨b0,b1,b2,b3,b4,b5,b6,b7,b8⟩:=KB.out _ n5;have N6:=ah (N5.out.tr n5);have M5:=ah n5;clear n5;go_wp2_with fail
     first
      |(have UH:Hid (X=false):=ah (HB.out (HV.out.trans HVV.out));go_ret;exact ⟨by rw[UH.out];first|done|rfl,N6.out⟩)
      |skip
    all_goals
     have hdr:=(M5.out.drew);refine z1C (fun w'=>Hid (Nx (w4.alloc (.cells #[.int .i64 kind,.int .i64 time,.slice A1 aB.length c1,.string text,.int .i64 value,.bool null,.int .i64 maker,.int .i64 seq,.int .i64 place] 58)) w')/\w'.cell? ⟨w4.heap.size,0,none⟩=some (.int .i64 kind)/\w'.cell? ⟨w4.heap.size,1,none⟩=some (.int .i64 time)/\w'.cell? ⟨w4.heap.size,2,none⟩=some (.slice A1 aB.length c1)/\w'.cell? ⟨w4.heap.size,3,none⟩=some (.string text)/\w'.cell? ⟨w4.heap.size,4,none⟩=some (.int .i64 value)/\w'.cell? ⟨w4.heap.size,5,none⟩=some (.bool null)/\w'.cell? ⟨w4.heap.size,6,none⟩=some (.int .i64 maker)/\w'.cell? ⟨w4.heap.size,7,none⟩=some (.int .i64 seq)/\w'.cell? ⟨w4.heap.size,8,none⟩=some (.int .i64 place)/\w'.cell? (ad.add (j * 9))=some (.int .i64 kind2)/\w'.cell? ⟨(ad.add (j * 9)).block,(ad.add (j * 9)).off+1,none⟩=some (.int .i64 bV)/\w'.cell? ⟨(ad.add (j * 9)).block,(ad.add (j * 9)).off+2,none⟩=some (.slice A2 dW.length c2)/\w'.cell? ⟨(ad.add (j * 9)).block,(ad.add (j * 9)).off+3,none⟩=some (.string dQ)/\w'.cell? ⟨(ad.add (j * 9)).block,(ad.add (j * 9)).off+4,none⟩=some (.int .i64 value2)/\w'.cell? ⟨(ad.add (j * 9)).block,(ad.add (j * 9)).off+5,none⟩=some (.bool dS)/\w'.cell? ⟨(ad.add (j * 9)).block,(ad.add (j * 9)).off+6,none⟩=some (.int .i64 bI)/\w'.cell? ⟨(ad.add (j * 9)).block,(ad.add (j * 9)).off+7,none⟩=some (.int .i64 seq2)/\w'.cell? ⟨(ad.add (j * 9)).block,(ad.add (j * 9)).off+8,none⟩=some (.int .i64 bH)) (by kernel_rfl) (by kernel_rfl) ⟨ah M5.out.drew,FACT.out _ M5.out.drew⟩ ?_
     repeat (first
      |refine Nc (by rfl) (by simp only[Act.put,dH,dF,dG];rfl) ?_
      |(refine Nb (v:=?_) (a':=?_) (by rfl) (fun w5 hC5=>?_) ?_ ?_;rotate_left 2;(first
         |(focus ((try dsimp only at hC5);go_split_ands;go_simp;done))
         |(focus ((try dsimp only at hC5);go_split_ands;go_simp;with_reducible rfl))
         |(focus ((try dsimp only at hC5);have hC6:=ah hC5;go_split_ands;go_simp;(go_at_call 116;refine (Ce.out w5).mono ?_;rintro e w7 ⟨rfl,n7⟩;refine ⟨?_,ah (hC6.out.1.out.tr n7),FACT.out w7 (hC6.out.1.out.tr n7)⟩;with_reducible rfl)))
         );(simp only[Act.put,dH,dF,dG];rfl)))
     refine WE ?_;intro w6 hC6;have N7:=ah (N5.out.tr hC6.1.out);clear hC6;go_wp2_with fail
     first
      |(have UH:Hid (X=false):=ah (HB.out (HV.out.trans HVV.out));go_ret;exact ⟨by rw[UH.out];first|done|rfl,N7.out⟩)
      |(have Lm:Hid (MA (j+1)=true):=ah (HV.out.trans HVV.out);go_roundw;(case rel=>exact ⟨j+1+1,by omega,by go_num,N7,ah (fun i hi=>if e:i=j+1 then (by rw[e];exact Lm.out) else HG.out i (by omega))⟩);(case measure=>(simp[intOf];omega)))
  ·have hkn2:n=k:=by omega
   have hX:Hid (X=decide (0<k)):=ah (by rw[Cc.out (fun i hi=>HG.out i (by rw[Hl.out]at hi;omega)),Hl.out,hkn2]);have hk0:decide (0<k)=true:=decide_eq_true (by omega);rw[hk0]at hX;clear hk0;go_wp2_with fail;go_ret;exact ⟨by rw[hX.out];first|done|rfl,N4.out⟩
theorem ZB {W w:World} {v:Value} {T rest:List Nat} {z:Nat} (h:bJ W w v T (aj z++rest)) (hz:z<9223372036854775808) (hT:T.length<=1000000):
 Calls Tryz.prog 125 #[v,.int .i64 (z:Int)] w (XY W w T rest):=by
 obtain ⟨X,o,e⟩:=h;refine (Vf W w v X z o (by rw[←e]at hT;simp only[List.length_append]at hT;omega) (by omega)).mono ?_;rintro e2 w' ⟨v',rfl,o',m⟩;exact ⟨v',rfl,⟨_,o',by rw[←e];simp⟩,o.NY m⟩
theorem Na {W w:World} {v:Value} {T rest x:List Nat} {D:Nat->Prop} {A:Option Addr} {n c:Nat} (h:bJ W w v T (aj x.length++(x++rest))) (hT:T.length<=1000000) (hr:Rd w D 1 A n (bl x)) (hl:x.length=n) (hD:∀k,D k->k<w.heap.size/\v.ownBlock≠some k):
 Calls Tryz.prog 119 #[v,.slice A n c] w (XY W w T rest):=by
 obtain ⟨X,o,e⟩:=h;refine (YL W w v X x o (by rw[←e]at hT;simp only[List.length_append]at hT;omega) hr hl (by rw[←e]at hT;simp only[List.length_append]at hT;omega) hD).mono ?_;rintro e2 w' ⟨v',rfl,o',m⟩;exact ⟨v',rfl,⟨_,o',by rw[←e];simp[aO]⟩,o.NY m⟩
theorem XM (a b c d e:Value) (W:World):(Instr.index 174 (.agg #[a,b,c,d,e]) (.int .i64 0)).run Tryz.prog W=.ok a W:=by kernel_rfl
theorem XL (a b c d e:Value) (W:World):(Instr.index 174 (.agg #[a,b,c,d,e]) (.int .i64 1)).run Tryz.prog W=.ok b W:=by kernel_rfl
theorem XK (a b c d e:Value) (W:World):(Instr.index 174 (.agg #[a,b,c,d,e]) (.int .i64 2)).run Tryz.prog W=.ok c W:=by kernel_rfl
theorem XJ (a b c d e:Value) (W:World):(Instr.index 174 (.agg #[a,b,c,d,e]) (.int .i64 3)).run Tryz.prog W=.ok d W:=by kernel_rfl
theorem XI (a b c d e:Value) (W:World):(Instr.index 174 (.agg #[a,b,c,d,e]) (.int .i64 4)).run Tryz.prog W=.ok e W:=by kernel_rfl
theorem SY {w:World} {D:Nat->Prop} {A:Option Addr} {n k:Nat} {l:List Int} (h:Rd w D 1 A n (ints l)) (hk:k<l.length):∃ad,A=some ad/\w.cell? (ad.add k)=some (.int .i64 l[k]):=by
 have hn:0<n:=by have:=h.1;unfold ints at this;simp at this;omega
 obtain ⟨ad,rfl,hb,hc⟩:=h.2 hn;exact ⟨ad,rfl,hc k _ (by unfold ints;rw[List.getElem?_map,List.getElem?_eq_getElem hk];rfl)⟩
theorem EM {w:World} {D:Nat->Prop} {As Ap:Option Addr} {cs cp:Nat} {ss:List aK} {ps:List PV} (hs:Rd w D 5 As ss.length (spl ss)) (hp:Rd w D 2 Ap ps.length (iM ps)) (hk:∀x∈ps,x.fit w D) (hf:∀s∈ss,s.fit) (h1:ss.length<=2048) (h2:ps.length<=2048) (hT:(fM ss (ps.map PV.e)).length<=1000000):
 Calls Tryz.prog 54 #[.agg #[.slice As ss.length cs,.slice Ap ps.length cp]] w (gQ w 5 1 (dR (fM ss (ps.map PV.e))).length (bl (dR (fM ss (ps.map PV.e))))):=by
 obtain ⟨i0,hi0,hz0,hz1,hz2⟩:=info_parts Tryz.info5;have HT:=ah hT;have HS:=ah (fun w' (c':Nx w w')=>hs.nx (w':=w') (by decide) c');have HP:=ah (fun w' (c':Nx w w')=>hp.nx (w':=w') (by decide) c');have HF:=ah hf;have HK:=ah hk;have xK:=ah (Oi hf hk h1 h2);have HE:Hid (fM ss (ps.map PV.e)=[]++(aj ss.length++(ss.flatMap dV++(aj ps.length++ps.flatMap fun x=>bY x.e)))):=ah (by unfold fM;simp[List.flatMap_map]);clear hs hp hf hk hT;generalize fM ss (ps.map PV.e)=T at *;have B0:=ah (aG.new w 100 #[.slice As ss.length cs,.slice Ap ps.length cp]);have n0:Nx w (w.alloc (.cells #[.slice As ss.length cs,.slice Ap ps.length cp] 100)):=(Ch.refl _ w).alloc _;have B1:=ah (B0.out.nx ((Ch.refl (fun _=>False) _).alloc (.cells #[] 5)));have O1:Hid (bJ w ((w.alloc (.cells #[.slice As ss.length cs,.slice Ap ps.length cp] 100)).alloc (.cells #[] 5)) (.slice (some ⟨(w.alloc (.cells #[.slice As ss.length cs,.slice Ap ps.length cp] 100)).heap.size,0,none⟩) 0 0) T (aj ss.length++(ss.flatMap dV++(aj ps.length++ps.flatMap fun x=>bY x.e)))):=ah ⟨[],ak.lit w _ _ n0 1,HE.out.symm⟩;have HU1:=ah (ZB O1.out (by omega) HT.out);simp only[World.size_alloc]at HU1;have c0:((w.alloc (.cells #[.slice As ss.length cs,.slice Ap ps.length cp] 100)).alloc (.cells #[] 5)).cell? ⟨w.heap.size,0,none⟩=some (.slice As ss.length cs):=B1.out.cell 0;clear n0 HE;go_enter Tryz.func54,Tryz.ntmps54;go_wp2_with fail;clear c0;refine HU1.out.mono ?_;rintro e w2 ⟨v2,rfl,o2,kk2⟩;have B2:=ah (kk2 _ _ _ (by decide) B1.out);have c0:w2.cell? ⟨w.heap.size,0,none⟩=some (.slice As ss.length cs):=B2.out.cell 0;have O2:=ah o2;clear o2 kk2 HU1 B0 B1 O1;go_wp2_with fail;clear c0;go_loopw [3,20] (fun v i wr=>∃k:Nat,k<=ss.length/\i=.int .i64 (k:Int)/\Hid (bJ w wr v T ((ss.drop k).flatMap dV++(aj ps.length++ps.flatMap fun x=>bY x.e)))/\Hid (aG wr w.heap.size 100 #[.slice As ss.length cs,.slice Ap ps.length cp])) (fun _ i _=>ss.length-(intOf i).toNat)
 case atStart=>exact ⟨0,Nat.zero_le _,rfl,O2,B2⟩
 case round=>
  clear O2 B2;obtain ⟨w4,rfl⟩:∃w4:World,w4=wr:=⟨_,rfl⟩;obtain ⟨k,hkn,rfl,HO,IB0⟩:=hrel;by_cases hlt:k<ss.length
  ·obtain ⟨X0,oX, -⟩:=HO.out
   have N4:=ah oX.nx;clear oX;obtain ⟨ad,rfl, -,p0,p1,p2,p3,p4⟩:=mP (HS.out w4 N4.out) hlt;have HD:=ah (YR dV hlt);have hfit:=HF.out _ (List.getElem_mem hlt);generalize ss[k]=sp at *;obtain ⟨pl,sz,ro,lo,hi⟩:=sp;obtain ⟨⟨a0,b0⟩,⟨a1,b1⟩,⟨a2,b2⟩,⟨a3,b3⟩,⟨a4,b4⟩⟩:=hfit;simp only at p0 p1 p2 p3 p4 a0 a1 a2 a3 a4 b0 b1 b2 b3 b4;obtain ⟨z0,rfl⟩:=Int.eq_ofNat_of_zero_le a0;obtain ⟨z1,rfl⟩:=Int.eq_ofNat_of_zero_le a1;obtain ⟨z2,rfl⟩:=Int.eq_ofNat_of_zero_le a2;obtain ⟨z3,rfl⟩:=Int.eq_ofNat_of_zero_le a3;obtain ⟨z4,rfl⟩:=Int.eq_ofNat_of_zero_le a4;obtain ⟨rr,hrr⟩:∃t,t=(ss.drop (k+1)).flatMap dV++(aj ps.length++ps.flatMap fun x=>bY x.e):=⟨_,rfl⟩
   have O5:Hid (bJ w (w4.alloc (.cells #[.int .i64 (z0:Int),.int .i64 (z1:Int),.int .i64 (z2:Int),.int .i64 (z3:Int),.int .i64 (z4:Int)] 110)) u3 T (aj z0++(aj z1++(aj z2++(aj z3++(aj z4++rr)))))):=ah (by
    obtain ⟨X,o,e⟩:=HO.out;refine ⟨X,o.tr ((Ch.refl _ _).alloc _),?_⟩;rw[←e,HD.out,hrr];simp[dV])
   have HRR:=ah hrr;have IB5:=ah (IB0.out.alloc (.cells #[.int .i64 (z0:Int),.int .i64 (z1:Int),.int .i64 (z2:Int),.int .i64 (z3:Int),.int .i64 (z4:Int)] 110));have B5:=ah (aG.new w4 110 #[.int .i64 (z0:Int),.int .i64 (z1:Int),.int .i64 (z2:Int),.int .i64 (z3:Int),.int .i64 (z4:Int)]);clear hrr HO IB0 HD a0 a1 a2 a3 a4;go_wp2_with fail;go_loopw [3,35] (fun v i wr=>∃j:Nat,j<=5/\i=.int .i64 (j:Int)/\Hid (bJ w wr v T (([z0,z1,z2,z3,z4].drop j).flatMap aj++rr))/\Hid (aG wr w.heap.size 100 #[.slice (some ad) ss.length cs,.slice Ap ps.length cp])) (fun _ i _=>5-(intOf i).toNat)
   case atStart=>exact ⟨0,by decide,rfl,ah (by simpa using O5.out),IB5⟩
   case round=>
    clear O5 IB5 B5 N4;obtain ⟨w5,rfl⟩:∃w5:World,w5=wr:=⟨_,rfl⟩;obtain ⟨j,hj,rfl,HO,IB6⟩:=hrel;by_cases hj5:j<5
    ·have f0:=fun W=>XM (.int .i64 (z0:Int)) (.int .i64 (z1:Int)) (.int .i64 (z2:Int)) (.int .i64 (z3:Int)) (.int .i64 (z4:Int)) W
     have f1:=fun W=>XL (.int .i64 (z0:Int)) (.int .i64 (z1:Int)) (.int .i64 (z2:Int)) (.int .i64 (z3:Int)) (.int .i64 (z4:Int)) W;have f2:=fun W=>XK (.int .i64 (z0:Int)) (.int .i64 (z1:Int)) (.int .i64 (z2:Int)) (.int .i64 (z3:Int)) (.int .i64 (z4:Int)) W;have f3:=fun W=>XJ (.int .i64 (z0:Int)) (.int .i64 (z1:Int)) (.int .i64 (z2:Int)) (.int .i64 (z3:Int)) (.int .i64 (z4:Int)) W;have f4:=fun W=>XI (.int .i64 (z0:Int)) (.int .i64 (z1:Int)) (.int .i64 (z2:Int)) (.int .i64 (z3:Int)) (.int .i64 (z4:Int)) W;rcases (show j=0∨j=1∨j=2∨j=3∨j=4 by omega) with rfl|rfl|rfl|rfl|rfl
     all_goals
      have hO:=HO.out;simp only[List.drop_zero,List.drop_succ_cons,List.flatMap_cons,List.flatMap_nil,List.append_assoc,List.nil_append]at hO;have HU:=ah (ZB hO (by omega) HT.out);clear hO HO;go_wp2_with fail;refine HU.out.mono ?_;rintro e w6 ⟨v6,rfl,o6,kk6⟩;have O6:=ah o6;have B6:=ah (kk6 _ _ _ (by decide) IB6.out);clear o6 kk6 HU;go_wp2_with fail;go_roundw
      first
       |(case rel=>exact ⟨1,by decide,rfl,ah (by simpa using O6.out),B6⟩)
       |(case rel=>exact ⟨2,by decide,rfl,ah (by simpa using O6.out),B6⟩)
       |(case rel=>exact ⟨3,by decide,rfl,ah (by simpa using O6.out),B6⟩)
       |(case rel=>exact ⟨4,by decide,rfl,ah (by simpa using O6.out),B6⟩)
       |(case rel=>exact ⟨5,by decide,rfl,ah (by simpa using O6.out),B6⟩)
      case measure=>simp[intOf]
    ·have h5:j=5:=by omega
     subst h5;have O6:Hid (bJ w w5 u3 T rr):=ah (by simpa using HO.out);rw[HRR.out]at O6;go_wp2_with fail;go_roundw
     case rel=>exact ⟨k+1,by omega,by go_num,O6,IB6⟩
     case measure=>simp[intOf];omega
  ·have hkk:k=ss.length:=by omega
   have O3:Hid (bJ w w4 u3 T (aj ps.length++ps.flatMap fun x=>bY x.e)):=ah (by have:=HO.out;rw[hkk,List.drop_length]at this;exact this);have c0:w4.cell? ⟨w.heap.size,1,none⟩=some (.slice Ap ps.length cp):=IB0.out.cell 1;clear hkk HO;go_wp2_with fail;refine (ZB O3.out (by omega) HT.out).mono ?_;rintro e w5 ⟨v5,rfl,o5,kk5⟩;have B5:=ah (kk5 _ _ _ (by decide) IB0.out);have c1:w5.cell? ⟨w.heap.size,1,none⟩=some (.slice Ap ps.length cp):=B5.out.cell 1;have O5:=ah o5;clear o5 kk5 O3 c0 IB0;go_wp2_with fail;clear c1;go_loopw [3,51] (fun v i wr=>∃k:Nat,k<=ps.length/\i=.int .i64 (k:Int)/\Hid (bJ w wr v T ((ps.drop k).flatMap fun x=>bY x.e))) (fun _ i _=>ps.length-(intOf i).toNat)
   case atStart=>exact ⟨0,Nat.zero_le _,rfl,O5⟩
   case round=>
    clear O5 B5;obtain ⟨w4,rfl⟩:∃w4:World,w4=wr:=⟨_,rfl⟩;obtain ⟨k,hkn,rfl,HO⟩:=hrel;by_cases hlt:k<ps.length
    ·obtain ⟨X0,oX, -⟩:=HO.out
     have N4:=ah oX.nx;clear oX;obtain ⟨ad,rfl, -,p0,p1⟩:=post_at (HP.out w4 N4.out) hlt;have HD:=ah (YR (fun x:PV=>bY x.e) hlt);have hfit:=HK.out _ (List.getElem_mem hlt);generalize ps[k]=x at *;obtain ⟨text,gs,A,c⟩:=x;obtain ⟨f1,f2,f3,f4⟩:=hfit;simp only at p0 p1 f1 f2 f3 f4;have F1:=ah f1;have F4:=ah f4;obtain ⟨rr,hrr⟩:∃t,t=(ps.drop (k+1)).flatMap fun x=>bY x.e:=⟨_,rfl⟩;have HRR:=ah hrr;have N5:=ah ((Ch.refl (fun _=>False) w4).alloc (.cells #[.string text,.slice A gs.length c] 167))
     have O5:Hid (bJ w (w4.alloc (.cells #[.string text,.slice A gs.length c] 167)) u3 T (aj text.size++(jg text++(aj gs.length++((gs.flatMap fun g=>aj g.toNat)++rr))))):=ah (by
      obtain ⟨X,o,e⟩:=HO.out;refine ⟨X,o.tr N5.out,?_⟩;rw[←e,HD.out,hrr];simp[bY,PV.e,List.flatMap_map])
     have B5:=ah (aG.new w4 167 #[.string text,.slice A gs.length c]);have c0:(w4.alloc (.cells #[.string text,.slice A gs.length c] 167)).cell? ⟨w4.heap.size,0,none⟩=some (.string text):=B5.out.cell 0;have hconv:=run_bytes_of_string (P:=Tryz.prog) (w4.alloc (.cells #[.string text,.slice A gs.length c] 167)) 9 26 5 text Tryz.underlying9 Tryz.underlying26 Tryz.underlying5;have hle:text.size<=grownCap (w4.alloc (.cells #[.string text,.slice A gs.length c] 167)) text.size 0 5:=grownCap_ge _ _ _ _;generalize grownCap (w4.alloc (.cells #[.string text,.slice A gs.length c] 167)) text.size 0 5=cap at *;have HRX:=Rd.ofText (w4.alloc (.cells #[.string text,.slice A gs.length c] 167)) (nH text) cap ((bytesRow text cap).size,(bytesRow text cap).size+1);rw[z47,z09]at HRX;have NX:=ah (((Ch.refl (fun _=>False) (w4.alloc (.cells #[.string text,.slice A gs.length c] 167))).drew).alloc (.cells (bytesRow text cap) 5 ((bytesRow text cap).size,(bytesRow text cap).size+1)));generalize hw6:(w4.alloc (.cells #[.string text,.slice A gs.length c] 167)).drew.alloc (.cells (bytesRow text cap) 5 ((bytesRow text cap).size,(bytesRow text cap).size+1))=w6 at *;clear hrr HO HD;have HB6:=ah (B5.out.nx NX.out);have hs6:w6.heap.size=w4.heap.size+1+1:=by rw[←hw6];simp
     have HS6:=ah hs6
     have HO6:Hid (bJ w w6 u3 T (aj (jg text).length++(jg text++(aj gs.length++((gs.flatMap fun g=>aj g.toNat)++rr))))):=ah (by
      obtain ⟨X,o,e⟩:=O5.out;exact ⟨X,o.tr NX.out,by rw[z09];exact e⟩)
     have HOB:Hid (∀k,u3.ownBlock=some k->k<w4.heap.size+1):=ah (fun k e=>by
      obtain ⟨X,o, -⟩:=O5.out;have:=(o.lt k e).2;simpa using this)
     simp only[World.size_alloc]at HRX;have HWO:=ah (Na (c:=cap) HO6.out HT.out HRX (z09 text) (fun k hk=>⟨by subst hk;rw[HS6.out];exact Nat.lt_succ_self _,fun e=>by have:=HOB.out k e;omega⟩));have N6:=ah (N4.out.tr (N5.out.tr NX.out));clear hs6 HRX hw6;go_wp2_with fail;clear c0 hconv p0 p1;refine HWO.out.mono ?_;rintro e w7 ⟨v7,rfl,o7,kk7⟩;have O7:=ah o7;have B7:=ah (kk7 _ _ _ (by decide) HB6.out);have c1:w7.cell? ⟨w4.heap.size,1,none⟩=some (.slice A gs.length c):=B7.out.cell 1;clear o7 kk7 HWO HO6 HB6 B5 O5;go_wp2_with fail;clear c1;refine (ZB O7.out (by omega) HT.out).mono ?_;rintro e w8 ⟨v8,rfl,o8,kk8⟩;have O8:=ah o8;have B8:=ah (kk8 _ _ _ (by decide) B7.out);have c1:w8.cell? ⟨w4.heap.size,1,none⟩=some (.slice A gs.length c):=B8.out.cell 1;clear o8 kk8 O7 B7;go_wp2_with fail;clear c1;go_loopw [3,68] (fun v i wr=>∃j:Nat,j<=gs.length/\i=.int .i64 (j:Int)/\Hid (bJ w wr v T (((gs.drop j).flatMap fun g=>aj g.toNat)++rr))) (fun _ i _=>gs.length-(intOf i).toNat)
     case atStart=>exact ⟨0,Nat.zero_le _,rfl,O8⟩
     case round=>
      clear O8 B8;obtain ⟨w9,rfl⟩:∃w9:World,w9=wr:=⟨_,rfl⟩;obtain ⟨j,hj,rfl,HO⟩:=hrel;by_cases hjl:j<gs.length
      ·obtain ⟨X0,oX, -⟩:=HO.out
       have N9:=ah oX.nx;clear oX;obtain ⟨ag,hag,r0⟩:=SY (F1.out.nx (by decide) N9.out) hjl;subst hag;have hg:=F4.out _ (List.getElem_mem hjl);have HDG:=ah (YR (fun g:Int=>aj g.toNat) hjl);generalize gs[j]=g at *;obtain ⟨z,rfl⟩:=Int.eq_ofNat_of_zero_le hg.1
       have O9:Hid (bJ w w9 u3 T (aj z++(((gs.drop (j+1)).flatMap fun g=>aj g.toNat)++rr))):=ah (by
        have h:=HO.out;rw[HDG.out]at h;simpa using h)
       clear HO HDG;go_wp2_with fail;refine (ZB O9.out (by omega) HT.out).mono ?_;rintro e wa ⟨va,rfl,oa,ka⟩;have Oa:=ah oa;clear oa ka;go_wp2_with fail;go_roundw
       case rel=>exact ⟨j+1,by omega,by go_num,Oa⟩
       case measure=>simp[intOf];omega
      ·have hjj:j=gs.length:=by omega
       have Oa:Hid (bJ w w9 u3 T ((ps.drop (k+1)).flatMap fun x=>bY x.e)):=ah (by
        have h:=HO.out;rw[hjj,List.drop_length]at h;rw[←HRR.out];exact h)
       clear hjj;go_wp2_with fail;go_roundw
       case rel=>exact ⟨k+1,by omega,by go_num,Oa⟩
       case measure=>simp[intOf];omega
    ·have hkk:k=ps.length:=by omega
     obtain ⟨X,o,e⟩:=HO.out;rw[hkk,List.drop_length,List.flatMap_nil,List.append_nil]at e;subst e;obtain ⟨A9,c9,rfl,hc9, -⟩:=o.form;have HSE:=ah (yP _ A9 X.length c9 X w4 o.rd xK.out rfl (by have:=HT.out;omega));have N4:=ah o.nx;clear hkk o HO;go_wp2_with fail;refine HSE.out.mono ?_;rintro e w5 ⟨k5,cap5,rfl,o5,h5a,h5b,h5c,h5d⟩;have G5:Hid (gQ w 5 1 (dR X).length (bl (dR X)) (.returned (.slice (some ⟨k5,0,none⟩) (dR X).length cap5)) w5):=ah ⟨k5,cap5,rfl,⟨jM o5.own N4.out.size,N4.out.tr o5.nx⟩,Nat.le_trans N4.out.size h5a,h5b,h5c,h5d⟩;clear o5 h5a h5b h5c h5d HSE;go_wp2_with fail;go_ret;exact G5.out
end Go.Proofs.YtpakjclpjcngmaaGreat
namespace Go.Proofs.YtpakjclpjcngmaaGreat
theorem aY.Aq {c d:aY} (b:List Nat) (hn:∀k,k<6->c.n k=d.n k) (h1:c.ws=d.ws) (h2:c.ts=d.ts) (h3:c.fs=d.fs):c.group b=d.group b:=by
 have hrow:∀i l,c.rowOf i l=d.rowOf i l:=fun i l=>by
  unfold aY.rowOf;rw[hn 0 (by decide),hn 1 (by decide),hn 2 (by decide),hn 3 (by decide),hn 4 (by decide),hn 5 (by decide),h2,h3]
 have hrows:∀k,c.rows k=d.rows k:=fun k=>by
  induction k with
  |zero=>rfl
  |succ k ih=>
   unfold aY.rows aY.row;rw[ih,h1,show c.rowOf k=d.rowOf k from funext (hrow k)]
 have hfit:c.fit↔d.fit:=by
  constructor
  ·intro h
   exact ⟨fun k hk=>by rw[←hn k hk,←h3];exact h.n k hk,by rw[←h3];exact h.pos,by rw[←h3];exact h.few,by rw[←h1,←h3];exact h.ws,by rw[←h2,←h3];exact h.ts⟩
  ·intro h
   exact ⟨fun k hk=>by rw[hn k hk,h3];exact h.n k hk,by rw[h3];exact h.pos,by rw[h3];exact h.few,by rw[h1,h3];exact h.ws,by rw[h2,h3];exact h.ts⟩
 unfold aY.group;rw[hrows,h3,hfit]
theorem Td {z:Int} (h:jO z):i64 z:=by unfold jO at h;unfold i64;omega
section
variable {l : List aA} (hg : dM l)
include hg
end
theorem Pm (l:List aA) {k:Nat} (hk:k<5):(CU l).n k=l.map (jk k):=by
 show l.map (if k=5 then fun x=>x.value else jk k)=_
 rw[if_neg (by omega)]
theorem Ie (l:List aA):(CU l).n 5=l.map fun x=>x.value:=rfl
theorem ZP {k:Nat} (hk:k<5):tn k=k:=by unfold tn;rw[if_neg (by omega)]
theorem tn_5:tn 5=7:=rfl
theorem grpI {l:List aA} (hg:dM l) {k:Nat} (hk:k<5):aJ (l.map (jk k))=0:=by
 rcases k with _|_|_|_|_|k
 ·exact hg.time
 ·exact hg.maker
 ·exact hg.seq
 ·exact hg.place
 ·exact hg.kind
 ·omega
end Go.Proofs.YtpakjclpjcngmaaGreat
