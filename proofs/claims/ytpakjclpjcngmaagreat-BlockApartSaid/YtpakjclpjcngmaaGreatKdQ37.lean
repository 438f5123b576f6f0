/- Contracts and plain laws that the last text rests on. Conditions: each theorem states its own. -/
import Derived.Test.YtpakjclpjcngmaaGreatKdQ36
import Derived.Test.YtpakjclpjcngmaaGreatKdQ34
import Derived.Test.YtpakjclpjcngmaaGreatKdQ30
import Derived.Test.YtpakjclpjcngmaaGreatKdQ15
import Derived.Test.YtpakjclpjcngmaaGreatKdPdBkT
import Derived.Test.YtpakjclpjcngmaaGreatKdQ32
import Derived.Test.YtpakjclpjcngmaaGreatKdQ31
import Derived.Test.YtpakjclpjcngmaaGreatKdQ33
import Derived.Test.YtpakjclpjcngmaaGreatKdQ14
set_option maxRecDepth 100000
set_option linter.unusedVariables false
namespace Go.Proofs.YtpakjclpjcngmaaGreat
open Go.RowKit Go.Maps Go.Sort Go.Proofs
def nG (W:World) (p q b3:Nat) (r:Nat):Prop:=r=b3∨(r≠p/\r≠q/\∃cs t fz,W.heap[r]?=some (.cells cs t fz))
theorem Zo {W W1 W2:World} {p q b3:Nat} (h:Ch (nG W p q b3) W W1) (k:Ch (nG W1 p q b3) W1 W2):Ch (nG W p q b3) W W2:=
 h.trans k fun i hi hs=>by
  rcases hs with hs|⟨h1,h2,cs,t,fz,h3⟩
  ·exact .inl hs
  ·by_cases hS:nG W p q b3 i
   ·exact hS
   ·exact .inr ⟨h1,h2,cs,t,fz,(h.block i hi hS).symm.trans h3⟩
theorem yD {W W1:World} (p q b3:Nat) (h:Nx W W1):Ch (nG W p q b3) W W1:=h.mono fun _ _ hf=>hf.elim
theorem yC {W W1:World} {S:Nat->Prop} {p q b3:Nat} (h:Ch S W W1) (hS:∀i,S i->nG W p q b3 i):Ch (nG W p q b3) W W1:=h.mono fun i _ hi=>hS i hi
theorem yE {W:World} {g p q b3:Nat} {t tp tq:TypeId} {cs cp cq:Array Value} (h:aJ W g t cs) (hp:aJ W p tp cp) (hq:aJ W q tq cq) (h1:t≠tp) (h2:t≠tq):nG W p q b3 g:=
 .inr ⟨fun e=>h.RP hp h1 (by rw[e]),fun e=>h.RP hq h2 (by rw[e]),cs,t,(0,0),h⟩
theorem Ws {W:World} {g p q b3:Nat} {t tp tq:TypeId} {cs cp cq:Array Value} {fz:Nat×Nat} (h:W.heap[g]?=some (.cells cs t fz)) (hp:aJ W p tp cp) (hq:aJ W q tq cq) (h1:t≠tp) (h2:t≠tq):nG W p q b3 g:=by
 have key:∀{x:Nat} {tx:TypeId} {cx:Array Value},aJ W x tx cx->t≠tx->g≠x:=fun {x tx cx} hx hne e=>by
  subst e;have hx:W.heap[g]?=some (.cells cx tx (0,0)):=hx;rw[h]at hx;injection hx with hx;injection hx with _ e;exact hne e
 exact .inr ⟨key hp h1,key hq h2,cs,t,fz,h⟩
theorem MX {W W':World} {p q b3 B:Nat} (h:Ch (nG W p q b3) W W') (hb:b3<B):KeepsFrom B W W':=
 ⟨h.size,fun k o hB ho hc=>(h.block k (Array.getElem?_eq_some_iff.1 ho).1 fun hs=>by
   rcases hs with hs|⟨_,_,cs,t,fz,h3⟩
   ·omega
   ·rw[h3]at ho
    injection ho with ho;rw[←ho]at hc;cases hc).trans ho⟩
theorem Wu {W W':World} {p q b3:Nat} (h:Ch (nG W p q b3) W W') (h1:p≠b3) (h2:q≠b3) (l1:p<W.heap.size) (l2:q<W.heap.size):LP p q W W':=
 ⟨h.size,h.block p l1 fun hs=>by rcases hs with hs|⟨h3,_⟩;exact h1 hs;exact h3 rfl,h.block q l2 fun hs=>by rcases hs with hs|⟨_,h3,_⟩;exact h2 hs;exact h3 rfl⟩
theorem E_.more {D:DataW Unit} {gs:List (List au)} (h:E_ D gs gs.length []) (g:List au):E_ D (gs++[g]) gs.length []:=by
 refine ⟨h.1,fun t ht=>?_⟩
 have e:gU (gs++[g]) gs.length [] t=gU gs gs.length [] t:=by
  unfold gU;rw[List.take_left,List.take_length]
 rw[e];exact h.2 t ht
theorem fU.more {w W:World} {B b1 b2 b3 b4:Nat} {gs:List (List au)} {X:List Nat} {ss:List aW} (h:fU w B b1 b2 b3 b4 gs X ss gs.length [] W) (g:List au):fU w B b1 b2 b3 b4 (gs++[g]) X ss gs.length [] W:=by
 obtain ⟨h1,h2,h3,D,n,g1,g2,g3,g4⟩:=h;exact ⟨h1,h2,h3,D,n,g1,g2.more g,g3,g4⟩
theorem z5J (g:List au):∀(gs:List (List au)) (a:Nat),kS a (gs++[g])=kS a gs++[⟨((a+(aP gs).length:Nat):Int),(fZ g).length,g.length,PX g,lastT g⟩]
 |[],a=>by simp[kS,aP]
 |x::gs,a=>by
  rw[List.cons_append,kS,z5J g gs,kS];simp[aP,Nat.add_assoc]
theorem Jw (gs:List (List au)) (g:List au):aP (gs++[g])=aP gs++fZ g:=by simp[aP]
/-! the chunk's rows -/
def uJ {α:Type} (l:List α) (per k:Nat):List α:=(l.drop (k * per)).take per
theorem z4H {α:Type} (l:List α) (per k:Nat):(uJ l per k).length=dK l.length per k:=by
 unfold uJ dK;rw[List.length_take,List.length_drop]
theorem Jq {α β:Type} (f:α->β) (l:List α) (per k:Nat):(uJ l per k).map f=uJ (l.map f) per k:=by
 unfold uJ;rw[List.map_take,List.map_drop]
theorem uf {α:Type} (l:List α) (per n:Nat) (hn:l.length=n):(List.finRange (dJ n per)).map (fun k=>uJ l per k.val)=bK per l:=by
 subst hn;rw[aaN (fun k=>uJ l per k)];rfl
theorem Eu {w:World} {D:Nat->Prop} {A:Option Addr} {n:Nat} {l:List RV} (h:Rd w D 9 A n (ji l)) (hl:l.length=n) (per k:Nat) (hk:k * per<=n):Rd w D 9 (A.map fun ad=>ad.add (k * per * 9)) (dK n per k) (ji (uJ l per k)):=by
 have h1:=h.cut (k:=k * per) (cap:=n) hk (Nat.le_refl _);have h2:=h1.take (k:=dK n per k) (by unfold dK;omega)
 have e:((ji l).drop (k * per * 9)).take (dK n per k * 9)=ji (uJ l per k):=by
  unfold ji uJ;rw[Oo RV.dP,Om RV.dP];congr 1
  unfold dK;rw[←hl,←List.length_drop,←List.take_eq_take_min]
 rw[e]at h2;by_cases h0:n=k * per
 ·have hz:dK n per k=0:=by unfold dK;omega
  have hz2:uJ l per k=[]:=List.eq_nil_of_length_eq_zero (by rw[z4H,hl];exact hz);rw[hz,hz2];exact Rd.none_ _ _ _ _
 ·rw[if_neg (by omega)]at h2
  exact h2
def jo (w1:World) (A:Option Addr) (n c per:Nat):World:=
 ((((((w1.alloc (.cells #[.int .u8 69,.int .u8 78,.int .u8 84,.int .u8 82,.int .u8 1] 5 (5,6))).alloc (.cells #[.slice (some ⟨w1.heap.size,0,none⟩) 5 5] 26)).alloc (.cells #[.slice none 0 0,.slice none 0 0] 49)).alloc (.map #[] 0)).alloc
   (.cells #[.map (some (w1.heap.size+1+1+1))] 75)).alloc (.cells #[.slice A n c] 22)).alloc (.cells #[.int .i64 (per:Int)] 3)
theorem z5F {w w1:World} (n1:Nx w w1) (A:Option Addr) (n c per:Nat):
 fU w (jo w1 A n c per).heap.size (w1.heap.size+1) (w1.heap.size+1+1) (w1.heap.size+1+1+1) (w1.heap.size+1+1+1+1) [] headB [] 0 [] (jo w1 A n c per)/\
 aJ (jo w1 A n c per) (w1.heap.size+1+1+1+1+1) 22 #[.slice A n c]/\aJ (jo w1 A n c per) (w1.heap.size+1+1+1+1+1+1) 3 #[.int .i64 (per:Int)]/\(jo w1 A n c per).heap.size=w1.heap.size+7/\Nx w (jo w1 A n c per):=by
 have hsz:=n1.size;obtain ⟨a1,h1⟩:∃a,a=w1.alloc (.cells #[.int .u8 69,.int .u8 78,.int .u8 84,.int .u8 82,.int .u8 1] 5 (5,6)):=⟨_,rfl⟩;have s1:a1.heap.size=w1.heap.size+1:=by rw[h1,World.size_alloc]
 have L1:a1.heap[w1.heap.size]?=some (.cells #[.int .u8 69,.int .u8 78,.int .u8 84,.int .u8 82,.int .u8 1] 5 (5,6)):=by rw[h1];exact heap_alloc_new w1 _
 have N1:Nx w a1:=by rw[h1];exact n1.trans ((Ch.refl _ w1).alloc _) fun _ _ hf=>hf
 have key:∀(o:Obj) (X:World),Nx a1 X->(X.alloc o).heap[w1.heap.size]?=some (.cells #[.int .u8 69,.int .u8 78,.int .u8 84,.int .u8 82,.int .u8 1] 5 (5,6)):=fun o X hX=>by
  have:=(hX.trans ((Ch.refl (fun _=>False) X).alloc o) fun _ _ hf=>hf).block w1.heap.size (by omega) fun hf=>hf;rw[this];exact L1
 unfold jo;rw[←h1];have B1:=aJ.new a1 26 #[.slice (some ⟨w1.heap.size,0,none⟩) 5 5];obtain ⟨a2,h2⟩:∃a,a=a1.alloc (.cells #[.slice (some ⟨w1.heap.size,0,none⟩) 5 5] 26):=⟨_,rfl⟩;rw[←h2]at B1 ⊢;have s2:a2.heap.size=w1.heap.size+1+1:=by rw[h2,World.size_alloc,s1]
 have N2:Nx a1 a2:=by rw[h2];exact (Ch.refl _ a1).alloc _
 have B2:=aJ.new a2 49 #[.slice none 0 0,.slice none 0 0];obtain ⟨a3,h3⟩:∃a,a=a2.alloc (.cells #[.slice none 0 0,.slice none 0 0] 49):=⟨_,rfl⟩;rw[←h3]at B2 ⊢;have s3:a3.heap.size=w1.heap.size+1+1+1:=by rw[h3,World.size_alloc,s2]
 have N3:Nx a2 a3:=by rw[h3];exact (Ch.refl _ a2).alloc _
 have G:=World.ownsGroups_made (H:=Unit) a3 Tryz.prog 9 3 .i64;have GS:=World.Shuns_made a3 (· <w1.heap.size+7);obtain ⟨a4,h4⟩:∃a,a=a3.alloc (.map #[] 0):=⟨_,rfl⟩;rw[←h4]at G GS ⊢;have s4:a4.heap.size=w1.heap.size+1+1+1+1:=by rw[h4,World.size_alloc,s3]
 have N4:Nx a3 a4:=by rw[h4];exact (Ch.refl _ a3).alloc _
 have B4:=aJ.new a4 75 #[.map (some (w1.heap.size+1+1+1))];obtain ⟨a5,h5⟩:∃a,a=a4.alloc (.cells #[.map (some (w1.heap.size+1+1+1))] 75):=⟨_,rfl⟩;rw[←h5]at B4 ⊢;have s5:a5.heap.size=w1.heap.size+1+1+1+1+1:=by rw[h5,World.size_alloc,s4]
 have N5:Nx a4 a5:=by rw[h5];exact (Ch.refl _ a4).alloc _
 have B5:=aJ.new a5 22 #[.slice A n c];obtain ⟨a6,h6⟩:∃a,a=a5.alloc (.cells #[.slice A n c] 22):=⟨_,rfl⟩;rw[←h6]at B5 ⊢;have s6:a6.heap.size=w1.heap.size+1+1+1+1+1+1:=by rw[h6,World.size_alloc,s5]
 have N6:Nx a5 a6:=by rw[h6];exact (Ch.refl _ a5).alloc _
 have B6:=aJ.new a6 3 #[.int .i64 (per:Int)];obtain ⟨a7,h7⟩:∃a,a=a6.alloc (.cells #[.int .i64 (per:Int)] 3):=⟨_,rfl⟩;rw[←h7]at B6 ⊢;have s7:a7.heap.size=w1.heap.size+7:=by rw[h7,World.size_alloc,s6]
 have N7:Nx a6 a7:=by rw[h7];exact (Ch.refl _ a6).alloc _
 rw[s1]at B1;rw[s2]at B2;rw[s3]at G GS;rw[s4]at B4;rw[s5]at B5;rw[s6]at B6;have T:=fun {a b c:World} (h:Nx a b) (k:Nx b c)=>(h.trans k fun _ _ hf=>hf:Nx a c);have N56:=T N5 (T N6 N7);have N456:=T N4 N56;have N27:=T N3 N456;have N17:=T N2 N27;have NW:=T N1 N17;refine ⟨⟨⟨_,B1.nx N27,.inr ⟨w1.heap.size,_,(5,6),rfl,(N17.block _ (by omega) fun hf=>hf).trans L1,rfl,hsz,NW⟩⟩,⟨_,B2.nx N456,ay.nil w a7 _ 5 NW⟩,B4.nx (T N6 N7),.map [],0,z1g G N56 (fun hf=>hf) (fun _ _ _ _ hf=>hf),E_.start [],Nat.le_refl _,?_⟩,B5.nx N7,B6,s7,NW⟩;rw[s7];exact z3q GS G N56 fun hf=>hf
def Px (R:List au) (n per:Nat) (pre:List (Fin (dJ n per))):List (List au):=pre.map fun k=>uJ R per k.val
structure JD (w:World) (m:Nat) (A:Option Addr) (n c per:Nat) (R:List au) (pre:List (Fin (dJ n per))) (W:World):Prop where
 bld:fU w (m+7) (m+1) (m+1+1) (m+1+1+1) (m+1+1+1+1) (Px R n per pre) (headB++aP (Px R n per pre)) (kS 5 (Px R n per pre)) (Px R n per pre).length [] W
 bp:aJ W (m+1+1+1+1+1) 22 #[.slice A n c]
 bq:aJ W (m+1+1+1+1+1+1) 3 #[.int .i64 (per:Int)]
 size:m+7<=W.heap.size
theorem JD.own {w:World} {m:Nat} {A:Option Addr} {n c per:Nat} {R:List au} (hm:w.heap.size<=m):OwnFrom (m+7) (JD w m A n c per R):=by
 intro pre W W' row h hg hr;have c1:Ch (fun r=>row=some r) W W':=(Ch.refl (fun r=>row=some r) W).grown hg (fun r hr _=>hr)
 have hB:∀{g:Nat} {t:TypeId} {cs:Array Value},aJ W g t cs->aJ W' g t cs:=fun {g t cs} hb=>hb.ch c1 fun e=>by
  obtain ⟨_,o,h1,h2⟩:=hr _ e;have hb:W.heap[g]?=some (.cells cs t (0,0)):=hb;rw[hb]at h1;injection h1 with h1;rw[←h1]at h2;cases h2
 exact ⟨h.bld.from (B':=m+7) (by omega) (by omega) hg hr,hB h.bp,hB h.bq,Nat.le_trans h.size hg.size⟩
theorem JD.start {w w1:World} (n1:Nx w w1) (A:Option Addr) (n c per:Nat) (R:List au):JD w w1.heap.size A n c per R [] (jo w1 A n c per):=by
 obtain ⟨h1,h2,h3,h4,h5⟩:=z5F n1 A n c per;rw[h4]at h1;exact ⟨h1,h2,h3,by omega⟩
theorem lS.form {w W:World} {v:Value} {xs:List Nat} (h:lS w W v xs):∃A c,v=.slice A xs.length c:=by
 rcases h with o|⟨g,cs,fz,e1,_⟩
 ·obtain ⟨A,c,e,_⟩:=o.form
  exact ⟨A,c,e⟩
 ·exact ⟨_,_,e1⟩
def Ky (s:aW):Array Value:= #[.int .i64 s.place,.int .i64 s.size,.int .i64 s.rows,.int .i64 s.lo,.int .i64 s.hi]
theorem Rd.YF (w:World) (x:aW):Rd (w.alloc (.cells (Ky x) 53)) (fun k=>k=w.heap.size) 5 (some ⟨w.heap.size,0,none⟩) 1 (spl [x]):=by
 have h:=Rd.lit w (Ky x) 53 (0,0);refine ⟨by simp[spl,aW.cs],fun _=>?_⟩;obtain ⟨ad,e,hD,hc⟩:=h.2 (by simp[Ky]);exact ⟨ad,e,hD,fun j u hu=>hc j u (by simpa [spl,aW.cs,Ky]using hu)⟩
theorem Kw (l:List aW):∀u∈spl l,u.oneCell'=true:=by
 intro u hu;obtain ⟨x,_,hx⟩:=List.mem_flatMap.1 hu;simp[aW.cs]at hx;rcases hx with rfl|rfl|rfl|rfl|rfl<;>rfl
theorem QB (l:List aW) (x:aW):spl (l++[x])=spl l++spl [x]:=by simp[spl]
theorem sH {F:Fence} {n:Nat} {P:Program} {w w':World} {ops:Array Oper} {rest:List Oper} {o:Oper} {a:Act} {Q:Exit->Act->World->Prop} (hg:o.guard=none) (s x:Operand) (t:TypeId)
 (hop:o.op=Op.call { callee:=Callee.builtin Builtin.append,args:= #[s,x],argTypes:= #[t,t]}) {v y v':Value} (hs:a.eval s=v) (hx:a.eval x=y) (hrun:(Builtin.append_ #[t,t] o.type #[v,y]).run P w=.ok v' w')
 (h:wpListIn F n P ops Q rest (a.put o.dst v') w'):wpListIn F n P ops Q (o::rest) a w:=by
 refine wpListIn_plain hg fun K hK'=>?_;unfold Oper.wpIn;refine ⟨?_,?_⟩
 ·simp[Oper.about,hop,resolve,Target.leads,Sem.run_pure]
 ·rw[Oper.semAt_plain F _ _ (by rw[hop];intro c hc';cases hc')]
  simp[execOp,hop,resolve,invoke,builtin,hs,hx,hrun,Result.andThen];exact hK' _ _ h
theorem BX (n:Nat):0<(ak n).length:=by
 rw[ak];split<;>simp
theorem z4C {l:List au} (h:dN l):(fZ l).length<=1000000:=by
 rw[z65];exact Cb 9 (by omega) (Py h)
theorem IG (l:List au):0<(fZ l).length:=by
 rw[z65,ady,List.length_append];have h3:=BX (aA 4 (bf (l.map fun x=>x.null))).length;have h4:(dA (aA 4 (bf (l.map fun x=>x.null)))).length=(ak (aA 4 (bf (l.map fun x=>x.null))).length).length+(aA 4 (bf (l.map fun x=>x.null))).length:=by unfold dA;rw[List.length_append]
 omega
theorem z6t:∀{gs:List (List au)},(∀g∈gs,dN g)->(aP gs).length<=1000000 * gs.length
 |[],_=>by simp[aP]
 |g::gs,h=>by
  have h1:=z6t (gs:=gs) fun x hx=>h x (List.mem_cons_of_mem _ hx);have h2:=z4C (h g List.mem_cons_self);have e:aP (g::gs)=fZ g++aP gs:=(by simp[aP]);rw[e,List.length_append,List.length_cons];omega
theorem z6l {R:List au} {n per:Nat} (hp:per<=256) (h:∀x∈R,uG x) (pre:List (Fin (dJ n per))):∀g∈Px R n per pre,dN g:=fun g hg=>by
 obtain ⟨k,_,rfl⟩:=List.mem_map.1 hg;refine ⟨?_,fun x hx=>h x (List.mem_of_mem_drop (List.mem_of_mem_take hx))⟩;rw[z4H];unfold dK;omega
def rF (A:Option Addr) (ws:List ByteArray) (W:World):Prop:=Rd W (fun k=>∃cs,aJ W k 9 cs) 1 A ws.length (dM ws)
theorem rF.ch {A:Option Addr} {ws:List ByteArray} {W W':World} {S:Nat->Prop} (h:rF A ws W) (c:Ch S W W') (hS:∀g cs,aJ W g 9 cs->¬S g):rF A ws W':=by
 have h1:=Rd.ch h (by decide) c (fun k _ hk hs=>by obtain ⟨cs,hB⟩:=hk;exact hS k cs hB hs);exact h1.more fun k hk=>by obtain ⟨cs,hB⟩:=hk;exact ⟨cs,hB.ch c (hS k cs hB)⟩
def afs (W:World) (all:List ByteArray) (e:Ending) (w':World):Prop:=∃A c,e=.returned (.slice A all.length c)/\rF A all w'/\Nx W w'
theorem Fj {W w:World} {v:Value} {n:Nat} {l:List ByteArray} (hl:l.length=n) (hn:n<=1000000) (o:ay W w 9 1 v n ((iE l).map Go.Proofs.encStr)):
 Calls Tryz.prog 41 #[v] w (afs W (bW l)):=by
 have KZ:(rD l).map Go.Proofs.encStr=dM (bW l):=by rw[Ku];rfl
 have hallL:(rD l).length=(bW l).length:=by simp[bW]
 have hsl:(iE l).length=n:=by rw[z2m,hl]
 have e1:Lib.compact (iE l)=rD l:=rfl;rcases o.own.2 with ⟨rfl,hz⟩|⟨gb,cap',cur,rfl,hbase,hgb,r1,r2,r3,r4⟩
 ·have h0:l=[]:=List.eq_nil_of_length_eq_zero (by omega)
  subst h0;refine (Tryz.slices_Compact_string_empty none 0 w).mono ?_;rintro e w' ⟨rfl,rfl⟩;have e0:bW []=[]:=by simp[bW,rD,iE,Lib.compact,Lib.compactUpTo]
  rw[e0];exact ⟨none,0,rfl,Rd.none_ _ _ _ _,o.nx⟩
 ·have hH:Holds encStr w gb 0 (iE l).toArray:=holds_of_block hgb (by rw[hsl];rw[Nat.mul_one]at r4;exact r4)
  have hcon:=Tryz.slices_Compact_string gb 0 cap' (iE l) w hH (by omega) (by rw[hsl];exact r1);rw[←hsl]at r1 ⊢;refine hcon.mono ?_;rintro e w' ⟨rfl,q,rfl⟩;have hle:=Lib.compact_length_le (iE l);have e2:putRow encStr (Sort.ahead w q) gb 0 (Lib.compact (iE l)++List.replicate ((iE l).length-(Lib.compact (iE l)).length) []).toArray=grow (putRow encStr (Sort.ahead w q) gb 0 (Lib.compact (iE l)++List.replicate ((iE l).length-(Lib.compact (iE l)).length) []).toArray) #[]:=(grow_empty _).symm;have h1:=ownsRow_sorted (n:=q) (os:= #[]) (ss:=iE l) (ts:=Lib.compact (iE l)++List.replicate ((iE l).length-(Lib.compact (iE l)).length) []) (by simp;omega) hbase hgb r1 r2 r3;have h2:=grownBy_sorted (w:=w) (g:=gb) (n:=q) (os:= #[]) (Lib.compact (iE l)++List.replicate ((iE l).length-(Lib.compact (iE l)).length) []).toArray;rw[←e2]at h1 h2;generalize putRow encStr (Sort.ahead w q) gb 0 (Lib.compact (iE l)++List.replicate ((iE l).length-(Lib.compact (iE l)).length) []).toArray=w' at *;have h3:=(Rd.dh h1).take (k:=(Lib.compact (iE l)).length) hle;rw[Nat.mul_one,List.map_append,List.take_left' (by simp)]at h3;rw[e1,KZ,hallL]at h3;refine ⟨some ⟨gb,0,none⟩,cap',by rw[e1,hallL],?_,o.nx.grown h2 (fun j hj hlt=>by injection hj with hj;omega)⟩;exact Rd.more h3 fun k hk=>kJ h1 hk.1
section
variable {P : Program} {ops : Array Oper} {o : Oper} {a : Act} {K : Act → World → Prop} {Q : Exit → Act → World → Prop} {E : Prop} {w w' : World}
theorem vH (hgd:o.guard=none) (s x:Operand) (t:TypeId) (ho:o.op=.call { callee:=.builtin .append,args:= #[s,x],argTypes:= #[t,t]}) {v y v':Value} (hs:a.eval s=v) (hx:a.eval x=y)
 (hrun:(Builtin.append_ #[t,t] o.type #[v,y]).run P w=.ok v' w') (h:K (a.put o.dst v') w'):if Region.wanted o (yielded ops a.tmps)=true then Oper.wp P o a w K Q else E:=by
 have hw:Region.wanted o (yielded ops a.tmps)=true:=by simp[Region.wanted,hgd]
 rw[if_pos hw];unfold Oper.wp;simp[execOp,ho,resolve,invoke,builtin,hs,hx,hrun,Result.andThen];exact h
theorem vF (hgd:o.guard=none) (m x:Operand) (t:TypeId) (ho:o.op=.lookup t m x false) {mv key v:Value} (hm:a.eval m=mv) (hx:a.eval x=key)
 (hrun:(Instr.lookup t mv key false).run P w=.ok v w') (h:K (a.put o.dst v) w'):if Region.wanted o (yielded ops a.tmps)=true then Oper.wp P o a w K Q else E:=by
 have hw:Region.wanted o (yielded ops a.tmps)=true:=by simp[Region.wanted,hgd]
 rw[if_pos hw];unfold Oper.wp;simp[execOp,ho,hm,hx,hrun,Result.andThen];exact h
theorem BF (hgd:o.guard=none) (m x y:Operand) (t:TypeId) (ho:o.op=.mapUpdate t m x y) {mv key v:Value} (hm:a.eval m=mv) (hx:a.eval x=key) (hy:a.eval y=v)
 (hrun:(Instr.mapUpdate t mv key v).run P w=.ok () w') (h:K (a.put o.dst undef) w'):if Region.wanted o (yielded ops a.tmps)=true then Oper.wp P o a w K Q else E:=by
 have hw:Region.wanted o (yielded ops a.tmps)=true:=by simp[Region.wanted,hgd]
 rw[if_pos hw];unfold Oper.wp;simp[execOp,ho,hm,hx,hy,hrun,Result.andThen];exact h
end
theorem JB {l:List ByteArray} {j:Nat} (h:j<(bW l).length):(bW l)[j]∉(bW l).take j:=by
 intro hm;obtain ⟨i,hi,e⟩:=List.mem_iff_getElem.1 hm;rw[List.length_take]at hi;rw[List.getElem_take]at e;have:=List.pairwise_iff_getElem.1 (z6w l) i j (by omega) h (by omega);rw[e]at this;exact absurd this (List.lt_irrefl _)
theorem Bd (G:List au) {j:Nat} (hj:j<(bW (G.map dG)).length):(bW (G.map dG))[j]∉(bW (G.map dG)).take j/\nH (bW (G.map dG))[j]:=by
 refine ⟨JB hj,?_⟩;obtain ⟨x,_,e⟩:=List.mem_map.1 (z14.1 (List.getElem_mem hj));have:=z38 x;rw[e]at this;show _<=maxLen
 unfold maxLen;omega
theorem Es {w:World} {D:Nat->Prop} {A:Option Addr} {q:Nat} {l:List RV} (h:Rd w D 9 A q (ji l)) (hl:l.length=q) (h0:0<q):∀ca,A=some ca->w.cell? ⟨ca.block,ca.off+1,none⟩=some (.int .i64 (PX (l.map fun x=>x.row)))/\w.cell? ⟨(ca.add ((q-1) * 9)).block,(ca.add ((q-1) * 9)).off+1,none⟩=some (.int .i64 (lastT (l.map fun x=>x.row))):=by
 intro ca hca;obtain ⟨a1,e1,_,_,f1,_⟩:=z2n h (k:=0) (by omega);obtain ⟨a2,e2,_,_,f2,_⟩:=z2n h (k:=q-1) (by omega);rw[hca]at e1 e2;injection e1 with e1;injection e2 with e2;subst e1;subst e2
 have g1:PX (l.map fun x=>x.row)=l[0].row.time:=by
  unfold PX;rw[List.head?_map,List.head?_eq_getElem?,List.getElem?_eq_getElem (by omega)];rfl
 have g2:lastT (l.map fun x=>x.row)=(l[q-1]'(by omega)).row.time:=by
  unfold lastT
  have e:l[l.length-1]?=some (l[q-1]'(by omega)):=by
   subst hl;exact List.getElem?_eq_getElem _
  rw[List.getLast?_map,List.getLast?_eq_getElem?,e];rfl
 rw[g1,g2];refine ⟨?_,f2⟩;simpa [Addr.add]using f1
theorem Us {w:World} {D:Nat->Prop} {A:Option Addr} {q:Nat} {l:List RV} (h:Rd w D 9 A q (ji l)) (hl:l.length=q) (hk:∀x∈l,x.ok w D/\x.row.few) (W:World) (c:Nx w W) (cp:Nat) (hq:q<=1000000):
 Calls Tryz.prog 44 #[.slice A q cp,.func (.func 45) #[] #[]] W (Gives W 9 1 q (dM ((l.map fun x=>x.row).map dG))):=by
 have hx:∀w',Nx w w'->∀x∈l,Calls Tryz.prog 45 #[bV x] w' fun e w''=>e=.returned (Value.string (dG x.row))/\Nx w' w'':=fun w' c' x hx=>by
  have hx1:x.ok w' (fun _=>True):=(hk x hx).1.ch c' (fun _ _ _ hf=>hf) fun _ _=>trivial;exact xk x hx1 (hk x hx).2
 have:=KN (c:=cp) (w:=W) dG (h.nx (by decide) c) hl (by omega) (fun w2 c2 x hx2=>hx w2 (c.tr c2) x hx2);simp only[Kt]at this;exact this
end Go.Proofs.YtpakjclpjcngmaaGreat
namespace Go.Proofs.YtpakjclpjcngmaaGreat
theorem aU.DU {c d:aU} (b:List Nat) (hn:∀k,k<6->c.n k=d.n k) (h1:c.ws=d.ws) (h2:c.ts=d.ts) (h3:c.fs=d.fs):c.group b=d.group b:=by
 have hrow:∀i l,c.rowOf i l=d.rowOf i l:=fun i l=>by
  unfold aU.rowOf;rw[hn 0 (by decide),hn 1 (by decide),hn 2 (by decide),hn 3 (by decide),hn 4 (by decide),hn 5 (by decide),h2,h3]
 have hrows:∀k,c.rows k=d.rows k:=fun k=>by
  induction k with
  |zero=>rfl
  |succ k ih=>
   unfold aU.rows aU.row;rw[ih,h1,show c.rowOf k=d.rowOf k from funext (hrow k)]
 have hfit:c.fit↔d.fit:=by
  constructor
  ·intro h
   exact ⟨fun k hk=>by rw[←hn k hk,←h3];exact h.n k hk,by rw[←h3];exact h.pos,by rw[←h3];exact h.few,by rw[←h1,←h3];exact h.ws,by rw[←h2,←h3];exact h.ts⟩
  ·intro h
   exact ⟨fun k hk=>by rw[hn k hk,h3];exact h.n k hk,by rw[h3];exact h.pos,by rw[h3];exact h.few,by rw[h1,h3];exact h.ws,by rw[h2,h3];exact h.ts⟩
 unfold aU.group;rw[hrows,h3,hfit]
theorem Xc {z:Int} (h:qG z):i64 z:=by unfold qG at h;unfold i64;omega
theorem wF {l:List au} (hg:dN l) {f:au->Int} (h0:aS (l.map f)=0) {t:List Nat} (ht:t=aA 1 (bI (l.map f))):∀(D:Nat->Prop) (A:Option Addr) (c:Nat) (W:World),Rd W D 1 A t.length (bl t)->(∀j,D j->j<W.heap.size)->t.length<=c->
 Calls Tryz.prog 61 #[.slice A t.length c] W fun e w'=>∃v x er,e=.returned (.tuple #[v,.int .i64 er])/\ay W w' 2 1 v x.length (il x)/\(∀z∈x,i64 z)/\x=l.map f:=by
 intro D A c W hr hD hc;subst ht;refine (zJ D A _ c (l.map f) W hr hD rfl hc h0).mono ?_;rintro e w' ⟨v,rfl,o⟩;exact ⟨v,_,0,rfl,o,fun z hz=>Xc ((JX h0).2 z hz),rfl⟩
section
variable {l : List au} (hg : dN l)
include hg
theorem Fh {t:List Nat} (ht:t=aA 2 (bC (l.map dG))):∀(D:Nat->Prop) (A:Option Addr) (c:Nat) (W:World),Rd W D 1 A t.length (bl t)->(∀j,D j->j<W.heap.size)->t.length<=c->
 Calls Tryz.prog 62 #[.slice A t.length c] W fun e w'=>∃v x er,e=.returned (.tuple #[v,.int .i64 er])/\ay W w' 9 1 v x.length (dM x)/\(∀s∈x,s.size<=1000000000)/\x=l.map dG:=by
 intro D A c W hr hD hc;subst ht;have hl:=hg.few;refine (uj D A _ c (l.map dG) W hr hD rfl hc (by rw[List.length_map];omega) (z33 l) hg.words).mono ?_;rintro e w' ⟨v,rfl,o⟩;exact ⟨v,_,0,rfl,o,fun s hs=>Nat.le_trans (z33 l s hs) (by decide),rfl⟩
theorem LX {t:List Nat} (ht:t=aA 3 (bD (l.map fun x=>x.text))):∀(D:Nat->Prop) (A:Option Addr) (c:Nat) (W:World),Rd W D 1 A t.length (bl t)->(∀j,D j->j<W.heap.size)->t.length<=c->
 Calls Tryz.prog 63 #[.slice A t.length c] W fun e w'=>∃v x er,e=.returned (.tuple #[v,.int .i64 er])/\ay W w' 9 1 v x.length (dM x)/\(∀s∈x,s.size<=1000000000)/\x=l.map fun x=>x.text:=by
 intro D A c W hr hD hc;subst ht;have hl:=hg.few;have n1:(l.map fun x=>x.text).length<=2048:=by rw[List.length_map];omega
 have n2:=hg.text;have n3:=hg.texts;generalize (l.map fun x=>x.text)=T at *;refine (um D A _ c T W hr hD rfl hc n1 n2 n3).mono ?_;rintro e w' ⟨v,rfl,o⟩;exact ⟨v,_,0,rfl,o,fun s hs=>Nat.le_trans (n2 s hs) (by decide),rfl⟩
theorem Ol {t:List Nat} (ht:t=aA 4 (bf (l.map fun x=>x.null))):∀(D:Nat->Prop) (A:Option Addr) (c:Nat) (W:World),Rd W D 1 A t.length (bl t)->(∀j,D j->j<W.heap.size)->t.length<=c->
 Calls Tryz.prog 64 #[.slice A t.length c] W fun e w'=>∃v x er,e=.returned (.tuple #[v,.int .i64 er])/\ay W w' 4 1 v x.length (lu x)/\x=l.map fun x=>x.null:=by
 intro D A c W hr hD hc;subst ht;have hl:=hg.few;have hn:(l.map fun x=>x.null).length<=2048:=by rw[List.length_map];omega
 generalize (l.map fun x=>x.null)=T at *;have hlen:=z2a hn
 have hpos:0<(bf T).length:=by
  have h:=BX T.length;unfold bf;rw[List.length_append];omega
 have hct:=z2U D A _ c 4 (bf T) W hr hD (z3g hn) (by decide) rfl hc (by omega) hpos;refine (OH D A _ c T W hr rfl hn hct).mono ?_;rintro e w' ⟨v,rfl,o⟩;exact ⟨v,_,0,rfl,o,rfl⟩
end
theorem aaO (l:List au) {k:Nat} (hk:k<5):(JO l).n k=l.map (jK k):=by
 show l.map (if k=5 then fun x=>x.value else jK k)=_
 rw[if_neg (by omega)]
theorem Xo (l:List au):(JO l).n 5=l.map fun x=>x.value:=rfl
theorem adr {k:Nat} (hk:k<5):tn k=k:=by unfold tn;rw[if_neg (by omega)]
theorem tn_5:tn 5=7:=rfl
theorem grpI {l:List au} (hg:dN l) {k:Nat} (hk:k<5):aS (l.map (jK k))=0:=by
 rcases k with _|_|_|_|_|k
 ·exact hg.time
 ·exact hg.maker
 ·exact hg.seq
 ·exact hg.place
 ·exact hg.kind
 ·omega
theorem Oy {l:List au} (hg:dN l):Va (fZ l) (fun k x=>x=(JO l).n k) (fun x=>x=l.map dG) (fun x=>x=l.map fun x=>x.text) (fun x=>x=l.map fun x=>x.null):=by
 refine ⟨fun k hk=>?_,Fh hg ((z2u hg (k:=5) (by decide)).trans (Uf l)),LX hg ((z2u hg (k:=6) (by decide)).trans (Ue l)),Ol hg ((z2u hg (k:=8) (by decide)).trans (Uc l))⟩;by_cases h5:k=5
 ·subst h5
  rw[tn_5,Xo];exact wF hg hg.value ((z2u hg (k:=7) (by decide)).trans (Ud l))
 ·have hk5:k<5:=by omega
  rw[adr hk5,aaO l hk5];exact wF hg (grpI hg hk5) ((z2u hg (k:=k) (by omega)).trans (qR hk5))
theorem DN {w:World} {D:Nat->Prop} {A:Option Addr} {n c:Nat} {l:List au} (hm:iP l=true) (hf:l.length<=256) (hr:Rd w D 1 A n (bl (fZ l))) (hl:(fZ l).length=n) (hc:n<=c) (hD:∀k,D k->k<w.heap.size) (mm:Int) (hz:w.cell? ⟨0,0,none⟩=some (.int .i64 mm)):
 Calls Tryz.prog 25 #[.slice A n c] w (kU w (some l)):=by
 have hg:dN l:=⟨hf,(JR.1 hm).2.1⟩;refine (La hr (z5V hg) hl (by have:=z4C hg;omega) hc hD mm hz (Oy hg)).mono ?_;rintro e w' ⟨cs,h1,h2,h3,h4,h5⟩;rw[aU.DU (d:=JO l) (fZ l) h1 h2 h3 h4,Jh hm hg]at h5;exact h5
end Go.Proofs.YtpakjclpjcngmaaGreat
