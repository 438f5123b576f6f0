/- Contracts and plain laws that the last text rests on. Conditions: each theorem states its own. -/
import Derived.Test.YtdbfejfhpkakhaaGreatKKd2Q6
import Derived.WideKeyArr
import Derived.Maps.Views
import Derived.Maps.OwnRows
import Derived.Maps.GroupsBeside
set_option maxRecDepth 100000
set_option linter.unusedVariables false
set_option linter.unusedSimpArgs false
namespace Go.Proofs.YtdbfejfhpkakhaaGreat
open Go.RowKit Go.WideMaps Go.Maps Go.ChangeShapes
theorem Tryz.MO:ArrKey Tryz.prog 319 5 3:=⟨Tryz.underlying319,by kernel_rfl,by kernel_rfl,by kernel_rfl⟩
theorem Tryz.keyed:Keyed Tryz.prog 319:=Keyed.of_law Tryz.MO.law
def kV (k:Nat×Nat×Nat):Value:=.agg #[.int .u8 (k.1:Int),.int .u8 (k.2.1:Int),.int .u8 (k.2.2:Int)]
def kL (k:Nat×Nat×Nat):Lit:=.string (keyBytes [.int .u8 (k.1:Int),.int .u8 (k.2.1:Int),.int .u8 (k.2.2:Int)])
def Ok3 (k:Nat×Nat×Nat):Prop:=k.1<256/\k.2.1<256/\k.2.2<256
theorem WL {xs:List Nat} (h:okB xs) (i:Nat):Ok3 (fV xs i):=⟨WO h _,WO h _,WO h _⟩
theorem wf_u8 {x:Nat} (h:x<256):(Lit.int .u8 (x:Int)).wf=true:=by
 have h1:IntKind.u8.min=0:=rfl;have h2:IntKind.u8.max=255:=rfl;simp only[Lit.wf,Bool.and_eq_true,decide_eq_true_eq];omega
theorem DX {k:Nat×Nat×Nat} (h:Ok3 k):keyOf Tryz.prog 319 (kV k)=some (kL k):=by
 have A:=Tryz.MO;have he:=Tryz.underlying5;have hsz:∃m,Tryz.prog.types.size=m+1:=⟨Tryz.prog.types.size-1,by have:0<Tryz.prog.types.size:=of_decide_eq_true (by kernel_rfl);omega⟩;have hkt:=A.keyType hsz;obtain ⟨m,hm⟩:=hsz;have wa:=wf_u8 h.1;have wb:=wf_u8 h.2.1;have wc:=wf_u8 h.2.2;unfold keyOf kV kL;simp only[A.hu];rw[if_pos (by simp[hkt,Value.formed,A.hu,A.size]),hm];unfold Program.keyLits;simp only[A.hu,Value.cells];rw[if_pos (by rw[A.size];rfl),show List.range 3=[0,1,2] from rfl,List.mapM_cons,List.mapM_cons,List.mapM_cons,List.mapM_nil];simp[A.one,Program.keyLits,he,wa,wb,wc]
theorem TY {a b:Nat×Nat×Nat} (ha:Ok3 a) (hb:Ok3 b) (h:kL a=kL b):a=b:=by
 have h1:=DX ha;have h2:=DX hb;rw[h]at h1;have h3:=Tryz.keyed.inj h1 h2;unfold kV at h3;obtain ⟨a1,a2,a3⟩:=a;obtain ⟨b1,b2,b3⟩:=b;simp at h3;simp only[Prod.mk.injEq];omega
def zl (l:List Nat):List Int:=l.map fun x:Nat=>(x:Int)
def Reads (D:DataW Unit) (xs:List Nat) (p:Nat):Prop:=
 IsMap D/\∀k,Ok3 k->(D.atKey (kL k) .nil=.nil/\vI xs p k=[])∨D.atKey (kL k) .nil=.slice (lits .i64 (zl (vI xs p k))) []
theorem Reads.start (xs:List Nat):Reads (.map []) xs 0:=⟨isMap_empty,fun k _=>.inl ⟨rfl,rfl⟩⟩
theorem wV {a b:List Int} (h:lits (H:=Unit) .i64 a=lits .i64 b):a=b:=by
 unfold lits at h;exact (List.map_inj_right (fun x y hxy=>by cases hxy;rfl)).1 h
theorem Reads.look {D:DataW Unit} {xs:List Nat} {p:Nat} {k:Nat×Nat×Nat} (h:Reads D xs p) (hk:Ok3 k) {w:World} {base:Nat} {v:Value} {zs:List Int} (ho:w.ownsInts base 3 .i64 v zs) (ha:D.atKey (kL k) .nil=rowDatum .i64 v zs):zs=zl (vI xs p k):=by
 rcases h.2 k hk with ⟨h1,h2⟩|h1
 ·rcases ho.datum (H:=Unit) with ⟨_,h4⟩|h3
  ·rw[h4,h2];rfl
  ·rw[ha,h3]at h1;cases h1
 ·rcases ho.datum (H:=Unit) with ⟨h3,_⟩|h3
  ·rw[ha,h3]at h1;cases h1
  ·rw[ha,h3]at h1
   injection h1 with h1;exact wV h1
theorem Reads.skip {D:DataW Unit} {xs:List Nat} {p:Nat} (h:Reads D xs p) (hp:¬p+2<xs.length):Reads D xs (p+1):=by
 refine ⟨h.1,fun k hk=>?_⟩;rw[z2U,if_neg (fun hh=>hp hh.1),List.append_nil];exact h.2 k hk
theorem Reads.put {D:DataW Unit} {xs:List Nat} {p:Nat} (h:Reads D xs p) (ok:okB xs) (hp:p+2<xs.length) {d:DataW Unit} (hd:d=.slice (lits .i64 (zl (vI xs p (fV xs p))++[(p:Int)])) []):Reads (D.put (kL (fV xs p)) d) xs (p+1):=by
 refine ⟨h.1.put _ _,fun k hk=>?_⟩;rw[z2U];by_cases e:fV xs p=k
 ·subst e
  right
  rw[atKey_put_same h.1 (by unfold kL;trivial),if_pos ⟨hp,rfl⟩,hd];simp[zl]
 ·rw[if_neg (fun hh=>e hh.2),List.append_nil,atKey_put_other (fun he=>e (TY (WL ok p) hk he.symm))]
  exact h.2 k hk
def dG (t:Tok):List Value:=[.int .i64 (t.len:Int),.int .i64 (t.dist:Int),.int .u8 (t.byte:Int)]
def qo (l:List Tok):List Value:=l.flatMap dG
theorem Oi (a b:List Tok):qo (a++b)=qo a++qo b:=by simp[qo]
theorem Og (t:Tok):qo [t]=dG t:=by simp[qo]
theorem Nx.gr {w w':World} (h:Nx w w'):w.grownBy w' none:=⟨h.os,h.tape,h.output,h.size,fun k hk _=>h.block_ hk⟩
theorem Ch.gr {w w':World} {b:Nat} (h:Ch (fun k=>k=b) w w'):w.grownBy w' (some b):=⟨h.os,h.tape,h.output,h.size,fun k hk hn=>h.block k hk fun e=>hn (by rw[e])⟩
structure fP (W w:World) (A:Option Addr) (c:Nat) (xs:List Nat) (q:Nat) (o:List Tok) (v:Value) (Z:Nat->Prop):Prop where
 nx:Nx W w
 box:w.cell? ⟨W.heap.size,0,none⟩=some (.slice A xs.length c)
 grp:∃(D:DataW Unit) (N:Nat),w.ownsGroups Tryz.prog 319 (W.heap.size+2) 3 .i64 (W.heap.size+1) N D/\Reads D xs q/\N<=q
 own:w.ownsRow (W.heap.size+2) 312 3 v o.length (qo o)
 shun:w.Shuns (W.heap.size+1) (fun g=>v.ownBlock=some g∨Z g)
 size:W.heap.size+2<=w.heap.size
 zb:∀g,Z g->W.heap.size+2<=g/\g<w.heap.size/\v.ownBlock≠some g
section
variable {W w w' : World} {A : Option Addr} {c : Nat} {xs : List Nat} {q : Nat} {o : List Tok} {v : Value} {Z : Nat → Prop}
theorem fP.more (m:fP W w A c xs q o v Z) (n:Nx w w'):fP W w' A c xs q o v Z:=by
 obtain ⟨D,N,g1,g2,g3⟩:=m.grp;have hs:=n.size;have hs2:=m.size;refine ⟨m.nx.tr n,?_,⟨D,N,g1.kept n.gr (by simp) (m.shun.rowsOff fun j hj=>by cases hj),g2,g3⟩,z06 m.own n (fun _ _ hf=>hf),m.shun.kept n.gr (by omega) (by simp),by omega,fun g hg=>?_⟩
 ·rw[n.cell (by show W.heap.size<w.heap.size;omega)];exact m.box
 ·have:=m.zb g hg;exact ⟨this.1,by omega,this.2.2⟩
theorem fP.side {b:Nat} (m:fP W w A c xs q o v Z) (n:Ch (fun k=>k=b) w w') (hb:Z b):fP W w' A c xs q o v Z:=by
 obtain ⟨D,N,g1,g2,g3⟩:=m.grp;have hs:=n.size;have hs2:=m.size;have hz:=m.zb b hb;refine ⟨m.nx.trans n fun i hi e=>by omega,?_,⟨D,N,g1.kept n.gr (by simp;omega) (m.shun.rowsOff fun j hj=>by injection hj with hj;exact .inr (by rw[←hj];exact hb)),g2,g3⟩,z06 m.own n (fun k hk e=>hz.2.2 (by rw[hk,e])),m.shun.kept n.gr (by omega) (by simp;omega),by omega,fun g hg=>?_⟩
 ·rw[n.cell (by show W.heap.size<w.heap.size;omega) (by show ¬W.heap.size=b;omega)];exact m.box
 ·have:=m.zb g hg;exact ⟨this.1,by omega,this.2.2⟩
theorem fP.with_ (m:fP W w A c xs q o v (fun _=>False)) (ob:Obj):fP W (w.alloc ob) A c xs q o v (fun g=>g=w.heap.size):=by
 have m1:=m.more ((Ch.refl _ w).alloc ob);obtain ⟨D,N,g1,g2,g3⟩:=m.grp;have hs2:=m.size;have hsz:(w.alloc ob).heap.size=w.heap.size+1:=by simp
 refine ⟨m1.nx,m1.box,m1.grp,m1.own,?_,m1.size,fun g hg=>?_⟩
 ·refine Go.World.Shuns.kept (row:=none) (m.shun.reno g1 (No':=fun g=>v.ownBlock=some g∨g=w.heap.size) fun g hg=>?_) (Nx.gr ((Ch.refl _ w).alloc ob)) (by omega) (by simp)
  rcases hg with hg|hg
  ·exact .inl (.inl hg)
  ·exact .inr (by omega)
 ·have hg:g=w.heap.size:=hg
  refine ⟨by omega,by omega,fun e=>?_⟩;have:=(m.own.lt g e).2;omega
theorem fP.reads (m:fP W w A c xs q o v Z) (hq:¬q+2<xs.length):fP W w A c xs (q+1) o v Z:=by
 obtain ⟨D,N,g1,g2,g3⟩:=m.grp;exact ⟨m.nx,m.box,⟨D,N,g1,g2.skip hq,by omega⟩,m.own,m.shun,m.size,m.zb⟩
theorem fP.push {w1:World} {b:Nat} {t:Tok} {v':Value} (m:fP W w A c xs q o v (fun g=>g=b)) (n:Nx w w1) (h2:w'.ownsRow (W.heap.size+2) 312 3 v' (o.length+1) (qo o++dG t))
 (h3:w1.grownBy w' v.ownBlock) (h4:v'.ownBlock=v.ownBlock∨v'.ownBlock=some w1.heap.size):fP W w' A c xs q (o++[t]) v' (fun _=>False):=by
 have m1:=m.more n;obtain ⟨D,N,g1,g2,g3⟩:=m1.grp;have hs2:=m1.size;have hs3:=h3.size;have hsh:w'.Shuns (W.heap.size+1) (fun g=>v.ownBlock=some g∨g=b):=m1.shun.kept h3 (by omega) (fun e=>by have:=(m1.own.lt _ e.symm).1;omega);have hg':w'.ownsGroups Tryz.prog 319 (W.heap.size+2) 3 .i64 (W.heap.size+1) N D:=g1.kept h3 (fun e=>by have:=(m1.own.lt _ e.symm).1;omega) (m1.shun.rowsOff fun j hj=>.inl hj)
 have hsh1:w1.Shuns (W.heap.size+1) (fun g=>v'.ownBlock=some g∨False):=m1.shun.reno g1 fun g hg=>by
  rcases hg with hg|hg
  ·rcases h4 with e|e
   ·exact .inl (.inl (by rw[←e];exact hg))
   ·rw[e]at hg;injection hg with hg;exact .inr (by omega)
  ·exact hg.elim
 refine ⟨m1.nx.grown h3 fun k hk hlt=>by have:=(m1.own.lt k hk).1;omega,?_,⟨D,N,hg',g2,g3⟩,?_,hsh1.kept h3 (by omega) (fun e=>by have:=(m1.own.lt _ e.symm).1;omega),by omega,fun g hg=>hg.elim⟩
 ·have:w'.heap[W.heap.size]?=w1.heap[W.heap.size]?:=h3.block _ (by omega) (fun e=>by have:=(m1.own.lt _ e.symm).1;omega)
  rw[World.cell?_of_block (a:=⟨W.heap.size,0,none⟩) this];exact m1.box
 ·rw[List.length_append,Oi,Og];exact h2
theorem fP.laid {w0 w1 w2:World} {u v':Value} {zs:List Int} {D:DataW Unit} {N:Nat} (m:fP W w0 A c xs q o v Z) (ok:okB xs) (hq:q+2<xs.length) (hr:Reads D xs q) (hN:N<=q)
 (hzs:zs=zl (vI xs q (fV xs q))) (hu:∀No:Nat->Prop,w0.Shuns (W.heap.size+1) No->∀g,u.ownBlock=some g->¬No g) (hub:∀g,u.ownBlock=some g->W.heap.size+2<=g)
 (h1:w0.grownBy w1 u.ownBlock) (hoi:w1.ownsInts (W.heap.size+2) 3 .i64 v' (zs++[(q:Int)]))
 (h2:w2.ownsGroups Tryz.prog 319 (W.heap.size+2) 3 .i64 (W.heap.size+1) (N+1) (D.put (kL (fV xs q)) (rowDatum .i64 v' (zs++[(q:Int)])))) (h3:w1.grownBy w2 (some (W.heap.size+1)))
 (h4:w2.Shuns (W.heap.size+1) (fun g=>v.ownBlock=some g∨Z g)):fP W w2 A c xs (q+1) o v Z:=by
 have hs0:=m.size;have hs1:=h1.size;have hs2:=h3.size;have hsh:=hu _ m.shun
 have key:∀k,k<w0.heap.size->u.ownBlock≠some k->k≠W.heap.size+1->w2.heap[k]?=w0.heap[k]?:=fun k hk hn hn2=>
  (h3.block k (by omega) (fun e=>hn2 (by injection e))).trans (h1.block k hk (fun e=>hn e.symm))
 refine ⟨?_,?_,⟨_,N+1,h2,hr.put ok hq (by rw[hoi.datum_pos (by simp),hzs]),by omega⟩,?_,h4,by omega,fun g hg=>by have:=m.zb g hg;exact ⟨this.1,by omega,this.2.2⟩⟩
 ·have c1:=m.nx.grown h1 fun k hk hlt=>by have:=hub k hk;omega
  exact c1.grown h3 fun k hk hlt=>by injection hk with hk;omega
 ·rw[World.cell?_of_block (a:=⟨W.heap.size,0,none⟩) (key W.heap.size (by omega) (fun e=>by have:=hub _ e;omega) (by omega))];exact m.box
 ·refine (m.own.kept h1 ?_).kept h3 ?_
  ·cases hv:v.ownBlock with
   |none=>exact .inl rfl
   |some g=>exact .inr fun e=>hsh g e.symm (.inl hv)
  ·cases hv:v.ownBlock with
   |none=>exact .inl rfl
   |some g=>exact .inr fun e=>by injection e with e;have:=(m.own.lt g hv).1;omega
end
theorem Jz {w:World} {b:Nat} {t:TypeId} {x0 x1 x2:Value} (h:aG w b t #[x0,x1,x2]) (v0 v1 v2:Value):aG (((w.setCell ⟨b,0,none⟩ v0).setCell ⟨b,1,none⟩ v1).setCell ⟨b,2,none⟩ v2) b t #[v0,v1,v2]:=by
 have h1:aG (w.setCell ⟨b,0,none⟩ v0) b t #[v0,x1,x2]:=h.aS 0 v0;have h2:=h1.aS 1 v1;have h3:=h2.aS 2 v2;exact h3
theorem OB (w:World) (b:Nat) (v0 v1 v2:Value):Ch (fun k=>k=b) w (((w.setCell ⟨b,0,none⟩ v0).setCell ⟨b,1,none⟩ v1).setCell ⟨b,2,none⟩ v2):=by
 have c0:Ch (fun k=>k=b) w w:=Ch.refl _ w;have c1:=Ch.setCell c0 (p:=⟨b,0,none⟩) (fun _=>rfl) v0;have c2:=Ch.setCell c1 (p:=⟨b,1,none⟩) (fun _=>rfl) v1;have c3:=Ch.setCell c2 (p:=⟨b,2,none⟩) (fun _=>rfl) v2;exact c3
end Go.Proofs.YtdbfejfhpkakhaaGreat
