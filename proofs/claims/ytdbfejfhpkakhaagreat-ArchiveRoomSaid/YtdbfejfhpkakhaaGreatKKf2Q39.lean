/- Contracts and plain laws that the last text rests on. Conditions: each theorem states its own. -/
import Derived.Test.YtdbfejfhpkakhaaGreatKKf2Q28
import Derived.Test.YtdbfejfhpkakhaaGreatKKf2Q29
set_option maxRecDepth 100000
set_option linter.unusedVariables false
set_option linter.unusedSimpArgs false
namespace Go.Proofs.YtdbfejfhpkakhaaGreat
open Go.RowKit Ps
theorem Pg {C:aU} {r:ay} (hrec:aS r=true):fU (Ir C.window C.aH r):=by
 unfold aS at hrec;rw[Bool.and_eq_true,Bool.and_eq_true,decide_eq_true_eq]at hrec;have ht:=hrec.1.1
 have h2:(r.time.tdiv C.window).toNat<18446744073709551616:=by
  have h3:(r.time.tdiv C.window).natAbs<=r.time.natAbs:=by rw[Int.natAbs_tdiv];exact Nat.div_le_self _ _
  omega
 have h4:=(z05 h2).2;have h5:=z29 r.ak C.aH;show (je (au (r.time.tdiv C.window).toNat)++partT r.ak C.aH).size<=maxLen
 rw[ByteArray.size_append,Zt];simp only[maxLen];omega
theorem z3I (C:aU) (a b:List ay) (s:ByteArray):fE C (a++b) s=fE C a s+fE C b s:=by unfold fE;rw[List.filter_append,List.length_append]
theorem Jq {C:aU} {gs:List GV} {zs l:List RV} (hs:ji (fun z:RV=>keyE C.window C.aH z.row) (gs.map (fun g=>g.g)) zs) (hp:zs.Perm l) (hc:∀s,fU s->fE C (l.map fun x=>x.row) s<=C.buffer.toNat)
 (hr:∀x∈l,aS x.row=true):∀g∈gs,g.g.rows.length<=C.buffer.toNat:=by
 intro g hg;have h1:=hs.rows g.g (List.mem_map_of_mem (f:=fun g:GV=>g.g) hg);have h2:g.g.rows.Perm (l.filter fun x=>decide (keyE C.window C.aH x.row=g.g.key)):=by rw[h1];exact hp.filter _
 rcases hq:l.filter (fun x=>decide (keyE C.window C.aH x.row=g.g.key)) with _|⟨y,ys⟩
 ·rw[hq]at h2
  rw[h2.length_eq];exact Nat.zero_le _
 ·have hy:y∈l.filter fun x=>decide (keyE C.window C.aH x.row=g.g.key):=by rw[hq];exact List.mem_cons_self
  rw[List.mem_filter,decide_eq_true_eq]at hy;have h3:=hc _ (Pg (C:=C) (hr y hy.1));rw[h2.length_eq];refine Nat.le_trans ?_ h3;unfold fE;rw[List.filter_map,List.length_map];rw[←List.countP_eq_length_filter,←List.countP_eq_length_filter];refine List.countP_mono_left fun x _ hx=>?_;rw[decide_eq_true_eq]at hx;simp only[Function.comp,decide_eq_true_eq];have e:=hx.trans hy.2.symm;unfold keyE at e;injection e with e1 e2;unfold Ir;rw[e1,e2]
section
variable {w w' : World} {D D2 : Nat → Prop} {size n : Nat} {A : Option Addr} {xs : List Value}
theorem Rd.and (h:Rd w D size A n xs) (h2:Rd w D2 size A n xs):Rd w (fun i=>D i/\D2 i) size A n xs:=
 ⟨h.1,fun hn=>by
   obtain ⟨ad,e,hb,hc⟩:=h.2 hn;obtain ⟨ad',e',hb', -⟩:=h2.2 hn;rw[e]at e';injection e' with e';subst e';exact ⟨ad,e,⟨hb,hb'⟩,hc⟩⟩
theorem cZ.ok.and {b:cZ} (h:b.ok w D) (h2:b.ok w D2):b.ok w (fun i=>D i/\D2 i):=⟨h.rd.and h2.rd,fun x hx=>⟨(h.ok x hx).1.and (h2.ok x hx).1,(h.ok x hx).2⟩,h.mid,h.named,h.cap,h.max⟩
theorem Rd.sub {ξ a:Nat} {wt:Value} (h:Rd w D size A n xs) (hs:0<size) (hc:Ch (nV ξ w a wt) w w') (hD:∀k,D k->k≠a/\wt.ownBlock≠some k):Rd w' D size A n xs:=
 ⟨h.1,fun hn=>by
   obtain ⟨ad,e,hb,hc'⟩:=h.2 hn;refine ⟨ad,e,hb,fun j u hu=>?_⟩;have h1:=hc' j u hu;have h2:=z3M h1;have e1:(ad.add j).block=ad.block:=uS ..
   exact (World.cell?_of_block (hc.block _ (World.block_lt_of_cell? w _ h1) (fun hx=>by
    rcases hx with hx|hx|hx
    ·exact hx.2 h2
    ·exact (hD _ hb).1 (e1.symm.trans hx)
    ·rw[e1]at hx
     exact (hD _ hb).2 hx))).trans h1⟩
theorem RV.ok.sub {ξ a:Nat} {wt:Value} {x:RV} (h:x.ok w D) (hc:Ch (nV ξ w a wt) w w') (hD:∀k,D k->k≠a/\wt.ownBlock≠some k):x.ok w' D:=⟨h.1.sub (by decide) hc hD,h.2⟩
theorem RV.ok.lt {x:RV} (h:x.ok w D):x.ok w (fun i=>D i/\i<w.heap.size):=⟨h.1.ltD (by decide),h.2⟩
theorem cZ.ok.sub {ξ a:Nat} {wt:Value} {b:cZ} (h:b.ok w D) (hc:Ch (nV ξ w a wt) w w') (hD:∀k,D k->k≠a/\wt.ownBlock≠some k):b.ok w' D:=
 ⟨h.rd.sub (by decide) hc hD,fun x hx=>(h.ok x hx).sub hc hD,h.mid,h.named,h.cap,h.max⟩
end
def cfC (C:aU) (A:Option Addr) (q:Nat):Array Value:= #[.int .i64 C.window,.slice A C.aH.length q,.int .i64 C.group,.int .i64 C.buffer,.int .i64 C.flush,.int .i64 C.age,.int .i64 C.piece,.int .i64 C.tries,.int .i64 C.wait,.int .i64 C.small,.int .i64 C.most,.int .i64 C.gX]
structure dh (w0 w:World) (g ξ B a:Nat) (C:aU) (A:Option Addr) (q:Nat) (Bl:Option Addr) (bs aN:List cZ) (cn:List ay) (zs:List RV) (v wt:Value) (K:Nat):Prop where
 h0:w0.heap.size<=g
 hξ:g<ξ
 hg:g<a
 ha:a<B
 hB:B<=w.heap.size
 cfg:aB w g 24 (cfC C A q)
 aH:Rd w (· <w0.heap.size) 1 A C.aH.length (dI C.aH)
 VR:Rd w (· <w0.heap.size) 3 Bl bs.length (pG bs)
 Uy:∀b∈bs,b.ok w (· <w0.heap.size)
 nx0:Nx w0 w
 ar:∃since,jY ξ w a 1 1 C aN (fE C cn) since false K wt
 own:w.ownsRow B 79 9 v zs.length (bC zs)
 Sz:∀z∈zs,z.ok w (fun k=>B<=k/\v.ownBlock≠some k/\wt.ownBlock≠some k)
 bv:∀b∈aN,b.ok w (fun i=>v.ownBlock≠some i)
 Fj:∀z∈zs,aS z.row=true
 cnt:∀s,fU s->fE C cn s<=C.buffer.toNat
section
variable {w0 w w' : World} {g ξ B a : Nat} {C : aU} {A : Option Addr} {q : Nat} {Bl : Option Addr} {bs aN : List cZ} {cn : List ay} {zs : List RV} {v wt : Value} {K : Nat}
theorem dh.SV (h:dh w0 w g ξ B a C A q Bl bs aN cn zs v wt K) {i:Nat} (hi:wt.ownBlock=some i):a<i/\i<w.heap.size:=by
 obtain ⟨since,A',k,bb,m,n,ch,R,h1,h2,h3,h4,h5⟩:=h.ar;have:=World.ownsRow.lt h3 i hi;exact ⟨by omega,this.2⟩
theorem dh.nx (h:dh w0 w g ξ B a C A q Bl bs aN cn zs v wt K) (c:Nx w w'):dh w0 w' g ξ B a C A q Bl bs aN cn zs v wt K where
 h0:=h.h0
 hξ:=h.hξ
 hg:=h.hg
 ha:=h.ha
 hB:=Nat.le_trans h.hB c.size
 cfg:=h.cfg.nx c
 aH:=h.aH.nx (by decide) c
 VR:=h.VR.nx (by decide) c
 Uy:=fun b hb=>(h.Uy b hb).nx c
 nx0:=h.nx0.tr c
 ar:=by obtain ⟨s,hs⟩:=h.ar;exact ⟨s,hs.nx c⟩
 own:=z07 h.own c (fun _ _ hf=>hf)
 Sz:=fun z hz=>(h.Sz z hz).ch c (fun _ _ _ hf=>hf) fun _ hd=>hd
 bv:=fun b hb=>(h.bv b hb).nx c
 Fj:=h.Fj
 cnt:=h.cnt
theorem dh.sub {Uw:List cZ} {cn':List ay} {wt':Value} {K':Nat} (h:dh w0 w g ξ B a C A q Bl bs aN cn zs v wt K) (hc:Ch (nV ξ w a wt) w w') (har:∃since,jY ξ w' a 1 1 C Uw (fE C cn') since false K' wt')
 (hwt:∀i,wt'.ownBlock=some i->wt.ownBlock=some i∨w.heap.size<=i) (hbv:∀b∈Uw,b.ok w' (fun i=>v.ownBlock≠some i)) (hcnt:∀s,fU s->fE C cn' s<=C.buffer.toNat):
 dh w0 w' g ξ B a C A q Bl bs Uw cn' zs v wt' K' where
 h0:=h.h0
 hξ:=h.hξ
 hg:=h.hg
 ha:=h.ha
 hB:=Nat.le_trans h.hB hc.size
 cfg:=h.cfg.ch hc (fun hs=>by
  have h1:=h.hξ;have h2:=h.hg;rcases hs with hs|hs|hs
  ·have:=hs.1;omega
  ·omega
  ·have:=(h.SV hs).1;omega)
 aH:=h.aH.sub (by decide) hc fun k hk=>⟨by have h1:=h.h0;have h2:=h.hg;have hk:k<w0.heap.size:=hk;omega,fun e=>by have h1:=h.h0;have h2:=h.hg;have hk:k<w0.heap.size:=hk;have:=(h.SV e).1;omega⟩
 VR:=h.VR.sub (by decide) hc fun k hk=>⟨by have h1:=h.h0;have h2:=h.hg;have hk:k<w0.heap.size:=hk;omega,fun e=>by have h1:=h.h0;have h2:=h.hg;have hk:k<w0.heap.size:=hk;have:=(h.SV e).1;omega⟩
 Uy:=fun b hb=>(h.Uy b hb).sub hc fun k hk=>⟨by have h1:=h.h0;have h2:=h.hg;have hk:k<w0.heap.size:=hk;omega,fun e=>by have h1:=h.h0;have h2:=h.hg;have hk:k<w0.heap.size:=hk;have:=(h.SV e).1;omega⟩
 nx0:=h.nx0.trans hc (fun i hi hs=>by
  have h1:=h.h0;have h2:=h.hg;have h3:=h.hξ;rcases hs with hs|hs|hs
  ·have:=hs.1;omega
  ·omega
  ·have:=(h.SV hs).1;omega)
 ar:=har
 own:=z07 h.own hc (fun k hk hs=>by
  rcases hs with hs|hs|hs
  ·exact hs.2 (QN h.own hk)
  ·have:=(World.ownsRow.lt h.own k hk).1
   have:=h.ha;omega
  ·obtain ⟨since,A',k',bb,m,n,ch,R,h1,h2,h3,h4,h5⟩:=h.ar
   exact z13 h.own h3 (by decide) k hk hs)
 Sz:=fun z hz=>((h.Sz z hz).lt.sub hc fun k hk=>⟨by have:=hk.1.1;have:=h.ha;omega,hk.1.2.2⟩).ch (Ch.refl (fun _=>False) _) (fun _ _ _ hf=>hf) fun k hk=>⟨hk.1.1,hk.1.2.1,fun e=>by
  rcases hwt k e with e2|e2
  ·exact hk.1.2.2 e2
  ·have:=hk.2;omega⟩
 bv:=hbv
 Fj:=h.Fj
 cnt:=hcnt
theorem dh.bad (h:dh w0 w g ξ B a C A q Bl bs aN cn zs v wt K) {since:Int} (hc:Ch (nV ξ w a wt) w w') (Uk:jY ξ w a 1 1 C aN (fE C cn) since false K wt) (har:jY ξ w' a 1 1 C aN (fE C cn) since false (K+1) wt):dh w0 w' g ξ B a C A q Bl bs aN cn zs v wt (K+1):=by
 refine h.sub hc ⟨since,har⟩ (fun i hi=>.inl hi) (fun b hb=>?_) h.cnt;obtain ⟨A',k',bb,m,n,ch,R,h1,h2,h3,h4,h5⟩:=Uk;exact (((h4 b hb).1.and (h.bv b hb)).sub hc fun k hk=>⟨by have:=hk.1.1;omega,hk.1.2⟩).more fun i hi=>hi.2
theorem dh.good (h:dh w0 w g ξ B a C A q Bl bs aN cn zs v wt K) {since since':Int} {b b':cZ} {wt':Value} (hc:Ch (nV ξ w a wt) w w') (Uk:jY ξ w a 1 1 C aN (fE C cn) since false K wt) (hso:iW C aN (fE C cn) b)
 (har:jY ξ w' a 1 1 C (aN++[b']) (fun s=>fE C cn s+fE C (b.l.map fun x=>x.row) s) since' false (K+1) wt') (hwt:∀i,wt'.ownBlock=some i->wt.ownBlock=some i∨w.heap.size<=i) (hb':b'.ok w' (fun i=>w.heap.size<=i)):
 dh w0 w' g ξ B a C A q Bl bs (aN++[b']) (cn++b.l.map fun x=>x.row) zs v wt' (K+1):=by
 have e:(fun s=>fE C cn s+fE C (b.l.map fun x=>x.row) s)=fE C (cn++b.l.map fun x=>x.row):=by
  funext s
  rw[z3I]
 rw[e]at har;refine h.sub hc ⟨since',har⟩ hwt (fun y hy=>?_) (fun s hs=>?_)
 ·rcases List.mem_append.1 hy with hy|hy
  ·obtain ⟨A',k',bb,m,n,ch,R,h1,h2,h3,h4,h5⟩:=Uk
   exact (((h4 y hy).1.and (h.bv y hy)).sub hc fun k hk=>⟨by have:=hk.1.1;omega,hk.1.2⟩).more fun i hi=>hi.2
  ·rw[List.mem_singleton]at hy
   subst hy;exact hb'.more fun i hi e2=>by have:=(World.ownsRow.lt h.own i e2).2;omega
 ·rw[z3I]
  have:=hso.2.2 s hs;omega
theorem dh.app (h:dh w0 w g ξ B a C A q Bl bs aN cn zs v wt K) {ys:List RV} {v':Value} (hy:∀y∈ys,y.ok w (fun k=>B<=k/\v.ownBlock≠some k/\wt.ownBlock≠some k)) (hr:∀y∈ys,aS y.row=true)
 (o:w'.ownsRow B 79 9 v' (zs.length+ys.length) (bC zs++bC ys)) (gr:w.grownBy w' v.ownBlock) (hat:v'.ownBlock=v.ownBlock∨v'.ownBlock=some w.heap.size):
 dh w0 w' g ξ B a C A q Bl bs aN cn (zs++ys) v' wt K:=by
 have hc:Ch (fun k=>v.ownBlock=some k) w w':=(Ch.refl _ _).grown gr (fun k hk _=>hk);have hlo:∀i,v.ownBlock=some i->B<=i/\i<w.heap.size:=fun i hi=>World.ownsRow.lt h.own i hi;have h0:=h.h0;have hg:=h.hg;have ha:=h.ha;have hB:=h.hB
 have hnew:∀k,k<w.heap.size->v.ownBlock≠some k->v'.ownBlock≠some k:=fun k hk hv e=>by
  rcases hat with e2|e2
  ·exact hv (e2.symm.trans e)
  ·rw[e2]at e
   injection e with e;omega
 refine ⟨h0,h.hξ,hg,ha,Nat.le_trans hB hc.size,h.cfg.ch hc (fun e=>by have:=(hlo _ e).1;omega),?_,?_,?_,?_,?_,?_,?_,?_,?_,h.cnt⟩
 ·exact h.aH.ch (by decide) hc fun k _ hk e=>by have:=(hlo _ e).1;have hk:k<w0.heap.size:=hk;omega
 ·exact h.VR.ch (by decide) hc fun k _ hk e=>by have:=(hlo _ e).1;have hk:k<w0.heap.size:=hk;omega
 ·exact fun b hb=>(h.Uy b hb).ch hc (fun k _ hk e=>by have:=(hlo _ e).1;have hk:k<w0.heap.size:=hk;omega) fun _ hd=>hd
 ·exact h.nx0.trans hc (fun i hi e=>by have:=(hlo _ e).1;omega)
 ·obtain ⟨since,A',k,bb,m,n,ch,R,h1,h2,h3,h4,h5⟩:=h.ar
  exact ⟨since,A',k,bb,m,n,ch,R,h1.Ef hc (fun i hi e=>⟨QN h.own e,by have:=(hlo _ e).1;omega⟩),h2,z07 h3 hc (fun k hk e=>z13 h.own h3 (by decide) k e hk),
   fun b hb=>⟨((h4 b hb).1.and (h.bv b hb)).ch hc (fun k _ hk e=>hk.2 e) fun k hk=>hk.1,(h4 b hb).2⟩,h5⟩
 ·rw[List.length_append,show bC (zs++ys)=bC zs++bC ys by simp[bC]]
  exact o
 ·intro z hz
  have hk:z.ok w (fun k=>B<=k/\v.ownBlock≠some k/\wt.ownBlock≠some k):=by
   rcases List.mem_append.1 hz with hz|hz
   ·exact h.Sz z hz
   ·exact hy z hz
  exact hk.lt.ch hc (fun k _ hd e=>hd.1.2.1 e) fun k hd=>⟨hd.1.1,hnew k hd.2 hd.1.2.1,hd.1.2.2⟩
 ·exact fun b hb=>((h.bv b hb).lt.ch hc (fun k _ hd e=>hd.1 e) fun k hd=>hnew k hd.2 hd.1)
 ·intro z hz
  rcases List.mem_append.1 hz with hz|hz
  ·exact h.Fj z hz
  ·exact hr z hz
end
end Go.Proofs.YtdbfejfhpkakhaaGreat
