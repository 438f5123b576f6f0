/- Contracts and plain laws that the last text rests on. Conditions: each theorem states its own. -/
import Derived.Test.YtdbfejfhpkakhaaGreatKKd2Q28
import Derived.Test.YtdbfejfhpkakhaaGreatKKd2Q29
set_option maxRecDepth 100000
set_option linter.unusedVariables false
set_option linter.unusedSimpArgs false
namespace Go.Proofs.YtdbfejfhpkakhaaGreat
open Go.RowKit Ps
theorem z3M (C:aV) (a b:List aC) (s:ByteArray):dD C (a++b) s=dD C a s+dD C b s:=by unfold dD;rw[List.filter_append,List.length_append]
section
variable {w w' : World} {D D2 : Nat → Prop} {size n : Nat} {A : Option Addr} {xs : List Value}
theorem Rd.and (h:Rd w D size A n xs) (h2:Rd w D2 size A n xs):Rd w (fun i=>D i/\D2 i) size A n xs:=
 ⟨h.1,fun hn=>by
   obtain ⟨ad,e,hb,hc⟩:=h.2 hn;obtain ⟨ad',e',hb', -⟩:=h2.2 hn;rw[e]at e';injection e' with e';subst e';exact ⟨ad,e,⟨hb,hb'⟩,hc⟩⟩
theorem dF.ok.and {b:dF} (h:b.ok w D) (h2:b.ok w D2):b.ok w (fun i=>D i/\D2 i):=⟨h.rd.and h2.rd,fun x hx=>⟨(h.ok x hx).1.and (h2.ok x hx).1,(h.ok x hx).2⟩,h.mid,h.named,h.cap,h.max⟩
theorem Rd.sub {ξ a:Nat} {wt:Value} (h:Rd w D size A n xs) (hs:0<size) (hc:Ch (og ξ w a wt) w w') (hD:∀k,D k->k≠a/\wt.ownBlock≠some k):Rd w' D size A n xs:=
 ⟨h.1,fun hn=>by
   obtain ⟨ad,e,hb,hc'⟩:=h.2 hn;refine ⟨ad,e,hb,fun j u hu=>?_⟩;have h1:=hc' j u hu;have h2:=z3Q h1;have e1:(ad.add j).block=ad.block:=vw ..
   exact (World.cell?_of_block (hc.block _ (World.block_lt_of_cell? w _ h1) (fun hx=>by
    rcases hx with hx|hx|hx
    ·exact hx.2 h2
    ·exact (hD _ hb).1 (e1.symm.trans hx)
    ·rw[e1]at hx
     exact (hD _ hb).2 hx))).trans h1⟩
theorem RV.ok.sub {ξ a:Nat} {wt:Value} {x:RV} (h:x.ok w D) (hc:Ch (og ξ w a wt) w w') (hD:∀k,D k->k≠a/\wt.ownBlock≠some k):x.ok w' D:=⟨h.1.sub (by decide) hc hD,h.2⟩
theorem RV.ok.lt {x:RV} (h:x.ok w D):x.ok w (fun i=>D i/\i<w.heap.size):=⟨h.1.ltD (by decide),h.2⟩
theorem dF.ok.sub {ξ a:Nat} {wt:Value} {b:dF} (h:b.ok w D) (hc:Ch (og ξ w a wt) w w') (hD:∀k,D k->k≠a/\wt.ownBlock≠some k):b.ok w' D:=
 ⟨h.rd.sub (by decide) hc hD,fun x hx=>(h.ok x hx).sub hc hD,h.mid,h.named,h.cap,h.max⟩
end
def cfC (C:aV) (A:Option Addr) (q:Nat):Array Value:= #[.int .i64 C.window,.slice A C.aH.length q,.int .i64 C.group,.int .i64 C.buffer,.int .i64 C.flush,.int .i64 C.age,.int .i64 C.piece,.int .i64 C.tries,.int .i64 C.wait,.int .i64 C.small,.int .i64 C.most,.int .i64 C.gG]
structure gI (w0 w:World) (g ξ B a:Nat) (C:aV) (A:Option Addr) (q:Nat) (Bl:Option Addr) (bs aN:List dF) (cn:List aC) (zs:List RV) (v wt:Value) (K:Nat):Prop where
 h0:w0.heap.size<=g
 hξ:g<ξ
 hg:g<a
 ha:a<B
 hB:B<=w.heap.size
 cfg:aG w g 24 (cfC C A q)
 aH:Rd w (· <w0.heap.size) 1 A C.aH.length (dK C.aH)
 Zp:Rd w (· <w0.heap.size) 3 Bl bs.length (uT bs)
 Zq:∀b∈bs,b.ok w (· <w0.heap.size)
 nx0:Nx w0 w
 ar:∃since,je ξ w a 1 1 C aN (dD C cn) since false K wt
 own:w.ownsRow B 79 9 v zs.length (bM zs)
 YV:∀z∈zs,z.ok w (fun k=>B<=k/\v.ownBlock≠some k/\wt.ownBlock≠some k)
 bv:∀b∈aN,b.ok w (fun i=>v.ownBlock≠some i)
 OL:∀z∈zs,aT z.row=true
 cnt:∀s,fC s->dD C cn s<=C.buffer.toNat
section
variable {w0 w w' : World} {g ξ B a : Nat} {C : aV} {A : Option Addr} {q : Nat} {Bl : Option Addr} {bs aN : List dF} {cn : List aC} {zs : List RV} {v wt : Value} {K : Nat}
theorem gI.Xa (h:gI w0 w g ξ B a C A q Bl bs aN cn zs v wt K) {i:Nat} (hi:wt.ownBlock=some i):a<i/\i<w.heap.size:=by
 obtain ⟨since,A',k,bb,m,n,ch,R,h1,h2,h3,h4,h5⟩:=h.ar;have:=World.ownsRow.lt h3 i hi;exact ⟨by omega,this.2⟩
theorem gI.nx (h:gI w0 w g ξ B a C A q Bl bs aN cn zs v wt K) (c:Nx w w'):gI w0 w' g ξ B a C A q Bl bs aN cn zs v wt K where
 h0:=h.h0
 hξ:=h.hξ
 hg:=h.hg
 ha:=h.ha
 hB:=Nat.le_trans h.hB c.size
 cfg:=h.cfg.nx c
 aH:=h.aH.nx (by decide) c
 Zp:=h.Zp.nx (by decide) c
 Zq:=fun b hb=>(h.Zq b hb).nx c
 nx0:=h.nx0.tr c
 ar:=by obtain ⟨s,hs⟩:=h.ar;exact ⟨s,hs.nx c⟩
 own:=z06 h.own c (fun _ _ hf=>hf)
 YV:=fun z hz=>(h.YV z hz).ch c (fun _ _ _ hf=>hf) fun _ hd=>hd
 bv:=fun b hb=>(h.bv b hb).nx c
 OL:=h.OL
 cnt:=h.cnt
theorem gI.sub {UN:List dF} {cn':List aC} {wt':Value} {K':Nat} (h:gI w0 w g ξ B a C A q Bl bs aN cn zs v wt K) (hc:Ch (og ξ w a wt) w w') (har:∃since,je ξ w' a 1 1 C UN (dD C cn') since false K' wt')
 (hwt:∀i,wt'.ownBlock=some i->wt.ownBlock=some i∨w.heap.size<=i) (hbv:∀b∈UN,b.ok w' (fun i=>v.ownBlock≠some i)) (hcnt:∀s,fC s->dD C cn' s<=C.buffer.toNat):
 gI w0 w' g ξ B a C A q Bl bs UN cn' zs v wt' K' where
 h0:=h.h0
 hξ:=h.hξ
 hg:=h.hg
 ha:=h.ha
 hB:=Nat.le_trans h.hB hc.size
 cfg:=h.cfg.ch hc (fun hs=>by
  have h1:=h.hξ;have h2:=h.hg;rcases hs with hs|hs|hs
  ·have:=hs.1;omega
  ·omega
  ·have:=(h.Xa hs).1;omega)
 aH:=h.aH.sub (by decide) hc fun k hk=>⟨by have h1:=h.h0;have h2:=h.hg;have hk:k<w0.heap.size:=hk;omega,fun e=>by have h1:=h.h0;have h2:=h.hg;have hk:k<w0.heap.size:=hk;have:=(h.Xa e).1;omega⟩
 Zp:=h.Zp.sub (by decide) hc fun k hk=>⟨by have h1:=h.h0;have h2:=h.hg;have hk:k<w0.heap.size:=hk;omega,fun e=>by have h1:=h.h0;have h2:=h.hg;have hk:k<w0.heap.size:=hk;have:=(h.Xa e).1;omega⟩
 Zq:=fun b hb=>(h.Zq b hb).sub hc fun k hk=>⟨by have h1:=h.h0;have h2:=h.hg;have hk:k<w0.heap.size:=hk;omega,fun e=>by have h1:=h.h0;have h2:=h.hg;have hk:k<w0.heap.size:=hk;have:=(h.Xa e).1;omega⟩
 nx0:=h.nx0.trans hc (fun i hi hs=>by
  have h1:=h.h0;have h2:=h.hg;have h3:=h.hξ;rcases hs with hs|hs|hs
  ·have:=hs.1;omega
  ·omega
  ·have:=(h.Xa hs).1;omega)
 ar:=har
 own:=z06 h.own hc (fun k hk hs=>by
  rcases hs with hs|hs|hs
  ·exact hs.2 (Rk h.own hk)
  ·have:=(World.ownsRow.lt h.own k hk).1
   have:=h.ha;omega
  ·obtain ⟨since,A',k',bb,m,n,ch,R,h1,h2,h3,h4,h5⟩:=h.ar
   exact IQ h.own h3 (by decide) k hk hs)
 YV:=fun z hz=>((h.YV z hz).lt.sub hc fun k hk=>⟨by have:=hk.1.1;have:=h.ha;omega,hk.1.2.2⟩).ch (Ch.refl (fun _=>False) _) (fun _ _ _ hf=>hf) fun k hk=>⟨hk.1.1,hk.1.2.1,fun e=>by
  rcases hwt k e with e2|e2
  ·exact hk.1.2.2 e2
  ·have:=hk.2;omega⟩
 bv:=hbv
 OL:=h.OL
 cnt:=hcnt
theorem gI.bad (h:gI w0 w g ξ B a C A q Bl bs aN cn zs v wt K) {since:Int} (hc:Ch (og ξ w a wt) w w') (UD:je ξ w a 1 1 C aN (dD C cn) since false K wt) (har:je ξ w' a 1 1 C aN (dD C cn) since false (K+1) wt):gI w0 w' g ξ B a C A q Bl bs aN cn zs v wt (K+1):=by
 refine h.sub hc ⟨since,har⟩ (fun i hi=>.inl hi) (fun b hb=>?_) h.cnt;obtain ⟨A',k',bb,m,n,ch,R,h1,h2,h3,h4,h5⟩:=UD;exact (((h4 b hb).1.and (h.bv b hb)).sub hc fun k hk=>⟨by have:=hk.1.1;omega,hk.1.2⟩).more fun i hi=>hi.2
theorem gI.good (h:gI w0 w g ξ B a C A q Bl bs aN cn zs v wt K) {since since':Int} {b b':dF} {wt':Value} (hc:Ch (og ξ w a wt) w w') (UD:je ξ w a 1 1 C aN (dD C cn) since false K wt) (hso:iZ C aN (dD C cn) b)
 (har:je ξ w' a 1 1 C (aN++[b']) (fun s=>dD C cn s+dD C (b.l.map fun x=>x.row) s) since' false (K+1) wt') (hwt:∀i,wt'.ownBlock=some i->wt.ownBlock=some i∨w.heap.size<=i) (hb':b'.ok w' (fun i=>w.heap.size<=i)):
 gI w0 w' g ξ B a C A q Bl bs (aN++[b']) (cn++b.l.map fun x=>x.row) zs v wt' (K+1):=by
 have e:(fun s=>dD C cn s+dD C (b.l.map fun x=>x.row) s)=dD C (cn++b.l.map fun x=>x.row):=by
  funext s
  rw[z3M]
 rw[e]at har;refine h.sub hc ⟨since',har⟩ hwt (fun y hy=>?_) (fun s hs=>?_)
 ·rcases List.mem_append.1 hy with hy|hy
  ·obtain ⟨A',k',bb,m,n,ch,R,h1,h2,h3,h4,h5⟩:=UD
   exact (((h4 y hy).1.and (h.bv y hy)).sub hc fun k hk=>⟨by have:=hk.1.1;omega,hk.1.2⟩).more fun i hi=>hi.2
  ·rw[List.mem_singleton]at hy
   subst hy;exact hb'.more fun i hi e2=>by have:=(World.ownsRow.lt h.own i e2).2;omega
 ·rw[z3M]
  have:=hso.2.2 s hs;omega
end
theorem JH:∀(f a b:Nat) (p q:List Nat),a<=f->aB a++p=aB b++q->a=b/\p=q:=by
 intro f;induction f with
 |zero=>
  intro a b p q ha h;have ha:a=0:=(by omega);subst ha;rw[Nv (by decide)]at h;by_cases hb:b<128
  ·rw[Nv hb]at h
   simp only[List.cons_append,List.nil_append]at h;injection h with h1 h2;exact ⟨h1,h2⟩
  ·rw[Tz (by omega),List.cons_append]at h
   simp only[List.cons_append,List.nil_append]at h;injection h with h1 h2;omega
 |succ f ih=>
  intro a b p q ha h;by_cases h1:a<128
  ·rw[Nv h1]at h
   by_cases hb:b<128
   ·rw[Nv hb]at h
    simp only[List.cons_append,List.nil_append]at h;injection h with h1 h2;exact ⟨h1,h2⟩
   ·rw[Tz (by omega)]at h
    simp only[List.cons_append,List.nil_append]at h;injection h with h1 h2;omega
  ·rw[Tz (show 128<=a by omega)]at h
   by_cases hb:b<128
   ·rw[Nv hb]at h
    simp only[List.cons_append,List.nil_append]at h;injection h with h1 h2;omega
   ·rw[Tz (show 128<=b by omega)]at h
    simp only[List.cons_append]at h;injection h with h1 h2;obtain ⟨h3,h4⟩:=ih (a / 128) (b / 128) p q (by omega) h2;exact ⟨by omega,h4⟩
def Nz (b:ByteArray):List Nat:=b.data.toList.map UInt8.toNat
theorem mQ (a b:ByteArray):Nz (a++b)=Nz a++Nz b:=by
 unfold Nz;rw[ByteArray.data_append,Array.toList_append,List.map_append]
theorem Pm {a b:ByteArray} (h:Nz a=Nz b):a=b:=by
 unfold Nz at h
 have h1:a.data.toList=b.data.toList:=by
  have:=congrArg (List.map UInt8.ofNat) h;rw[List.map_map,List.map_map]at this;have e:UInt8.ofNat ∘ UInt8.toNat=id:=by funext x;simp
  rw[e,List.map_id,List.map_id]at this;exact this
 cases a
 cases b
 simp only at h1;congr 1
 exact Array.toList_inj.1 h1
theorem wU {xs:List Nat} (h:okB xs):Nz (iT xs)=xs:=by
 unfold Nz iT;simp only;rw[List.map_map];refine (List.map_congr_left fun x hx=>?_).trans (List.map_id xs);have:=h x hx;simp only[Function.comp,UInt8.toNat_ofNat',id];omega
theorem PE {C:aV} {r t:aC} (hw:1<=C.window) (hr:aT r=true) (ht:aT t=true) (h:Bq C.window C.aH r=Bq C.window C.aH t):keyE C.window C.aH r=keyE C.window C.aH t:=by
 have bnd:∀r:aC,aT r=true->0<=r.time.tdiv C.window/\(r.time.tdiv C.window).toNat<18446744073709551616:=fun r hr=>by
  unfold aT at hr;simp only[Bool.and_eq_true,decide_eq_true_eq]at hr;have h0:=hr.1.1.1;have h3:(r.time.tdiv C.window).natAbs<=r.time.natAbs:=by rw[Int.natAbs_tdiv];exact Nat.div_le_self _ _
  exact ⟨Int.tdiv_nonneg h0 (by omega),by omega⟩
 obtain ⟨a0,a1⟩:=bnd r hr;obtain ⟨b0,b1⟩:=bnd t ht;unfold Bq at h;have h1:=congrArg Nz h;rw[mQ,mQ,wU (iG a1),wU (iG b1)]at h1;obtain ⟨h2,h3⟩:=JH _ _ _ _ _ (Nat.le_refl _) h1;unfold keyE;rw[Pm h3,show r.time.tdiv C.window=t.time.tdiv C.window by omega]
theorem Qu {C:aV} {gs:List GV} {zs l:List RV} (hw:1<=C.window) (hs:jm (fun z:RV=>keyE C.window C.aH z.row) (gs.map (fun g=>g.g)) zs) (hp:zs.Perm l) (hr:∀x∈l,aT x.row=true) {s:ByteArray} {f:Nat} (hf:1<=f)
 (h:f<=dD C (l.map fun x=>x.row) s):∃g∈gs,f<=g.g.rows.length:=by
 unfold dD at h;rw[List.filter_map,List.length_map]at h;rcases hq:l.filter ((fun r=>decide (Bq C.window C.aH r=s)) ∘ fun x=>x.row) with _|⟨y,ys⟩
 ·rw[hq]at h
  have h:f<=0:=h;omega
 ·have hy:y∈l.filter ((fun r=>decide (Bq C.window C.aH r=s)) ∘ fun x=>x.row):=by rw[hq];exact List.mem_cons_self
  rw[List.mem_filter]at hy;obtain ⟨hyl,hys⟩:=hy;simp only[Function.comp,decide_eq_true_eq]at hys;obtain ⟨g,hg,he⟩:=hs.all y (hp.mem_iff.2 hyl);obtain ⟨v,hv,rfl⟩:=List.mem_map.1 hg;refine ⟨v,hv,?_⟩;have h1:=hs.rows v.g hg;have h2:v.g.rows.Perm (l.filter fun x=>decide (keyE C.window C.aH x.row=v.g.key)):=by rw[h1];exact hp.filter _
  rw[h2.length_eq];refine Nat.le_trans h ?_;rw[←List.countP_eq_length_filter,←List.countP_eq_length_filter];refine List.countP_mono_left fun x hx hk=>?_;simp only[Function.comp,decide_eq_true_eq]at hk;rw[decide_eq_true_eq,←he];exact PE hw (hr x hx) (hr y hyl) (hk.trans hys.symm)
end Go.Proofs.YtdbfejfhpkakhaaGreat
