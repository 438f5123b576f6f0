/- Contracts and plain laws that the last text rests on. Conditions: each theorem states its own. -/
import Derived.Test.YtdbfejfhpkakhaaGreatKKd2Q34
import Derived.Test.YtdbfejfhpkakhaaGreatKKd2PbSlG
import Derived.Test.YtdbfejfhpkakhaaGreatKKd2Q7
import Derived.Shelf.SlSortCmp.NoneTotal
import Derived.Test.YtdbfejfhpkakhaaGreatKKd2Q30
set_option maxRecDepth 100000
set_option maxHeartbeats 4000000
set_option linter.unusedVariables false
set_option linter.unusedSimpArgs false
namespace Go.Proofs.YtdbfejfhpkakhaaGreat
open Go.Shelf Go.RowKit Go.Maps Go.Sort Go.WideMaps Go.ChangeShapes
/-! the order of postings -/
instance:Inhabited PV:=⟨⟨⟨#[]⟩,[],none,0⟩⟩
def yw (x y:PV):Int:=if bD x.text y.text=true then -1 else 1
theorem rU (a b:ByteArray):bD a b=true↔a.data.toList<b.data.toList:=by
 unfold bD;rw[decide_eq_true_iff]
theorem kT (x y:PV):ltOf yw x y=bD x.text y.text:=by
 unfold ltOf yw;by_cases h:bD x.text y.text=true
 ·simp[h]
 ·simp[h]
theorem LM:SWO (ltOf yw) where
 irrefl x:=by
  rw[kT];exact YW _
 trans x y z h1 h2:=by
  rw[kT]at h1 h2 ⊢;exact Zd h1 h2
 ntrans x y z h1 h2:=by
  rw[kT,←Bool.not_eq_true,rU]at h1 h2 ⊢;exact fun h=>h2 (List.lt_of_le_of_lt (List.not_lt.1 h1) h)
theorem MJ (x y:PV) (W:World):Calls Tryz.prog 97 #[.agg x.cs.toArray,.agg y.cs.toArray] W fun e w'=>e=.returned (.int .i64 (yw x y))/\∃q os',w'=grow (W.drewN q) os':=by
 have HC:Hid (yw x y=if bD x.text y.text=true then -1 else 1):=ah rfl;obtain ⟨t1,g1,A1,c1⟩:=x;obtain ⟨t2,g2,A2,c2⟩:=y;unfold PV.cs;simp only at HC ⊢;have B1:=(aG.new W 197 #[.string t1,.slice A1 g1.length c1]).alloc (.cells #[.string t2,.slice A2 g2.length c2] 197);have B2:=aG.new (W.alloc (.cells #[.string t1,.slice A1 g1.length c1] 197)) 197 #[.string t2,.slice A2 g2.length c2];rw[World.size_alloc]at B2;have s0:((W.alloc (.cells #[.string t1,.slice A1 g1.length c1] 197)).alloc (.cells #[.string t2,.slice A2 g2.length c2] 197)).cell? ⟨W.heap.size,0,none⟩=some (.string t1):=B1.cell 0;have s1:((W.alloc (.cells #[.string t1,.slice A1 g1.length c1] 197)).alloc (.cells #[.string t2,.slice A2 g2.length c2] 197)).cell? ⟨W.heap.size+1,0,none⟩=some (.string t2):=B2.cell 0;clear B1 B2;have fin:∃q os',(W.alloc (.cells #[.string t1,.slice A1 g1.length c1] 197)).alloc (.cells #[.string t2,.slice A2 g2.length c2] 197)=grow (W.drewN q) os':=⟨0,_,by rw[alloc_eq_grow,alloc_eq_grow,grow_grow];rfl⟩;have Nh:=ah fin;clear fin;by_cases hb:bD t1 t2=true
 ·rw[if_pos hb]at HC
  have q1:Op.bytesLess t1.toList t2.toList=true:=by rw[Nr];exact hb
  clear hb;go_enter Tryz.func97,Tryz.ntmps97;go_wp2_with fail;go_ret;exact ⟨by rw[HC.out];rfl,Nh.out⟩
 ·rw[if_neg hb]at HC
  have q1:Op.bytesLess t1.toList t2.toList=false:=by rw[Nr];simpa using hb
  clear hb;go_enter Tryz.func97,Tryz.ntmps97;go_wp2_with fail;go_ret;exact ⟨by rw[HC.out];rfl,Nh.out⟩
theorem QG (w:World):(isAgg 197).run Tryz.prog w=.ok true w:=Tryz.isAgg197 w
theorem Jv (w:World):(Go.sizeOf 197).run Tryz.prog w=.ok 2 w:=Tryz.sizeOf197 w
theorem OY (x:PV):∀v∈x.cs,v.oneCell'=true:=by
 intro v hv;unfold PV.cs at hv;simp at hv;rcases hv with rfl|rfl<;>rfl
theorem FQ {W w:World} {A:Option Addr} {c:Nat} {l:List PV} (o:aF W w 197 2 (.slice A l.length c) l.length (qJ l)) (hl:l.length<=10000000):
 Calls Tryz.prog 96 #[.slice A l.length c,.func (.func 97) #[] #[]] w fun e w'=>e=.returned (.tuple #[])/\∃m:List PV,m.Perm l/\m.Pairwise (fun x y=>ltOf yw y x=false)/\
  Rd w' (fun k=>(Value.slice A l.length c).ownBlock=some k) 2 A m.length (qJ m)/\Ch (fun k=>(Value.slice A l.length c).ownBlock=some k) w w':=by
 rcases o.own.2 with ⟨hv,hn⟩|⟨g,cap,cur,hv,_,hh,_⟩
 ·injection hv with h1 h2 h3
  subst h1;have:l=[]:=List.eq_nil_of_length_eq_zero hn;subst this;have hcon:=AnyF.slices_SortFunc_none Tryz.Rw none c (.func (.func 97) #[] #[]) w;change Calls Tryz.prog 96 _ _ _ at hcon;refine hcon.mono ?_;rintro e w' ⟨rfl,rfl⟩;exact ⟨rfl,[],List.Perm.refl _,List.Pairwise.nil,Rd.none_ _ _ _ _,Ch.refl _ _⟩
 ·injection hv with h1 h2 h3
  subst h1;have hb:aG w g 197 cur:=hh;have eg:∀args w,(callFunc 97 args).run Tryz.prog w=.ok (.enter 97 args) w:=enters_of Tryz.func97 (by kernel_rfl) rfl;have hH:=qV (cs:=PV.cs) (k:=2) PV.aQ (by decide) o;have hcon:=AnyQ.slices_SortFunc Tryz.Rw 2 QG Jv PV.cs PV.aQ OY yw LM 97 #[] g 0 c l.toArray w eg (fun _ _ _ _ x y=>MJ x y _) hH hb.lt (by rw[List.size_toArray];omega);change Calls Tryz.prog 96 _ _ _ at hcon;rw[List.size_toArray]at hcon;refine hcon.mono ?_;rintro e w' ⟨rfl,d',n,os,hp,hs,rfl⟩;have hsz:d'.size=l.length:=by have:=hp.1;rw[this,List.size_toArray]
  have hH2:HoldsK PV.cs 2 (sortWorldK PV.cs 2 w g 0 n d' os) g 0 d':=holdsK_sortWorldK_c PV.cs 2 w g 0 l.toArray d' n os hH hb.lt (by rw[hsz,List.size_toArray]);refine ⟨rfl,d'.toList,DK (d:=l.toArray) (by rw[List.size_toArray];exact hp),DL hsz.symm hs,?_,?_⟩
  ·have h:=wG (k:=2) PV.aQ (by decide) hH2
   rw[Array.length_toList];exact h.more fun k hk=>by rw[hk];rfl
  ·exact (yD w g n d' os).mono fun i _ hi=>by rw[hi];rfl
/-! strictly rising lists of the same things are one -/
theorem Dz {α:Type} {lt:α->α->Prop} (Wp:∀x,¬lt x x) (tr:∀x y z,lt x y->lt y z->lt x z):∀{l m:List α},l.Pairwise lt->m.Pairwise lt->(∀x,x∈l↔x∈m)->l=m
 |[],[],_,_,_=>rfl
 |[],y::m,_,_,h=>by have:=(h y).2 List.mem_cons_self;cases this
 |x::l,[],_,_,h=>by have:=(h x).1 List.mem_cons_self;cases this
 |x::l,y::m,h1,h2,h=>by
  obtain ⟨a1,a2⟩:=List.pairwise_cons.1 h1;obtain ⟨b1,b2⟩:=List.pairwise_cons.1 h2
  have exy:x=y:=by
   rcases List.mem_cons.1 ((h x).1 List.mem_cons_self) with e|e
   ·exact e
   ·rcases List.mem_cons.1 ((h y).2 List.mem_cons_self) with e2|e2
    ·exact e2.symm
    ·exact absurd (tr _ _ _ (b1 x e) (a1 y e2)) (Wp y)
  subst exy
  have e:=Dz Wp tr a2 b2 fun z=>by
   constructor
   ·intro hz
    rcases List.mem_cons.1 ((h z).1 (List.mem_cons_of_mem _ hz)) with e|e
    ·subst e;exact absurd (a1 z hz) (Wp z)
    ·exact e
   ·intro hz
    rcases List.mem_cons.1 ((h z).2 (List.mem_cons_of_mem _ hz)) with e|e
    ·subst e;exact absurd (b1 z hz) (Wp z)
    ·exact e
  rw[e]
end Go.Proofs.YtdbfejfhpkakhaaGreat
namespace Go.Proofs.YtdbfejfhpkakhaaGreat
open Go.RowKit Go.Maps Go.WideMaps Go.ChangeShapes
def mZ (f:ByteArray->Option Value) (done:List PV) (t:ByteArray):Bool:=(decide (fC t)&&(f t).isSome)&& !(done.any fun x=>decide (x.text=t))
theorem iD.congr {w:World} {b r n cnt:Nat} {f:ByteArray->Option Value} {l l':ByteArray->Bool} (h:iD w b r n f l cnt) (e:∀t,l t=l' t):iD w b r n f l' cnt:=by
 have:l=l':=funext e;rw[←this];exact h
theorem Bg (f:ByteArray->Option Value) (done:List PV) (x:PV) (t:ByteArray):(mZ f done t&& !decide (t=x.text))=mZ f (done++[x]) t:=by
 unfold mZ;rw[List.any_append,show ([x].any fun x=>decide (x.text=t))=decide (x.text=t) by simp,show decide (t=x.text)=decide (x.text=t) from decide_eq_decide.2 ⟨Eq.symm,Eq.symm⟩];cases decide (x.text=t)<;>cases (decide (fC t)&&(f t).isSome)<;>cases (done.any fun x=>decide (x.text=t))<;>rfl
structure iq (w:World) (m Dk:Nat) (gs:List (List aC)) (X:List Nat) (ss:List aW) (f:ByteArray->Option Value) (r n:Nat) (mem done:List PV) (cnt:Nat) (W:World):Prop where
 out:∃v,aG W (m+1) 47 #[v]/\jE w W v X
 idx:∃v vp,aG W (m+1+1) 184 #[v,vp]/\aF w W 191 5 v ss.length (spl ss)/\aF w W 197 2 vp mem.length (qJ mem)
 map:iD W (m+1+1+1) r n f (mZ f done) cnt
 rows:∀t v,fC t->f t=some v->∃A c,v=.slice A (dB t 0 gs).length c/\Rd W (fun k=>∃cs,aG W k 3 cs) 1 A (dB t 0 gs).length (ints (zl (dB t 0 gs)))/\dB t 0 gs≠[]
 non:∀t,fC t->f t=none->dB t 0 gs=[]
 dfr:W.heap[Dk]?=some (.deferred (some []))
 dif:(done.map fun x=>x.text).Nodup
 all:∀x∈done,fC x.text/\f x.text=some (.slice x.A x.gs.length x.c)/\x.gs=zl (dB x.text 0 gs)
 two:Dk≠r
section
variable {w W W' : World} {m Dk r n cnt : Nat} {gs : List (List aC)} {X : List Nat} {ss : List aW} {f : ByteArray → Option Value} {mem done : List PV}
def PstT (t:TypeId):Prop:=t=47∨t=5∨t=184∨t=191∨t=197∨t=3
theorem iq.ch {S:Nat->Prop} (h:iq w m Dk gs X ss f r n mem done cnt W) (c:Ch S W W') (h3:¬S (m+1+1+1)) (hr:¬S r) (hd:¬S Dk) (hw:∀i,i<w.heap.size->¬S i) (hS:Shun W S PstT):iq w m Dk gs X ss f r n mem done cnt W':=by
 obtain ⟨⟨v1,B1,o1⟩,⟨v2,vp,B2,o2,o3⟩,hm,hrow,hno,hdf,hdi,hal,h2⟩:=h;refine ⟨⟨v1,B1.ch c fun hs=>hS _ _ _ _ B1 hs (.inl rfl),o1.ch c (fun g t cs fz hg hs e=>hS g t cs fz hg hs (.inr (.inl e))) hw⟩,⟨v2,vp,B2.ch c fun hs=>hS _ _ _ _ B2 hs (.inr (.inr (.inl rfl))),o2.ch c (fun g hg hs=>?_) hw,o3.ch c (fun g hg hs=>?_) hw⟩,hm.ch c h3 hr,fun t v ht hv=>?_,hno,(c.block _ (Array.getElem?_eq_some_iff.1 hdf).1 hd).trans hdf,hdi,hal,h2⟩
 ·obtain ⟨cs,hB⟩:=jg o2.own hg
  exact hS _ _ _ _ hB hs (.inr (.inr (.inr (.inl rfl))))
 ·obtain ⟨cs,hB⟩:=jg o3.own hg
  exact hS _ _ _ _ hB hs (.inr (.inr (.inr (.inr (.inl rfl)))))
 ·obtain ⟨A,cc,e,hR,hne⟩:=hrow t v ht hv
  have h1:=hR.ch (by decide) c (fun k _ hk hs=>by obtain ⟨cs,hB⟩:=hk;exact hS k _ cs _ hB hs (.inr (.inr (.inr (.inr (.inr rfl))))));exact ⟨A,cc,e,h1.more fun k hk=>by obtain ⟨cs,hB⟩:=hk;exact ⟨cs,hB.ch c fun hs=>hS k _ cs _ hB hs (.inr (.inr (.inr (.inr (.inr rfl)))))⟩,hne⟩
theorem iq.tr (h:iq w m Dk gs X ss f r n mem done cnt W) (c:Nx W W'):iq w m Dk gs X ss f r n mem done cnt W':=
 h.ch c (fun hf=>hf) (fun hf=>hf) (fun hf=>hf) (fun _ _ hf=>hf) (fun _ _ _ _ _ hf=>hf.elim)
theorem iq.start {B:Nat} (h:dJ w B (m+1) (m+1+1) (m+1+1+1) (m+1+1+1+1) gs X ss gs.length [] W) (hd:W.heap[Dk]?=some (.deferred (some []))):
 ∃f n W1 cnt,(Instr.range 185 (.map (some (m+1+1+1)))).run Tryz.prog W=.ok (.pointer (some ⟨W.heap.size,0,none⟩)) W1/\iq w m Dk gs X ss f W.heap.size n [] [] cnt W1/\Nx W W1/\cnt<=2048 * gs.length:=by
 obtain ⟨⟨v1,B1,o1⟩,⟨v2,B2,o2⟩,B4,D,n,g1,g2,g3,g4⟩:=h;obtain ⟨f,hf,hff⟩:=BI g1 Tryz.underlying185 (Tryz.pW W);obtain ⟨W1,cnt,hrun,hR,hg,hsz,hcn⟩:=hf.range Tryz.underlying185;have NX:Nx W W1:=(Ch.refl (fun _=>False) W).grown hg (fun r hr _=>by cases hr)
 have es:∀t,dZ gs gs.length [] t=dB t 0 gs:=fun t=>by
  unfold dZ;rw[List.take_length];simp[RN]
 have hdlt:Dk<W.heap.size:=(Array.getElem?_eq_some_iff.1 hd).1;refine ⟨f,n,W1,cnt,hrun,⟨⟨v1,B1.nx NX,o1.ch NX (fun _ _ _ _ _ hf=>hf.elim) (fun _ _ hf=>hf)⟩,⟨v2,_,B2.nx NX,o2.tr NX,aF.nil w W1 _ 2 (o2.nx.trans NX fun _ _ hf=>hf)⟩,hR.congr (fun t=>by unfold mZ;simp),fun t v ht hv=>?_,fun t ht hv=>?_,(NX.block _ hdlt fun hf=>hf).trans hd,List.nodup_nil,(fun x hx=>by cases hx),by omega⟩,NX,by simp only[List.length_nil]at g3;omega⟩
 ·rcases hff t ht with ⟨h1,_⟩|⟨v',zs,h1,hh,ho,ha⟩
  ·rw[hv]at h1;cases h1
  ·rw[hv]at h1
   injection h1 with h1;subst h1;have hz:=g2.look ht ho ha;rw[es]at hz;subst hz
   have hne:dB t 0 gs≠[]:=by
    rcases g2.2 t ht with ⟨h2,_⟩|⟨_,h2⟩
    ·rw[hh]at h2;cases h2
    ·rw[es]at h2;exact h2
   obtain ⟨A,c,e,_,_⟩:=h_ ho.1;have hl:(zl (dB t 0 gs)).length=(dB t 0 gs).length:=List.length_map _;have ho1:=ho.1;rw[hl]at e ho1;subst e;refine ⟨A,c,rfl,?_,hne⟩;have h3:=(Rd.bW ho1).nx (by decide) NX;exact h3.more fun k hk=>by obtain ⟨cs,hB⟩:=jg ho1 hk.1;exact ⟨cs,hB.nx NX⟩
 ·rcases hff t ht with ⟨_,h1⟩|⟨v',zs,h1,_⟩
  ·rcases g2.2 t ht with ⟨_,h2⟩|⟨h2,h3⟩
   ·rw[es]at h2;exact h2
   ·exact absurd (atKey_of_not_has h1 (DataW.nil)) (by rw[h2];intro e;cases e)
  ·rw[hv]at h1;cases h1
theorem iq.next (h:iq w m Dk gs X ss f r n mem done cnt W) (ty:TypeId) (hw:w.heap.size<=r):
 ((Instr.next (.pointer (some ⟨r,0,none⟩)) false ty).run Tryz.prog W=.ok (.tuple #[.bool false]) W/\∀t,fC t->f t≠none->∃x∈done,x.text=t)∨
 ∃(x:PV) (W1:World) (cnt':Nat),(Instr.next (.pointer (some ⟨r,0,none⟩)) false ty).run Tryz.prog W=.ok (.tuple #[.bool true,.string x.text,.slice x.A x.gs.length x.c]) W1/\
  iq w m Dk gs X ss f r n mem (done++[x]) cnt' W1/\cnt'<cnt/\(Instr.entry (.pointer (some ⟨r,0,none⟩))).run Tryz.prog W1=.ok (.tuple #[.string x.text,.slice x.A x.gs.length x.c]) W1/\W1.heap.size=W.heap.size:=by
 rcases h.map.next ty with ⟨e0,hl,hrun⟩|⟨s,v,W1,cnt',hs,hls,hf,hrun,hR,hlt,hg,hsz,hen⟩
 ·refine .inl ⟨hrun,fun t ht hne=>?_⟩
  have h1:=hl t;unfold mZ at h1;have h2:(f t).isSome=true:=Option.isSome_iff_ne_none.2 hne;rw[h2,decide_eq_true ht]at h1;simp only[Bool.and_self,Bool.true_and,Bool.not_eq_false']at h1;obtain ⟨x,hx,e⟩:=List.any_eq_true.1 h1;exact ⟨x,hx,of_decide_eq_true e⟩
 ·obtain ⟨A,c,e,hR2,hne⟩:=h.rows s v hs hf
  obtain ⟨x,hx⟩:∃x:PV,x=⟨s,zl (dB s 0 gs),A,c⟩:=⟨_,rfl⟩;have hzl:(zl (dB s 0 gs)).length=(dB s 0 gs).length:=List.length_map _;have ex:v=.slice x.A x.gs.length x.c:=by rw[hx,e];simp only[hzl]
  have et:x.text=s:=by rw[hx]
  have c1:Ch (· =r) W W1:=(Ch.refl (· =r) W).grown hg (fun k hk _=>by injection hk with hk;exact hk.symm);have hmr:=h.map.ne;obtain ⟨D5,l5,q5, -⟩:=h.map;obtain ⟨es5,ck5,si5,se5,c05, -, -, -, -,hr5, -⟩:=q5;refine .inr ⟨x,W1,cnt',by rw[et,←ex];exact hrun,?_,hlt,by rw[et,←ex];exact hen,hsz⟩
  have hS:∀g t cs fz,W.heap[g]?=some (.cells cs t fz)->g≠r:=fun g t cs fz hb e=>by
   rw[e,hr5]at hb;cases hb
  have hno:∀i,i<w.heap.size->¬i=r:=fun i hi e=>by omega
  obtain ⟨⟨v1,B1,o1⟩,⟨v2,vp,B2,o2,o3⟩,hm,hrow,K_,hdf,hdi,hal,h2⟩:=h;refine ⟨⟨v1,B1.ch c1 (hS _ _ _ _ B1),o1.ch c1 (fun g t cs fz hg hs e=>hS g t cs fz hg hs) hno⟩,⟨v2,vp,B2.ch c1 (hS _ _ _ _ B2),o2.ch c1 (fun g hg=>?_) hno,o3.ch c1 (fun g hg=>?_) hno⟩,hR.congr (fun t=>by rw[←et];exact Bg f done x t),fun t v' ht hv=>?_,K_,(c1.block _ (Array.getElem?_eq_some_iff.1 hdf).1 h2).trans hdf,?_,fun y hy=>?_,h2⟩
  ·obtain ⟨cs,hB⟩:=jg o2.own hg
   exact hS _ _ _ _ hB
  ·obtain ⟨cs,hB⟩:=jg o3.own hg
   exact hS _ _ _ _ hB
  ·obtain ⟨A2,c2,e2,hR3,hne2⟩:=hrow t v' ht hv
   have h5:=hR3.ch (by decide) c1 (fun k _ hk=>by obtain ⟨cs,hB⟩:=hk;exact hS _ _ _ _ hB);exact ⟨A2,c2,e2,h5.more fun k hk=>by obtain ⟨cs,hB⟩:=hk;exact ⟨cs,hB.ch c1 (hS _ _ _ _ hB)⟩,hne2⟩
  ·rw[List.map_append,List.nodup_append]
   refine ⟨hdi,by simp,fun a ha b hb=>?_⟩;simp only[List.map_cons,List.map_nil,List.mem_singleton]at hb;subst hb;rintro rfl;obtain ⟨y,hy,e6⟩:=List.mem_map.1 ha;rw[et]at e6;unfold mZ at hls;have:(done.any fun x=>decide (x.text=s))=true:=List.any_eq_true.2 ⟨y,hy,decide_eq_true e6⟩;rw[this]at hls;simp at hls
  ·rcases List.mem_append.1 hy with hy|hy
   ·exact hal y hy
   ·rw[List.mem_singleton]at hy
    subst hy;exact ⟨by rw[et];exact hs,by rw[et,←ex];exact hf,by rw[hx]⟩
theorem iq.push {v vp Xb:Value} {x:PV} (h:iq w m Dk gs X ss f r n mem done cnt W) (hb:aG W (m+1+1) 184 #[v,vp]) (hs:aF w W 191 5 v ss.length (spl ss)) (hp:aF w W 197 2 vp mem.length (qJ mem)) (hg:W.grownBy W' vp.ownBlock)
 (o:aF w W' 197 2 Xb (mem++[x]).length (qJ (mem++[x]))) (h1:w.heap.size<=m):iq w m Dk gs X ss f r n (mem++[x]) done cnt (W'.setCell ⟨m+1+1,1,none⟩ Xb):=by
 have c1:Ch (fun r=>vp.ownBlock=some r) W W':=(Ch.refl (fun r=>vp.ownBlock=some r) W).grown hg (fun r hr _=>hr)
 have hS1:∀g t cs fz,W.heap[g]?=some (.cells cs t fz)->vp.ownBlock=some g->t=197:=fun g t cs fz hB hs=>by
  obtain ⟨cs2,hB2⟩:=jg hp.own hs;have hB2:W.heap[g]?=some (.cells cs2 197 (0,0)):=hB2;rw[hB]at hB2;injection hB2 with hB2;injection hB2
 have hlt:∀i,i<w.heap.size->¬vp.ownBlock=some i:=fun i hi hs=>by have:=(hp.lt i hs).1;omega
 have nc:∀g,(∀cs t fz,W.heap[g]?≠some (.cells cs t fz))->¬vp.ownBlock=some g:=fun g hn hs=>by
  obtain ⟨cs2,hB2⟩:=jg hp.own hs;exact hn _ _ _ hB2
 obtain ⟨⟨v1,B1,o1⟩, -,hm,hrow,hno,hdf,hdi,hal,h2⟩:=h;have B2':aG W' (m+1+1) 184 #[v,vp]:=hb.ch c1 fun hs=>absurd (hS1 _ _ _ _ hb hs) (by decide);have hmr:=hm;obtain ⟨D5,l5,q5, -⟩:=hmr;obtain ⟨es5,ck5,si5,se5,c05,hb5, -, -, -,hr5, -⟩:=q5;have hm':=hm.ch c1 (nc _ (fun _ _ _ e=>by rw[hb5]at e;cases e)) (nc _ (fun _ _ _ e=>by rw[hr5]at e;cases e));have o1':=o1.ch c1 (fun g t cs fz hB hs e=>absurd (hS1 _ _ _ _ hB hs) (by rw[e];decide)) hlt;have hs':=hs.ch c1 (fun g hg hs2=>by obtain ⟨cs,hB⟩:=jg hs.own hg;exact absurd (hS1 _ _ _ _ hB hs2) (by decide)) hlt;have Uy:=(c1.block _ (Array.getElem?_eq_some_iff.1 hdf).1 (nc _ (fun _ _ _ e=>by rw[hdf]at e;cases e))).trans hdf
 have hrow':∀t v,fC t->f t=some v->∃A c,v=.slice A (dB t 0 gs).length c/\Rd W' (fun k=>∃cs,aG W' k 3 cs) 1 A (dB t 0 gs).length (ints (zl (dB t 0 gs)))/\dB t 0 gs≠[]:=fun t v ht hv=>by
  obtain ⟨A2,c2,e2,hR3,hne2⟩:=hrow t v ht hv;have h5:=hR3.ch (by decide) c1 (fun k _ hk hs=>by obtain ⟨cs,hB⟩:=hk;exact absurd (hS1 _ _ _ _ hB hs) (by decide));exact ⟨A2,c2,e2,h5.more fun k hk=>by obtain ⟨cs,hB⟩:=hk;exact ⟨cs,hB.ch c1 fun hs=>absurd (hS1 _ _ _ _ hB hs) (by decide)⟩,hne2⟩
 have c2:Ch (· =m+1+1) W' (W'.setCell ⟨m+1+1,1,none⟩ Xb):=Ch.setCell (Ch.refl (· =m+1+1) _) (p:=⟨m+1+1,1,none⟩) (fun _=>rfl) _
 have hS2:∀g t cs fz,W'.heap[g]?=some (.cells cs t fz)->g=m+1+1->t=184:=fun g t cs fz hB e=>by
  subst e;have h2:W'.heap[m+1+1]?=some (.cells #[v,vp] 184 (0,0)):=B2';rw[hB]at h2;injection h2 with h2;injection h2
 have nc2:∀g,(∀cs t fz,W'.heap[g]?≠some (.cells cs t fz))->¬g=m+1+1:=fun g hn e=>by subst e;exact hn _ _ _ B2'
 have K_:∀i,i<w.heap.size->¬i=m+1+1:=fun i hi e=>by omega
 have B1':=B1.ch c1 fun hs=>absurd (hS1 _ _ _ _ B1 hs) (by decide);have hmr':=hm';obtain ⟨D6,l6,q6, -⟩:=hmr';obtain ⟨es6,ck6,si6,se6,c06,hb6, -, -, -,hr6, -⟩:=q6;refine ⟨⟨v1,B1'.ch c2 fun e=>absurd (hS2 _ _ _ _ B1' e) (by decide),o1'.ch c2 (fun g t cs fz hB hs e=>absurd (hS2 _ _ _ _ hB hs) (by rw[e];decide)) K_⟩,⟨v,Xb,by simpa using B2'.aS 1 Xb,hs'.ch c2 (fun g hg e=>?_) K_,o.ch c2 (fun g hg e=>?_) K_⟩,hm'.ch c2 (nc2 _ (fun _ _ _ e=>by rw[hb6]at e;cases e)) (nc2 _ (fun _ _ _ e=>by rw[hr6]at e;cases e)),fun t v' ht hv=>?_,hno,(c2.block _ (Array.getElem?_eq_some_iff.1 Uy).1 (nc2 _ (fun _ _ _ e=>by rw[Uy]at e;cases e))).trans Uy,hdi,hal,h2⟩
 ·obtain ⟨cs,hB⟩:=jg hs'.own hg
  exact absurd (hS2 _ _ _ _ hB e) (by decide)
 ·obtain ⟨cs,hB⟩:=jg o.own hg
  exact absurd (hS2 _ _ _ _ hB e) (by decide)
 ·obtain ⟨A2,c3,e2,hR3,hne2⟩:=hrow' t v' ht hv
  have h5:=hR3.ch (by decide) c2 (fun k _ hk hs=>by obtain ⟨cs,hB⟩:=hk;exact absurd (hS2 _ _ _ _ hB hs) (by decide));exact ⟨A2,c3,e2,h5.more fun k hk=>by obtain ⟨cs,hB⟩:=hk;exact ⟨cs,hB.ch c2 fun hs=>absurd (hS2 _ _ _ _ hB hs) (by decide)⟩,hne2⟩
end
section
variable {P : Program} {ops : Array Oper} {rest : List Oper} {o : Oper} {a : Act} {Q : Exit → Act → World → Prop} {w w' : World}
theorem oJ (hg:o.guard=none) (m:Operand) (t:TypeId) (hop:o.op=Op.range t m) {mv v:Value} (hm:a.eval m=mv) (hrun:(Instr.range t mv).run P w=.ok v w') (h:wpList P ops Q rest (a.put o.dst v) w'):wpList P ops Q (o::rest) a w:=by
 refine wpList_plain hg fun K hK=>?_;unfold Oper.wp;simp[execOp,hop,hm,hrun,Result.andThen];exact hK _ _ h
theorem z2R (hg:o.guard=none) (it:Operand) (hop:o.op=Op.next it false) {iv v:Value} (hi:a.eval it=iv) (hrun:(Instr.next iv false o.type).run P w=.ok v w') (h:wpList P ops Q rest (a.put o.dst v) w'):wpList P ops Q (o::rest) a w:=by
 refine wpList_plain hg fun K hK=>?_;unfold Oper.wp;simp[execOp,hop,hi,hrun,Result.andThen];exact hK _ _ h
theorem vK (hg:o.guard=none) (s x:Operand) (t:TypeId) (hop:o.op=Op.call { callee:=Callee.builtin Builtin.append,args:= #[s,x],argTypes:= #[t,t]}) {v y v':Value} (hs:a.eval s=v) (hx:a.eval x=y) (hrun:(Builtin.append_ #[t,t] o.type #[v,y]).run P w=.ok v' w')
 (h:wpList P ops Q rest (a.put o.dst v') w'):wpList P ops Q (o::rest) a w:=by
 refine wpList_plain hg fun K hK=>?_;unfold Oper.wp;simp[execOp,hop,resolve,invoke,builtin,hs,hx,hrun,Result.andThen];exact hK _ _ h
end
def Zk (x:PV):Array Value:= #[.string x.text,.slice x.A x.gs.length x.c]
theorem Rd.Xm (w:World) (x:PV):Rd (w.alloc (.cells (Zk x) 197)) (fun k=>k=w.heap.size) 2 (some ⟨w.heap.size,0,none⟩) 1 (qJ [x]):=by
 have h:=Rd.lit w (Zk x) 197 (0,0);refine ⟨by simp[qJ,PV.cs],fun _=>?_⟩;obtain ⟨ad,e,hD,hc⟩:=h.2 (by simp[Zk]);exact ⟨ad,e,hD,fun j u hu=>hc j u (by simpa [qJ,PV.cs,Zk]using hu)⟩
theorem OT (l:List PV):∀u∈qJ l,u.oneCell'=true:=by
 intro u hu;obtain ⟨x,_,hx⟩:=List.mem_flatMap.1 hu;simp[PV.cs]at hx;rcases hx with rfl|rfl<;>rfl
theorem JF (l:List PV) (x:PV):qJ (l++[x])=qJ l++qJ [x]:=by simp[qJ]
theorem GZ {g:List aC} (h:∀x∈g,CU x):0<=NQ g/\NQ g<=1099511627775:=by
 unfold NQ;cases e:g.head? with
 |none=>simp
 |some x=>
  have:=Rn (h x (List.mem_of_mem_head? e)).1;simp only;omega
theorem Kz {g:List aC} (h:∀x∈g,CU x):0<=lastT g/\lastT g<=1099511627775:=by
 unfold lastT;cases e:g.getLast? with
 |none=>simp
 |some x=>
  have:=Rn (h x (List.mem_of_mem_getLast? e)).1;simp only;omega
theorem vW:∀{gs:List (List aC)} {a:Nat},(∀g∈gs,eF g)->∀s∈sF a gs,(0<=s.place/\s.place<=((a+(cZ gs).length:Nat):Int))/\(0<=s.size/\s.size<=(((cZ gs).length:Nat):Int))/\(0<=s.rows/\s.rows<=256)/\(0<=s.lo/\s.lo<=1099511627775)/\(0<=s.hi/\s.hi<=1099511627775)
 |[],_,_,s,hs=>by cases hs
 |g::gs,a,h,s,hs=>by
  have hg:=h g List.mem_cons_self;have e:(cZ (g::gs)).length=(iE g).length+(cZ gs).length:=(by simp[cZ]);rw[sF]at hs;rcases List.mem_cons.1 hs with rfl|hs
  ·have h1:=GZ hg.row
   have h2:=Kz hg.row;have h3:=hg.few;rw[e];refine ⟨⟨?_,?_⟩,⟨?_,?_⟩,⟨?_,?_⟩,h1,h2⟩<;>simp only<;>omega
  ·obtain ⟨h1,h2,h3⟩:=vW (fun x hx=>h x (List.mem_cons_of_mem _ hx)) s hs
   rw[e];exact ⟨⟨h1.1,by omega⟩,⟨h2.1,by omega⟩,h3⟩
theorem qB {gs:List (List aC)} (h:∀g∈gs,eF g) (hb:(cZ gs).length<=10000000000):∀s∈sF 5 gs,s.fit:=fun s hs=>by
 obtain ⟨h1,h2,h3,h4,h5⟩:=vW h s hs;unfold aW.fit;omega
theorem z38 {α:Type} {f:α->List Nat} {c:Nat}:∀{l:List α},(∀x∈l,(f x).length<=c)->(l.flatMap f).length<=c * l.length
 |[],_=>by simp
 |x::l,h=>by
  have h1:=z38 (l:=l) fun y hy=>h y (List.mem_cons_of_mem _ hy);have h2:=h x List.mem_cons_self;rw[List.flatMap_cons,List.length_append,List.length_cons,Nat.mul_succ];omega
theorem KT {ss:List aW} {ps:List PostE} (hs:∀s∈ss,s.fit) (hp:∀p∈ps,p.text.size<=1024/\p.gs.length<=2048/\∀g∈p.gs,g<=1000000) (h1:ss.length<=2048) (h2:ps.length<=2048):(iV ss ps).length<=100000000:=by
 have a1:=z38 (f:=iI) (c:=50) (l:=ss) fun s hs'=>by
  obtain ⟨b1,b2,b3,b4,b5⟩:=hs s hs';have c1:=(z08 (n:=s.place.toNat) (by omega)).2;have c2:=(z08 (n:=s.size.toNat) (by omega)).2;have c3:=(z08 (n:=s.rows.toNat) (by omega)).2;have c4:=(z08 (n:=s.lo.toNat) (by omega)).2;have c5:=(z08 (n:=s.hi.toNat) (by omega)).2;unfold iI;simp only[List.length_append];omega
 have a2:=z38 (f:=fE) (c:=22000) (l:=ps) fun p hp'=>by
  obtain ⟨b1,b2,b3⟩:=hp p hp';have c1:=(z08 (n:=p.text.size) (by omega)).2;have c2:=(z08 (n:=p.gs.length) (by omega)).2;have c3:=z38 (f:=aB) (c:=10) (l:=p.gs) fun g hg=>(z08 (n:=g) (by have:=b3 g hg;omega)).2;unfold fE;simp only[List.length_append,Ob];omega
 have a3:=(z08 (n:=ss.length) (by omega)).2;have a4:=(z08 (n:=ps.length) (by omega)).2;unfold iV;simp only[List.length_append];omega
theorem Ea {gs:List (List aC)} {t:ByteArray}:dB t 0 gs≠[]↔t∈gs.flatten.map cu:=by
 constructor
 ·intro h
  obtain ⟨g,hg⟩:=List.exists_mem_of_ne_nil _ h;unfold dB at hg;simp only[List.mem_map,List.mem_filter,List.mem_range,Nat.add_zero]at hg;obtain ⟨i,⟨hi,ha⟩,rfl⟩:=hg;obtain ⟨x,hx,e⟩:=List.any_eq_true.1 ha;have e:=of_decide_eq_true e;refine List.mem_map.2 ⟨x,List.mem_flatten.2 ⟨gs.getD i [],?_,hx⟩,e⟩;simp only[List.getD,List.getElem?_eq_getElem hi,Option.getD_some];exact List.getElem_mem hi
 ·intro h hn
  obtain ⟨x,hx,e⟩:=List.mem_map.1 h;obtain ⟨g,hg,hxg⟩:=List.mem_flatten.1 hx;obtain ⟨i,hi,rfl⟩:=List.mem_iff_getElem.1 hg
  have:i∈dB t 0 gs:=by
   unfold dB;simp only[List.mem_map,List.mem_filter,List.mem_range,Nat.add_zero];refine ⟨i,⟨hi,List.any_eq_true.2 ⟨x,?_,decide_eq_true e⟩⟩,rfl⟩;simp only[List.getD,List.getElem?_eq_getElem hi,Option.getD_some];exact hxg
  rw[hn]at this;cases this
theorem qX {gs:List (List aC)} {t:ByteArray} (h:dB t 0 gs≠[]):t.size<=242:=by
 obtain ⟨x,_,e⟩:=List.mem_map.1 (Ea.1 h);rw[←e];exact WW x
theorem NP (l:List Nat):(zl l).map Int.toNat=l:=by simp[zl,Function.comp_def]
theorem JJ {w W:World} {m Dk r n cnt:Nat} {gs:List (List aC)} {X:List Nat} {ss:List aW} {f:ByteArray->Option Value} {mem pm:List PV} (h:iq w m Dk gs X ss f r n mem mem cnt W)
 (hend:∀t,fC t->f t≠none->∃x∈mem,x.text=t) (hp:pm.Perm mem) (hs:pm.Pairwise (fun x y=>ltOf yw y x=false)):pm.map PV.e=NR gs:=by
 have hall:∀x∈pm,fC x.text/\x.gs=zl (dB x.text 0 gs)/\dB x.text 0 gs≠[]:=fun x hx=>by
  obtain ⟨a1,a2,a3⟩:=h.all x (hp.mem_iff.1 hx);obtain ⟨_,_,_,_,a4⟩:=h.rows x.text _ a1 a2;exact ⟨a1,a3,a4⟩
 have htx:pm.map (fun x=>x.text)=aY (gs.flatten.map cu):=by
  have hnd:(pm.map fun x=>x.text).Nodup:=(hp.map fun x=>x.text).nodup_iff.2 h.dif;refine Dz (lt:=fun a b:ByteArray=>a.data.toList<b.data.toList) (fun x=>List.lt_irrefl _) (fun x y z=>List.lt_trans) ?_ (ZP _) (fun t=>?_)
  ·rw[List.pairwise_map]
   have h1:pm.Pairwise fun x y=>x.text≠y.text:=by
    have:=List.pairwise_map.1 hnd;exact this
   refine List.Pairwise.imp₂ (fun x y hxy hne=>?_) hs h1;rw[kT,←Bool.not_eq_true,rU]at hxy;by_cases h6:x.text.data.toList<y.text.data.toList
   ·exact h6
   ·have h5:x.text.data.toList=y.text.data.toList:=List.le_antisymm (List.not_lt.1 hxy) (List.not_lt.1 h6)
    exact absurd (by cases hx:x.text;cases hy:y.text;rw[hx,hy]at h5;congr 1;exact Array.toList_inj.1 h5) hne
  ·rw[Q_,←Ea]
   constructor
   ·intro ht
    obtain ⟨x,hx,rfl⟩:=List.mem_map.1 ht;exact (hall x hx).2.2
   ·intro ht
    have hok:fC t:=by have:=qX ht;show _<=maxLen;unfold maxLen;omega
    obtain ⟨x,hx,e⟩:=hend t hok (fun e=>ht (h.non t hok e));exact List.mem_map.2 ⟨x,hp.mem_iff.2 hx,e⟩
 unfold NR;rw[←htx,List.map_map];apply List.map_congr_left
 intro x hx;unfold PV.e;simp only[Function.comp];rw[(hall x hx).2.1,NP]
theorem AB (gs:List (List aC)):(NR gs).length<=gs.flatten.length:=by
 unfold NR;rw[List.length_map];have:=z16 (gs.flatten.map cu);rw[List.length_map]at this;exact this
def RH (Q:Exit->Act->World->Prop):Exit->Act->World->Prop
 | .normal,a,w=>Q .normal a w
 |_,_,_=>False
theorem I_ {P:Program} {c:Code} {Q:Exit->Act->World->Prop} {a:Act} {w:World} (h:c.wp P (RH Q) a w):c.wp P Q a w:=
 wp_mono h fun e a w hq=>by cases e<;>first|exact hq|exact hq.elim
theorem JM {w:World} {base:Nat} {e:TypeId} {size n:Nat} {v:Value} {xs:List Value} (h:w.ownsRow base e size v n xs) {g:Nat} {t:TypeId} {cs:Array Value} {fz:Nat×Nat} (hb:w.heap[g]?=some (.cells cs t fz)) (hg:v.ownBlock=some g):t=e:=by
 obtain ⟨cs2,hB2⟩:=jg h hg;have hB2:w.heap[g]?=some (.cells cs2 e (0,0)):=hB2;rw[hb]at hB2;injection hB2 with hB2;injection hB2
theorem uf {w:World} {base:Nat} {e:TypeId} {size n:Nat} {v:Value} {xs:List Value} (h:w.ownsRow base e size v n xs) {g:Nat} (hd:∀cs t fz,w.heap[g]?≠some (.cells cs t fz)):¬v.ownBlock=some g:=fun hg=>by
 obtain ⟨cs2,hB2⟩:=jg h hg;exact hd _ _ _ hB2
theorem LD {p n:Nat} (hp:1<=p) (hn:1<=n):(n+p-1) / p<=n:=by
 apply Nat.div_le_of_le_mul
 obtain ⟨q,rfl⟩:∃q,p=q+1:=⟨p-1,by omega⟩;obtain ⟨k,rfl⟩:∃k,n=k+1:=⟨n-1,by omega⟩;have:(q+1) * (k+1)=q * k+q+k+1:=by rw[Nat.add_mul,Nat.mul_add];omega
 omega
theorem FT {w W W':World} {m Dk r n cnt:Nat} {gs:List (List aC)} {X:List Nat} {ss:List aW} {f:ByteArray->Option Value} {mem pm:List PV} {S:Nat->Prop} (h:iq w m Dk gs X ss f r n mem mem cnt W) (hp:pm.Perm mem) (c:Ch S W W') (hS:∀g cs,aG W g 3 cs->¬S g) (hg:gs.length<=2048):
 ∀x∈pm,x.fit W' (· <W'.heap.size):=fun x hx=>by
 obtain ⟨a1,a2,a3⟩:=h.all x (hp.mem_iff.1 hx);obtain ⟨A,c2,e,hR,hne⟩:=h.rows x.text _ a1 a2;have hzl:(zl (dB x.text 0 gs)).length=(dB x.text 0 gs).length:=List.length_map _;have hl:x.gs.length=(dB x.text 0 gs).length:=by rw[a3,hzl]
 rw[hl]at e;injection e with e1 _ e2;have h1:=(hR.ch (by decide) c (fun k _ hk=>by obtain ⟨cs,hB⟩:=hk;exact hS k cs hB)).below_ (by decide);have hhl:=xK (gs:=gs) x.text;refine ⟨?_,by have:=qX hne;omega,by omega,fun g hgm=>?_⟩
 ·rw[e1,hl,a3]
  exact h1
 ·rw[a3]at hgm
  obtain ⟨z,hz,rfl⟩:=List.mem_map.1 hgm;have:=Eb z hz;omega
end Go.Proofs.YtdbfejfhpkakhaaGreat
