/- Contracts and plain laws that the last text rests on. Conditions: each theorem states its own. -/
import Derived.Test.YtdbfejfhpkakhaaGreatKKd2Q22
import Derived.Test.YtdbfejfhpkakhaaGreatKKd2Q15
import Derived.Test.YtdbfejfhpkakhaaGreatKKd2PbMapV
import Derived.Test.YtdbfejfhpkakhaaGreatKKd2Q24
import Derived.Test.YtdbfejfhpkakhaaGreatKKd2Q23
import Derived.RangeFuncWrites
import Derived.Maps.GroupsBeside
import Derived.ArgAppend
set_option maxRecDepth 100000
set_option linter.unusedVariables false
set_option linter.unusedSimpArgs false
namespace Go.Proofs.YtdbfejfhpkakhaaGreat
open Go.RowKit Go.Maps Go.WideMaps Go.ChangeShapes
def Lj (t:ByteArray) (g:List aC):Bool:=g.any fun x=>decide (cu x=t)
theorem xJ (t:ByteArray) (g:List aC):Lj t g=true↔t∈aY (g.map cu):=by
 rw[Q_];unfold Lj;simp[List.any_eq_true]
theorem GX {gs:List (List aC)} {m:Nat} (t:ByteArray) (h:m<gs.length):dB t 0 (gs.take (m+1))=dB t 0 (gs.take m)++(if Lj t gs[m]=true then [m] else []):=by
 have hl1:(gs.take (m+1)).length=m+1:=by rw[List.length_take];omega
 have hl2:(gs.take m).length=m:=by rw[List.length_take];omega
 unfold dB;rw[hl1,hl2,List.range_succ,List.filter_append,List.map_append];congr 1
 ·congr 1
  apply List.filter_congr
  intro i hi;have hi:=List.mem_range.1 hi;simp only[List.getD,List.getElem?_take,if_pos hi,if_pos (show i<m+1 by omega)]
 ·have e:(gs.take (m+1)).getD m []=gs[m]:=by simp[List.getD,h]
  simp only[List.filter_cons,List.filter_nil,e];unfold Lj;split<;>simp
theorem Eb {gs:List (List aC)} {t:ByteArray}:∀g∈dB t 0 gs,g<gs.length:=by
 intro g hg;unfold dB at hg;simp only[List.mem_map,List.mem_filter,List.mem_range,Nat.add_zero]at hg;obtain ⟨a,⟨h,_⟩,rfl⟩:=hg;exact h
theorem xK {gs:List (List aC)} (t:ByteArray):(dB t 0 gs).length<=gs.length:=by
 unfold dB;rw[List.length_map];exact Nat.le_trans (List.length_filter_le _ _) (by simp)
def RN (done:List ByteArray) (t:ByteArray):Bool:=done.any fun x=>decide (x=t)
theorem kN (done:List ByteArray) (t:ByteArray):RN done t=true↔t∈done:=by
 unfold RN;simp[List.any_eq_true]
def dZ (gs:List (List aC)) (k:Nat) (done:List ByteArray) (t:ByteArray):List Nat:=dB t 0 (gs.take k)++(if RN done t=true then [k] else [])
def zx (D:DataW Unit) (gs:List (List aC)) (k:Nat) (done:List ByteArray):Prop:=
 IsMap D/\∀t,fC t->(has D (sL t)=false/\dZ gs k done t=[])∨(D.atKey (sL t) .nil=.slice (lits .i64 (zl (dZ gs k done t))) []/\dZ gs k done t≠[])
theorem zx.start (gs:List (List aC)):zx (.map []) gs 0 []:=⟨isMap_empty,fun t _=>.inl ⟨rfl,by simp[dZ,dB,RN]⟩⟩
section
variable {D : DataW Unit} {gs : List (List aC)} {k : Nat} {done : List ByteArray}
theorem zx.look (h:zx D gs k done) {t:ByteArray} (ht:fC t) {w:World} {base:Nat} {v:Value} {zs:List Int} (ho:w.ownsInts base 3 .i64 v zs) (ha:D.atKey (sL t) .nil=rowDatum .i64 v zs):zs=zl (dZ gs k done t):=by
 rcases h.2 t ht with ⟨h0,h2⟩|⟨h1,_⟩
 ·have h1:D.atKey (sL t) .nil=.nil:=atKey_of_not_has h0 _
  rcases ho.datum (H:=Unit) with ⟨_,h4⟩|h3
  ·rw[h4,h2];rfl
  ·rw[ha,h3]at h1;cases h1
 ·rcases ho.datum (H:=Unit) with ⟨h3,_⟩|h3
  ·rw[ha,h3]at h1;cases h1
  ·rw[ha,h3]at h1
   injection h1 with h1;exact wV h1
theorem zx.put (h:zx D gs k done) {t:ByteArray} (ht:fC t) (hno:t∉done) {d:DataW Unit} (hd:d=.slice (lits .i64 (zl (dZ gs k done t)++[(k:Int)])) []):zx (D.put (sL t) d) gs k (done++[t]):=by
 refine ⟨h.1.put _ _,fun u hu=>?_⟩;by_cases e:u=t
 ·subst e
  right
  have e1:dZ gs k (done++[u]) u=dZ gs k done u++[k]:=by
   unfold dZ;rw[if_pos (by rw[kN];simp),if_neg (by rw[kN];exact hno),List.append_nil]
  rw[atKey_put_same h.1 (lT u),hd,e1];exact ⟨by simp[zl],by simp⟩
 ·have e1:dZ gs k (done++[t]) u=dZ gs k done u:=by
   unfold dZ RN;have e2:decide (t=u)=false:=decide_eq_false (Ne.symm e);rw[List.any_append,show ([t].any fun x=>decide (x=u))=false by rw[List.any_cons,e2];rfl,Bool.or_false]
  rw[atKey_put_other (fun e2=>e (lU e2)),has_put_other (fun e2=>e (lU e2)),e1];exact h.2 u hu
theorem Ah (hk:k<gs.length) (t:ByteArray):dZ gs k (aY (gs[k].map cu)) t=dZ gs (k+1) [] t:=by
 unfold dZ;rw[GX t hk];by_cases h:Lj t gs[k]=true
 ·rw[if_pos h,if_pos ((kN _ _).2 ((xJ _ _).1 h))]
  simp[RN]
 ·rw[if_neg h,if_neg (fun h2=>h ((xJ _ _).2 ((kN _ _).1 h2)))]
  simp[RN]
theorem zx.next (hk:k<gs.length) (h:zx D gs k (aY (gs[k].map cu))):zx D gs (k+1) []:=
 ⟨h.1,fun t ht=>by have:=h.2 t ht;rw[Ah hk t]at this;exact this⟩
end
theorem BI {w:World} {base b n:Nat} {D:DataW Unit} (h:w.ownsGroups Tryz.prog 9 base 3 .i64 b n D) {t E:TypeId} (ht:Tryz.prog.underlying t=some (.map 9 E)) (hz:(zeroValue E).run Tryz.prog w=.ok (.slice none 0 0) w):
 ∃f,dY w b n f/\∀s,fC s->(f s=none/\has D (sL s)=false)∨∃v zs,f s=some v/\has D (sL s)=true/\w.ownsInts base 3 .i64 v zs/\D.atKey (sL s) .nil=rowDatum .i64 v zs:=by
 obtain ⟨es,clock,hb,F,hs,rfl, -⟩:=h
 have F':WideElems.Fit Tryz.prog 9 iW es clock:=⟨F.size,F.stamped,fun x hx=>by
  obtain ⟨y,hy⟩:=F.reads x hx;exact ⟨(y.1,.held x.val),by simp[WideElems.rd,WideElems.rd_key hy,iW]⟩⟩
 have hown:w.ownsMap Tryz.prog 9 iW b n (.map ((es.toList.map (WideElems.rg Tryz.prog 9 iW)).foldr DataW.insert [])):=⟨es,clock,hb,F',hs,rfl⟩;generalize hD':(DataW.map ((es.toList.map (WideElems.rg Tryz.prog 9 iW)).foldr DataW.insert []):DataW Value)=D' at hown;generalize hDD:(DataW.map ((es.toList.map (WideElems.rg Tryz.prog 9 (rowElem w base 3 .i64))).foldr DataW.insert []):DataW Unit)=DD
 have key:∀s,fC s->((D'.atKey (sL s) .nil=.nil/\has D' (sL s)=false)/\has DD (sL s)=false)∨
  ∃v zs,((∀zd,D'.atKey (sL s) zd=.held v)/\has D' (sL s)=true)/\has DD (sL s)=true/\w.ownsInts base 3 .i64 v zs/\DD.atKey (sL s) .nil=rowDatum .i64 v zs:=fun s hs=>by
  rcases Maps.fit_look true Tryz.gq ht hz hb F (wC hs) with ⟨r1,n1,a1⟩|⟨e1,y1,m1,k1,r1,p1,a1,_⟩<;>
   rcases Maps.fit_look true Tryz.gq ht hz hb F' (wC hs) with ⟨r2,n2,a2⟩|⟨e2,y2,m2,k2,r2,p2,a2,_⟩
  ·rw[hD']at a2
   rw[hDD]at a1;exact .inl ⟨⟨a2 _,has_false_of_atKey a2⟩,has_false_of_atKey a1⟩
  ·exact absurd k2 (n1 e2 m2)
  ·exact absurd k1 (n2 e1 m1)
  ·rw[r1]at r2
   have hv:e1.val=e2.val:=(by simpa using r2);rw[hD']at a2;rw[hDD]at a1;have h2:=uG p2;subst h2;obtain ⟨zs,ho,rfl⟩:=rowElem_inv p1;exact .inr ⟨e1.val,zs,⟨fun zd=>by rw[a2 zd,hv],has_true_of_atKey a2⟩,has_true_of_atKey a1,ho,a1 _⟩
 refine ⟨fun s=>match D'.atKey (sL s) .nil with| .held v=>some v|_=>none,⟨D',hown,?_,fun s hs=>?_⟩,fun s hs=>?_⟩
 ·rw[←hD'];exact ⟨_,rfl⟩
 ·rcases key s hs with ⟨⟨h1,h2⟩,_⟩|⟨v,zs,⟨h1,h2⟩,_⟩
  ·rw[h2]
   simp only[h1];exact ⟨rfl,fun v hv=>by cases hv⟩
  ·rw[h2]
   simp only[h1];exact ⟨rfl,fun u hu zd=>by injection hu with hu;rw[hu]⟩
 ·rcases key s hs with ⟨⟨h1,h2⟩,h3⟩|⟨v,zs,⟨h1,h2⟩,h5,h3,h4⟩
  ·left
   simp only[h1];exact ⟨trivial,h3⟩
  ·right
   simp only[h1];exact ⟨v,zs,rfl,h5,h3,h4⟩
end Go.Proofs.YtdbfejfhpkakhaaGreat
namespace Go.Proofs.YtdbfejfhpkakhaaGreat
open Go.RowKit Go.Maps
theorem Tryz.KL:(Tryz.prog.info? 191).map (fun i=>(i.zero,i.size,i.bytes))=some (some (.agg #[.int .i64 0,.int .i64 0,.int .i64 0,.int .i64 0,.int .i64 0]),5,40):=by kernel_rfl
theorem Tryz.KN:(Tryz.prog.info? 197).map (fun i=>(i.zero,i.size,i.bytes))=some (some (.agg #[.string ⟨#[]⟩,.slice none 0 0]),2,40):=by kernel_rfl
theorem Tryz.pW (w:World):(zeroValue 195).run Tryz.prog w=.ok (.slice none 0 0) w:=by kernel_rfl
theorem jg {w:World} {base:Nat} {e:TypeId} {size n k:Nat} {v:Value} {xs:List Value} (h:w.ownsRow base e size v n xs) (hk:v.ownBlock=some k):∃cs,aG w k e cs:=by
 rcases h.2 with ⟨rfl,_⟩|⟨g,cap,cur,rfl,_,hh,_⟩
 ·simp[Value.ownBlock]at hk
 ·have:g=k:=by simpa [Value.ownBlock]using hk
  subst this;exact ⟨cur,hh⟩
theorem VO {H:Type} {P:Program} {k:TypeId} {base:Nat} {e:TypeId} {q:IntKind} {b n:Nat} {D:DataW H} {S:Nat->Prop} {w w':World} (h:w.ownsGroups P k base e q b n D) (c:Ch S w w') (hb:¬S b)
 (hrow:∀g cs,base<=g->aG w g e cs->¬S g):w'.ownsGroups P k base e q b n D:=by
 obtain ⟨es,clock,hb1,F,hs,rfl,hbb,hlen,hap⟩:=h;have hblt:=(Array.getElem?_eq_some_iff.1 hb1).1
 have key:∀v zs,w.ownsInts base e q v zs->w'.ownsInts base e q v zs:=fun v zs ho=>⟨z06 ho.1 c (fun g hg=>by
  obtain ⟨cs,hB⟩:=jg ho.1 hg;exact hrow g cs (ho.1.lt g hg).1 hB),ho.2⟩
 have hst:∀x∈es.toList,∀z,rowElem (H:=H) w base e q x.val=some z->rowElem w' base e q x.val=some z:=fun x hx z hz=>by
  obtain ⟨zs,ho,rfl⟩:=rowElem_inv hz;exact rowElem_mk (key _ _ ho)
 obtain ⟨F1,hmap,_⟩:=F.stay hst;refine ⟨es,clock,(c.block b hblt hb).trans hb1,F1,hs,by rw[hmap],hbb,fun x hx zs ho=>?_,hap⟩;obtain ⟨y,hy⟩:=F.reads x hx;obtain ⟨z,hz,_⟩:=WideElems.rd_val hy;obtain ⟨zs0,ho0,_⟩:=rowElem_inv hz;rw[ho.unique (key _ _ ho0)];exact hlen x hx zs0 ho0
theorem z29 {H:Type} {P:Program} {k:TypeId} {base:Nat} {e:TypeId} {q:IntKind} {b n:Nat} {D:DataW H} {S No:Nat->Prop} {w w':World} (h:w.Shuns b No) (g:w.ownsGroups P k base e q b n D) (c:Ch S w w') (hb:¬S b):w'.Shuns b No:=fun es clock hb2=>by
 obtain ⟨es1,clock1,hb1, -⟩:=g;exact h es clock ((c.block b (Array.getElem?_eq_some_iff.1 hb1).1 hb).symm.trans hb2)
theorem xP {H:Type} {P:Program} {k t E:TypeId} {base:Nat} {e:TypeId} {q:IntKind} {b n:Nat} {D:DataW H} {w:World} {No:Nat->Prop} {key:Value} {kl:Lit} (h:w.ownsGroups P k base e q b n D) (K:Keyed P k) (ht:P.underlying t=some (.map k E)) (hz:(zeroValue E).run P w=.ok (.slice none 0 0) w) (hn:n<maxLen) (hkey:keyOf P k key=some kl) (hS:w.Shuns b No):
 ∃v zs,(Instr.lookup t (.map (some b)) key false).run P w=.ok v w/\D.atKey kl .nil=rowDatum q v zs/\w.ownsInts base e q v zs/\zs.length<=n/\(∀g,v.ownBlock=some g->¬No g)/\
  ∀(w1:World) (v':Value) (zs':List Int),w.grownBy w1 v.ownBlock->w1.ownsInts base e q v' zs'->zs'.length<=n+1->(v'.ownBlock=v.ownBlock∨∃g,v'.ownBlock=some g/\w.heap.size<=g)->(∀g,v'.ownBlock=some g->¬No g)->
   ∃w2,(Instr.mapUpdate t (.map (some b)) key v').run P w1=.ok () w2/\w2.ownsGroups P k base e q b (n+1) (D.put kl (rowDatum q v' zs'))/\w1.grownBy w2 (some b)/\w2.Shuns b No:=by
 obtain ⟨v,zs,hrun,hat,hoi,hzl,hback⟩:=h.at K ht hz hn hkey;refine ⟨v,zs,hrun,hat,hoi,hzl,?_,fun w1 v' zs' hgr hown hl hloc hno=>?_⟩
 ·obtain ⟨es,clock,hb,F,_⟩:=h
  rcases Maps.fit_look false K ht hz hb F hkey with ⟨hrun',_,_⟩|⟨e0,y,hm0,_,hrun',_,_,_⟩
  ·rw[hrun]at hrun'
   obtain rfl:v=.slice none 0 0:=(by simpa using hrun');intro g hg';cases hg'
  ·rw[hrun]at hrun'
   obtain rfl:v=e0.val:=(by simpa using hrun');exact fun g hg'=>hS es clock hb e0 hm0 g hg'
 ·obtain ⟨w2,hrun2,r1,r2⟩:=hback w1 v' zs' hgr hown hl hloc
  refine ⟨w2,hrun2,r1,r2,?_⟩;obtain ⟨es,clock,hb,F,hs,_,hbb,_⟩:=h;have hblt:b<w.heap.size:=(Array.getElem?_eq_some_iff.1 hb).1;have hb1:w1.heap[b]?=some (.map es clock):=(hgr.block b hblt (fun e1=>by have:=(hoi.1.lt b e1.symm).1;omega)).trans hb;obtain ⟨es',clock',hb2,hwho⟩:=stored_who K ht hb1 F (Nat.lt_of_le_of_lt hs hn) hkey hrun2;intro es2 clock2 hb2' y hy g hyg;obtain ⟨rfl,rfl⟩:es'=es2/\clock'=clock2:=by rw[hb2]at hb2';simpa using hb2'
  rcases hwho y hy with ⟨hy0,_⟩|⟨_,hval⟩
  ·exact hS es clock hb y hy0 g hyg
  ·exact hno g (hval▸hyg)
def jE (w W:World) (v:Value) (xs:List Nat):Prop:=aF w W 5 1 v xs.length (bl xs)∨∃(g:Nat) (cs:Array Value) (fz:Nat×Nat),v=.slice (some ⟨g,0,none⟩) xs.length xs.length/\W.heap[g]?=some (.cells cs 5 fz)/\cs.toList=bl xs/\w.heap.size<=g/\Nx w W
def Shun (W:World) (S:Nat->Prop) (T:TypeId->Prop):Prop:=∀g t cs fz,W.heap[g]?=some (.cells cs t fz)->S g->¬T t
theorem jE.ch {w W W':World} {v:Value} {xs:List Nat} {S:Nat->Prop} (h:jE w W v xs) (c:Ch S W W') (hS:Shun W S (· =5)) (hw:∀i,i<w.heap.size->¬S i):jE w W' v xs:=by
 rcases h with o|⟨g,cs,fz,e1,e2,e3,e4,e5⟩
 ·left
  exact o.ch c (fun k hk hs=>by obtain ⟨cs,hB⟩:=jg o.own hk;exact hS k _ cs (0,0) hB hs rfl) hw
 ·right
  exact ⟨g,cs,fz,e1,(c.block g (Array.getElem?_eq_some_iff.1 e2).1 fun hs=>hS g _ cs fz e2 hs rfl).trans e2,e3,e4,e5.trans c fun i hi hs=>absurd hs (hw i hi)⟩
theorem jE.nx {w W:World} {v:Value} {xs:List Nat} (h:jE w W v xs):Nx w W:=by
 rcases h with o|⟨g,cs,fz,e1,e2,e3,e4,e5⟩
 ·exact o.nx
 ·exact e5
theorem jE.lt {w W:World} {v:Value} {xs:List Nat} (h:jE w W v xs):∀k,v.ownBlock=some k->w.heap.size<=k/\k<W.heap.size/\∃cs fz,W.heap[k]?=some (.cells cs 5 fz):=by
 intro k hk;rcases h with o|⟨g,cs,fz,rfl,e2,e3,e4,e5⟩
 ·obtain ⟨cs,hB⟩:=jg o.own hk
  exact ⟨(o.lt k hk).1,(o.lt k hk).2,cs,(0,0),hB⟩
 ·have:g=k:=by simpa [Value.ownBlock]using hk
  subst this;exact ⟨e4,(Array.getElem?_eq_some_iff.1 e2).1,cs,fz,e2⟩
theorem jE.app {w W:World} {v:Value} {xs ys:List Nat} (h:jE w W v xs) {D:Nat->Prop} {A:Option Addr} {m c:Nat} (hr:Rd W D 1 A m (bl ys)) (hm:ys.length=m) (h0:0<m) (hs:xs.length+m<=100000000000) (ty:TypeId):
 ∃v' w',(Builtin.append_ #[47,47] ty #[v,.slice A m c]).run Tryz.prog W=.ok v' w'/\aF w w' 5 1 v' (xs++ys).length (bl (xs++ys))/\W.grownBy w' v.ownBlock:=by
 obtain ⟨i0,hi0,hz0,hz1,hz2⟩:=info_parts Tryz.info5;obtain ⟨ad,rfl,hD,hc⟩:=hr.2 h0;have hbl:bl (xs++ys)=bl xs++bl ys:=by simp[bl]
 have hlen:(xs++ys).length=xs.length+m:=by rw[List.length_append,hm]
 rw[hbl,hlen];have hnl:(bl ys).length=m * 1:=by rw[Rh,hm,Nat.mul_one]
 rcases h with o|⟨g,cs,fz,rfl,e2,e3,e4,e5⟩
 ·obtain ⟨v',w',hrun,r1,r2,r3⟩:=run_append_own (P:=Tryz.prog) W w.heap.size 47 ty 5 i0 _ 1 1 Tryz.underlying47 hi0 hz0 hz1 hz2 rfl (by decide) v xs.length (bl xs) o.own ad m c (bl ys) hnl hc (jk _) (by simp only[maxLen];omega) (by omega) o.nx.size
  exact ⟨v',w',hrun,⟨r1,o.nx.grown r2 fun k hk hlt=>by have:=o.lt k hk;omega⟩,r2⟩
 ·have hcell:∀j u,(bl xs)[j]?=some u->W.cell? ((⟨g,0,none⟩:Addr).add j)=some u:=fun j u hu=>by
   have hadd:(⟨g,0,none⟩:Addr).add j=⟨g,j,none⟩:=by unfold Addr.add;split<;>simp_all
   rw[hadd,cell_of_row W g j cs 5 fz e2];rw[←e3]at hu;simpa using hu
  obtain ⟨v',w',hrun,r1,r2⟩:=run_append_arg_grows (P:=Tryz.prog) W 47 ty 5 i0 _ 1 1 Tryz.underlying47 hi0 hz0 hz1 hz2 rfl (by decide) ⟨g,0,none⟩ xs.length xs.length (bl xs) (by rw[Rh,Nat.mul_one]) hcell ad m c (bl ys) hnl hc (by omega) (by simp only[maxLen];omega) (by omega);exact ⟨v',w',hrun,⟨su r1 e5.size,e5.grown r2 fun k hk _=>by cases hk⟩,r2.but _⟩
structure dJ (w:World) (B b1 b2 b3 b4:Nat) (gs:List (List aC)) (X:List Nat) (ss:List aW) (k:Nat) (done:List ByteArray) (W:World):Prop where
 out:∃v,aG W b1 47 #[v]/\jE w W v X
 idx:∃v,aG W b2 184 #[v,.slice none 0 0]/\aF w W 191 5 v ss.length (spl ss)
 box:aG W b4 185 #[.map (some b3)]
 grp:∃(D:DataW Unit) (n:Nat),W.ownsGroups Tryz.prog 9 (b3+1) 3 .i64 b3 n D/\zx D gs k done/\n<=2048 * k+done.length/\W.Shuns b3 (· <B)
def BldT (t:TypeId):Prop:=t=47∨t=5∨t=184∨t=191∨t=185∨t=3
section
variable {w W W' : World} {B b1 b2 b3 b4 : Nat} {gs : List (List aC)} {X : List Nat} {ss : List aW} {k : Nat} {done : List ByteArray}
theorem dJ.ch {S:Nat->Prop} (h:dJ w B b1 b2 b3 b4 gs X ss k done W) (c:Ch S W W') (h3:¬S b3) (hw:∀i,i<w.heap.size->¬S i) (hS:Shun W S BldT):dJ w B b1 b2 b3 b4 gs X ss k done W':=by
 obtain ⟨⟨v1,B1,o1⟩,⟨v2,B2,o2⟩,B4,D,n,g1,g2,g3,g4⟩:=h;refine ⟨⟨v1,B1.ch c fun hs=>hS _ _ _ _ B1 hs (.inl rfl),o1.ch c (fun g t cs fz hg hs e=>hS g t cs fz hg hs (.inr (.inl e))) hw⟩,⟨v2,B2.ch c fun hs=>hS _ _ _ _ B2 hs (.inr (.inr (.inl rfl))),o2.ch c (fun g hg hs=>?_) hw⟩,B4.ch c fun hs=>hS _ _ _ _ B4 hs (.inr (.inr (.inr (.inr (.inl rfl))))),D,n,VO g1 c h3 (fun g cs _ hB hs=>hS _ _ _ _ hB hs (.inr (.inr (.inr (.inr (.inr rfl)))))),g2,g3,z29 g4 g1 c h3⟩;obtain ⟨cs,hB⟩:=jg o2.own hg;exact hS _ _ _ _ hB hs (.inr (.inr (.inr (.inl rfl))))
theorem dJ.tr (h:dJ w B b1 b2 b3 b4 gs X ss k done W) (c:Nx W W'):dJ w B b1 b2 b3 b4 gs X ss k done W':=
 h.ch c (fun hf=>hf) (fun _ _ hf=>hf) (fun _ _ _ _ _ hf=>hf.elim)
theorem dJ.nx (h:dJ w B b1 b2 b3 b4 gs X ss k done W):Nx w W:=by
 obtain ⟨v1,B1,o1⟩:=h.out;exact o1.nx
theorem dJ.from (h:dJ w B b1 b2 b3 b4 gs X ss k done W) {B':Nat} (h3:b3<B') (hB:w.heap.size<=B') {row:Option Nat} (hg:W.grownBy W' row) (hr:∀r,row=some r->B'<=r/\∃o:Obj,W.heap[r]?=some o/\o.isCells=false):dJ w B b1 b2 b3 b4 gs X ss k done W':=by
 refine h.ch ((Ch.refl (fun r=>row=some r) W).grown hg (fun r hr _=>hr)) (fun e=>?_) (fun i hi e=>?_) (fun g t cs fz hBk e=>?_)
 ·have:=(hr _ e).1;omega
 ·have:=(hr _ e).1;omega
 ·obtain ⟨o,h1,h2⟩:=(hr _ e).2
  rw[hBk]at h1;injection h1 with h1;rw[←h1]at h2;cases h2
theorem dJ.put (h:dJ w B b1 b2 b3 b4 gs X ss k done W) {v v':Value} {X':List Nat} (hb:aG W b1 47 #[v]) (hv:jE w W v X) (hg:W.grownBy W' v.ownBlock) (o:aF w W' 5 1 v' X'.length (bl X')) (h1:w.heap.size<=b1):dJ w B b1 b2 b3 b4 gs X' ss k done (W'.setCell ⟨b1,0,none⟩ v'):=by
 obtain ⟨-,⟨v2,B2,o2⟩,B4,D,n,g1,g2,g3,g4⟩:=h;have c1:Ch (fun r=>v.ownBlock=some r) W W':=(Ch.refl _ W).grown hg (fun r hr _=>hr)
 have hS1:Shun W (fun r=>v.ownBlock=some r) (· ≠5):=fun g t cs fz hB hs hne=>by
  obtain ⟨_,_,cs2,fz2,hB2⟩:=hv.lt g hs;rw[hB]at hB2;injection hB2 with hB2;injection hB2 with _ e;exact hne e
 have hlt:∀g,v.ownBlock=some g->w.heap.size<=g:=fun g hg=>(hv.lt g hg).1;have B1':aG W' b1 47 #[v]:=hb.ch c1 fun hs=>hS1 _ _ _ _ hb hs (by decide);have B2':=B2.ch c1 fun hs=>hS1 _ _ _ _ B2 hs (by decide);have B4':=B4.ch c1 fun hs=>hS1 _ _ _ _ B4 hs (by decide);have o2':=o2.ch c1 (fun g hg hs=>by obtain ⟨cs,hB⟩:=jg o2.own hg;exact hS1 _ _ _ _ hB hs (by decide)) (fun i hi hs=>by have:=hlt i hs;omega)
 have hb31:¬v.ownBlock=some b3:=fun hs=>by
  obtain ⟨_,_,cs2,fz2,hB2⟩:=hv.lt _ hs;obtain ⟨es,clock,hb3, -⟩:=g1;rw[hb3]at hB2;cases hB2
 have g1':=VO g1 c1 hb31 (fun g cs _ hB hs=>hS1 _ _ _ _ hB hs (by decide));have c2:Ch (· =b1) W' (W'.setCell ⟨b1,0,none⟩ v'):=Ch.setCell (Ch.refl (· =b1) _) (p:=⟨b1,0,none⟩) (fun _=>rfl) _
 have hS2:∀g t cs,aG W' g t cs->g=b1->t=47:=fun g t cs hB e=>by
  subst e;have h1:W'.heap[g]?=some (.cells cs t (0,0)):=hB;have h2:W'.heap[g]?=some (.cells #[v] 47 (0,0)):=B1';rw[h1]at h2;injection h2 with h2;injection h2
 have hb32:¬b3=b1:=fun e=>by
  obtain ⟨es,clock,hb3, -⟩:=g1';have h2:W'.heap[b1]?=some (.cells #[v] 47 (0,0)):=B1';rw[←e,hb3]at h2;cases h2
 have hno:∀i,i<w.heap.size->¬i=b1:=fun i hi e=>by omega
 refine ⟨⟨v',by simpa using B1'.aS 0 v',.inl (o.ch c2 (fun g hg e=>?_) hno)⟩,⟨v2,B2'.ch c2 fun e=>absurd (hS2 _ _ _ B2' e) (by decide),o2'.ch c2 (fun g hg e=>?_) hno⟩,B4'.ch c2 fun e=>absurd (hS2 _ _ _ B4' e) (by decide),D,n,VO g1' c2 (fun e=>?_) (fun g cs _ hB e=>absurd (hS2 _ _ _ hB e) (by decide)),g2,g3,z29 (z29 g4 g1 c1 hb31) g1' c2 hb32⟩
 ·obtain ⟨cs,hB⟩:=jg o.own hg
  exact absurd (hS2 _ _ _ hB e) (by decide)
 ·obtain ⟨cs,hB⟩:=jg o2'.own hg
  exact absurd (hS2 _ _ _ hB e) (by decide)
 ·exact hb32 e
theorem dJ.span (h:dJ w B b1 b2 b3 b4 gs X ss k done W) {v v':Value} {s:aW} (hb:aG W b2 184 #[v,.slice none 0 0]) (hv:aF w W 191 5 v ss.length (spl ss)) (hg:W.grownBy W' v.ownBlock) (o:aF w W' 191 5 v' (ss++[s]).length (spl (ss++[s]))) (h1:w.heap.size<=b2):dJ w B b1 b2 b3 b4 gs X (ss++[s]) k done (W'.setCell ⟨b2,0,none⟩ v'):=by
 obtain ⟨⟨v1,B1,o1⟩, -,B4,D,n,g1,g2,g3,g4⟩:=h;have c1:Ch (fun r=>v.ownBlock=some r) W W':=(Ch.refl _ W).grown hg (fun r hr _=>hr)
 have hS1:Shun W (fun r=>v.ownBlock=some r) (· ≠191):=fun g t cs fz hB hs hne=>by
  obtain ⟨cs2,hB2⟩:=jg hv.own hs;have hB2:W.heap[g]?=some (.cells cs2 191 (0,0)):=hB2;rw[hB]at hB2;injection hB2 with hB2;injection hB2 with _ e;exact hne e
 have hlt:∀g,v.ownBlock=some g->w.heap.size<=g:=fun g hg=>(hv.lt g hg).1;have B1':=B1.ch c1 fun hs=>hS1 _ _ _ _ B1 hs (by decide);have B2':aG W' b2 184 #[v,.slice none 0 0]:=hb.ch c1 fun hs=>hS1 _ _ _ _ hb hs (by decide);have B4':=B4.ch c1 fun hs=>hS1 _ _ _ _ B4 hs (by decide);have o1':=o1.ch c1 (fun g t cs fz hB hs e=>hS1 g t cs fz hB hs (by rw[e];decide)) (fun i hi hs=>by have:=hlt i hs;omega)
 have hb31:¬v.ownBlock=some b3:=fun hs=>by
  obtain ⟨cs2,hB2⟩:=jg hv.own hs;obtain ⟨es,clock,hb3, -⟩:=g1;have hB2:W.heap[b3]?=some (.cells cs2 191 (0,0)):=hB2;rw[hb3]at hB2;cases hB2
 have g1':=VO g1 c1 hb31 (fun g cs _ hB hs=>hS1 _ _ _ _ hB hs (by decide));have c2:Ch (· =b2) W' (W'.setCell ⟨b2,0,none⟩ v'):=Ch.setCell (Ch.refl (· =b2) _) (p:=⟨b2,0,none⟩) (fun _=>rfl) _
 have hS2:Shun W' (· =b2) (· ≠184):=fun g t cs fz hB e hne=>by
  subst e;have h2:W'.heap[g]?=some (.cells #[v,.slice none 0 0] 184 (0,0)):=B2';rw[hB]at h2;injection h2 with h2;injection h2 with _ h3;exact hne h3
 have hb32:¬b3=b2:=fun e=>by
  obtain ⟨es,clock,hb3, -⟩:=g1';have h2:W'.heap[b2]?=some (.cells #[v,.slice none 0 0] 184 (0,0)):=B2';rw[←e,hb3]at h2;cases h2
 have hno:∀i,i<w.heap.size->¬i=b2:=fun i hi e=>by omega
 refine ⟨⟨v1,B1'.ch c2 fun e=>hS2 _ _ _ _ B1' e (by decide),o1'.ch c2 (fun g t cs fz hB e e2=>hS2 g t cs fz hB e (by rw[e2];decide)) hno⟩,⟨v',by simpa using B2'.aS 0 v',o.ch c2 (fun g hg e=>?_) hno⟩,B4'.ch c2 fun e=>hS2 _ _ _ _ B4' e (by decide),D,n,VO g1' c2 (fun e=>?_) (fun g cs _ hB e=>hS2 _ _ _ _ hB e (by decide)),g2,g3,z29 (z29 g4 g1 c1 hb31) g1' c2 hb32⟩
 ·obtain ⟨cs,hB⟩:=jg o.own hg
  exact hS2 _ _ _ _ hB e (by decide)
 ·exact hb32 e
theorem dJ.next (h:dJ w B b1 b2 b3 b4 gs X ss k done W) (hk:k<gs.length) (hd:done=aY (gs[k].map cu)) (hl:done.length<=2048):dJ w B b1 b2 b3 b4 gs X ss (k+1) [] W:=by
 obtain ⟨h1,h2,h3,D,n,g1,g2,g3,g4⟩:=h;subst hd;exact ⟨h1,h2,h3,D,n,g1,g2.next hk,by simp only[List.length_nil];omega,g4⟩
theorem dJ.word (h:dJ w B b1 b2 b3 b4 gs X ss k done W) {t:ByteArray} (ht:fC t) (hno:t∉done) (hk:k<=4096) (hd:done.length<=2048) (hw:w.heap.size<=b3) (hB:B<=W.heap.size) (hb3:b3<B):
 ∃v,(Instr.lookup 185 (.map (some b3)) (.string t) false).run Tryz.prog W=.ok v W/\
  ∀(W1:World) (g:Nat) (ty:TypeId),Nx W W1->W.grownBy W1 none->W1.cell? ⟨g,0,none⟩=some (.int .i64 (k:Int))->∃v' W2,(Builtin.append_ #[195,195] ty #[v,.slice (some ⟨g,0,none⟩) 1 1]).run Tryz.prog W1=.ok v' W2/\
   (∀p t cs,aG W1 p t cs->t≠3->aG W2 p t cs)/\
   ∃W3,(Instr.mapUpdate 185 (.map (some b3)) (.string t) v').run Tryz.prog W2=.ok () W3/\dJ w B b1 b2 b3 b4 gs X ss k (done++[t]) W3/\Ch (fun r=>r=b3∨(v.ownBlock=some r/\B<=r/\∃cs,aG W r 3 cs)) W W3:=by
 obtain ⟨D,n,g1,g2,g3,g4⟩:=h.grp;obtain ⟨i0,hi0,hz0,hz1,hz2⟩:=info_parts Tryz.DY;obtain ⟨v,zs,hrun,hat,hoi,hzl,hsh,hback⟩:=xP g1 Tryz.gq Tryz.underlying185 (Tryz.pW W) (by unfold maxLen;omega) (wC ht) g4;have hzs:=g2.look ht hoi hat;refine ⟨v,hrun,fun W1 g ty c1 gr1 hcell=>?_⟩;have Uo:W1.ownsInts (b3+1) 3 .i64 v zs:=⟨z06 hoi.1 c1 (fun _ _ hf=>hf),hoi.2⟩;have hsz:=c1.size
 obtain ⟨v',W2,happ,r1,r2, -,r3⟩:=run_append_own_at (P:=Tryz.prog) W1 (b3+1) 195 ty 3 i0 _ 1 8 Tryz.underlying195 hi0 hz0 hz1 hz2 rfl (by decide) v zs.length (zs.map (Value.int .i64)) Uo.1 ⟨g,0,none⟩ 1 1 [.int .i64 (k:Int)] rfl (fun j u hu=>by
  cases j with
  |zero=>simp at hu;subst hu;simpa [Addr.add]using hcell
  |succ j=>simp at hu) (by simp[Value.oneCell']) (by simp only[maxLen];omega) (by omega) (by omega)
 have hgr:W.grownBy W2 v.ownBlock:=(gr1.but _).trans r2
 have hkeep:∀p t cs,aG W1 p t cs->t≠3->aG W2 p t cs:=fun p t cs hB2 hne=>(r2.block p hB2.lt fun e=>by
  obtain ⟨cs2,hB3⟩:=jg Uo.1 e.symm;exact (hB2.DT hB3 hne) rfl).trans hB2
 have hloc:v'.ownBlock=v.ownBlock∨∃g,v'.ownBlock=some g/\W.heap.size<=g:=r3.imp id fun e=>⟨_,e,hsz⟩;have hwf:(Lit.int .i64 (k:Int)).wf=true:=WalkArith.wf_i64 (by omega);have ho2:W2.ownsInts (b3+1) 3 .i64 v' (zs++[(k:Int)]):=Uo.appended r1 hwf
 obtain ⟨W3,hup,q1,q2,q3⟩:=hback W2 v' (zs++[(k:Int)]) hgr ho2 (by simp;omega) hloc (fun g hg=>by
  rcases hloc with e|⟨g2,e,hge⟩
  ·exact hsh g (by rw[←e];exact hg)
  ·rw[hg]at e
   injection e with e;omega)
 refine ⟨v',W2,happ,hkeep,W3,hup,?_,?_⟩
 all_goals
  have c3:Ch (fun r=>r=b3∨v.ownBlock=some r) W W3:=((c1.mono (T:=fun r=>r=b3∨v.ownBlock=some r) fun _ _ hf=>hf.elim).grown r2 (fun r hr _=>.inr hr)).grown q2 (fun r hr _=>by injection hr with hr;exact .inl hr.symm)
 ·have hS:∀g t cs fz,W.heap[g]?=some (.cells cs t fz)->(g=b3∨v.ownBlock=some g)->t=3:=fun g t cs fz hB2 hs=>by
   rcases hs with rfl|hs
   ·obtain ⟨es,clock,hb, -⟩:=g1
    rw[hb]at hB2;cases hB2
   ·obtain ⟨cs2,hB3⟩:=jg hoi.1 hs
    have hB3:W.heap[g]?=some (.cells cs2 3 (0,0)):=hB3;rw[hB2]at hB3;injection hB3 with hB3;injection hB3
  have hlt:∀i,i<w.heap.size->¬(i=b3∨v.ownBlock=some i):=fun i hi hs=>by
   rcases hs with rfl|hs
   ·omega
   ·have:=(hoi.1.lt i hs).1;omega
  obtain ⟨⟨v1,B1,o1⟩,⟨v2,B2,o2⟩,B4, -⟩:=h;refine ⟨⟨v1,B1.ch c3 fun hs=>absurd (hS _ _ _ _ B1 hs) (by decide),o1.ch c3 (fun g t cs fz hB2 hs e=>absurd (hS _ _ _ _ hB2 hs) (by rw[e];decide)) hlt⟩,⟨v2,B2.ch c3 fun hs=>absurd (hS _ _ _ _ B2 hs) (by decide),o2.ch c3 (fun g hg hs=>?_) hlt⟩,B4.ch c3 fun hs=>absurd (hS _ _ _ _ B4 hs) (by decide),_,n+1,q1,g2.put ht hno ?_,by rw[List.length_append,List.length_singleton];omega,q3⟩
  ·obtain ⟨cs,hB2⟩:=jg o2.own hg
   exact absurd (hS _ _ _ _ hB2 hs) (by decide)
  ·rw[←hzs]
   exact ho2.datum_pos (by simp)
 ·refine c3.mono fun r hr hs=>?_
  rcases hs with hs|hs
  ·exact .inl hs
  ·exact .inr ⟨hs,Nat.not_lt.1 (hsh r hs),jg hoi.1 hs⟩
end
end Go.Proofs.YtdbfejfhpkakhaaGreat
