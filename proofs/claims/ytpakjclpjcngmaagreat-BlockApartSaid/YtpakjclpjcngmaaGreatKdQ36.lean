/- Contracts and plain laws that the last text rests on. Conditions: each theorem states its own. -/
import Derived.Test.YtpakjclpjcngmaaGreatKdQ29
import Derived.Test.YtpakjclpjcngmaaGreatKdQ11
import Derived.Test.YtpakjclpjcngmaaGreatKdPdMapV
import Derived.Test.YtpakjclpjcngmaaGreatKdQ35
import Derived.Test.YtpakjclpjcngmaaGreatKdQ30
import Derived.RangeFuncWrites
import Derived.Maps.GroupsBeside
import Derived.ArgAppend
import Derived.Test.YtpakjclpjcngmaaGreatKdQ7
import Derived.Test.YtpakjclpjcngmaaGreatKdPdOrdR
import Derived.Test.YtpakjclpjcngmaaGreatKdQ15
import Derived.Test.YtpakjclpjcngmaaGreatKdQ34
import Derived.Test.YtpakjclpjcngmaaGreatKdQ19
import Derived.Test.YtpakjclpjcngmaaGreatKdQ21
set_option maxRecDepth 100000
set_option linter.unusedVariables false
namespace Go.Proofs.YtpakjclpjcngmaaGreat
open Go.RowKit Go.Maps Go.WideMaps Go.ChangeShapes
def Tn (t:ByteArray) (g:List au):Bool:=g.any fun x=>decide (dG x=t)
theorem DI (t:ByteArray) (g:List au):Tn t g=true↔t∈bW (g.map dG):=by
 rw[z14];unfold Tn;simp[List.any_eq_true]
theorem Oc {gs:List (List au)} {m:Nat} (t:ByteArray) (h:m<gs.length):fB t 0 (gs.take (m+1))=fB t 0 (gs.take m)++(if Tn t gs[m]=true then [m] else []):=by
 have hl1:(gs.take (m+1)).length=m+1:=by rw[List.length_take];omega
 have hl2:(gs.take m).length=m:=by rw[List.length_take];omega
 unfold fB;rw[hl1,hl2,List.range_succ,List.filter_append,List.map_append];congr 1
 ·congr 1
  apply List.filter_congr
  intro i hi;have hi:=List.mem_range.1 hi;simp only[List.getD,List.getElem?_take,if_pos hi,if_pos (show i<m+1 by omega)]
 ·have e:(gs.take (m+1)).getD m []=gs[m]:=by simp[List.getD,h]
  simp only[List.filter_cons,List.filter_nil,e];unfold Tn;split<;>simp
theorem KY {gs:List (List au)} {t:ByteArray}:∀g∈fB t 0 gs,g<gs.length:=by
 intro g hg;unfold fB at hg;simp only[List.mem_map,List.mem_filter,List.mem_range,Nat.add_zero]at hg;obtain ⟨a,⟨h,_⟩,rfl⟩:=hg;exact h
theorem DJ {gs:List (List au)} (t:ByteArray):(fB t 0 gs).length<=gs.length:=by
 unfold fB;rw[List.length_map];exact Nat.le_trans (List.length_filter_le _ _) (by simp)
def YH (done:List ByteArray) (t:ByteArray):Bool:=done.any fun x=>decide (x=t)
theorem nX (done:List ByteArray) (t:ByteArray):YH done t=true↔t∈done:=by
 unfold YH;simp[List.any_eq_true]
def gU (gs:List (List au)) (k:Nat) (done:List ByteArray) (t:ByteArray):List Nat:=fB t 0 (gs.take k)++(if YH done t=true then [k] else [])
def E_ (D:DataW Unit) (gs:List (List au)) (k:Nat) (done:List ByteArray):Prop:=
 IsMap D/\∀t,nH t->(has D (sL t)=false/\gU gs k done t=[])∨(D.atKey (sL t) .nil=.slice (lits .i64 (zl (gU gs k done t))) []/\gU gs k done t≠[])
theorem E_.start (gs:List (List au)):E_ (.map []) gs 0 []:=⟨isMap_empty,fun t _=>.inl ⟨rfl,by simp[gU,fB,YH]⟩⟩
section
variable {D : DataW Unit} {gs : List (List au)} {k : Nat} {done : List ByteArray}
theorem E_.look (h:E_ D gs k done) {t:ByteArray} (ht:nH t) {w:World} {base:Nat} {v:Value} {zs:List Int} (ho:w.ownsInts base 3 .i64 v zs) (ha:D.atKey (sL t) .nil=rowDatum .i64 v zs):zs=zl (gU gs k done t):=by
 rcases h.2 t ht with ⟨h0,h2⟩|⟨h1,_⟩
 ·have h1:D.atKey (sL t) .nil=.nil:=atKey_of_not_has h0 _
  rcases ho.datum (H:=Unit) with ⟨_,h4⟩|h3
  ·rw[h4,h2];rfl
  ·rw[ha,h3]at h1;cases h1
 ·rcases ho.datum (H:=Unit) with ⟨h3,_⟩|h3
  ·rw[ha,h3]at h1;cases h1
  ·rw[ha,h3]at h1
   injection h1 with h1;exact CY h1
theorem E_.put (h:E_ D gs k done) {t:ByteArray} (ht:nH t) (hno:t∉done) {d:DataW Unit} (hd:d=.slice (lits .i64 (zl (gU gs k done t)++[(k:Int)])) []):E_ (D.put (sL t) d) gs k (done++[t]):=by
 refine ⟨h.1.put _ _,fun u hu=>?_⟩;by_cases e:u=t
 ·subst e
  right
  have e1:gU gs k (done++[u]) u=gU gs k done u++[k]:=by
   unfold gU;rw[if_pos (by rw[nX];simp),if_neg (by rw[nX];exact hno),List.append_nil]
  rw[atKey_put_same h.1 (QN u),hd,e1];exact ⟨by simp[zl],by simp⟩
 ·have e1:gU gs k (done++[t]) u=gU gs k done u:=by
   unfold gU YH;have e2:decide (t=u)=false:=decide_eq_false (Ne.symm e);rw[List.any_append,show ([t].any fun x=>decide (x=u))=false by rw[List.any_cons,e2];rfl,Bool.or_false]
  rw[atKey_put_other (fun e2=>e (yw e2)),has_put_other (fun e2=>e (yw e2)),e1];exact h.2 u hu
theorem Gy (hk:k<gs.length) (t:ByteArray):gU gs k (bW (gs[k].map dG)) t=gU gs (k+1) [] t:=by
 unfold gU;rw[Oc t hk];by_cases h:Tn t gs[k]=true
 ·rw[if_pos h,if_pos ((nX _ _).2 ((DI _ _).1 h))]
  simp[YH]
 ·rw[if_neg h,if_neg (fun h2=>h ((DI _ _).2 ((nX _ _).1 h2)))]
  simp[YH]
theorem E_.next (hk:k<gs.length) (h:E_ D gs k (bW (gs[k].map dG))):E_ D gs (k+1) []:=
 ⟨h.1,fun t ht=>by have:=h.2 t ht;rw[Gy hk t]at this;exact this⟩
end
theorem IC {w:World} {base b n:Nat} {D:DataW Unit} (h:w.ownsGroups Tryz.prog 9 base 3 .i64 b n D) {t E:TypeId} (ht:Tryz.prog.underlying t=some (.map 9 E)) (hz:(zeroValue E).run Tryz.prog w=.ok (.slice none 0 0) w):
 ∃f,abb w b n f/\∀s,nH s->(f s=none/\has D (sL s)=false)∨∃v zs,f s=some v/\has D (sL s)=true/\w.ownsInts base 3 .i64 v zs/\D.atKey (sL s) .nil=rowDatum .i64 v zs:=by
 obtain ⟨es,clock,hb,F,hs,rfl, -⟩:=h
 have F':WideElems.Fit Tryz.prog 9 lG es clock:=⟨F.size,F.stamped,fun x hx=>by
  obtain ⟨y,hy⟩:=F.reads x hx;exact ⟨(y.1,.held x.val),by simp[WideElems.rd,WideElems.rd_key hy,lG]⟩⟩
 have hown:w.ownsMap Tryz.prog 9 lG b n (.map ((es.toList.map (WideElems.rg Tryz.prog 9 lG)).foldr DataW.insert [])):=⟨es,clock,hb,F',hs,rfl⟩;generalize hD':(DataW.map ((es.toList.map (WideElems.rg Tryz.prog 9 lG)).foldr DataW.insert []):DataW Value)=D' at hown;generalize hDD:(DataW.map ((es.toList.map (WideElems.rg Tryz.prog 9 (rowElem w base 3 .i64))).foldr DataW.insert []):DataW Unit)=DD
 have key:∀s,nH s->((D'.atKey (sL s) .nil=.nil/\has D' (sL s)=false)/\has DD (sL s)=false)∨
  ∃v zs,((∀zd,D'.atKey (sL s) zd=.held v)/\has D' (sL s)=true)/\has DD (sL s)=true/\w.ownsInts base 3 .i64 v zs/\DD.atKey (sL s) .nil=rowDatum .i64 v zs:=fun s hs=>by
  rcases Maps.fit_look true Tryz.jY ht hz hb F (QM hs) with ⟨r1,n1,a1⟩|⟨e1,y1,m1,k1,r1,p1,a1,_⟩<;>
   rcases Maps.fit_look true Tryz.jY ht hz hb F' (QM hs) with ⟨r2,n2,a2⟩|⟨e2,y2,m2,k2,r2,p2,a2,_⟩
  ·rw[hD']at a2
   rw[hDD]at a1;exact .inl ⟨⟨a2 _,has_false_of_atKey a2⟩,has_false_of_atKey a1⟩
  ·exact absurd k2 (n1 e2 m2)
  ·exact absurd k1 (n2 e1 m1)
  ·rw[r1]at r2
   have hv:e1.val=e2.val:=(by simpa using r2);rw[hD']at a2;rw[hDD]at a1;have h2:=KW p2;subst h2;obtain ⟨zs,ho,rfl⟩:=rowElem_inv p1;exact .inr ⟨e1.val,zs,⟨fun zd=>by rw[a2 zd,hv],has_true_of_atKey a2⟩,has_true_of_atKey a1,ho,a1 _⟩
 refine ⟨fun s=>match D'.atKey (sL s) .nil with| .held v=>some v|_=>none,⟨D',hown,?_,fun s hs=>?_⟩,fun s hs=>?_⟩
 ·rw[←hD'];exact ⟨_,rfl⟩
 ·rcases key s hs with ⟨⟨h1,h2⟩,_⟩|⟨v,zs,⟨h1,h2⟩,_⟩
  ·rw[h2]
   simp only[h1];exact ⟨rfl,fun v hv=>by cases hv⟩
  ·rw[h2]
   simp only[h1];exact ⟨rfl,fun u hu zd=>by injection hu with hu;rw[hu]⟩
 ·rcases key s hs with ⟨⟨h1,h2⟩,h3⟩|⟨v,zs,⟨h1,h2⟩,h5,h3,h4⟩
  ·left
   simp only[h1];exact ⟨trivial,h3⟩
  ·right
   simp only[h1];exact ⟨v,zs,rfl,h5,h3,h4⟩
end Go.Proofs.YtpakjclpjcngmaaGreat
namespace Go.Proofs.YtpakjclpjcngmaaGreat
open Go.RowKit Go.Maps
theorem Tryz.Dh:(Tryz.prog.info? 53).map (fun i=>(i.zero,i.size,i.bytes))=some (some (.agg #[.int .i64 0,.int .i64 0,.int .i64 0,.int .i64 0,.int .i64 0]),5,40):=by kernel_rfl
theorem Tryz.Di:(Tryz.prog.info? 90).map (fun i=>(i.zero,i.size,i.bytes))=some (some (.agg #[.string ⟨#[]⟩,.slice none 0 0]),2,40):=by kernel_rfl
theorem Tryz.uI (w:World):(zeroValue 88).run Tryz.prog w=.ok (.slice none 0 0) w:=by kernel_rfl
theorem kJ {w:World} {base:Nat} {e:TypeId} {size n k:Nat} {v:Value} {xs:List Value} (h:w.ownsRow base e size v n xs) (hk:v.ownBlock=some k):∃cs,aJ w k e cs:=by
 rcases h.2 with ⟨rfl,_⟩|⟨g,cap,cur,rfl,_,hh,_⟩
 ·simp[Value.ownBlock]at hk
 ·have:g=k:=by simpa [Value.ownBlock]using hk
  subst this;exact ⟨cur,hh⟩
theorem z1g {H:Type} {P:Program} {k:TypeId} {base:Nat} {e:TypeId} {q:IntKind} {b n:Nat} {D:DataW H} {S:Nat->Prop} {w w':World} (h:w.ownsGroups P k base e q b n D) (c:Ch S w w') (hb:¬S b)
 (hrow:∀g cs,base<=g->aJ w g e cs->¬S g):w'.ownsGroups P k base e q b n D:=by
 obtain ⟨es,clock,hb1,F,hs,rfl,hbb,hlen,hap⟩:=h;have hblt:=(Array.getElem?_eq_some_iff.1 hb1).1
 have key:∀v zs,w.ownsInts base e q v zs->w'.ownsInts base e q v zs:=fun v zs ho=>⟨z09 ho.1 c (fun g hg=>by
  obtain ⟨cs,hB⟩:=kJ ho.1 hg;exact hrow g cs (ho.1.lt g hg).1 hB),ho.2⟩
 have hst:∀x∈es.toList,∀z,rowElem (H:=H) w base e q x.val=some z->rowElem w' base e q x.val=some z:=fun x hx z hz=>by
  obtain ⟨zs,ho,rfl⟩:=rowElem_inv hz;exact rowElem_mk (key _ _ ho)
 obtain ⟨F1,hmap,_⟩:=F.stay hst;refine ⟨es,clock,(c.block b hblt hb).trans hb1,F1,hs,by rw[hmap],hbb,fun x hx zs ho=>?_,hap⟩;obtain ⟨y,hy⟩:=F.reads x hx;obtain ⟨z,hz,_⟩:=WideElems.rd_val hy;obtain ⟨zs0,ho0,_⟩:=rowElem_inv hz;rw[ho.unique (key _ _ ho0)];exact hlen x hx zs0 ho0
theorem z3q {H:Type} {P:Program} {k:TypeId} {base:Nat} {e:TypeId} {q:IntKind} {b n:Nat} {D:DataW H} {S No:Nat->Prop} {w w':World} (h:w.Shuns b No) (g:w.ownsGroups P k base e q b n D) (c:Ch S w w') (hb:¬S b):w'.Shuns b No:=fun es clock hb2=>by
 obtain ⟨es1,clock1,hb1, -⟩:=g;exact h es clock ((c.block b (Array.getElem?_eq_some_iff.1 hb1).1 hb).symm.trans hb2)
theorem DR {H:Type} {P:Program} {k t E:TypeId} {base:Nat} {e:TypeId} {q:IntKind} {b n:Nat} {D:DataW H} {w:World} {No:Nat->Prop} {key:Value} {kl:Lit} (h:w.ownsGroups P k base e q b n D) (K:Keyed P k) (ht:P.underlying t=some (.map k E)) (hz:(zeroValue E).run P w=.ok (.slice none 0 0) w) (hn:n<maxLen) (hkey:keyOf P k key=some kl) (hS:w.Shuns b No):
 ∃v zs,(Instr.lookup t (.map (some b)) key false).run P w=.ok v w/\D.atKey kl .nil=rowDatum q v zs/\w.ownsInts base e q v zs/\zs.length<=n/\(∀g,v.ownBlock=some g->¬No g)/\
  ∀(w1:World) (v':Value) (zs':List Int),w.grownBy w1 v.ownBlock->w1.ownsInts base e q v' zs'->zs'.length<=n+1->(v'.ownBlock=v.ownBlock∨∃g,v'.ownBlock=some g/\w.heap.size<=g)->(∀g,v'.ownBlock=some g->¬No g)->
   ∃w2,(Instr.mapUpdate t (.map (some b)) key v').run P w1=.ok () w2/\w2.ownsGroups P k base e q b (n+1) (D.put kl (rowDatum q v' zs'))/\w1.grownBy w2 (some b)/\w2.Shuns b No:=by
 obtain ⟨v,zs,hrun,hat,hoi,hzl,hback⟩:=h.at K ht hz hn hkey;refine ⟨v,zs,hrun,hat,hoi,hzl,?_,fun w1 v' zs' hgr hown hl hloc hno=>?_⟩
 ·obtain ⟨es,clock,hb,F,_⟩:=h
  rcases Maps.fit_look false K ht hz hb F hkey with ⟨hrun',_,_⟩|⟨e0,y,hm0,_,hrun',_,_,_⟩
  ·rw[hrun]at hrun'
   obtain rfl:v=.slice none 0 0:=(by simpa using hrun');intro g hg';cases hg'
  ·rw[hrun]at hrun'
   obtain rfl:v=e0.val:=(by simpa using hrun');exact fun g hg'=>hS es clock hb e0 hm0 g hg'
 ·obtain ⟨w2,hrun2,r1,r2⟩:=hback w1 v' zs' hgr hown hl hloc
  refine ⟨w2,hrun2,r1,r2,?_⟩;obtain ⟨es,clock,hb,F,hs,_,hbb,_⟩:=h;have hblt:b<w.heap.size:=(Array.getElem?_eq_some_iff.1 hb).1;have hb1:w1.heap[b]?=some (.map es clock):=(hgr.block b hblt (fun e1=>by have:=(hoi.1.lt b e1.symm).1;omega)).trans hb;obtain ⟨es',clock',hb2,hwho⟩:=stored_who K ht hb1 F (Nat.lt_of_le_of_lt hs hn) hkey hrun2;intro es2 clock2 hb2' y hy g hyg;obtain ⟨rfl,rfl⟩:es'=es2/\clock'=clock2:=by rw[hb2]at hb2';simpa using hb2'
  rcases hwho y hy with ⟨hy0,_⟩|⟨_,hval⟩
  ·exact hS es clock hb y hy0 g hyg
  ·exact hno g (hval▸hyg)
def lS (w W:World) (v:Value) (xs:List Nat):Prop:=ay w W 5 1 v xs.length (bl xs)∨∃(g:Nat) (cs:Array Value) (fz:Nat×Nat),v=.slice (some ⟨g,0,none⟩) xs.length xs.length/\W.heap[g]?=some (.cells cs 5 fz)/\cs.toList=bl xs/\w.heap.size<=g/\Nx w W
def Shun (W:World) (S:Nat->Prop) (T:TypeId->Prop):Prop:=∀g t cs fz,W.heap[g]?=some (.cells cs t fz)->S g->¬T t
theorem lS.ch {w W W':World} {v:Value} {xs:List Nat} {S:Nat->Prop} (h:lS w W v xs) (c:Ch S W W') (hS:Shun W S (· =5)) (hw:∀i,i<w.heap.size->¬S i):lS w W' v xs:=by
 rcases h with o|⟨g,cs,fz,e1,e2,e3,e4,e5⟩
 ·left
  exact o.ch c (fun k hk hs=>by obtain ⟨cs,hB⟩:=kJ o.own hk;exact hS k _ cs (0,0) hB hs rfl) hw
 ·right
  exact ⟨g,cs,fz,e1,(c.block g (Array.getElem?_eq_some_iff.1 e2).1 fun hs=>hS g _ cs fz e2 hs rfl).trans e2,e3,e4,e5.trans c fun i hi hs=>absurd hs (hw i hi)⟩
theorem lS.nx {w W:World} {v:Value} {xs:List Nat} (h:lS w W v xs):Nx w W:=by
 rcases h with o|⟨g,cs,fz,e1,e2,e3,e4,e5⟩
 ·exact o.nx
 ·exact e5
theorem lS.lt {w W:World} {v:Value} {xs:List Nat} (h:lS w W v xs):∀k,v.ownBlock=some k->w.heap.size<=k/\k<W.heap.size/\∃cs fz,W.heap[k]?=some (.cells cs 5 fz):=by
 intro k hk;rcases h with o|⟨g,cs,fz,rfl,e2,e3,e4,e5⟩
 ·obtain ⟨cs,hB⟩:=kJ o.own hk
  exact ⟨(o.lt k hk).1,(o.lt k hk).2,cs,(0,0),hB⟩
 ·have:g=k:=by simpa [Value.ownBlock]using hk
  subst this;exact ⟨e4,(Array.getElem?_eq_some_iff.1 e2).1,cs,fz,e2⟩
theorem lS.app {w W:World} {v:Value} {xs ys:List Nat} (h:lS w W v xs) {D:Nat->Prop} {A:Option Addr} {m c:Nat} (hr:Rd W D 1 A m (bl ys)) (hm:ys.length=m) (h0:0<m) (hs:xs.length+m<=100000000000) (ty:TypeId):
 ∃v' w',(Builtin.append_ #[26,26] ty #[v,.slice A m c]).run Tryz.prog W=.ok v' w'/\ay w w' 5 1 v' (xs++ys).length (bl (xs++ys))/\W.grownBy w' v.ownBlock:=by
 obtain ⟨i0,hi0,hz0,hz1,hz2⟩:=info_parts Tryz.info5;obtain ⟨ad,rfl,hD,hc⟩:=hr.2 h0;have hbl:bl (xs++ys)=bl xs++bl ys:=by simp[bl]
 have hlen:(xs++ys).length=xs.length+m:=by rw[List.length_append,hm]
 rw[hbl,hlen];have hnl:(bl ys).length=m * 1:=by rw[Yr,hm,Nat.mul_one]
 rcases h with o|⟨g,cs,fz,rfl,e2,e3,e4,e5⟩
 ·obtain ⟨v',w',hrun,r1,r2,r3⟩:=run_append_own (P:=Tryz.prog) W w.heap.size 26 ty 5 i0 _ 1 1 Tryz.underlying26 hi0 hz0 hz1 hz2 rfl (by decide) v xs.length (bl xs) o.own ad m c (bl ys) hnl hc (kR _) (by simp only[maxLen];omega) (by omega) o.nx.size
  exact ⟨v',w',hrun,⟨r1,o.nx.grown r2 fun k hk hlt=>by have:=o.lt k hk;omega⟩,r2⟩
 ·have hcell:∀j u,(bl xs)[j]?=some u->W.cell? ((⟨g,0,none⟩:Addr).add j)=some u:=fun j u hu=>by
   have hadd:(⟨g,0,none⟩:Addr).add j=⟨g,j,none⟩:=by unfold Addr.add;split<;>simp_all
   rw[hadd,cell_of_row W g j cs 5 fz e2];rw[←e3]at hu;simpa using hu
  obtain ⟨v',w',hrun,r1,r2⟩:=run_append_arg_grows (P:=Tryz.prog) W 26 ty 5 i0 _ 1 1 Tryz.underlying26 hi0 hz0 hz1 hz2 rfl (by decide) ⟨g,0,none⟩ xs.length xs.length (bl xs) (by rw[Yr,Nat.mul_one]) hcell ad m c (bl ys) hnl hc (by omega) (by simp only[maxLen];omega) (by omega);exact ⟨v',w',hrun,⟨kX r1 e5.size,e5.grown r2 fun k hk _=>by cases hk⟩,r2.but _⟩
structure fU (w:World) (B b1 b2 b3 b4:Nat) (gs:List (List au)) (X:List Nat) (ss:List aW) (k:Nat) (done:List ByteArray) (W:World):Prop where
 out:∃v,aJ W b1 26 #[v]/\lS w W v X
 idx:∃v,aJ W b2 49 #[v,.slice none 0 0]/\ay w W 53 5 v ss.length (spl ss)
 box:aJ W b4 75 #[.map (some b3)]
 grp:∃(D:DataW Unit) (n:Nat),W.ownsGroups Tryz.prog 9 (b3+1) 3 .i64 b3 n D/\E_ D gs k done/\n<=2048 * k+done.length/\W.Shuns b3 (· <B)
def BldT (t:TypeId):Prop:=t=26∨t=5∨t=49∨t=53∨t=75∨t=3
section
variable {w W W' : World} {B b1 b2 b3 b4 : Nat} {gs : List (List au)} {X : List Nat} {ss : List aW} {k : Nat} {done : List ByteArray}
theorem fU.ch {S:Nat->Prop} (h:fU w B b1 b2 b3 b4 gs X ss k done W) (c:Ch S W W') (h3:¬S b3) (hw:∀i,i<w.heap.size->¬S i) (hS:Shun W S BldT):fU w B b1 b2 b3 b4 gs X ss k done W':=by
 obtain ⟨⟨v1,B1,o1⟩,⟨v2,B2,o2⟩,B4,D,n,g1,g2,g3,g4⟩:=h;refine ⟨⟨v1,B1.ch c fun hs=>hS _ _ _ _ B1 hs (.inl rfl),o1.ch c (fun g t cs fz hg hs e=>hS g t cs fz hg hs (.inr (.inl e))) hw⟩,⟨v2,B2.ch c fun hs=>hS _ _ _ _ B2 hs (.inr (.inr (.inl rfl))),o2.ch c (fun g hg hs=>?_) hw⟩,B4.ch c fun hs=>hS _ _ _ _ B4 hs (.inr (.inr (.inr (.inr (.inl rfl))))),D,n,z1g g1 c h3 (fun g cs _ hB hs=>hS _ _ _ _ hB hs (.inr (.inr (.inr (.inr (.inr rfl)))))),g2,g3,z3q g4 g1 c h3⟩;obtain ⟨cs,hB⟩:=kJ o2.own hg;exact hS _ _ _ _ hB hs (.inr (.inr (.inr (.inl rfl))))
theorem fU.tr (h:fU w B b1 b2 b3 b4 gs X ss k done W) (c:Nx W W'):fU w B b1 b2 b3 b4 gs X ss k done W':=
 h.ch c (fun hf=>hf) (fun _ _ hf=>hf) (fun _ _ _ _ _ hf=>hf.elim)
theorem fU.nx (h:fU w B b1 b2 b3 b4 gs X ss k done W):Nx w W:=by
 obtain ⟨v1,B1,o1⟩:=h.out;exact o1.nx
theorem fU.from (h:fU w B b1 b2 b3 b4 gs X ss k done W) {B':Nat} (h3:b3<B') (hB:w.heap.size<=B') {row:Option Nat} (hg:W.grownBy W' row) (hr:∀r,row=some r->B'<=r/\∃o:Obj,W.heap[r]?=some o/\o.isCells=false):fU w B b1 b2 b3 b4 gs X ss k done W':=by
 refine h.ch ((Ch.refl (fun r=>row=some r) W).grown hg (fun r hr _=>hr)) (fun e=>?_) (fun i hi e=>?_) (fun g t cs fz hBk e=>?_)
 ·have:=(hr _ e).1;omega
 ·have:=(hr _ e).1;omega
 ·obtain ⟨o,h1,h2⟩:=(hr _ e).2
  rw[hBk]at h1;injection h1 with h1;rw[←h1]at h2;cases h2
theorem fU.put (h:fU w B b1 b2 b3 b4 gs X ss k done W) {v v':Value} {X':List Nat} (hb:aJ W b1 26 #[v]) (hv:lS w W v X) (hg:W.grownBy W' v.ownBlock) (o:ay w W' 5 1 v' X'.length (bl X')) (h1:w.heap.size<=b1):fU w B b1 b2 b3 b4 gs X' ss k done (W'.setCell ⟨b1,0,none⟩ v'):=by
 obtain ⟨-,⟨v2,B2,o2⟩,B4,D,n,g1,g2,g3,g4⟩:=h;have c1:Ch (fun r=>v.ownBlock=some r) W W':=(Ch.refl _ W).grown hg (fun r hr _=>hr)
 have hS1:Shun W (fun r=>v.ownBlock=some r) (· ≠5):=fun g t cs fz hB hs hne=>by
  obtain ⟨_,_,cs2,fz2,hB2⟩:=hv.lt g hs;rw[hB]at hB2;injection hB2 with hB2;injection hB2 with _ e;exact hne e
 have hlt:∀g,v.ownBlock=some g->w.heap.size<=g:=fun g hg=>(hv.lt g hg).1;have B1':aJ W' b1 26 #[v]:=hb.ch c1 fun hs=>hS1 _ _ _ _ hb hs (by decide);have B2':=B2.ch c1 fun hs=>hS1 _ _ _ _ B2 hs (by decide);have B4':=B4.ch c1 fun hs=>hS1 _ _ _ _ B4 hs (by decide);have o2':=o2.ch c1 (fun g hg hs=>by obtain ⟨cs,hB⟩:=kJ o2.own hg;exact hS1 _ _ _ _ hB hs (by decide)) (fun i hi hs=>by have:=hlt i hs;omega)
 have hb31:¬v.ownBlock=some b3:=fun hs=>by
  obtain ⟨_,_,cs2,fz2,hB2⟩:=hv.lt _ hs;obtain ⟨es,clock,hb3, -⟩:=g1;rw[hb3]at hB2;cases hB2
 have g1':=z1g g1 c1 hb31 (fun g cs _ hB hs=>hS1 _ _ _ _ hB hs (by decide));have c2:Ch (· =b1) W' (W'.setCell ⟨b1,0,none⟩ v'):=Ch.setCell (Ch.refl (· =b1) _) (p:=⟨b1,0,none⟩) (fun _=>rfl) _
 have hS2:∀g t cs,aJ W' g t cs->g=b1->t=26:=fun g t cs hB e=>by
  subst e;have h1:W'.heap[g]?=some (.cells cs t (0,0)):=hB;have h2:W'.heap[g]?=some (.cells #[v] 26 (0,0)):=B1';rw[h1]at h2;injection h2 with h2;injection h2
 have hb32:¬b3=b1:=fun e=>by
  obtain ⟨es,clock,hb3, -⟩:=g1';have h2:W'.heap[b1]?=some (.cells #[v] 26 (0,0)):=B1';rw[←e,hb3]at h2;cases h2
 have hno:∀i,i<w.heap.size->¬i=b1:=fun i hi e=>by omega
 refine ⟨⟨v',by simpa using B1'.dX 0 v',.inl (o.ch c2 (fun g hg e=>?_) hno)⟩,⟨v2,B2'.ch c2 fun e=>absurd (hS2 _ _ _ B2' e) (by decide),o2'.ch c2 (fun g hg e=>?_) hno⟩,B4'.ch c2 fun e=>absurd (hS2 _ _ _ B4' e) (by decide),D,n,z1g g1' c2 (fun e=>?_) (fun g cs _ hB e=>absurd (hS2 _ _ _ hB e) (by decide)),g2,g3,z3q (z3q g4 g1 c1 hb31) g1' c2 hb32⟩
 ·obtain ⟨cs,hB⟩:=kJ o.own hg
  exact absurd (hS2 _ _ _ hB e) (by decide)
 ·obtain ⟨cs,hB⟩:=kJ o2'.own hg
  exact absurd (hS2 _ _ _ hB e) (by decide)
 ·exact hb32 e
theorem fU.span (h:fU w B b1 b2 b3 b4 gs X ss k done W) {v v':Value} {s:aW} (hb:aJ W b2 49 #[v,.slice none 0 0]) (hv:ay w W 53 5 v ss.length (spl ss)) (hg:W.grownBy W' v.ownBlock) (o:ay w W' 53 5 v' (ss++[s]).length (spl (ss++[s]))) (h1:w.heap.size<=b2):fU w B b1 b2 b3 b4 gs X (ss++[s]) k done (W'.setCell ⟨b2,0,none⟩ v'):=by
 obtain ⟨⟨v1,B1,o1⟩, -,B4,D,n,g1,g2,g3,g4⟩:=h;have c1:Ch (fun r=>v.ownBlock=some r) W W':=(Ch.refl _ W).grown hg (fun r hr _=>hr)
 have hS1:Shun W (fun r=>v.ownBlock=some r) (· ≠53):=fun g t cs fz hB hs hne=>by
  obtain ⟨cs2,hB2⟩:=kJ hv.own hs;have hB2:W.heap[g]?=some (.cells cs2 53 (0,0)):=hB2;rw[hB]at hB2;injection hB2 with hB2;injection hB2 with _ e;exact hne e
 have hlt:∀g,v.ownBlock=some g->w.heap.size<=g:=fun g hg=>(hv.lt g hg).1;have B1':=B1.ch c1 fun hs=>hS1 _ _ _ _ B1 hs (by decide);have B2':aJ W' b2 49 #[v,.slice none 0 0]:=hb.ch c1 fun hs=>hS1 _ _ _ _ hb hs (by decide);have B4':=B4.ch c1 fun hs=>hS1 _ _ _ _ B4 hs (by decide);have o1':=o1.ch c1 (fun g t cs fz hB hs e=>hS1 g t cs fz hB hs (by rw[e];decide)) (fun i hi hs=>by have:=hlt i hs;omega)
 have hb31:¬v.ownBlock=some b3:=fun hs=>by
  obtain ⟨cs2,hB2⟩:=kJ hv.own hs;obtain ⟨es,clock,hb3, -⟩:=g1;have hB2:W.heap[b3]?=some (.cells cs2 53 (0,0)):=hB2;rw[hb3]at hB2;cases hB2
 have g1':=z1g g1 c1 hb31 (fun g cs _ hB hs=>hS1 _ _ _ _ hB hs (by decide));have c2:Ch (· =b2) W' (W'.setCell ⟨b2,0,none⟩ v'):=Ch.setCell (Ch.refl (· =b2) _) (p:=⟨b2,0,none⟩) (fun _=>rfl) _
 have hS2:Shun W' (· =b2) (· ≠49):=fun g t cs fz hB e hne=>by
  subst e;have h2:W'.heap[g]?=some (.cells #[v,.slice none 0 0] 49 (0,0)):=B2';rw[hB]at h2;injection h2 with h2;injection h2 with _ h3;exact hne h3
 have hb32:¬b3=b2:=fun e=>by
  obtain ⟨es,clock,hb3, -⟩:=g1';have h2:W'.heap[b2]?=some (.cells #[v,.slice none 0 0] 49 (0,0)):=B2';rw[←e,hb3]at h2;cases h2
 have hno:∀i,i<w.heap.size->¬i=b2:=fun i hi e=>by omega
 refine ⟨⟨v1,B1'.ch c2 fun e=>hS2 _ _ _ _ B1' e (by decide),o1'.ch c2 (fun g t cs fz hB e e2=>hS2 g t cs fz hB e (by rw[e2];decide)) hno⟩,⟨v',by simpa using B2'.dX 0 v',o.ch c2 (fun g hg e=>?_) hno⟩,B4'.ch c2 fun e=>hS2 _ _ _ _ B4' e (by decide),D,n,z1g g1' c2 (fun e=>?_) (fun g cs _ hB e=>hS2 _ _ _ _ hB e (by decide)),g2,g3,z3q (z3q g4 g1 c1 hb31) g1' c2 hb32⟩
 ·obtain ⟨cs,hB⟩:=kJ o.own hg
  exact hS2 _ _ _ _ hB e (by decide)
 ·exact hb32 e
theorem fU.next (h:fU w B b1 b2 b3 b4 gs X ss k done W) (hk:k<gs.length) (hd:done=bW (gs[k].map dG)) (hl:done.length<=2048):fU w B b1 b2 b3 b4 gs X ss (k+1) [] W:=by
 obtain ⟨h1,h2,h3,D,n,g1,g2,g3,g4⟩:=h;subst hd;exact ⟨h1,h2,h3,D,n,g1,g2.next hk,by simp only[List.length_nil];omega,g4⟩
theorem fU.word (h:fU w B b1 b2 b3 b4 gs X ss k done W) {t:ByteArray} (ht:nH t) (hno:t∉done) (hk:k<=4096) (hd:done.length<=2048) (hw:w.heap.size<=b3) (hB:B<=W.heap.size) (hb3:b3<B):
 ∃v,(Instr.lookup 75 (.map (some b3)) (.string t) false).run Tryz.prog W=.ok v W/\
  ∀(W1:World) (g:Nat) (ty:TypeId),Nx W W1->W.grownBy W1 none->W1.cell? ⟨g,0,none⟩=some (.int .i64 (k:Int))->∃v' W2,(Builtin.append_ #[88,88] ty #[v,.slice (some ⟨g,0,none⟩) 1 1]).run Tryz.prog W1=.ok v' W2/\
   (∀p t cs,aJ W1 p t cs->t≠3->aJ W2 p t cs)/\
   ∃W3,(Instr.mapUpdate 75 (.map (some b3)) (.string t) v').run Tryz.prog W2=.ok () W3/\fU w B b1 b2 b3 b4 gs X ss k (done++[t]) W3/\Ch (fun r=>r=b3∨(v.ownBlock=some r/\B<=r/\∃cs,aJ W r 3 cs)) W W3:=by
 obtain ⟨D,n,g1,g2,g3,g4⟩:=h.grp;obtain ⟨i0,hi0,hz0,hz1,hz2⟩:=info_parts Tryz.lK;obtain ⟨v,zs,hrun,hat,hoi,hzl,hsh,hback⟩:=DR g1 Tryz.jY Tryz.underlying75 (Tryz.uI W) (by unfold maxLen;omega) (QM ht) g4;have hzs:=g2.look ht hoi hat;refine ⟨v,hrun,fun W1 g ty c1 gr1 hcell=>?_⟩;have aay:W1.ownsInts (b3+1) 3 .i64 v zs:=⟨z09 hoi.1 c1 (fun _ _ hf=>hf),hoi.2⟩;have hsz:=c1.size
 obtain ⟨v',W2,happ,r1,r2, -,r3⟩:=run_append_own_at (P:=Tryz.prog) W1 (b3+1) 88 ty 3 i0 _ 1 8 Tryz.underlying88 hi0 hz0 hz1 hz2 rfl (by decide) v zs.length (zs.map (Value.int .i64)) aay.1 ⟨g,0,none⟩ 1 1 [.int .i64 (k:Int)] rfl (fun j u hu=>by
  cases j with
  |zero=>simp at hu;subst hu;simpa [Addr.add]using hcell
  |succ j=>simp at hu) (by simp[Value.oneCell']) (by simp only[maxLen];omega) (by omega) (by omega)
 have hgr:W.grownBy W2 v.ownBlock:=(gr1.but _).trans r2
 have hkeep:∀p t cs,aJ W1 p t cs->t≠3->aJ W2 p t cs:=fun p t cs hB2 hne=>(r2.block p hB2.lt fun e=>by
  obtain ⟨cs2,hB3⟩:=kJ aay.1 e.symm;exact (hB2.RP hB3 hne) rfl).trans hB2
 have hloc:v'.ownBlock=v.ownBlock∨∃g,v'.ownBlock=some g/\W.heap.size<=g:=r3.imp id fun e=>⟨_,e,hsz⟩;have hwf:(Lit.int .i64 (k:Int)).wf=true:=WalkArith.wf_i64 (by omega);have ho2:W2.ownsInts (b3+1) 3 .i64 v' (zs++[(k:Int)]):=aay.appended r1 hwf
 obtain ⟨W3,hup,q1,q2,q3⟩:=hback W2 v' (zs++[(k:Int)]) hgr ho2 (by simp;omega) hloc (fun g hg=>by
  rcases hloc with e|⟨g2,e,hge⟩
  ·exact hsh g (by rw[←e];exact hg)
  ·rw[hg]at e
   injection e with e;omega)
 refine ⟨v',W2,happ,hkeep,W3,hup,?_,?_⟩
 all_goals
  have c3:Ch (fun r=>r=b3∨v.ownBlock=some r) W W3:=((c1.mono (T:=fun r=>r=b3∨v.ownBlock=some r) fun _ _ hf=>hf.elim).grown r2 (fun r hr _=>.inr hr)).grown q2 (fun r hr _=>by injection hr with hr;exact .inl hr.symm)
 ·have hS:∀g t cs fz,W.heap[g]?=some (.cells cs t fz)->(g=b3∨v.ownBlock=some g)->t=3:=fun g t cs fz hB2 hs=>by
   rcases hs with rfl|hs
   ·obtain ⟨es,clock,hb, -⟩:=g1
    rw[hb]at hB2;cases hB2
   ·obtain ⟨cs2,hB3⟩:=kJ hoi.1 hs
    have hB3:W.heap[g]?=some (.cells cs2 3 (0,0)):=hB3;rw[hB2]at hB3;injection hB3 with hB3;injection hB3
  have hlt:∀i,i<w.heap.size->¬(i=b3∨v.ownBlock=some i):=fun i hi hs=>by
   rcases hs with rfl|hs
   ·omega
   ·have:=(hoi.1.lt i hs).1;omega
  obtain ⟨⟨v1,B1,o1⟩,⟨v2,B2,o2⟩,B4, -⟩:=h;refine ⟨⟨v1,B1.ch c3 fun hs=>absurd (hS _ _ _ _ B1 hs) (by decide),o1.ch c3 (fun g t cs fz hB2 hs e=>absurd (hS _ _ _ _ hB2 hs) (by rw[e];decide)) hlt⟩,⟨v2,B2.ch c3 fun hs=>absurd (hS _ _ _ _ B2 hs) (by decide),o2.ch c3 (fun g hg hs=>?_) hlt⟩,B4.ch c3 fun hs=>absurd (hS _ _ _ _ B4 hs) (by decide),_,n+1,q1,g2.put ht hno ?_,by rw[List.length_append,List.length_singleton];omega,q3⟩
  ·obtain ⟨cs,hB2⟩:=kJ o2.own hg
   exact absurd (hS _ _ _ _ hB2 hs) (by decide)
  ·rw[←hzs]
   exact ho2.datum_pos (by simp)
 ·refine c3.mono fun r hr hs=>?_
  rcases hs with hs|hs
  ·exact .inl hs
  ·exact .inr ⟨hs,Nat.not_lt.1 (hsh r hs),kJ hoi.1 hs⟩
end
end Go.Proofs.YtpakjclpjcngmaaGreat
namespace Go.Proofs.YtpakjclpjcngmaaGreat
open Go.RowKit
theorem z27 {xs:List Nat} {p:Nat} {e most:Int} (h:0<=most):((aF xs p e most).1:Int)<=most:=by
 unfold aF;split
 ·simpa using h
 ·split
  ·simpa using h
  ·split
   ·simpa using h
   ·rename_i h1
    simp only;omega
structure jQ (w:World) (d0 g b2 b6 b7 m0 q:Nat) (A:Option Addr) (c:Nat) (xs:List Nat) (ss:List aW) (ps:List PV) (s:iH) (W:World):Prop where
 cur:aH W (fun k=>d0<=k/\k<g) g A c xs s.1 s.2
 r2:aJ W b2 49 #[.slice none 0 0,.slice none 0 0]
 r6:aJ W b6 111 #[.pointer (some ⟨g,0,none⟩)]
 idx:∃v vp,aJ W b7 49 #[v,vp]/\W.ownsRow m0 53 5 v ss.length (spl ss)/\W.ownsRow m0 90 2 vp ps.length (kZ ps)/\(∀k,v.ownBlock=some k->k<q)/\(∀k,vp.ownBlock=some k->k<q)
 rows:∀x∈ps,Rd W (fun k=>m0<=k/\k<q/\∃cs,aJ W k 3 cs) 1 x.A x.gs.length (ints x.gs)
 nx:Nx w W
 lay:w.heap.size<=b2/\b2<d0/\d0<=g/\g<b6/\b6<b7/\b7<m0/\m0<=W.heap.size/\m0<=q/\q<=W.heap.size
section
variable {w W W' : World} {d0 g b2 b6 b7 m0 q : Nat} {A : Option Addr} {c : Nat} {xs : List Nat} {ss : List aW} {ps : List PV} {s s' : iH}
theorem jQ.YE (h:jQ w d0 g b2 b6 b7 m0 q A c xs ss ps s W) (k:cO W (fun k=>d0<=k/\k<g) g A c xs s'.1 s'.2 W'):jQ w d0 g b2 b6 b7 m0 q A c xs ss ps s' W':=by
 obtain ⟨h1,h2,h3,⟨v,vp,B,o1,o2,u1,u2⟩,h5,h6,h7⟩:=h;obtain ⟨c1,c2⟩:=k;refine ⟨c1,h2.ch c2 (by omega),h3.ch c2 (by omega),⟨v,vp,B.ch c2 (by omega),?_,?_,u1,u2⟩,fun x hx=>?_,h6.trans c2 (fun i hi e=>by omega),?_⟩
 ·exact z09 o1 c2 (fun k hk e=>by have:=(o1.lt k hk).1;omega)
 ·exact z09 o2 c2 (fun k hk e=>by have:=(o2.lt k hk).1;omega)
 ·exact ((h5 x hx).ch (by decide) c2 (fun k _ hk e=>by omega)).more fun k hk=>⟨hk.1,hk.2.1,by obtain ⟨cs,hB⟩:=hk.2.2;exact ⟨cs,hB.ch c2 (by omega)⟩⟩
 ·have:=c2.size
  omega
theorem jQ.far {S:Nat->Prop} (h:jQ w d0 g b2 b6 b7 m0 q A c xs ss ps s W) (n:Ch S W W') (hS:∀k,S k->q<=k):jQ w d0 g b2 b6 b7 m0 q A c xs ss ps s W':=by
 obtain ⟨h1,h2,h3,⟨v,vp,B,o1,o2,u1,u2⟩,h5,h6,h7⟩:=h;have no:∀k,k<q->¬S k:=fun k hk hs=>by have:=hS k hs;omega
 refine ⟨h1.ch n (no _ (by omega)) (fun k hk=>no _ (by omega)),h2.ch n (no _ (by omega)),h3.ch n (no _ (by omega)),⟨v,vp,B.ch n (no _ (by omega)),?_,?_,u1,u2⟩,fun x hx=>?_,h6.trans n (fun i hi hs=>(no _ (by omega) hs).elim),?_⟩
 ·exact z09 o1 n (fun k hk=>no _ (u1 k hk))
 ·exact z09 o2 n (fun k hk=>no _ (u2 k hk))
 ·exact ((h5 x hx).ch (by decide) n (fun k _ hk=>no _ hk.2.1)).more fun k hk=>⟨hk.1,hk.2.1,by obtain ⟨cs,hB⟩:=hk.2.2;exact ⟨cs,hB.ch n (no _ hk.2.1)⟩⟩
 ·have:=n.size
  omega
theorem jQ.nS (h:jQ w d0 g b2 b6 b7 m0 q A c xs ss ps s W) (n:Nx W W'):jQ w d0 g b2 b6 b7 m0 q A c xs ss ps s W':=h.far n (fun _ hf=>hf.elim)
theorem jQ.more {q':Nat} (h:jQ w d0 g b2 b6 b7 m0 q A c xs ss ps s W) (h1:q<=q') (h2:q'<=W.heap.size):jQ w d0 g b2 b6 b7 m0 q' A c xs ss ps s W:=by
 obtain ⟨h1,h2,h3,⟨v,vp,B,o1,o2,u1,u2⟩,h5,h6,h7⟩:=h;exact ⟨h1,h2,h3,⟨v,vp,B,o1,o2,fun k hk=>by have:=u1 k hk;omega,fun k hk=>by have:=u2 k hk;omega⟩,fun x hx=>(h5 x hx).more fun k hk=>⟨hk.1,by omega,hk.2.2⟩,h6,by omega⟩
theorem ou {W:World} {g:Nat} {t:TypeId} {cs cs':Array Value} (h:aJ W g t cs) (h':aJ W g t cs'):cs=cs':=by
 have h:W.heap[g]?=some (.cells cs t (0,0)):=h;have h':W.heap[g]?=some (.cells cs' t (0,0)):=h';rw[h]at h';injection h' with h';injection h'
theorem jQ.span {v vp v2:Value} {sp:aW} (h:jQ w d0 g b2 b6 b7 m0 q A c xs ss ps s W) (hB:aJ W b7 49 #[v,vp]) (gr:W.grownBy W' v.ownBlock) (lq:W'.ownsRow m0 53 5 v2 (ss.length+1) (spl ss++spl [sp])):
 jQ w d0 g b2 b6 b7 m0 W'.heap.size A c xs (ss++[sp]) ps s (W'.setCell ⟨b7,0,none⟩ v2):=by
 obtain ⟨h1,h2,h3,⟨v',VL,B,o1,o2,u1,u2⟩,h5,h6,h7⟩:=h;have e:=ou hB B;injection e with e;injection e with e1 e2;injection e2 with e2;subst e1;subst e2;have c1:Ch (fun k=>v.ownBlock=some k) W W':=(Ch.refl _ _).grown gr (fun k hk _=>hk);have cs:Ch (· =b7) W' (W'.setCell ⟨b7,0,none⟩ v2):=Ch.setCell (Ch.refl (· =b7) _) (p:=⟨b7,0,none⟩) (fun _=>rfl) _;have no:∀k,k<m0->v.ownBlock≠some k:=fun k hk hs=>by have:=(o1.lt k hs).1;omega
 have hsz:(W'.setCell ⟨b7,0,none⟩ v2).heap.size=W'.heap.size:=by simp
 have z1:=c1.size;refine ⟨(h1.ch c1 (no _ (by omega)) (fun k hk=>no _ (by omega))).ch cs (by omega) (fun k hk=>by omega),(h2.ch c1 (no _ (by omega))).ch cs (by omega),(h3.ch c1 (no _ (by omega))).ch cs (by omega),⟨v2,vp,?_,?_,?_,?_,?_⟩,fun x hx=>?_,(h6.trans c1 (fun i hi hs=>(no _ (by omega) hs).elim)).trans cs (fun i hi e=>by omega),?_⟩
 ·simpa using (B.ch c1 (no _ (by omega))).dX 0 v2
 ·have:=z09 lq cs (fun k hk e=>by have:=(lq.lt k hk).1;omega)
  rw[List.length_append,List.length_singleton,show spl (ss++[sp])=spl ss++spl [sp] by simp[spl]];exact this
 ·refine z09 (z09 o2 c1 (fun k hk hs=>?_)) cs (fun k hk e=>by have:=(o2.lt k hk).1;omega)
  obtain ⟨cs2,hB2⟩:=kJ o2 hk;exact z06 o1 hB2 (by decide) hs
 ·exact fun k hk=>(lq.lt k hk).2
 ·exact fun k hk=>by have:=u2 k hk;omega
 ·have r1:=(h5 x hx).ch (by decide) c1 (fun k _ hk hs=>by obtain ⟨_,_,cs2,hB2⟩:=hk;exact z06 o1 hB2 (by decide) hs)
  refine (r1.ch (by decide) cs (fun k _ hk e=>by omega)).more fun k hk=>⟨hk.1,by omega,?_⟩;obtain ⟨_,_,cs2,hB2⟩:=hk;exact ⟨cs2,(hB2.ch c1 (fun hs=>z06 o1 hB2 (by decide) hs)).ch cs (by omega)⟩
 ·omega
theorem jQ.post {v vp v2:Value} {x:PV} (h:jQ w d0 g b2 b6 b7 m0 q A c xs ss ps s W) (hB:aJ W b7 49 #[v,vp]) (gr:W.grownBy W' vp.ownBlock) (lq:W'.ownsRow m0 90 2 v2 (ps.length+1) (kZ ps++kZ [x]))
 (hx:Rd W (fun k=>m0<=k/\∃cs,aJ W k 3 cs) 1 x.A x.gs.length (ints x.gs)) (hxl:∀k,(∃cs,aJ W k 3 cs)->k<W.heap.size):
 jQ w d0 g b2 b6 b7 m0 W'.heap.size A c xs ss (ps++[x]) s (W'.setCell ⟨b7,1,none⟩ v2):=by
 obtain ⟨h1,h2,h3,⟨v',VL,B,o1,o2,u1,u2⟩,h5,h6,h7⟩:=h;have e:=ou hB B;injection e with e;injection e with e1 e2;injection e2 with e2;subst e1;subst e2;have c1:Ch (fun k=>vp.ownBlock=some k) W W':=(Ch.refl _ _).grown gr (fun k hk _=>hk);have cs:Ch (· =b7) W' (W'.setCell ⟨b7,1,none⟩ v2):=Ch.setCell (Ch.refl (· =b7) _) (p:=⟨b7,1,none⟩) (fun _=>rfl) _;have no:∀k,k<m0->vp.ownBlock≠some k:=fun k hk hs=>by have:=(o2.lt k hs).1;omega
 have hsz:(W'.setCell ⟨b7,1,none⟩ v2).heap.size=W'.heap.size:=by simp
 have z1:=c1.size
 have hr:∀y:PV,Rd W (fun k=>m0<=k/\∃cs,aJ W k 3 cs) 1 y.A y.gs.length (ints y.gs)->Rd (W'.setCell ⟨b7,1,none⟩ v2) (fun k=>m0<=k/\k<W'.heap.size/\∃cs,aJ (W'.setCell ⟨b7,1,none⟩ v2) k 3 cs) 1 y.A y.gs.length (ints y.gs):=fun y hy=>by
  have r1:=hy.ch (by decide) c1 (fun k _ hk hs=>by obtain ⟨_,cs2,hB2⟩:=hk;exact z06 o2 hB2 (by decide) hs);refine (r1.ch (by decide) cs (fun k _ hk e=>by omega)).more fun k hk=>⟨hk.1,by have:=hxl k hk.2;omega,?_⟩;obtain ⟨_,cs2,hB2⟩:=hk;exact ⟨cs2,(hB2.ch c1 (fun hs=>z06 o2 hB2 (by decide) hs)).ch cs (by omega)⟩
 refine ⟨(h1.ch c1 (no _ (by omega)) (fun k hk=>no _ (by omega))).ch cs (by omega) (fun k hk=>by omega),(h2.ch c1 (no _ (by omega))).ch cs (by omega),(h3.ch c1 (no _ (by omega))).ch cs (by omega),⟨v,v2,?_,?_,?_,?_,?_⟩,fun y hy=>?_,(h6.trans c1 (fun i hi hs=>(no _ (by omega) hs).elim)).trans cs (fun i hi e=>by omega),?_⟩
 ·simpa using (B.ch c1 (no _ (by omega))).dX 1 v2
 ·refine z09 (z09 o1 c1 (fun k hk hs=>?_)) cs (fun k hk e=>by have:=(o1.lt k hk).1;omega)
  obtain ⟨cs2,hB2⟩:=kJ o1 hk;exact z06 o2 hB2 (by decide) hs
 ·have:=z09 lq cs (fun k hk e=>by have:=(lq.lt k hk).1;omega)
  rw[List.length_append,List.length_singleton,show kZ (ps++[x])=kZ ps++kZ [x] by simp[kZ]];exact this
 ·exact fun k hk=>by have:=u1 k hk;omega
 ·exact fun k hk=>(lq.lt k hk).2
 ·rcases List.mem_append.1 hy with hy|hy
  ·exact hr y ((h5 y hy).more fun k hk=>⟨hk.1,hk.2.2⟩)
  ·rw[List.mem_singleton]at hy
   subst hy;exact hr y hx
 ·omega
theorem jQ.ZO {v vp:Value} (h:jQ w d0 g b2 b6 b7 m0 q A c xs ss ps s W) (hB:aJ W b7 49 #[v,vp]):W.ownsRow m0 53 5 v ss.length (spl ss):=by
 obtain ⟨v',VL,B,o1,o2,u1,u2⟩:=h.idx;have e:=ou hB B;injection e with e;injection e with e1 e2;rw[e1];exact o1
theorem jQ.lq {v vp:Value} (h:jQ w d0 g b2 b6 b7 m0 q A c xs ss ps s W) (hB:aJ W b7 49 #[v,vp]):W.ownsRow m0 90 2 vp ps.length (kZ ps):=by
 obtain ⟨v',VL,B,o1,o2,u1,u2⟩:=h.idx;have e:=ou hB B;injection e with e;injection e with e1 e2;injection e2 with e2;rw[e2];exact o2
theorem jQ.start {w2:World} (hc:aH w2 (fun k=>d0<=k/\k<g) g A c xs 0 0) (r2:aJ w2 b2 49 #[.slice none 0 0,.slice none 0 0]) (n:Nx w w2) (l:w.heap.size<=b2/\b2<d0/\d0<=g/\g<w2.heap.size):
 jQ w d0 g b2 w2.heap.size (w2.heap.size+1) (w2.heap.size+1+1) (w2.heap.size+1+1) A c xs [] [] (0,0) ((w2.alloc (.cells #[.pointer (some ⟨g,0,none⟩)] 111)).alloc (.cells #[.slice none 0 0,.slice none 0 0] 49)):=by
 have n1:Nx w2 (w2.alloc (.cells #[.pointer (some ⟨g,0,none⟩)] 111)):=(Ch.refl (fun _=>False) w2).alloc _;have n2:Nx (w2.alloc (.cells #[.pointer (some ⟨g,0,none⟩)] 111)) ((w2.alloc (.cells #[.pointer (some ⟨g,0,none⟩)] 111)).alloc (.cells #[.slice none 0 0,.slice none 0 0] 49)):=(Ch.refl (fun _=>False) _).alloc _;have z1:(w2.alloc (.cells #[.pointer (some ⟨g,0,none⟩)] 111)).heap.size=w2.heap.size+1:=by simp
 have z2:((w2.alloc (.cells #[.pointer (some ⟨g,0,none⟩)] 111)).alloc (.cells #[.slice none 0 0,.slice none 0 0] 49)).heap.size=w2.heap.size+1+1:=by simp
 have B7:=aJ.new (w2.alloc (.cells #[.pointer (some ⟨g,0,none⟩)] 111)) 49 #[.slice none 0 0,.slice none 0 0];rw[z1]at B7;exact ⟨(hc.nx n1).nx n2,(r2.nx n1).nx n2,(aJ.new w2 _ _).nx n2,⟨_,_,B7,World.ownsRow_nil _ _ _ _,World.ownsRow_nil _ _ _ _,by simp[Value.ownBlock],by simp[Value.ownBlock]⟩,by simp,(n.trans n1 (fun _ _ hf=>hf)).trans n2 (fun _ _ hf=>hf),by omega⟩
theorem wP (h:jQ w d0 g b2 b6 b7 m0 q A c xs ss ps s W):Calls Tryz.prog 75 #[.pointer (some ⟨b6,0,none⟩)] W fun e W'=>e=.returned (.int .i64 ((aF xs s.1 s.2 1099511627775).1:Int))/\jQ w d0 g b2 b6 b7 m0 q A c xs ss ps (aF xs s.1 s.2 1099511627775).2 W'/\Ch (· =g) W W':=by
 have hn:=ah (z17 h.cur 1099511627775 (by decide) (by decide));have c6:W.cell? ⟨b6,0,none⟩=some (.pointer (some ⟨g,0,none⟩)):=h.r6.cell 0;have H:=ah h;clear h;go_enter Tryz.func75,Tryz.ntmps75;go_wp2_with fail;refine hn.out.mono ?_;rintro e w2 ⟨rfl,k⟩;have K2:=ah (H.out.YE k);have C2:=ah k.2;clear k H hn;go_wp2_with fail;go_ret;exact ⟨rfl,K2.out,C2.out⟩
theorem z4f (h:jQ w d0 g b2 b6 b7 m0 q A c xs ss ps s W):Calls Tryz.prog 77 #[.pointer (some ⟨b6,0,none⟩)] W fun e W'=>e=.returned (.int .i64 ((aF xs s.1 s.2 262144).1:Int))/\jQ w d0 g b2 b6 b7 m0 q A c xs ss ps (aF xs s.1 s.2 262144).2 W'/\Ch (· =g) W W':=by
 have hn:=ah (z17 h.cur 262144 (by decide) (by decide));have c6:W.cell? ⟨b6,0,none⟩=some (.pointer (some ⟨g,0,none⟩)):=h.r6.cell 0;have H:=ah h;clear h;go_enter Tryz.func77,Tryz.ntmps77;go_wp2_with fail;refine hn.out.mono ?_;rintro e w2 ⟨rfl,k⟩;have K2:=ah (H.out.YE k);have C2:=ah k.2;clear k H hn;go_wp2_with fail;go_ret;exact ⟨rfl,K2.out,C2.out⟩
end
def xE (W:World) (m0:Nat) (v:Value) (xs:List Value):Prop:=
 ∃A c,v=.slice A xs.length c/\xs.length<=c/\c<=maxLen/\Rd W (fun k=>m0<=k/\k<W.heap.size) 1 A xs.length xs
section
variable {W W' : World} {m0 : Nat} {v : Value} {xs : List Value}
theorem xE.nil (W:World) (m0:Nat):xE W m0 (.slice none 0 0) []:=⟨none,0,rfl,Nat.le_refl _,Nat.zero_le _,Rd.none_ _ _ _ _⟩
theorem xE.ch {S:Nat->Prop} (h:xE W m0 v xs) (c:Ch S W W') (hS:∀k,S k->k<m0):xE W' m0 v xs:=by
 obtain ⟨A,cp,e,h1,h2,h3⟩:=h;exact ⟨A,cp,e,h1,h2,(h3.ch (by decide) c fun k _ hk hs=>by have:=hS k hs;omega).more fun k hk=>⟨hk.1,Nat.lt_of_lt_of_le hk.2 c.size⟩⟩
theorem xE.nx (h:xE W m0 v xs) (c:Nx W W'):xE W' m0 v xs:=h.ch c fun _ hf=>hf.elim
theorem xE.own {e:TypeId} {n:Nat} (h:ay W W' e 1 v n xs) (hm:m0<=W.heap.size):xE W' m0 v xs:=by
 obtain ⟨A,c,rfl,h1,h2⟩:=h.form;have hl:xs.length=n:=by have:=h.rd.1;omega
 subst hl;exact ⟨A,c,rfl,h1,h2,h.rd.more fun k hk=>⟨by omega,hk.2.2⟩⟩
end
def tn (k:Nat):Nat:=if k=5 then 7 else k
structure Va (b:List Nat) (ic:Nat->List Int->Prop) (wc tc:List ByteArray->Prop) (fc:List Bool->Prop):Prop where
 ints:∀k,k<6->∀(D:Nat->Prop) (A:Option Addr) (c:Nat) (W:World),Rd W D 1 A (fA b (tn k)).length (bl (fA b (tn k)))->(∀j,D j->j<W.heap.size)->(fA b (tn k)).length<=c->
  Calls Tryz.prog 61 #[.slice A (fA b (tn k)).length c] W fun e w'=>∃v l er,e=.returned (.tuple #[v,.int .i64 er])/\ay W w' 2 1 v l.length (il l)/\(∀z∈l,i64 z)/\ic k l
 words:∀(D:Nat->Prop) (A:Option Addr) (c:Nat) (W:World),Rd W D 1 A (fA b 5).length (bl (fA b 5))->(∀j,D j->j<W.heap.size)->(fA b 5).length<=c->
  Calls Tryz.prog 62 #[.slice A (fA b 5).length c] W fun e w'=>∃v l er,e=.returned (.tuple #[v,.int .i64 er])/\ay W w' 9 1 v l.length (dM l)/\(∀s∈l,s.size<=1000000000)/\wc l
 texts:∀(D:Nat->Prop) (A:Option Addr) (c:Nat) (W:World),Rd W D 1 A (fA b 6).length (bl (fA b 6))->(∀j,D j->j<W.heap.size)->(fA b 6).length<=c->
  Calls Tryz.prog 63 #[.slice A (fA b 6).length c] W fun e w'=>∃v l er,e=.returned (.tuple #[v,.int .i64 er])/\ay W w' 9 1 v l.length (dM l)/\(∀s∈l,s.size<=1000000000)/\tc l
 flags:∀(D:Nat->Prop) (A:Option Addr) (c:Nat) (W:World),Rd W D 1 A (fA b 8).length (bl (fA b 8))->(∀j,D j->j<W.heap.size)->(fA b 8).length<=c->
  Calls Tryz.prog 64 #[.slice A (fA b 8).length c] W fun e w'=>∃v l er,e=.returned (.tuple #[v,.int .i64 er])/\ay W w' 4 1 v l.length (lu l)/\fc l
structure AP (w:World) (g b4 bn m0:Nat) (A:Option Addr) (c:Nat) (b:List Nat) (k:Nat) (v:Nat->Value) (n:Nat->List Int) (W:World):Prop where
 cur:aH W (fun j=>w.heap.size<=j/\j<g) g A c b (oG b k).1 (oG b k).2
 r4:aJ W b4 111 #[.pointer (some ⟨g,0,none⟩)]
 arr:aJ W bn 115 #[v 0,v 1,v 2,v 3,v 4,v 5]
 cols:∀j,j<6->xE W m0 (v j) (il (n j))
 nx:Nx w W
 lay:w.heap.size<=g/\g<m0/\w.heap.size<=b4/\b4<m0/\w.heap.size<=bn/\bn<m0/\g≠b4/\g≠bn/\b4≠bn/\g<b4/\g<bn/\m0<=W.heap.size
section
variable {w W W' : World} {g b4 bn m0 k : Nat} {A : Option Addr} {c : Nat} {b : List Nat} {v : Nat → Value} {n : Nat → List Int}
theorem AP.nS (h:AP w g b4 bn m0 A c b k v n W) (t:Nx W W'):AP w g b4 bn m0 A c b k v n W':=by
 obtain ⟨h1,h2,h3,h4,h5,h6⟩:=h;have:=t.size;exact ⟨h1.nx t,h2.nx t,h3.nx t,fun j hj=>(h4 j hj).nx t,h5.trans t fun _ _ hf=>hf,by omega⟩
theorem AP.YE (h:AP w g b4 bn m0 A c b k v n W) (t:cO W (fun j=>w.heap.size<=j/\j<g) g A c b (oG b (k+1)).1 (oG b (k+1)).2 W'):AP w g b4 bn m0 A c b (k+1) v n W':=by
 obtain ⟨h1,h2,h3,h4,h5,h6⟩:=h;obtain ⟨t1,t2⟩:=t;have:=t2.size;exact ⟨t1,h2.ch t2 (by omega),h3.ch t2 (by omega),fun j hj=>(h4 j hj).ch t2 fun i e=>by omega,h5.trans t2 fun i hi e=>by omega,by omega⟩
def upd {α:Type} (f:Nat->α) (i:Nat) (x:α):Nat->α:=fun j=>if j=i then x else f j
theorem XT (f:Nat->Value) (i:Nat) (x:Value) (hi:i<6):(#[f 0,f 1,f 2,f 3,f 4,f 5]:Array Value).setIfInBounds i x= #[upd f i x 0,upd f i x 1,upd f i x 2,upd f i x 3,upd f i x 4,upd f i x 5]:=by
 rcases i with _|_|_|_|_|_|i
 all_goals first|rfl|omega
theorem AP.set (h:AP w g b4 bn m0 A c b k v n W) {i:Nat} (hi:i<6) {x:Value} {l:List Int} (hx:xE W m0 x (il l)):AP w g b4 bn m0 A c b k (upd v i x) (upd n i l) (W.setCell ⟨bn,i,none⟩ x):=by
 obtain ⟨h1,h2,h3,h4,h5,h6⟩:=h;have t:Ch (· =bn) W (W.setCell ⟨bn,i,none⟩ x):=Ch.setCell (Ch.refl (· =bn) _) (p:=⟨bn,i,none⟩) (fun _=>rfl) _;have z:(W.setCell ⟨bn,i,none⟩ x).heap.size=W.heap.size:=by simp
 refine ⟨h1.ch t (by omega) (fun j hj=>by omega),h2.ch t (by omega),?_,fun j hj=>?_,h5.trans t fun i hi e=>by omega,by omega⟩
 ·rw[←XT v i x hi]
  exact h3.dX i x
 ·unfold upd
  split
  ·exact hx.ch t fun q e=>by omega
  ·exact (h4 j hj).ch t fun q e=>by omega
theorem AP.next (h:AP w g b4 bn m0 A c b k v n W):Calls Tryz.prog 59 #[.pointer (some ⟨b4,0,none⟩)] W fun en W'=>
 ∃A' c',en=.returned (.slice A' (fA b k).length c')/\Rd W' (fun j=>j<W'.heap.size) 1 A' (fA b k).length (bl (fA b k))/\(fA b k).length<=c'/\AP w g b4 bn m0 A c b (k+1) v n W'/\Ch (· =g) W W':=
 (TB h.cur h.r4).mono fun en W' ⟨A',c',h1,h2,h3,h4⟩=>⟨A',c',h1,h2.more fun j hj=>hj.2,h3,h.YE h4,h4.2⟩
theorem AP.start {w2:World} (hc:aH w2 (fun j=>w.heap.size<=j/\j<g) g A c b 0 0) (t:Nx w w2) (l:w.heap.size<=g/\g<w2.heap.size):
 AP w g w2.heap.size (w2.heap.size+1) (w2.heap.size+1+1) A c b 0 (fun _=>.slice none 0 0) (fun _=>[]) ((w2.alloc (.cells #[.pointer (some ⟨g,0,none⟩)] 111)).alloc (.cells #[.slice none 0 0,.slice none 0 0,.slice none 0 0,.slice none 0 0,.slice none 0 0,.slice none 0 0] 115)):=by
 have n1:Nx w2 (w2.alloc (.cells #[.pointer (some ⟨g,0,none⟩)] 111)):=(Ch.refl (fun _=>False) w2).alloc _;have n2:Nx (w2.alloc (.cells #[.pointer (some ⟨g,0,none⟩)] 111)) ((w2.alloc (.cells #[.pointer (some ⟨g,0,none⟩)] 111)).alloc (.cells #[.slice none 0 0,.slice none 0 0,.slice none 0 0,.slice none 0 0,.slice none 0 0,.slice none 0 0] 115)):=(Ch.refl (fun _=>False) _).alloc _;have z1:(w2.alloc (.cells #[.pointer (some ⟨g,0,none⟩)] 111)).heap.size=w2.heap.size+1:=by simp
 have z2:((w2.alloc (.cells #[.pointer (some ⟨g,0,none⟩)] 111)).alloc (.cells #[.slice none 0 0,.slice none 0 0,.slice none 0 0,.slice none 0 0,.slice none 0 0,.slice none 0 0] 115)).heap.size=w2.heap.size+1+1:=by simp
 have B7:=aJ.new (w2.alloc (.cells #[.pointer (some ⟨g,0,none⟩)] 111)) 115 #[.slice none 0 0,.slice none 0 0,.slice none 0 0,.slice none 0 0,.slice none 0 0,.slice none 0 0];rw[z1]at B7;exact ⟨(hc.nx n1).nx n2,(aJ.new w2 _ _).nx n2,B7,fun j _=>xE.nil _ _,(t.trans n1 (fun _ _ hf=>hf)).trans n2 (fun _ _ hf=>hf),by omega⟩
theorem AP.cell (h:AP w g b4 bn m0 A c b k v n W) {i:Nat} (hi:i<6):W.cell? ⟨bn,i,none⟩=some (v i):=by
 rw[h.arr.cell i];rcases i with _|_|_|_|_|_|i
 all_goals first|rfl|omega
end
def kU (w:World) (o:Option (List au)) (e:Ending) (w':World):Prop:=match o with
 |none=>e=.returned (.tuple #[.slice none 0 0,.int .i64 4])/\Nx w w'
 |some l=>∃(zs:List RV) (A:Option Addr) (c:Nat),e=.returned (.tuple #[.slice A zs.length c,.int .i64 0])/\zs.map (fun x=>x.row)=l/\fE w w' (.slice A zs.length c) zs/\(∀z∈zs,z.row.few)
end Go.Proofs.YtpakjclpjcngmaaGreat
