/- Contracts and plain laws that the last text rests on. Conditions: each theorem states its own. -/
import Derived.Test.YtpakjclpjcngmaaGreatKbQ26
import Derived.Test.YtpakjclpjcngmaaGreatKbQ14
import Derived.Test.YtpakjclpjcngmaaGreatKbPcMapV
import Derived.Test.YtpakjclpjcngmaaGreatKbQ27
import Derived.RangeFuncWrites
import Derived.Maps.GroupsBeside
import Derived.ArgAppend
import Derived.Test.YtpakjclpjcngmaaGreatKbQ17
import Derived.Test.YtpakjclpjcngmaaGreatKbPcOrdR
import Derived.Test.YtpakjclpjcngmaaGreatKbQ3
import Derived.Test.YtpakjclpjcngmaaGreatKbQ24
set_option maxRecDepth 100000
set_option linter.unusedVariables false
namespace Go.Proofs.YtpakjclpjcngmaaGreat
open Go.RowKit Go.Maps Go.WideMaps Go.ChangeShapes
def Ox (t:ByteArray) (g:List aA):Bool:=g.any fun x=>decide (aT x=t)
theorem z_ (t:ByteArray) (g:List aA):Ox t g=true↔t∈bM (g.map aT):=by
 rw[yt];unfold Ox;simp[List.any_eq_true]
theorem JW {gs:List (List aA)} {m:Nat} (t:ByteArray) (h:m<gs.length):bU t 0 (gs.take (m+1))=bU t 0 (gs.take m)++(if Ox t gs[m]=true then [m] else []):=by
 have hl1:(gs.take (m+1)).length=m+1:=by rw[List.length_take];omega
 have hl2:(gs.take m).length=m:=by rw[List.length_take];omega
 unfold bU;rw[hl1,hl2,List.range_succ,List.filter_append,List.map_append];congr 1
 ·congr 1
  apply List.filter_congr
  intro i hi;have hi:=List.mem_range.1 hi;simp only[List.getD,List.getElem?_take,if_pos hi,if_pos (show i<m+1 by omega)]
 ·have e:(gs.take (m+1)).getD m []=gs[m]:=by simp[List.getD,h]
  simp only[List.filter_cons,List.filter_nil,e];unfold Ox;split<;>simp
theorem mZ {gs:List (List aA)} {t:ByteArray}:∀g∈bU t 0 gs,g<gs.length:=by
 intro g hg;unfold bU at hg;simp only[List.mem_map,List.mem_filter,List.mem_range,Nat.add_zero]at hg;obtain ⟨a,⟨h,_⟩,rfl⟩:=hg;exact h
theorem pV {gs:List (List aA)} (t:ByteArray):(bU t 0 gs).length<=gs.length:=by
 unfold bU;rw[List.length_map];exact Nat.le_trans (List.length_filter_le _ _) (by simp)
def Vo (done:List ByteArray) (t:ByteArray):Bool:=done.any fun x=>decide (x=t)
theorem mY (done:List ByteArray) (t:ByteArray):Vo done t=true↔t∈done:=by
 unfold Vo;simp[List.any_eq_true]
def fU (gs:List (List aA)) (k:Nat) (done:List ByteArray) (t:ByteArray):List Nat:=bU t 0 (gs.take k)++(if Vo done t=true then [k] else [])
def CQ (D:DataW Unit) (gs:List (List aA)) (k:Nat) (done:List ByteArray):Prop:=
 IsMap D/\∀t,mg t->(has D (sL t)=false/\fU gs k done t=[])∨(D.atKey (sL t) .nil=.slice (lits .i64 (zl (fU gs k done t))) []/\fU gs k done t≠[])
theorem CQ.start (gs:List (List aA)):CQ (.map []) gs 0 []:=⟨isMap_empty,fun t _=>.inl ⟨rfl,by simp[fU,bU,Vo]⟩⟩
section
variable {D : DataW Unit} {gs : List (List aA)} {k : Nat} {done : List ByteArray}
theorem CQ.look (h:CQ D gs k done) {t:ByteArray} (ht:mg t) {w:World} {base:Nat} {v:Value} {zs:List Int} (ho:w.ownsInts base 3 .i64 v zs) (ha:D.atKey (sL t) .nil=rowDatum .i64 v zs):zs=zl (fU gs k done t):=by
 rcases h.2 t ht with ⟨h0,h2⟩|⟨h1,_⟩
 ·have h1:D.atKey (sL t) .nil=.nil:=atKey_of_not_has h0 _
  rcases ho.datum (H:=Unit) with ⟨_,h4⟩|h3
  ·rw[h4,h2];rfl
  ·rw[ha,h3]at h1;cases h1
 ·rcases ho.datum (H:=Unit) with ⟨h3,_⟩|h3
  ·rw[ha,h3]at h1;cases h1
  ·rw[ha,h3]at h1
   injection h1 with h1;exact zG h1
theorem CQ.put (h:CQ D gs k done) {t:ByteArray} (ht:mg t) (hno:t∉done) {d:DataW Unit} (hd:d=.slice (lits .i64 (zl (fU gs k done t)++[(k:Int)])) []):CQ (D.put (sL t) d) gs k (done++[t]):=by
 refine ⟨h.1.put _ _,fun u hu=>?_⟩;by_cases e:u=t
 ·subst e
  right
  have e1:fU gs k (done++[u]) u=fU gs k done u++[k]:=by
   unfold fU;rw[if_pos (by rw[mY];simp),if_neg (by rw[mY];exact hno),List.append_nil]
  rw[atKey_put_same h.1 (MG u),hd,e1];exact ⟨by simp[zl],by simp⟩
 ·have e1:fU gs k (done++[t]) u=fU gs k done u:=by
   unfold fU Vo;have e2:decide (t=u)=false:=decide_eq_false (Ne.symm e);rw[List.any_append,show ([t].any fun x=>decide (x=u))=false by rw[List.any_cons,e2];rfl,Bool.or_false]
  rw[atKey_put_other (fun e2=>e (vZ e2)),has_put_other (fun e2=>e (vZ e2)),e1];exact h.2 u hu
theorem DV (hk:k<gs.length) (t:ByteArray):fU gs k (bM (gs[k].map aT)) t=fU gs (k+1) [] t:=by
 unfold fU;rw[JW t hk];by_cases h:Ox t gs[k]=true
 ·rw[if_pos h,if_pos ((mY _ _).2 ((z_ _ _).1 h))]
  simp[Vo]
 ·rw[if_neg h,if_neg (fun h2=>h ((z_ _ _).2 ((mY _ _).1 h2)))]
  simp[Vo]
theorem CQ.next (hk:k<gs.length) (h:CQ D gs k (bM (gs[k].map aT))):CQ D gs (k+1) []:=
 ⟨h.1,fun t ht=>by have:=h.2 t ht;rw[DV hk t]at this;exact this⟩
end
theorem EJ {w:World} {base b n:Nat} {D:DataW Unit} (h:w.ownsGroups Tryz.prog 9 base 3 .i64 b n D) {t E:TypeId} (ht:Tryz.prog.underlying t=some (.map 9 E)) (hz:(zeroValue E).run Tryz.prog w=.ok (.slice none 0 0) w):
 ∃f,X_ w b n f/\∀s,mg s->(f s=none/\has D (sL s)=false)∨∃v zs,f s=some v/\has D (sL s)=true/\w.ownsInts base 3 .i64 v zs/\D.atKey (sL s) .nil=rowDatum .i64 v zs:=by
 obtain ⟨es,clock,hb,F,hs,rfl, -⟩:=h
 have F':WideElems.Fit Tryz.prog 9 jX es clock:=⟨F.size,F.stamped,fun x hx=>by
  obtain ⟨y,hy⟩:=F.reads x hx;exact ⟨(y.1,.held x.val),by simp[WideElems.rd,WideElems.rd_key hy,jX]⟩⟩
 have hown:w.ownsMap Tryz.prog 9 jX b n (.map ((es.toList.map (WideElems.rg Tryz.prog 9 jX)).foldr DataW.insert [])):=⟨es,clock,hb,F',hs,rfl⟩;generalize hD':(DataW.map ((es.toList.map (WideElems.rg Tryz.prog 9 jX)).foldr DataW.insert []):DataW Value)=D' at hown;generalize hDD:(DataW.map ((es.toList.map (WideElems.rg Tryz.prog 9 (rowElem w base 3 .i64))).foldr DataW.insert []):DataW Unit)=DD
 have key:∀s,mg s->((D'.atKey (sL s) .nil=.nil/\has D' (sL s)=false)/\has DD (sL s)=false)∨
  ∃v zs,((∀zd,D'.atKey (sL s) zd=.held v)/\has D' (sL s)=true)/\has DD (sL s)=true/\w.ownsInts base 3 .i64 v zs/\DD.atKey (sL s) .nil=rowDatum .i64 v zs:=fun s hs=>by
  rcases Maps.fit_look true Tryz.jE ht hz hb F (MF hs) with ⟨r1,n1,a1⟩|⟨e1,y1,m1,k1,r1,p1,a1,_⟩<;>
   rcases Maps.fit_look true Tryz.jE ht hz hb F' (MF hs) with ⟨r2,n2,a2⟩|⟨e2,y2,m2,k2,r2,p2,a2,_⟩
  ·rw[hD']at a2
   rw[hDD]at a1;exact .inl ⟨⟨a2 _,has_false_of_atKey a2⟩,has_false_of_atKey a1⟩
  ·exact absurd k2 (n1 e2 m2)
  ·exact absurd k1 (n2 e1 m1)
  ·rw[r1]at r2
   have hv:e1.val=e2.val:=(by simpa using r2);rw[hD']at a2;rw[hDD]at a1;have h2:=GX p2;subst h2;obtain ⟨zs,ho,rfl⟩:=rowElem_inv p1;exact .inr ⟨e1.val,zs,⟨fun zd=>by rw[a2 zd,hv],has_true_of_atKey a2⟩,has_true_of_atKey a1,ho,a1 _⟩
 refine ⟨fun s=>match D'.atKey (sL s) .nil with| .held v=>some v|_=>none,⟨D',hown,?_,fun s hs=>?_⟩,fun s hs=>?_⟩
 ·rw[←hD'];exact ⟨_,rfl⟩
 ·rcases key s hs with ⟨⟨h1,h2⟩,_⟩|⟨v,zs,⟨h1,h2⟩,_⟩
  ·rw[h2]
   simp only[h1];exact ⟨rfl,fun v hv=>by cases hv⟩
  ·rw[h2]
   simp only[h1];exact ⟨rfl,fun u hu zd=>by injection hu with hu;rw[hu]⟩
 ·rcases key s hs with ⟨⟨h1,h2⟩,h3⟩|⟨v,zs,⟨h1,h2⟩,h5,h3,h4⟩
  ·left
   simp only[h1];exact ⟨trivial,h3⟩
  ·right
   simp only[h1];exact ⟨v,zs,rfl,h5,h3,h4⟩
end Go.Proofs.YtpakjclpjcngmaaGreat
namespace Go.Proofs.YtpakjclpjcngmaaGreat
open Go.RowKit Go.Maps
theorem Tryz.zN:(Tryz.prog.info? 53).map (fun i=>(i.zero,i.size,i.bytes))=some (some (.agg #[.int .i64 0,.int .i64 0,.int .i64 0,.int .i64 0,.int .i64 0]),5,40):=by kernel_rfl
theorem Tryz.zO:(Tryz.prog.info? 90).map (fun i=>(i.zero,i.size,i.bytes))=some (some (.agg #[.string ⟨#[]⟩,.slice none 0 0]),2,40):=by kernel_rfl
theorem Tryz.sF (w:World):(zeroValue 88).run Tryz.prog w=.ok (.slice none 0 0) w:=by kernel_rfl
theorem iJ {w:World} {base:Nat} {e:TypeId} {size n k:Nat} {v:Value} {xs:List Value} (h:w.ownsRow base e size v n xs) (hk:v.ownBlock=some k):∃cs,aG w k e cs:=by
 rcases h.2 with ⟨rfl,_⟩|⟨g,cap,cur,rfl,_,hh,_⟩
 ·simp[Value.ownBlock]at hk
 ·have:g=k:=by simpa [Value.ownBlock]using hk
  subst this;exact ⟨cur,hh⟩
theorem YT {H:Type} {P:Program} {k:TypeId} {base:Nat} {e:TypeId} {q:IntKind} {b n:Nat} {D:DataW H} {S:Nat->Prop} {w w':World} (h:w.ownsGroups P k base e q b n D) (c:Ch S w w') (hb:¬S b)
 (hrow:∀g cs,base<=g->aG w g e cs->¬S g):w'.ownsGroups P k base e q b n D:=by
 obtain ⟨es,clock,hb1,F,hs,rfl,hbb,hlen,hap⟩:=h;have hblt:=(Array.getElem?_eq_some_iff.1 hb1).1
 have key:∀v zs,w.ownsInts base e q v zs->w'.ownsInts base e q v zs:=fun v zs ho=>⟨iq ho.1 c (fun g hg=>by
  obtain ⟨cs,hB⟩:=iJ ho.1 hg;exact hrow g cs (ho.1.lt g hg).1 hB),ho.2⟩
 have hst:∀x∈es.toList,∀z,rowElem (H:=H) w base e q x.val=some z->rowElem w' base e q x.val=some z:=fun x hx z hz=>by
  obtain ⟨zs,ho,rfl⟩:=rowElem_inv hz;exact rowElem_mk (key _ _ ho)
 obtain ⟨F1,hmap,_⟩:=F.stay hst;refine ⟨es,clock,(c.block b hblt hb).trans hb1,F1,hs,by rw[hmap],hbb,fun x hx zs ho=>?_,hap⟩;obtain ⟨y,hy⟩:=F.reads x hx;obtain ⟨z,hz,_⟩:=WideElems.rd_val hy;obtain ⟨zs0,ho0,_⟩:=rowElem_inv hz;rw[ho.unique (key _ _ ho0)];exact hlen x hx zs0 ho0
theorem YD {H:Type} {P:Program} {k:TypeId} {base:Nat} {e:TypeId} {q:IntKind} {b n:Nat} {D:DataW H} {S No:Nat->Prop} {w w':World} (h:w.Shuns b No) (g:w.ownsGroups P k base e q b n D) (c:Ch S w w') (hb:¬S b):w'.Shuns b No:=fun es clock hb2=>by
 obtain ⟨es1,clock1,hb1, -⟩:=g;exact h es clock ((c.block b (Array.getElem?_eq_some_iff.1 hb1).1 hb).symm.trans hb2)
theorem Ah {H:Type} {P:Program} {k t E:TypeId} {base:Nat} {e:TypeId} {q:IntKind} {b n:Nat} {D:DataW H} {w:World} {No:Nat->Prop} {key:Value} {kl:Lit} (h:w.ownsGroups P k base e q b n D) (K:Keyed P k) (ht:P.underlying t=some (.map k E)) (hz:(zeroValue E).run P w=.ok (.slice none 0 0) w) (hn:n<maxLen) (hkey:keyOf P k key=some kl) (hS:w.Shuns b No):
 ∃v zs,(Instr.lookup t (.map (some b)) key false).run P w=.ok v w/\D.atKey kl .nil=rowDatum q v zs/\w.ownsInts base e q v zs/\zs.length<=n/\(∀g,v.ownBlock=some g->¬No g)/\
  ∀(w1:World) (v':Value) (zs':List Int),w.grownBy w1 v.ownBlock->w1.ownsInts base e q v' zs'->zs'.length<=n+1->(v'.ownBlock=v.ownBlock∨∃g,v'.ownBlock=some g/\w.heap.size<=g)->(∀g,v'.ownBlock=some g->¬No g)->
   ∃w2,(Instr.mapUpdate t (.map (some b)) key v').run P w1=.ok () w2/\w2.ownsGroups P k base e q b (n+1) (D.put kl (rowDatum q v' zs'))/\w1.grownBy w2 (some b)/\w2.Shuns b No:=by
 obtain ⟨v,zs,hrun,hat,hoi,hzl,hback⟩:=h.at K ht hz hn hkey;refine ⟨v,zs,hrun,hat,hoi,hzl,?_,fun w1 v' zs' hgr hown hl hloc hno=>?_⟩
 ·obtain ⟨es,clock,hb,F,_⟩:=h
  rcases Maps.fit_look false K ht hz hb F hkey with ⟨hrun',_,_⟩|⟨e0,y,hm0,_,hrun',_,_,_⟩
  ·rw[hrun]at hrun'
   obtain rfl:v=.slice none 0 0:=(by simpa using hrun');intro g hg';cases hg'
  ·rw[hrun]at hrun'
   obtain rfl:v=e0.val:=(by simpa using hrun');exact fun g hg'=>hS es clock hb e0 hm0 g hg'
 ·obtain ⟨w2,hrun2,r1,r2⟩:=hback w1 v' zs' hgr hown hl hloc
  refine ⟨w2,hrun2,r1,r2,?_⟩;obtain ⟨es,clock,hb,F,hs,_,hbb,_⟩:=h;have hblt:b<w.heap.size:=(Array.getElem?_eq_some_iff.1 hb).1;have hb1:w1.heap[b]?=some (.map es clock):=(hgr.block b hblt (fun e1=>by have:=(hoi.1.lt b e1.symm).1;omega)).trans hb;obtain ⟨es',clock',hb2,hwho⟩:=stored_who K ht hb1 F (Nat.lt_of_le_of_lt hs hn) hkey hrun2;intro es2 clock2 hb2' y hy g hyg;obtain ⟨rfl,rfl⟩:es'=es2/\clock'=clock2:=by rw[hb2]at hb2';simpa using hb2'
  rcases hwho y hy with ⟨hy0,_⟩|⟨_,hval⟩
  ·exact hS es clock hb y hy0 g hyg
  ·exact hno g (hval▸hyg)
def jL (w W:World) (v:Value) (xs:List Nat):Prop:=ak w W 5 1 v xs.length (bl xs)∨∃(g:Nat) (cs:Array Value) (fz:Nat×Nat),v=.slice (some ⟨g,0,none⟩) xs.length xs.length/\W.heap[g]?=some (.cells cs 5 fz)/\cs.toList=bl xs/\w.heap.size<=g/\Nx w W
def Shun (W:World) (S:Nat->Prop) (T:TypeId->Prop):Prop:=∀g t cs fz,W.heap[g]?=some (.cells cs t fz)->S g->¬T t
theorem jL.ch {w W W':World} {v:Value} {xs:List Nat} {S:Nat->Prop} (h:jL w W v xs) (c:Ch S W W') (hS:Shun W S (· =5)) (hw:∀i,i<w.heap.size->¬S i):jL w W' v xs:=by
 rcases h with o|⟨g,cs,fz,e1,e2,e3,e4,e5⟩
 ·left
  exact o.ch c (fun k hk hs=>by obtain ⟨cs,hB⟩:=iJ o.own hk;exact hS k _ cs (0,0) hB hs rfl) hw
 ·right
  exact ⟨g,cs,fz,e1,(c.block g (Array.getElem?_eq_some_iff.1 e2).1 fun hs=>hS g _ cs fz e2 hs rfl).trans e2,e3,e4,e5.trans c fun i hi hs=>absurd hs (hw i hi)⟩
theorem jL.nx {w W:World} {v:Value} {xs:List Nat} (h:jL w W v xs):Nx w W:=by
 rcases h with o|⟨g,cs,fz,e1,e2,e3,e4,e5⟩
 ·exact o.nx
 ·exact e5
theorem jL.lt {w W:World} {v:Value} {xs:List Nat} (h:jL w W v xs):∀k,v.ownBlock=some k->w.heap.size<=k/\k<W.heap.size/\∃cs fz,W.heap[k]?=some (.cells cs 5 fz):=by
 intro k hk;rcases h with o|⟨g,cs,fz,rfl,e2,e3,e4,e5⟩
 ·obtain ⟨cs,hB⟩:=iJ o.own hk
  exact ⟨(o.lt k hk).1,(o.lt k hk).2,cs,(0,0),hB⟩
 ·have:g=k:=by simpa [Value.ownBlock]using hk
  subst this;exact ⟨e4,(Array.getElem?_eq_some_iff.1 e2).1,cs,fz,e2⟩
theorem jL.app {w W:World} {v:Value} {xs ys:List Nat} (h:jL w W v xs) {D:Nat->Prop} {A:Option Addr} {m c:Nat} (hr:Rd W D 1 A m (bl ys)) (hm:ys.length=m) (h0:0<m) (hs:xs.length+m<=100000000000) (ty:TypeId):
 ∃v' w',(Builtin.append_ #[26,26] ty #[v,.slice A m c]).run Tryz.prog W=.ok v' w'/\ak w w' 5 1 v' (xs++ys).length (bl (xs++ys))/\W.grownBy w' v.ownBlock:=by
 obtain ⟨i0,hi0,hz0,hz1,hz2⟩:=info_parts Tryz.info5;obtain ⟨ad,rfl,hD,hc⟩:=hr.2 h0;have hbl:bl (xs++ys)=bl xs++bl ys:=by simp[bl]
 have hlen:(xs++ys).length=xs.length+m:=by rw[List.length_append,hm]
 rw[hbl,hlen];have hnl:(bl ys).length=m * 1:=by rw[Rn,hm,Nat.mul_one]
 rcases h with o|⟨g,cs,fz,rfl,e2,e3,e4,e5⟩
 ·obtain ⟨v',w',hrun,r1,r2,r3⟩:=run_append_own (P:=Tryz.prog) W w.heap.size 26 ty 5 i0 _ 1 1 Tryz.underlying26 hi0 hz0 hz1 hz2 rfl (by decide) v xs.length (bl xs) o.own ad m c (bl ys) hnl hc (iL _) (by simp only[maxLen];omega) (by omega) o.nx.size
  exact ⟨v',w',hrun,⟨r1,o.nx.grown r2 fun k hk hlt=>by have:=o.lt k hk;omega⟩,r2⟩
 ·have hcell:∀j u,(bl xs)[j]?=some u->W.cell? ((⟨g,0,none⟩:Addr).add j)=some u:=fun j u hu=>by
   have hadd:(⟨g,0,none⟩:Addr).add j=⟨g,j,none⟩:=by unfold Addr.add;split<;>simp_all
   rw[hadd,cell_of_row W g j cs 5 fz e2];rw[←e3]at hu;simpa using hu
  obtain ⟨v',w',hrun,r1,r2⟩:=run_append_arg_grows (P:=Tryz.prog) W 26 ty 5 i0 _ 1 1 Tryz.underlying26 hi0 hz0 hz1 hz2 rfl (by decide) ⟨g,0,none⟩ xs.length xs.length (bl xs) (by rw[Rn,Nat.mul_one]) hcell ad m c (bl ys) hnl hc (by omega) (by simp only[maxLen];omega) (by omega);exact ⟨v',w',hrun,⟨jM r1 e5.size,e5.grown r2 fun k hk _=>by cases hk⟩,r2.but _⟩
structure fK (w:World) (B b1 b2 b3 b4:Nat) (gs:List (List aA)) (X:List Nat) (ss:List aK) (k:Nat) (done:List ByteArray) (W:World):Prop where
 out:∃v,aG W b1 26 #[v]/\jL w W v X
 idx:∃v,aG W b2 49 #[v,.slice none 0 0]/\ak w W 53 5 v ss.length (spl ss)
 box:aG W b4 75 #[.map (some b3)]
 grp:∃(D:DataW Unit) (n:Nat),W.ownsGroups Tryz.prog 9 (b3+1) 3 .i64 b3 n D/\CQ D gs k done/\n<=2048 * k+done.length/\W.Shuns b3 (· <B)
def BldT (t:TypeId):Prop:=t=26∨t=5∨t=49∨t=53∨t=75∨t=3
section
variable {w W W' : World} {B b1 b2 b3 b4 : Nat} {gs : List (List aA)} {X : List Nat} {ss : List aK} {k : Nat} {done : List ByteArray}
theorem fK.ch {S:Nat->Prop} (h:fK w B b1 b2 b3 b4 gs X ss k done W) (c:Ch S W W') (h3:¬S b3) (hw:∀i,i<w.heap.size->¬S i) (hS:Shun W S BldT):fK w B b1 b2 b3 b4 gs X ss k done W':=by
 obtain ⟨⟨v1,B1,o1⟩,⟨v2,B2,o2⟩,B4,D,n,g1,g2,g3,g4⟩:=h;refine ⟨⟨v1,B1.ch c fun hs=>hS _ _ _ _ B1 hs (.inl rfl),o1.ch c (fun g t cs fz hg hs e=>hS g t cs fz hg hs (.inr (.inl e))) hw⟩,⟨v2,B2.ch c fun hs=>hS _ _ _ _ B2 hs (.inr (.inr (.inl rfl))),o2.ch c (fun g hg hs=>?_) hw⟩,B4.ch c fun hs=>hS _ _ _ _ B4 hs (.inr (.inr (.inr (.inr (.inl rfl))))),D,n,YT g1 c h3 (fun g cs _ hB hs=>hS _ _ _ _ hB hs (.inr (.inr (.inr (.inr (.inr rfl)))))),g2,g3,YD g4 g1 c h3⟩;obtain ⟨cs,hB⟩:=iJ o2.own hg;exact hS _ _ _ _ hB hs (.inr (.inr (.inr (.inl rfl))))
theorem fK.tr (h:fK w B b1 b2 b3 b4 gs X ss k done W) (c:Nx W W'):fK w B b1 b2 b3 b4 gs X ss k done W':=
 h.ch c (fun hf=>hf) (fun _ _ hf=>hf) (fun _ _ _ _ _ hf=>hf.elim)
theorem fK.nx (h:fK w B b1 b2 b3 b4 gs X ss k done W):Nx w W:=by
 obtain ⟨v1,B1,o1⟩:=h.out;exact o1.nx
theorem fK.from (h:fK w B b1 b2 b3 b4 gs X ss k done W) {B':Nat} (h3:b3<B') (hB:w.heap.size<=B') {row:Option Nat} (hg:W.grownBy W' row) (hr:∀r,row=some r->B'<=r/\∃o:Obj,W.heap[r]?=some o/\o.isCells=false):fK w B b1 b2 b3 b4 gs X ss k done W':=by
 refine h.ch ((Ch.refl (fun r=>row=some r) W).grown hg (fun r hr _=>hr)) (fun e=>?_) (fun i hi e=>?_) (fun g t cs fz hBk e=>?_)
 ·have:=(hr _ e).1;omega
 ·have:=(hr _ e).1;omega
 ·obtain ⟨o,h1,h2⟩:=(hr _ e).2
  rw[hBk]at h1;injection h1 with h1;rw[←h1]at h2;cases h2
theorem fK.put (h:fK w B b1 b2 b3 b4 gs X ss k done W) {v v':Value} {X':List Nat} (hb:aG W b1 26 #[v]) (hv:jL w W v X) (hg:W.grownBy W' v.ownBlock) (o:ak w W' 5 1 v' X'.length (bl X')) (h1:w.heap.size<=b1):fK w B b1 b2 b3 b4 gs X' ss k done (W'.setCell ⟨b1,0,none⟩ v'):=by
 obtain ⟨-,⟨v2,B2,o2⟩,B4,D,n,g1,g2,g3,g4⟩:=h;have c1:Ch (fun r=>v.ownBlock=some r) W W':=(Ch.refl _ W).grown hg (fun r hr _=>hr)
 have hS1:Shun W (fun r=>v.ownBlock=some r) (· ≠5):=fun g t cs fz hB hs hne=>by
  obtain ⟨_,_,cs2,fz2,hB2⟩:=hv.lt g hs;rw[hB]at hB2;injection hB2 with hB2;injection hB2 with _ e;exact hne e
 have hlt:∀g,v.ownBlock=some g->w.heap.size<=g:=fun g hg=>(hv.lt g hg).1;have B1':aG W' b1 26 #[v]:=hb.ch c1 fun hs=>hS1 _ _ _ _ hb hs (by decide);have B2':=B2.ch c1 fun hs=>hS1 _ _ _ _ B2 hs (by decide);have B4':=B4.ch c1 fun hs=>hS1 _ _ _ _ B4 hs (by decide);have o2':=o2.ch c1 (fun g hg hs=>by obtain ⟨cs,hB⟩:=iJ o2.own hg;exact hS1 _ _ _ _ hB hs (by decide)) (fun i hi hs=>by have:=hlt i hs;omega)
 have hb31:¬v.ownBlock=some b3:=fun hs=>by
  obtain ⟨_,_,cs2,fz2,hB2⟩:=hv.lt _ hs;obtain ⟨es,clock,hb3, -⟩:=g1;rw[hb3]at hB2;cases hB2
 have g1':=YT g1 c1 hb31 (fun g cs _ hB hs=>hS1 _ _ _ _ hB hs (by decide));have c2:Ch (· =b1) W' (W'.setCell ⟨b1,0,none⟩ v'):=Ch.setCell (Ch.refl (· =b1) _) (p:=⟨b1,0,none⟩) (fun _=>rfl) _
 have hS2:∀g t cs,aG W' g t cs->g=b1->t=26:=fun g t cs hB e=>by
  subst e;have h1:W'.heap[g]?=some (.cells cs t (0,0)):=hB;have h2:W'.heap[g]?=some (.cells #[v] 26 (0,0)):=B1';rw[h1]at h2;injection h2 with h2;injection h2
 have hb32:¬b3=b1:=fun e=>by
  obtain ⟨es,clock,hb3, -⟩:=g1';have h2:W'.heap[b1]?=some (.cells #[v] 26 (0,0)):=B1';rw[←e,hb3]at h2;cases h2
 have hno:∀i,i<w.heap.size->¬i=b1:=fun i hi e=>by omega
 refine ⟨⟨v',by simpa using B1'.dK 0 v',.inl (o.ch c2 (fun g hg e=>?_) hno)⟩,⟨v2,B2'.ch c2 fun e=>absurd (hS2 _ _ _ B2' e) (by decide),o2'.ch c2 (fun g hg e=>?_) hno⟩,B4'.ch c2 fun e=>absurd (hS2 _ _ _ B4' e) (by decide),D,n,YT g1' c2 (fun e=>?_) (fun g cs _ hB e=>absurd (hS2 _ _ _ hB e) (by decide)),g2,g3,YD (YD g4 g1 c1 hb31) g1' c2 hb32⟩
 ·obtain ⟨cs,hB⟩:=iJ o.own hg
  exact absurd (hS2 _ _ _ hB e) (by decide)
 ·obtain ⟨cs,hB⟩:=iJ o2'.own hg
  exact absurd (hS2 _ _ _ hB e) (by decide)
 ·exact hb32 e
theorem fK.span (h:fK w B b1 b2 b3 b4 gs X ss k done W) {v v':Value} {s:aK} (hb:aG W b2 49 #[v,.slice none 0 0]) (hv:ak w W 53 5 v ss.length (spl ss)) (hg:W.grownBy W' v.ownBlock) (o:ak w W' 53 5 v' (ss++[s]).length (spl (ss++[s]))) (h1:w.heap.size<=b2):fK w B b1 b2 b3 b4 gs X (ss++[s]) k done (W'.setCell ⟨b2,0,none⟩ v'):=by
 obtain ⟨⟨v1,B1,o1⟩, -,B4,D,n,g1,g2,g3,g4⟩:=h;have c1:Ch (fun r=>v.ownBlock=some r) W W':=(Ch.refl _ W).grown hg (fun r hr _=>hr)
 have hS1:Shun W (fun r=>v.ownBlock=some r) (· ≠53):=fun g t cs fz hB hs hne=>by
  obtain ⟨cs2,hB2⟩:=iJ hv.own hs;have hB2:W.heap[g]?=some (.cells cs2 53 (0,0)):=hB2;rw[hB]at hB2;injection hB2 with hB2;injection hB2 with _ e;exact hne e
 have hlt:∀g,v.ownBlock=some g->w.heap.size<=g:=fun g hg=>(hv.lt g hg).1;have B1':=B1.ch c1 fun hs=>hS1 _ _ _ _ B1 hs (by decide);have B2':aG W' b2 49 #[v,.slice none 0 0]:=hb.ch c1 fun hs=>hS1 _ _ _ _ hb hs (by decide);have B4':=B4.ch c1 fun hs=>hS1 _ _ _ _ B4 hs (by decide);have o1':=o1.ch c1 (fun g t cs fz hB hs e=>hS1 g t cs fz hB hs (by rw[e];decide)) (fun i hi hs=>by have:=hlt i hs;omega)
 have hb31:¬v.ownBlock=some b3:=fun hs=>by
  obtain ⟨cs2,hB2⟩:=iJ hv.own hs;obtain ⟨es,clock,hb3, -⟩:=g1;have hB2:W.heap[b3]?=some (.cells cs2 53 (0,0)):=hB2;rw[hb3]at hB2;cases hB2
 have g1':=YT g1 c1 hb31 (fun g cs _ hB hs=>hS1 _ _ _ _ hB hs (by decide));have c2:Ch (· =b2) W' (W'.setCell ⟨b2,0,none⟩ v'):=Ch.setCell (Ch.refl (· =b2) _) (p:=⟨b2,0,none⟩) (fun _=>rfl) _
 have hS2:Shun W' (· =b2) (· ≠49):=fun g t cs fz hB e hne=>by
  subst e;have h2:W'.heap[g]?=some (.cells #[v,.slice none 0 0] 49 (0,0)):=B2';rw[hB]at h2;injection h2 with h2;injection h2 with _ h3;exact hne h3
 have hb32:¬b3=b2:=fun e=>by
  obtain ⟨es,clock,hb3, -⟩:=g1';have h2:W'.heap[b2]?=some (.cells #[v,.slice none 0 0] 49 (0,0)):=B2';rw[←e,hb3]at h2;cases h2
 have hno:∀i,i<w.heap.size->¬i=b2:=fun i hi e=>by omega
 refine ⟨⟨v1,B1'.ch c2 fun e=>hS2 _ _ _ _ B1' e (by decide),o1'.ch c2 (fun g t cs fz hB e e2=>hS2 g t cs fz hB e (by rw[e2];decide)) hno⟩,⟨v',by simpa using B2'.dK 0 v',o.ch c2 (fun g hg e=>?_) hno⟩,B4'.ch c2 fun e=>hS2 _ _ _ _ B4' e (by decide),D,n,YT g1' c2 (fun e=>?_) (fun g cs _ hB e=>hS2 _ _ _ _ hB e (by decide)),g2,g3,YD (YD g4 g1 c1 hb31) g1' c2 hb32⟩
 ·obtain ⟨cs,hB⟩:=iJ o.own hg
  exact hS2 _ _ _ _ hB e (by decide)
 ·exact hb32 e
theorem fK.next (h:fK w B b1 b2 b3 b4 gs X ss k done W) (hk:k<gs.length) (hd:done=bM (gs[k].map aT)) (hl:done.length<=2048):fK w B b1 b2 b3 b4 gs X ss (k+1) [] W:=by
 obtain ⟨h1,h2,h3,D,n,g1,g2,g3,g4⟩:=h;subst hd;exact ⟨h1,h2,h3,D,n,g1,g2.next hk,by simp only[List.length_nil];omega,g4⟩
theorem fK.word (h:fK w B b1 b2 b3 b4 gs X ss k done W) {t:ByteArray} (ht:mg t) (hno:t∉done) (hk:k<=4096) (hd:done.length<=2048) (hw:w.heap.size<=b3) (hB:B<=W.heap.size) (hb3:b3<B):
 ∃v,(Instr.lookup 75 (.map (some b3)) (.string t) false).run Tryz.prog W=.ok v W/\
  ∀(W1:World) (g:Nat) (ty:TypeId),Nx W W1->W.grownBy W1 none->W1.cell? ⟨g,0,none⟩=some (.int .i64 (k:Int))->∃v' W2,(Builtin.append_ #[88,88] ty #[v,.slice (some ⟨g,0,none⟩) 1 1]).run Tryz.prog W1=.ok v' W2/\
   (∀p t cs,aG W1 p t cs->t≠3->aG W2 p t cs)/\
   ∃W3,(Instr.mapUpdate 75 (.map (some b3)) (.string t) v').run Tryz.prog W2=.ok () W3/\fK w B b1 b2 b3 b4 gs X ss k (done++[t]) W3/\Ch (fun r=>r=b3∨(v.ownBlock=some r/\B<=r/\∃cs,aG W r 3 cs)) W W3:=by
 obtain ⟨D,n,g1,g2,g3,g4⟩:=h.grp;obtain ⟨i0,hi0,hz0,hz1,hz2⟩:=info_parts Tryz.mX;obtain ⟨v,zs,hrun,hat,hoi,hzl,hsh,hback⟩:=Ah g1 Tryz.jE Tryz.underlying75 (Tryz.sF W) (by unfold maxLen;omega) (MF ht) g4;have hzs:=g2.look ht hoi hat;refine ⟨v,hrun,fun W1 g ty c1 gr1 hcell=>?_⟩;have Xu:W1.ownsInts (b3+1) 3 .i64 v zs:=⟨iq hoi.1 c1 (fun _ _ hf=>hf),hoi.2⟩;have hsz:=c1.size
 obtain ⟨v',W2,happ,r1,r2, -,r3⟩:=run_append_own_at (P:=Tryz.prog) W1 (b3+1) 88 ty 3 i0 _ 1 8 Tryz.underlying88 hi0 hz0 hz1 hz2 rfl (by decide) v zs.length (zs.map (Value.int .i64)) Xu.1 ⟨g,0,none⟩ 1 1 [.int .i64 (k:Int)] rfl (fun j u hu=>by
  cases j with
  |zero=>simp at hu;subst hu;simpa [Addr.add]using hcell
  |succ j=>simp at hu) (by simp[Value.oneCell']) (by simp only[maxLen];omega) (by omega) (by omega)
 have hgr:W.grownBy W2 v.ownBlock:=(gr1.but _).trans r2
 have hkeep:∀p t cs,aG W1 p t cs->t≠3->aG W2 p t cs:=fun p t cs hB2 hne=>(r2.block p hB2.lt fun e=>by
  obtain ⟨cs2,hB3⟩:=iJ Xu.1 e.symm;exact (hB2.Lj hB3 hne) rfl).trans hB2
 have hloc:v'.ownBlock=v.ownBlock∨∃g,v'.ownBlock=some g/\W.heap.size<=g:=r3.imp id fun e=>⟨_,e,hsz⟩;have hwf:(Lit.int .i64 (k:Int)).wf=true:=WalkArith.wf_i64 (by omega);have ho2:W2.ownsInts (b3+1) 3 .i64 v' (zs++[(k:Int)]):=Xu.appended r1 hwf
 obtain ⟨W3,hup,q1,q2,q3⟩:=hback W2 v' (zs++[(k:Int)]) hgr ho2 (by simp;omega) hloc (fun g hg=>by
  rcases hloc with e|⟨g2,e,hge⟩
  ·exact hsh g (by rw[←e];exact hg)
  ·rw[hg]at e
   injection e with e;omega)
 refine ⟨v',W2,happ,hkeep,W3,hup,?_,?_⟩
 all_goals
  have c3:Ch (fun r=>r=b3∨v.ownBlock=some r) W W3:=((c1.mono (T:=fun r=>r=b3∨v.ownBlock=some r) fun _ _ hf=>hf.elim).grown r2 (fun r hr _=>.inr hr)).grown q2 (fun r hr _=>by injection hr with hr;exact .inl hr.symm)
 ·have hS:∀g t cs fz,W.heap[g]?=some (.cells cs t fz)->(g=b3∨v.ownBlock=some g)->t=3:=fun g t cs fz hB2 hs=>by
   rcases hs with rfl|hs
   ·obtain ⟨es,clock,hb, -⟩:=g1
    rw[hb]at hB2;cases hB2
   ·obtain ⟨cs2,hB3⟩:=iJ hoi.1 hs
    have hB3:W.heap[g]?=some (.cells cs2 3 (0,0)):=hB3;rw[hB2]at hB3;injection hB3 with hB3;injection hB3
  have hlt:∀i,i<w.heap.size->¬(i=b3∨v.ownBlock=some i):=fun i hi hs=>by
   rcases hs with rfl|hs
   ·omega
   ·have:=(hoi.1.lt i hs).1;omega
  obtain ⟨⟨v1,B1,o1⟩,⟨v2,B2,o2⟩,B4, -⟩:=h;refine ⟨⟨v1,B1.ch c3 fun hs=>absurd (hS _ _ _ _ B1 hs) (by decide),o1.ch c3 (fun g t cs fz hB2 hs e=>absurd (hS _ _ _ _ hB2 hs) (by rw[e];decide)) hlt⟩,⟨v2,B2.ch c3 fun hs=>absurd (hS _ _ _ _ B2 hs) (by decide),o2.ch c3 (fun g hg hs=>?_) hlt⟩,B4.ch c3 fun hs=>absurd (hS _ _ _ _ B4 hs) (by decide),_,n+1,q1,g2.put ht hno ?_,by rw[List.length_append,List.length_singleton];omega,q3⟩
  ·obtain ⟨cs,hB2⟩:=iJ o2.own hg
   exact absurd (hS _ _ _ _ hB2 hs) (by decide)
  ·rw[←hzs]
   exact ho2.datum_pos (by simp)
 ·refine c3.mono fun r hr hs=>?_
  rcases hs with hs|hs
  ·exact .inl hs
  ·exact .inr ⟨hs,Nat.not_lt.1 (hsh r hs),iJ hoi.1 hs⟩
end
end Go.Proofs.YtpakjclpjcngmaaGreat
namespace Go.Proofs.YtpakjclpjcngmaaGreat
open Go.RowKit
theorem Rj {xs:List Nat} {p:Nat} {e most:Int} (h:0<=most):((bF xs p e most).1:Int)<=most:=by
 unfold bF;split
 ·simpa using h
 ·split
  ·simpa using h
  ·split
   ·simpa using h
   ·rename_i h1
    simp only;omega
structure jw (w:World) (d0 g b2 b6 b7 m0 q:Nat) (A:Option Addr) (c:Nat) (xs:List Nat) (ss:List aK) (ps:List PV) (s:gY) (W:World):Prop where
 cur:aW W (fun k=>d0<=k/\k<g) g A c xs s.1 s.2
 r2:aG W b2 49 #[.slice none 0 0,.slice none 0 0]
 r6:aG W b6 111 #[.pointer (some ⟨g,0,none⟩)]
 idx:∃v vp,aG W b7 49 #[v,vp]/\W.ownsRow m0 53 5 v ss.length (spl ss)/\W.ownsRow m0 90 2 vp ps.length (iM ps)/\(∀k,v.ownBlock=some k->k<q)/\(∀k,vp.ownBlock=some k->k<q)
 rows:∀x∈ps,Rd W (fun k=>m0<=k/\k<q/\∃cs,aG W k 3 cs) 1 x.A x.gs.length (ints x.gs)
 nx:Nx w W
 lay:w.heap.size<=b2/\b2<d0/\d0<=g/\g<b6/\b6<b7/\b7<m0/\m0<=W.heap.size/\m0<=q/\q<=W.heap.size
section
variable {w W W' : World} {d0 g b2 b6 b7 m0 q : Nat} {A : Option Addr} {c : Nat} {xs : List Nat} {ss : List aK} {ps : List PV} {s s' : gY}
theorem jw.Vj (h:jw w d0 g b2 b6 b7 m0 q A c xs ss ps s W) (k:dU W (fun k=>d0<=k/\k<g) g A c xs s'.1 s'.2 W'):jw w d0 g b2 b6 b7 m0 q A c xs ss ps s' W':=by
 obtain ⟨h1,h2,h3,⟨v,vp,B,o1,o2,u1,u2⟩,h5,h6,h7⟩:=h;obtain ⟨c1,c2⟩:=k;refine ⟨c1,h2.ch c2 (by omega),h3.ch c2 (by omega),⟨v,vp,B.ch c2 (by omega),?_,?_,u1,u2⟩,fun x hx=>?_,h6.trans c2 (fun i hi e=>by omega),?_⟩
 ·exact iq o1 c2 (fun k hk e=>by have:=(o1.lt k hk).1;omega)
 ·exact iq o2 c2 (fun k hk e=>by have:=(o2.lt k hk).1;omega)
 ·exact ((h5 x hx).ch (by decide) c2 (fun k _ hk e=>by omega)).more fun k hk=>⟨hk.1,hk.2.1,by obtain ⟨cs,hB⟩:=hk.2.2;exact ⟨cs,hB.ch c2 (by omega)⟩⟩
 ·have:=c2.size
  omega
theorem jw.far {S:Nat->Prop} (h:jw w d0 g b2 b6 b7 m0 q A c xs ss ps s W) (n:Ch S W W') (hS:∀k,S k->q<=k):jw w d0 g b2 b6 b7 m0 q A c xs ss ps s W':=by
 obtain ⟨h1,h2,h3,⟨v,vp,B,o1,o2,u1,u2⟩,h5,h6,h7⟩:=h;have no:∀k,k<q->¬S k:=fun k hk hs=>by have:=hS k hs;omega
 refine ⟨h1.ch n (no _ (by omega)) (fun k hk=>no _ (by omega)),h2.ch n (no _ (by omega)),h3.ch n (no _ (by omega)),⟨v,vp,B.ch n (no _ (by omega)),?_,?_,u1,u2⟩,fun x hx=>?_,h6.trans n (fun i hi hs=>(no _ (by omega) hs).elim),?_⟩
 ·exact iq o1 n (fun k hk=>no _ (u1 k hk))
 ·exact iq o2 n (fun k hk=>no _ (u2 k hk))
 ·exact ((h5 x hx).ch (by decide) n (fun k _ hk=>no _ hk.2.1)).more fun k hk=>⟨hk.1,hk.2.1,by obtain ⟨cs,hB⟩:=hk.2.2;exact ⟨cs,hB.ch n (no _ hk.2.1)⟩⟩
 ·have:=n.size
  omega
theorem jw.kY (h:jw w d0 g b2 b6 b7 m0 q A c xs ss ps s W) (n:Nx W W'):jw w d0 g b2 b6 b7 m0 q A c xs ss ps s W':=h.far n (fun _ hf=>hf.elim)
theorem jw.more {q':Nat} (h:jw w d0 g b2 b6 b7 m0 q A c xs ss ps s W) (h1:q<=q') (h2:q'<=W.heap.size):jw w d0 g b2 b6 b7 m0 q' A c xs ss ps s W:=by
 obtain ⟨h1,h2,h3,⟨v,vp,B,o1,o2,u1,u2⟩,h5,h6,h7⟩:=h;exact ⟨h1,h2,h3,⟨v,vp,B,o1,o2,fun k hk=>by have:=u1 k hk;omega,fun k hk=>by have:=u2 k hk;omega⟩,fun x hx=>(h5 x hx).more fun k hk=>⟨hk.1,by omega,hk.2.2⟩,h6,by omega⟩
theorem ny {W:World} {g:Nat} {t:TypeId} {cs cs':Array Value} (h:aG W g t cs) (h':aG W g t cs'):cs=cs':=by
 have h:W.heap[g]?=some (.cells cs t (0,0)):=h;have h':W.heap[g]?=some (.cells cs' t (0,0)):=h';rw[h]at h';injection h' with h';injection h'
theorem jw.span {v vp v2:Value} {sp:aK} (h:jw w d0 g b2 b6 b7 m0 q A c xs ss ps s W) (hB:aG W b7 49 #[v,vp]) (gr:W.grownBy W' v.ownBlock) (jT:W'.ownsRow m0 53 5 v2 (ss.length+1) (spl ss++spl [sp])):
 jw w d0 g b2 b6 b7 m0 W'.heap.size A c xs (ss++[sp]) ps s (W'.setCell ⟨b7,0,none⟩ v2):=by
 obtain ⟨h1,h2,h3,⟨v',Ry,B,o1,o2,u1,u2⟩,h5,h6,h7⟩:=h;have e:=ny hB B;injection e with e;injection e with e1 e2;injection e2 with e2;subst e1;subst e2;have c1:Ch (fun k=>v.ownBlock=some k) W W':=(Ch.refl _ _).grown gr (fun k hk _=>hk);have cs:Ch (· =b7) W' (W'.setCell ⟨b7,0,none⟩ v2):=Ch.setCell (Ch.refl (· =b7) _) (p:=⟨b7,0,none⟩) (fun _=>rfl) _;have no:∀k,k<m0->v.ownBlock≠some k:=fun k hk hs=>by have:=(o1.lt k hs).1;omega
 have hsz:(W'.setCell ⟨b7,0,none⟩ v2).heap.size=W'.heap.size:=by simp
 have z1:=c1.size;refine ⟨(h1.ch c1 (no _ (by omega)) (fun k hk=>no _ (by omega))).ch cs (by omega) (fun k hk=>by omega),(h2.ch c1 (no _ (by omega))).ch cs (by omega),(h3.ch c1 (no _ (by omega))).ch cs (by omega),⟨v2,vp,?_,?_,?_,?_,?_⟩,fun x hx=>?_,(h6.trans c1 (fun i hi hs=>(no _ (by omega) hs).elim)).trans cs (fun i hi e=>by omega),?_⟩
 ·simpa using (B.ch c1 (no _ (by omega))).dK 0 v2
 ·have:=iq jT cs (fun k hk e=>by have:=(jT.lt k hk).1;omega)
  rw[List.length_append,List.length_singleton,show spl (ss++[sp])=spl ss++spl [sp] by simp[spl]];exact this
 ·refine iq (iq o2 c1 (fun k hk hs=>?_)) cs (fun k hk e=>by have:=(o2.lt k hk).1;omega)
  obtain ⟨cs2,hB2⟩:=iJ o2 hk;exact z03 o1 hB2 (by decide) hs
 ·exact fun k hk=>(jT.lt k hk).2
 ·exact fun k hk=>by have:=u2 k hk;omega
 ·have r1:=(h5 x hx).ch (by decide) c1 (fun k _ hk hs=>by obtain ⟨_,_,cs2,hB2⟩:=hk;exact z03 o1 hB2 (by decide) hs)
  refine (r1.ch (by decide) cs (fun k _ hk e=>by omega)).more fun k hk=>⟨hk.1,by omega,?_⟩;obtain ⟨_,_,cs2,hB2⟩:=hk;exact ⟨cs2,(hB2.ch c1 (fun hs=>z03 o1 hB2 (by decide) hs)).ch cs (by omega)⟩
 ·omega
theorem jw.post {v vp v2:Value} {x:PV} (h:jw w d0 g b2 b6 b7 m0 q A c xs ss ps s W) (hB:aG W b7 49 #[v,vp]) (gr:W.grownBy W' vp.ownBlock) (jT:W'.ownsRow m0 90 2 v2 (ps.length+1) (iM ps++iM [x]))
 (hx:Rd W (fun k=>m0<=k/\∃cs,aG W k 3 cs) 1 x.A x.gs.length (ints x.gs)) (hxl:∀k,(∃cs,aG W k 3 cs)->k<W.heap.size):
 jw w d0 g b2 b6 b7 m0 W'.heap.size A c xs ss (ps++[x]) s (W'.setCell ⟨b7,1,none⟩ v2):=by
 obtain ⟨h1,h2,h3,⟨v',Ry,B,o1,o2,u1,u2⟩,h5,h6,h7⟩:=h;have e:=ny hB B;injection e with e;injection e with e1 e2;injection e2 with e2;subst e1;subst e2;have c1:Ch (fun k=>vp.ownBlock=some k) W W':=(Ch.refl _ _).grown gr (fun k hk _=>hk);have cs:Ch (· =b7) W' (W'.setCell ⟨b7,1,none⟩ v2):=Ch.setCell (Ch.refl (· =b7) _) (p:=⟨b7,1,none⟩) (fun _=>rfl) _;have no:∀k,k<m0->vp.ownBlock≠some k:=fun k hk hs=>by have:=(o2.lt k hs).1;omega
 have hsz:(W'.setCell ⟨b7,1,none⟩ v2).heap.size=W'.heap.size:=by simp
 have z1:=c1.size
 have hr:∀y:PV,Rd W (fun k=>m0<=k/\∃cs,aG W k 3 cs) 1 y.A y.gs.length (ints y.gs)->Rd (W'.setCell ⟨b7,1,none⟩ v2) (fun k=>m0<=k/\k<W'.heap.size/\∃cs,aG (W'.setCell ⟨b7,1,none⟩ v2) k 3 cs) 1 y.A y.gs.length (ints y.gs):=fun y hy=>by
  have r1:=hy.ch (by decide) c1 (fun k _ hk hs=>by obtain ⟨_,cs2,hB2⟩:=hk;exact z03 o2 hB2 (by decide) hs);refine (r1.ch (by decide) cs (fun k _ hk e=>by omega)).more fun k hk=>⟨hk.1,by have:=hxl k hk.2;omega,?_⟩;obtain ⟨_,cs2,hB2⟩:=hk;exact ⟨cs2,(hB2.ch c1 (fun hs=>z03 o2 hB2 (by decide) hs)).ch cs (by omega)⟩
 refine ⟨(h1.ch c1 (no _ (by omega)) (fun k hk=>no _ (by omega))).ch cs (by omega) (fun k hk=>by omega),(h2.ch c1 (no _ (by omega))).ch cs (by omega),(h3.ch c1 (no _ (by omega))).ch cs (by omega),⟨v,v2,?_,?_,?_,?_,?_⟩,fun y hy=>?_,(h6.trans c1 (fun i hi hs=>(no _ (by omega) hs).elim)).trans cs (fun i hi e=>by omega),?_⟩
 ·simpa using (B.ch c1 (no _ (by omega))).dK 1 v2
 ·refine iq (iq o1 c1 (fun k hk hs=>?_)) cs (fun k hk e=>by have:=(o1.lt k hk).1;omega)
  obtain ⟨cs2,hB2⟩:=iJ o1 hk;exact z03 o2 hB2 (by decide) hs
 ·have:=iq jT cs (fun k hk e=>by have:=(jT.lt k hk).1;omega)
  rw[List.length_append,List.length_singleton,show iM (ps++[x])=iM ps++iM [x] by simp[iM]];exact this
 ·exact fun k hk=>by have:=u1 k hk;omega
 ·exact fun k hk=>(jT.lt k hk).2
 ·rcases List.mem_append.1 hy with hy|hy
  ·exact hr y ((h5 y hy).more fun k hk=>⟨hk.1,hk.2.2⟩)
  ·rw[List.mem_singleton]at hy
   subst hy;exact hr y hx
 ·omega
theorem jw.WJ {v vp:Value} (h:jw w d0 g b2 b6 b7 m0 q A c xs ss ps s W) (hB:aG W b7 49 #[v,vp]):W.ownsRow m0 53 5 v ss.length (spl ss):=by
 obtain ⟨v',Ry,B,o1,o2,u1,u2⟩:=h.idx;have e:=ny hB B;injection e with e;injection e with e1 e2;rw[e1];exact o1
theorem jw.jT {v vp:Value} (h:jw w d0 g b2 b6 b7 m0 q A c xs ss ps s W) (hB:aG W b7 49 #[v,vp]):W.ownsRow m0 90 2 vp ps.length (iM ps):=by
 obtain ⟨v',Ry,B,o1,o2,u1,u2⟩:=h.idx;have e:=ny hB B;injection e with e;injection e with e1 e2;injection e2 with e2;rw[e2];exact o2
theorem jw.start {w2:World} (hc:aW w2 (fun k=>d0<=k/\k<g) g A c xs 0 0) (r2:aG w2 b2 49 #[.slice none 0 0,.slice none 0 0]) (n:Nx w w2) (l:w.heap.size<=b2/\b2<d0/\d0<=g/\g<w2.heap.size):
 jw w d0 g b2 w2.heap.size (w2.heap.size+1) (w2.heap.size+1+1) (w2.heap.size+1+1) A c xs [] [] (0,0) ((w2.alloc (.cells #[.pointer (some ⟨g,0,none⟩)] 111)).alloc (.cells #[.slice none 0 0,.slice none 0 0] 49)):=by
 have n1:Nx w2 (w2.alloc (.cells #[.pointer (some ⟨g,0,none⟩)] 111)):=(Ch.refl (fun _=>False) w2).alloc _;have n2:Nx (w2.alloc (.cells #[.pointer (some ⟨g,0,none⟩)] 111)) ((w2.alloc (.cells #[.pointer (some ⟨g,0,none⟩)] 111)).alloc (.cells #[.slice none 0 0,.slice none 0 0] 49)):=(Ch.refl (fun _=>False) _).alloc _;have z1:(w2.alloc (.cells #[.pointer (some ⟨g,0,none⟩)] 111)).heap.size=w2.heap.size+1:=by simp
 have z2:((w2.alloc (.cells #[.pointer (some ⟨g,0,none⟩)] 111)).alloc (.cells #[.slice none 0 0,.slice none 0 0] 49)).heap.size=w2.heap.size+1+1:=by simp
 have B7:=aG.new (w2.alloc (.cells #[.pointer (some ⟨g,0,none⟩)] 111)) 49 #[.slice none 0 0,.slice none 0 0];rw[z1]at B7;exact ⟨(hc.nx n1).nx n2,(r2.nx n1).nx n2,(aG.new w2 _ _).nx n2,⟨_,_,B7,World.ownsRow_nil _ _ _ _,World.ownsRow_nil _ _ _ _,by simp[Value.ownBlock],by simp[Value.ownBlock]⟩,by simp,(n.trans n1 (fun _ _ hf=>hf)).trans n2 (fun _ _ hf=>hf),by omega⟩
theorem uM (h:jw w d0 g b2 b6 b7 m0 q A c xs ss ps s W):Calls Tryz.prog 75 #[.pointer (some ⟨b6,0,none⟩)] W fun e W'=>e=.returned (.int .i64 ((bF xs s.1 s.2 1099511627775).1:Int))/\jw w d0 g b2 b6 b7 m0 q A c xs ss ps (bF xs s.1 s.2 1099511627775).2 W'/\Ch (· =g) W W':=by
 have hn:=ah (UY h.cur 1099511627775 (by decide) (by decide));have c6:W.cell? ⟨b6,0,none⟩=some (.pointer (some ⟨g,0,none⟩)):=h.r6.cell 0;have H:=ah h;clear h;go_enter Tryz.func75,Tryz.ntmps75;go_wp2_with fail;refine hn.out.mono ?_;rintro e w2 ⟨rfl,k⟩;have K2:=ah (H.out.Vj k);have C2:=ah k.2;clear k H hn;go_wp2_with fail;go_ret;exact ⟨rfl,K2.out,C2.out⟩
theorem z3g (h:jw w d0 g b2 b6 b7 m0 q A c xs ss ps s W):Calls Tryz.prog 77 #[.pointer (some ⟨b6,0,none⟩)] W fun e W'=>e=.returned (.int .i64 ((bF xs s.1 s.2 262144).1:Int))/\jw w d0 g b2 b6 b7 m0 q A c xs ss ps (bF xs s.1 s.2 262144).2 W'/\Ch (· =g) W W':=by
 have hn:=ah (UY h.cur 262144 (by decide) (by decide));have c6:W.cell? ⟨b6,0,none⟩=some (.pointer (some ⟨g,0,none⟩)):=h.r6.cell 0;have H:=ah h;clear h;go_enter Tryz.func77,Tryz.ntmps77;go_wp2_with fail;refine hn.out.mono ?_;rintro e w2 ⟨rfl,k⟩;have K2:=ah (H.out.Vj k);have C2:=ah k.2;clear k H hn;go_wp2_with fail;go_ret;exact ⟨rfl,K2.out,C2.out⟩
end
structure kR (w W:World) (b5 q:Nat) (vs vp:Value) (ss:List aK) (ps:List PV):Prop where
 blk:aG W b5 100 #[vs,vp]
 os:ak w W 110 5 vs ss.length (spl ss)
 op:ak w W 167 2 vp ps.length (iM ps)
 rows:∀x∈ps,Rd W (fun k=>w.heap.size<=k/\k<q/\∃cs,aG W k 3 cs) 1 x.A x.gs.length (ints x.gs)
 lay:w.heap.size<=b5/\b5<q/\q<=W.heap.size/\(∀k,vs.ownBlock=some k->k<q)/\(∀k,vp.ownBlock=some k->k<q)
section
variable {w W W' : World} {b5 q : Nat} {vs vp v' : Value} {ss : List aK} {ps : List PV}
theorem kR.far {S:Nat->Prop} (h:kR w W b5 q vs vp ss ps) (n:Ch S W W') (hS:∀k,S k->q<=k):kR w W' b5 q vs vp ss ps:=by
 obtain ⟨h1,h2,h3,h4,l1,l2,l3,l4,l5⟩:=h;have no:∀k,k<q->¬S k:=fun k hk hs=>by have:=hS k hs;omega
 refine ⟨h1.ch n (no _ l2),h2.ch n (fun k hk hk2=>no _ (l4 k hk) hk2) (fun k hk=>no _ (by omega)),h3.ch n (fun k hk hk2=>no _ (l5 k hk) hk2) (fun k hk=>no _ (by omega)),fun x hx=>?_,l1,l2,by have:=n.size;omega,l4,l5⟩;exact ((h4 x hx).ch (by decide) n (fun k _ hk=>no _ hk.2.1)).more fun k hk=>⟨hk.1,hk.2.1,by obtain ⟨cs,hB⟩:=hk.2.2;exact ⟨cs,hB.ch n (no _ hk.2.1)⟩⟩
theorem kR.nx (h:kR w W b5 q vs vp ss ps) (n:Nx W W'):kR w W' b5 q vs vp ss ps:=h.far n (fun _ hf=>hf.elim)
theorem kR.more (h:kR w W b5 q vs vp ss ps) {q':Nat} (h1:q<=q') (h2:q'<=W.heap.size):kR w W b5 q' vs vp ss ps:=by
 obtain ⟨a1,a2,a3,a4,l1,l2,l3,l4,l5⟩:=h;exact ⟨a1,a2,a3,fun x hx=>(a4 x hx).more fun k hk=>⟨hk.1,by omega,hk.2.2⟩,l1,by omega,h2,fun k hk=>by have:=l4 k hk;omega,fun k hk=>by have:=l5 k hk;omega⟩
theorem kR.span (h:kR w W b5 q vs vp ss ps) {s:aK} (o:ak w W' 110 5 v' (ss.length+1) (spl ss++s.cs)) (m:Moved W W' vs v'):kR w (W'.setCell ⟨b5,0,none⟩ v') b5 W'.heap.size v' vp (ss++[s]) ps:=by
 obtain ⟨h1,h2,h3,h4,l1,l2,l3,l4,l5⟩:=h;have hsz:=m.ch.size;have n1:vs.ownBlock≠some b5:=z03 h2.own h1 (by decide);have B1:aG W' b5 100 #[vs,vp]:=h1.ch m.ch (fun e=>n1 e);have n2:v'.ownBlock≠some b5:=z03 o.own B1 (by decide);have n3:vp.ownBlock≠some b5:=z03 h3.own h1 (by decide);have cs:Ch (· =b5) W' (W'.setCell ⟨b5,0,none⟩ v'):=Ch.setCell (Ch.refl (· =b5) _) (p:=⟨b5,0,none⟩) (fun _=>rfl) _
 have n4:∀k,vp.ownBlock=some k->¬vs.ownBlock=some k:=fun k hk=>by
  obtain ⟨cs,hB⟩:=iJ h3.own hk;exact z03 h2.own hB (by decide)
 have n5:∀k,k<w.heap.size->¬vs.ownBlock=some k:=fun k hk e=>by have:=(h2.lt k e).1;omega
 have hz:(W'.setCell ⟨b5,0,none⟩ v').heap.size=W'.heap.size:=Nat.le_antisymm (by simp[World.setCell]) cs.size;refine ⟨?_,?_,?_,fun x hx=>?_,l1,by omega,Nat.le_of_eq hz.symm,fun k hk=>(o.lt k hk).2,fun k hk=>by have:=l5 k hk;omega⟩
 ·have:=B1.dK 0 v'
  simpa using this
 ·rw[List.length_append,spl,List.flatMap_append,List.flatMap_cons,List.flatMap_nil,List.append_nil]
  exact o.ch cs (fun k hk e=>n2 (by rw[hk,e])) (fun k hk e=>by omega)
 ·exact (h3.ch m.ch n4 n5).ch cs (fun k hk e=>n3 (by rw[hk,e])) (fun k hk e=>by omega)
 ·have r1:=(h4 x hx).ch (by decide) m.ch (fun k _ hk e=>by
   obtain ⟨cs,hB⟩:=hk.2.2;exact z03 h2.own hB (by decide) e)
  have r2:=r1.more (D':=fun k=>w.heap.size<=k/\k<W'.heap.size/\∃cs,aG W' k 3 cs) fun k hk=>⟨hk.1,by omega,by
   obtain ⟨cs,hB⟩:=hk.2.2;exact ⟨cs,hB.ch m.ch (z03 h2.own hB (by decide))⟩⟩
  have nb:∀k,(∃cs,aG W' k 3 cs)->¬k=b5:=fun k ⟨cc,hB⟩ e=>by
   subst e;have h1:W'.heap[k]?=some (.cells cc 3 (0,0)):=hB;have h2:W'.heap[k]?=some (.cells #[vs,vp] 100 (0,0)):=B1;rw[h1]at h2;injection h2 with h2;injection h2 with _ h2 _;exact absurd h2 (by decide)
  exact (r2.ch (by decide) cs fun k _ hk e=>nb k hk.2.2 e).more fun k hk=>⟨hk.1,hk.2.1,by obtain ⟨cc,hB⟩:=hk.2.2;exact ⟨cc,hB.ch cs (nb k ⟨cc,hB⟩)⟩⟩
theorem kR.post (h:kR w W b5 q vs vp ss ps) {x0:PV} (o:ak w W' 167 2 v' (ps.length+1) (iM ps++x0.cs)) (m:Moved W W' vp v') (hr:Rd W (fun k=>w.heap.size<=k/\k<W.heap.size/\∃cs,aG W k 3 cs) 1 x0.A x0.gs.length (ints x0.gs)):kR w (W'.setCell ⟨b5,1,none⟩ v') b5 W'.heap.size vs v' ss (ps++[x0]):=by
 obtain ⟨h1,h2,h3,h4,l1,l2,l3,l4,l5⟩:=h;have hsz:=m.ch.size;have n1:vp.ownBlock≠some b5:=z03 h3.own h1 (by decide);have B1:aG W' b5 100 #[vs,vp]:=h1.ch m.ch (fun e=>n1 e);have n2:v'.ownBlock≠some b5:=z03 o.own B1 (by decide);have n3:vs.ownBlock≠some b5:=z03 h2.own h1 (by decide);have cs:Ch (· =b5) W' (W'.setCell ⟨b5,1,none⟩ v'):=Ch.setCell (Ch.refl (· =b5) _) (p:=⟨b5,1,none⟩) (fun _=>rfl) _
 have n4:∀k,vs.ownBlock=some k->¬vp.ownBlock=some k:=fun k hk=>by
  obtain ⟨cs,hB⟩:=iJ h2.own hk;exact z03 h3.own hB (by decide)
 have n5:∀k,k<w.heap.size->¬vp.ownBlock=some k:=fun k hk e=>by have:=(h3.lt k e).1;omega
 have hz:(W'.setCell ⟨b5,1,none⟩ v').heap.size=W'.heap.size:=Nat.le_antisymm (by simp[World.setCell]) cs.size
 have h5:∀x∈ps++[x0],Rd W (fun k=>w.heap.size<=k/\k<W.heap.size/\∃cs,aG W k 3 cs) 1 x.A x.gs.length (ints x.gs):=fun x hx=>by
  rcases List.mem_append.1 hx with hx|hx
  ·exact (h4 x hx).more fun k hk=>⟨hk.1,by omega,hk.2.2⟩
  ·rw[List.mem_singleton.1 hx]
   exact hr
 refine ⟨?_,?_,?_,fun x hx=>?_,l1,by omega,Nat.le_of_eq hz.symm,fun k hk=>by have:=l4 k hk;omega,fun k hk=>(o.lt k hk).2⟩
 ·have:=B1.dK 1 v'
  simpa using this
 ·exact (h2.ch m.ch n4 n5).ch cs (fun k hk e=>n3 (by rw[hk,e])) (fun k hk e=>by omega)
 ·rw[List.length_append,iM,List.flatMap_append,List.flatMap_cons,List.flatMap_nil,List.append_nil]
  exact o.ch cs (fun k hk e=>n2 (by rw[hk,e])) (fun k hk e=>by omega)
 ·have r1:=(h5 x hx).ch (by decide) m.ch (fun k _ hk e=>by
   obtain ⟨cs,hB⟩:=hk.2.2;exact z03 h3.own hB (by decide) e)
  have r2:=r1.more (D':=fun k=>w.heap.size<=k/\k<W'.heap.size/\∃cs,aG W' k 3 cs) fun k hk=>⟨hk.1,by omega,by
   obtain ⟨cs,hB⟩:=hk.2.2;exact ⟨cs,hB.ch m.ch (z03 h3.own hB (by decide))⟩⟩
  have nb:∀k,(∃cs,aG W' k 3 cs)->¬k=b5:=fun k ⟨cc,hB⟩ e=>by
   subst e;have h1:W'.heap[k]?=some (.cells cc 3 (0,0)):=hB;have h2:W'.heap[k]?=some (.cells #[vs,vp] 100 (0,0)):=B1;rw[h1]at h2;injection h2 with h2;injection h2 with _ h2 _;exact absurd h2 (by decide)
  exact (r2.ch (by decide) cs fun k _ hk e=>nb k hk.2.2 e).more fun k hk=>⟨hk.1,hk.2.1,by obtain ⟨cc,hB⟩:=hk.2.2;exact ⟨cc,hB.ch cs (nb k ⟨cc,hB⟩)⟩⟩
end
theorem Tryz.JG:(Tryz.prog.info? 110).map (fun i=>(i.zero,i.size,i.bytes))=some (some (.agg #[.int .i64 0,.int .i64 0,.int .i64 0,.int .i64 0,.int .i64 0]),5,40):=by kernel_rfl
theorem Tryz.JH:(Tryz.prog.info? 167).map (fun i=>(i.zero,i.size,i.bytes))=some (some (.agg #[.string ⟨#[]⟩,.slice none 0 0]),2,40):=by kernel_rfl
theorem Mc (l:List aK):∀u∈spl l,u.oneCell'=true:=by
 intro u hu;obtain ⟨x,_,hx⟩:=List.mem_flatMap.1 hu;simp[aK.cs]at hx;rcases hx with rfl|rfl|rfl|rfl|rfl<;>rfl
theorem Nj (l:List PV):∀u∈iM l,u.oneCell'=true:=by
 intro u hu;obtain ⟨x,_,hx⟩:=List.mem_flatMap.1 hu;simp[PV.cs]at hx;rcases hx with rfl|rfl<;>rfl
theorem Rd.aaj (w:World) (x:aK):Rd (w.alloc (.cells #[.int .i64 x.place,.int .i64 x.size,.int .i64 x.rows,.int .i64 x.lo,.int .i64 x.hi] 110)) (fun k=>k=w.heap.size) 5 (some ⟨w.heap.size,0,none⟩) 1 (spl [x]):=
 ⟨rfl,fun _=>⟨_,rfl,rfl,fun j u hu=>World.news_of_block (aG.new w 110 #[.int .i64 x.place,.int .i64 x.size,.int .i64 x.rows,.int .i64 x.lo,.int .i64 x.hi]) j u (by simpa [spl,aK.cs]using hu)⟩⟩
theorem Rd.aak (w:World) (x:PV):Rd (w.alloc (.cells #[.string x.text,.slice x.A x.gs.length x.c] 167)) (fun k=>k=w.heap.size) 2 (some ⟨w.heap.size,0,none⟩) 1 (iM [x]):=
 ⟨rfl,fun _=>⟨_,rfl,rfl,fun j u hu=>World.news_of_block (aG.new w 167 #[.string x.text,.slice x.A x.gs.length x.c]) j u (by simpa [iM,PV.cs]using hu)⟩⟩
theorem Tryz.Oe:(Tryz.prog.info? 3).map (fun i=>(i.zero,i.size,i.bytes))=some (some (.int .i64 0),1,8):=by kernel_rfl
theorem uK (t:ByteArray) (gs:List (List aA)):(bU t 0 gs).length<=gs.length:=by
 unfold bU;rw[List.length_map];exact Nat.le_trans (List.length_filter_le _ _) (by rw[List.length_range];exact Nat.le_refl _)
theorem Ju {w6 w11:World} {t:ByteArray} {vi v11:Value} {n:Nat} {xs:List Value} (b:aG w11 w6.heap.size 167 #[.string t,vi]) (o:ak w6 w11 3 1 v11 n xs):
 Nx w6 (w11.setCell ⟨w6.heap.size,1,none⟩ v11)/\aG (w11.setCell ⟨w6.heap.size,1,none⟩ v11) w6.heap.size 167 #[.string t,v11]/\ak w6 (w11.setCell ⟨w6.heap.size,1,none⟩ v11) 3 1 v11 n xs:=by
 have ne:v11.ownBlock≠some w6.heap.size:=z03 o.own b (by decide);refine ⟨Ch.setCell o.nx (p:=⟨w6.heap.size,1,none⟩) (fun h=>absurd h (Nat.lt_irrefl _)) _,?_,o.ch (Ch.setCell (Ch.refl (· =w6.heap.size) _) (p:=⟨w6.heap.size,1,none⟩) (fun _=>rfl) _) (fun k hk e=>ne (by rw[hk,e])) (fun k hk e=>by omega)⟩;have:=b.dK 1 v11;simpa using this
theorem kR.off {w W W':World} {b5 q:Nat} {vs vp:Value} {ss:List aK} {ps:List PV} {S:Nat->Prop} (h:kR w W b5 q vs vp ss ps) (n:Ch S W W') (hS:∀k,S k->w.heap.size<=k/\∃cs,aG W k 9 cs):kR w W' b5 q vs vp ss ps:=by
 obtain ⟨h1,h2,h3,h4,l1,l2,l3,l4,l5⟩:=h
 have no:∀{k:Nat} {T:TypeId} {cs:Array Value},aG W k T cs->9≠T->¬S k:=fun {k T cs} hB hT hk=>by
  obtain ⟨-,c2,hB2⟩:=hS k hk;exact hB2.Lj hB hT rfl
 have lo:∀i,i<w.heap.size->¬S i:=fun i hi hk=>by
  have:=(hS i hk).1;omega
 refine ⟨h1.ch n (no h1 (by decide)),h2.ch n (fun k hk=>?_) lo,h3.ch n (fun k hk=>?_) lo,fun x hx=>?_,l1,l2,by have:=n.size;omega,l4,l5⟩
 ·obtain ⟨cs,hB⟩:=iJ h2.own hk
  exact no hB (by decide)
 ·obtain ⟨cs,hB⟩:=iJ h3.own hk
  exact no hB (by decide)
 ·exact ((h4 x hx).ch (by decide) n (fun k _ hk=>no hk.2.2.choose_spec (by decide))).more fun k hk=>⟨hk.1,hk.2.1,by obtain ⟨cs,hB⟩:=hk.2.2;exact ⟨cs,hB.ch n (no hB (by decide))⟩⟩
structure kS (w W:World) (h:Nat) (vs vp:Value) (ss:List aK) (ps:List PV) (va:Value) (ws:List ByteArray):Prop where
 ix:kR w W (h+1) W.heap.size vs vp ss ps
 al:ak w W 9 1 va ws.length (b_ ws)
 bk:aG W h 100 #[.slice none 0 0,.slice none 0 0]
 lo:w.heap.size<=h
section
variable {w W W' : World} {h : Nat} {vs vp va v' : Value} {ss : List aK} {ps : List PV} {ws : List ByteArray}
theorem kS.nx (g:kS w W h vs vp ss ps va ws) (n:Nx W W'):kS w W' h vs vp ss ps va ws:=
 ⟨(g.ix.nx n).more n.size (Nat.le_refl _),g.al.tr n,g.bk.nx n,g.lo⟩
theorem kS.word (g:kS w W h vs vp ss ps va ws) {t:ByteArray} (o:ak w W' 9 1 v' (ws.length+1) (b_ ws++[.string t])) (m:Moved W W' va v'):kS w W' h vs vp ss ps v' (ws++[t]):=by
 refine ⟨(g.ix.off m.ch fun k hk=>⟨(g.al.lt k hk).1,iJ g.al.own hk⟩).more m.ch.size (Nat.le_refl _),?_,g.bk.ch m.ch fun e=>z03 g.al.own g.bk (by decide) e,g.lo⟩;have e:b_ (ws++[t])=b_ ws++[.string t]:=by simp[b_]
 rw[e,List.length_append];exact o
theorem kS.aaR (g:kS w W h vs vp ss ps va ws) (m:Moved W W' vs v'):aG W' (h+1) 100 #[vs,vp]:=g.ix.blk.ch m.ch fun e=>z03 g.ix.os.own g.ix.blk (by decide) e
theorem kS.aaQ (g:kS w W h vs vp ss ps va ws) (m:Moved W W' vp v'):aG W' (h+1) 100 #[vs,vp]:=g.ix.blk.ch m.ch fun e=>z03 g.ix.op.own g.ix.blk (by decide) e
theorem z3O (W:World) (p:Addr) (v:Value):(W.setCell p v).heap.size=W.heap.size:=
 Nat.le_antisymm (by simp[World.setCell]) (Ch.setCell (Ch.refl (· =p.block) W) (p:=p) (fun _=>rfl) v).size
theorem kS.span (g:kS w W h vs vp ss ps va ws) {s:aK} (o:ak w W' 110 5 v' (ss.length+1) (spl ss++spl [s])) (m:Moved W W' vs v'):kS w (W'.setCell ⟨h+1,0,none⟩ v') h v' vp (ss++[s]) ps va ws:=by
 have cs:Ch (· =h+1) W' (W'.setCell ⟨h+1,0,none⟩ v'):=Ch.setCell (Ch.refl (· =h+1) _) (p:=⟨h+1,0,none⟩) (fun _=>rfl) _
 have ne:∀k,va.ownBlock=some k->¬vs.ownBlock=some k:=fun k hk e=>by
  obtain ⟨c1,hB⟩:=iJ g.al.own hk;exact z03 g.ix.os.own hB (by decide) e
 have lo:∀i,i<w.heap.size->¬vs.ownBlock=some i:=fun i hi e=>by have:=(g.ix.os.lt i e).1;omega
 have a1:=g.al.ch m.ch ne lo;have e1:spl [s]=s.cs:=by simp[spl]
 rw[e1]at o;refine ⟨(g.ix.span o m).more (Nat.le_of_eq (z3O W' ⟨h+1,0,none⟩ v').symm) (Nat.le_refl _),a1.ch cs (fun k hk e=>?_) (fun i hi e=>by have:=g.lo;omega),(g.bk.ch m.ch fun e=>z03 g.ix.os.own g.bk (by decide) e).ch cs (by omega),g.lo⟩;exact z03 a1.own (g.aaR m) (by decide) (by rw[hk,e])
theorem kS.post (g:kS w W h vs vp ss ps va ws) {x0:PV} (o:ak w W' 167 2 v' (ps.length+1) (iM ps++iM [x0])) (m:Moved W W' vp v') (hr:Rd W (fun k=>w.heap.size<=k/\k<W.heap.size/\∃cs,aG W k 3 cs) 1 x0.A x0.gs.length (ints x0.gs)):kS w (W'.setCell ⟨h+1,1,none⟩ v') h vs v' ss (ps++[x0]) va ws:=by
 have cs:Ch (· =h+1) W' (W'.setCell ⟨h+1,1,none⟩ v'):=Ch.setCell (Ch.refl (· =h+1) _) (p:=⟨h+1,1,none⟩) (fun _=>rfl) _
 have ne:∀k,va.ownBlock=some k->¬vp.ownBlock=some k:=fun k hk e=>by
  obtain ⟨c1,hB⟩:=iJ g.al.own hk;exact z03 g.ix.op.own hB (by decide) e
 have lo:∀i,i<w.heap.size->¬vp.ownBlock=some i:=fun i hi e=>by have:=(g.ix.op.lt i e).1;omega
 have a1:=g.al.ch m.ch ne lo;have e1:iM [x0]=x0.cs:=by simp[iM]
 rw[e1]at o;refine ⟨(g.ix.post o m hr).more (Nat.le_of_eq (z3O W' ⟨h+1,1,none⟩ v').symm) (Nat.le_refl _),a1.ch cs (fun k hk e=>?_) (fun i hi e=>by have:=g.lo;omega),(g.bk.ch m.ch fun e=>z03 g.ix.op.own g.bk (by decide) e).ch cs (by omega),g.lo⟩;exact z03 a1.own (g.aaQ m) (by decide) (by rw[hk,e])
theorem kS.dict {ws':List ByteArray} (g:kS w W h vs vp ss ps va ws) (o:ak W W' 9 1 v' ws'.length (b_ ws')):kS w W' h vs vp ss ps v' ws':=
 ⟨(g.nx o.nx).ix,⟨jM o.own g.al.nx.size,g.al.nx.trans o.nx fun _ _ hf=>hf⟩,(g.nx o.nx).bk,g.lo⟩
theorem kS.fin (g:kS w W h vs vp ss ps va ws) (n:Ch (· =h) W W'):kR w W' (h+1) W'.heap.size vs vp ss ps:=by
 have hb:=g.bk;have lo:=g.lo;obtain ⟨h1,h2,h3,h4,l1,l2,l3,l4,l5⟩:=g.ix;have ns:vs.ownBlock≠some h:=z03 h2.own hb (by decide);have np:vp.ownBlock≠some h:=z03 h3.own hb (by decide)
 have nb:∀k,(∃cs,aG W k 3 cs)->¬k=h:=fun k ⟨cs,hB⟩ e=>by
  subst e;exact hB.Lj hb (by decide) rfl
 have hz:=n.size;refine ⟨h1.ch n (by omega),h2.ch n (fun k hk e=>ns (by rw[hk,e])) (fun k hk e=>by omega),h3.ch n (fun k hk e=>np (by rw[hk,e])) (fun k hk e=>by omega),fun x hx=>?_,l1,by omega,Nat.le_refl _,fun k hk=>by have:=l4 k hk;omega,fun k hk=>by have:=l5 k hk;omega⟩;exact ((h4 x hx).ch (by decide) n fun k _ hk=>nb k hk.2.2).more fun k hk=>⟨hk.1,by omega,by obtain ⟨cs,hB⟩:=hk.2.2;exact ⟨cs,hB.ch n (nb k ⟨cs,hB⟩)⟩⟩
theorem JF {wq:World} {A:Option Addr} {c n:Nat} {l:List Int} (hw:w.heap.size<=wq.heap.size) (o:ak wq W 3 1 (.slice A n c) n (ints l)):Rd W (fun k=>w.heap.size<=k/\k<W.heap.size/\∃cs,aG W k 3 cs) 1 A n (ints l):=
 o.rd.more fun k hk=>⟨by omega,hk.2.2,iJ o.own hk.1⟩
end
end Go.Proofs.YtpakjclpjcngmaaGreat
