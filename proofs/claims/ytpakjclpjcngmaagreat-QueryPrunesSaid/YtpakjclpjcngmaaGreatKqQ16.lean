/- Contracts and plain laws that the last text rests on. Conditions: each theorem states its own. -/
import Derived.Test.YtpakjclpjcngmaaGreatKqQ4
import Derived.Lib.SmallJoins
import Derived.Deep.Slices
import Derived.Deep.Fields
import Derived.ChangeSame
import Derived.Test.YtpakjclpjcngmaaGreatKqQ5
import Derived.Test.YtpakjclpjcngmaaGreatKqQ2
import Derived.Test.YtpakjclpjcngmaaGreatKqQ1
import Derived.BigRegion
set_option maxRecDepth 100000
set_option maxHeartbeats 8000000
set_option linter.unusedVariables false
namespace Go.Proofs.YtpakjclpjcngmaaGreat
open Go.ChangeShapes Go.WideShapes Go.ChangeAt Go.RowKit Go.Deep
section
variable {H : Type} {enc : TypeId × Value → H} {P : Program} {w : World} {base : Nat} {spare : Nat → Bool} {held : Bool}
theorem MX {r:Reach} {b0:Nat} {t:TypeId} {fs:Array Field} {v:Value} {d:DataW H} {p:List MemPlace} (hs:P.underlying t=some (.struct fs)) (hone:oneCellFields P fs=true) (hC:P.cellsOf t=fs.size)
 (hv:Value.okWide P w r b0 t v) (h:DataW.Trod enc P w base spare held t v d p):
 ∃(cs:List Value) (ys:List (DataW H×List MemPlace)) (n:Nat),v=.agg cs.toArray/\cs.length=fs.size/\ys.length=fs.size/\
  ∀(j:Nat) (f:Field) (c:Value),fs[j]?=some f->cs[j]?=some c->∃y,ys[j]?=some y/\DataW.trod enc P w base spare held n f.type [c]=some y:=by
 obtain ⟨cs,rfl,hsz⟩:=okWide_struct hs hv;obtain ⟨l⟩:=cs;obtain ⟨fuel,hf⟩:=h;obtain ⟨xs,n,_,hx,hlen,hyl,hg⟩:=DataW.trod_struct hs hf;have hl:l.length=fs.size:=hsz.trans hC;refine ⟨l,xs,n,rfl,hl,hyl,fun j f c hj hc=>?_⟩;obtain ⟨ho,hk⟩:=hone_of hone j f hj;have hjl:j<fs.size:=(Array.getElem?_eq_some_iff.1 hj).1;have hys:xs[j]?=some (xs[j]'(by omega)):=List.getElem?_eq_getElem (by omega);have h1:=hg j f hj
 have hcj:l[j]'(by omega)=c:=by
  rw[List.getElem?_eq_getElem (by omega)]at hc;injection hc
 have hone':(l.drop j).take 1=[c]:=by
  rw[List.drop_eq_getElem_cons (by omega),hcj];rfl
 rw[ho,hk]at h1;refine ⟨_,hys,?_⟩;rw[←hys,←h1,←hone'];simp[Value.cells]
end
section
variable {H : Type} {enc : TypeId × Value → H} {W : World}
theorem Vk {n:Nat} {v:Value} {t:TypeId} {y:DataW H×List MemPlace} (ht:Tryz.prog.underlying t=some (.int .i64)) (h:DataW.trod enc Tryz.prog W 0 (fun _=>true) true n t [v]=some y):∃a:Int,v=.int .i64 a/\i64 a:=by
 obtain ⟨a,e,_,wf⟩:=DataW.trod_int ht h;simp at e;exact ⟨a,e,wJ wf⟩
theorem z1Y {n:Nat} {v:Value} {y:DataW H×List MemPlace} (h:DataW.trod enc Tryz.prog W 0 (fun _=>true) true n 9 [v]=some y):∃s:ByteArray,v=.string s/\s.size<=9223372036854775807:=by
 obtain ⟨a,e,_,wf⟩:=DataW.trod_string Tryz.underlying9 h;simp at e;unfold maxLen at wf;exact ⟨a,e,by omega⟩
theorem z4w {n:Nat} {v:Value} {y:DataW H×List MemPlace} (h:DataW.trod enc Tryz.prog W 0 (fun _=>true) true n 4 [v]=some y):∃b:Bool,v=.bool b:=by
 obtain ⟨a,e,_⟩:=DataW.trod_bool Tryz.underlying4 h;simp at e;exact ⟨a,e⟩
end
def dP.cs (x:dP):List Value:=[.string x.name,.string x.value]
def kT.cs (m:kT):List Value:=[.string m.name,.int .i64 m.way,.string m.value]
def lbl (l:List dP):List Value:=l.flatMap dP.cs
def Ry (l:List kT):List Value:=l.flatMap kT.cs
structure RV where
 row:au
 A:Option Addr
 c:Nat
def RV.cs (x:RV):List Value:=[.int .i64 x.row.kind,.int .i64 x.row.time,.slice x.A x.row.ay.length x.c,.string x.row.text,.int .i64 x.row.value,.bool x.row.null,.int .i64 x.row.maker,.int .i64 x.row.seq,.int .i64 x.row.place]
def gq (l:List RV):List Value:=l.flatMap RV.cs
theorem dP.bZ (x:dP):x.cs.length=2:=rfl
theorem kT.bZ (x:kT):x.cs.length=3:=rfl
theorem RV.bZ (x:RV):x.cs.length=9:=rfl
theorem Xf (l:List dP):(lbl l).length=l.length * 2:=Vg dP.bZ l
theorem WX (l:List kT):(Ry l).length=l.length * 3:=Vg kT.bZ l
theorem yx (l:List RV):(gq l).length=l.length * 9:=Vg RV.bZ l
def RV.ok (w:World) (D:Nat->Prop) (x:RV):Prop:=Rd w D 2 x.A x.row.ay.length (lbl x.row.ay)/\x.row.ay.length<=x.c/\x.c<=maxLen
theorem RV.ok.ch {w w':World} {D D' S:Nat->Prop} {x:RV} (h:x.ok w D) (hc:Ch S w w') (hS:∀k,k<w.heap.size->D k->¬S k) (hD:∀k,D k->D' k):x.ok w' D':=
 ⟨(h.1.ch (by decide) hc hS).more hD,h.2⟩
theorem mD {w:World} {D:Nat->Prop} {A:Option Addr} {n k:Nat} {l:List dP} (h:Rd w D 2 A n (lbl l)) (hk:k<l.length):∃ad,A=some ad/\D ad.block/\w.cell? (ad.add (k * 2))=some (.string l[k].name)/\w.cell? ⟨(ad.add (k * 2)).block,(ad.add (k * 2)).off+1,none⟩=some (.string l[k].value):=by
 have hn:0<n:=by have:=h.1;rw[Xf]at this;omega
 obtain ⟨ad,rfl,hb,hc⟩:=h.2 hn;exact ⟨ad,rfl,hb,hc (k * 2+0) _ (z18 dP.bZ hk (by decide)),ES 0 (hc (k * 2+1) _ (z18 dP.bZ hk (by decide)))⟩
theorem RH {w:World} {D:Nat->Prop} {A:Option Addr} {n k:Nat} {l:List kT} (h:Rd w D 3 A n (Ry l)) (hk:k<l.length):∃ad,A=some ad/\D ad.block/\w.cell? (ad.add (k * 3))=some (.string l[k].name)/\
 w.cell? ⟨(ad.add (k * 3)).block,(ad.add (k * 3)).off+1,none⟩=some (.int .i64 l[k].way)/\w.cell? ⟨(ad.add (k * 3)).block,(ad.add (k * 3)).off+2,none⟩=some (.string l[k].value):=by
 have hn:0<n:=by have:=h.1;rw[WX]at this;omega
 obtain ⟨ad,rfl,hb,hc⟩:=h.2 hn;exact ⟨ad,rfl,hb,hc (k * 3+0) _ (z18 kT.bZ hk (by decide)),ES 0 (hc (k * 3+1) _ (z18 kT.bZ hk (by decide))),ES 1 (hc (k * 3+2) _ (z18 kT.bZ hk (by decide)))⟩
theorem zW {w:World} {D:Nat->Prop} {A:Option Addr} {n k:Nat} {l:List RV} (h:Rd w D 9 A n (gq l)) (hk:k<l.length):∃ad,A=some ad/\D ad.block/\w.cell? (ad.add (k * 9))=some (.int .i64 l[k].row.kind)/\
 w.cell? ⟨(ad.add (k * 9)).block,(ad.add (k * 9)).off+1,none⟩=some (.int .i64 l[k].row.time)/\w.cell? ⟨(ad.add (k * 9)).block,(ad.add (k * 9)).off+2,none⟩=some (.slice l[k].A l[k].row.ay.length l[k].c)/\
 w.cell? ⟨(ad.add (k * 9)).block,(ad.add (k * 9)).off+3,none⟩=some (.string l[k].row.text)/\w.cell? ⟨(ad.add (k * 9)).block,(ad.add (k * 9)).off+4,none⟩=some (.int .i64 l[k].row.value)/\
 w.cell? ⟨(ad.add (k * 9)).block,(ad.add (k * 9)).off+5,none⟩=some (.bool l[k].row.null)/\w.cell? ⟨(ad.add (k * 9)).block,(ad.add (k * 9)).off+6,none⟩=some (.int .i64 l[k].row.maker)/\
 w.cell? ⟨(ad.add (k * 9)).block,(ad.add (k * 9)).off+7,none⟩=some (.int .i64 l[k].row.seq)/\w.cell? ⟨(ad.add (k * 9)).block,(ad.add (k * 9)).off+8,none⟩=some (.int .i64 l[k].row.place):=by
 have hn:0<n:=by have:=h.1;rw[yx]at this;omega
 obtain ⟨ad,rfl,hb,hc⟩:=h.2 hn;have g:=fun i (hi:i<9) u (hu:(l[k].cs)[i]?=some u)=>hc (k * 9+i) u ((z18 RV.bZ hk hi).trans hu);exact ⟨ad,rfl,hb,g 0 (by decide) _ rfl,ES 0 (g 1 (by decide) _ rfl),ES 1 (g 2 (by decide) _ rfl),ES 2 (g 3 (by decide) _ rfl),ES 3 (g 4 (by decide) _ rfl),ES 4 (g 5 (by decide) _ rfl),ES 5 (g 6 (by decide) _ rfl),ES 6 (g 7 (by decide) _ rfl),ES 7 (g 8 (by decide) _ rfl)⟩
def dP.small (x:dP):Prop:=x.name.size<=9223372036854775807/\x.value.size<=9223372036854775807
def kT.small (x:kT):Prop:=x.name.size<=9223372036854775807/\x.value.size<=9223372036854775807/\i64 x.way
def au.small (x:au):Prop:=(∀y∈x.ay,y.small)/\x.text.size<=9223372036854775807/\i64 x.kind/\i64 x.time/\i64 x.value/\i64 x.maker/\i64 x.seq/\i64 x.place
def bG (x:RV):Value:=.agg #[.int .i64 x.row.kind,.int .i64 x.row.time,.slice x.A x.row.ay.length x.c,.string x.row.text,.int .i64 x.row.value,.bool x.row.null,.int .i64 x.row.maker,.int .i64 x.row.seq,.int .i64 x.row.place]
def iU (q:dN) (A:Option Addr) (c:Nat):Value:=.agg #[.int .i64 q.lo,.int .i64 q.hi,.slice A q.ms.length c,.int .i64 q.limit,.bool q.texts]
section
variable {H : Type} {enc : TypeId × Value → H} {W : World}
theorem yS {n:Nat} {v:Value} {y:DataW H×List MemPlace} (h:DataW.trod enc Tryz.prog W 0 (fun _=>true) true n 54 [v]=some y):
 ∃(A:Option Addr) (c:Nat) (l:List dP),v=.slice A l.length c/\Rd W (· <W.heap.size) 2 A l.length (lbl l)/\(∀x∈l,x.small)/\l.length<=c/\c<=maxLen:=by
 rcases open_slice Tryz.underlying54 h with ⟨hcs,hx⟩|⟨a,len,cap,m,nn,D,Pl,hcs,hb,hl,hm,hmm,hx,hi⟩
 ·simp at hcs
  subst hcs;exact ⟨none,0,[],rfl,Rd.none_ _ _ _ _,by simp,Nat.le_refl _,by simp[maxLen]⟩
 ·simp at hcs
  subst hcs;simp only[if_true]at hmm;have hC:Tryz.prog.cellsOf 135=2:=by kernel_rfl
  rw[hC]at hi
  obtain ⟨l,h1,h2,h3⟩:=z3p (W:=W) (a:=a) (n:=len) (good:=dP.small) dP.bZ (by decide) (fun i hin=>by
   obtain ⟨cs',hc,ht'⟩:=hi i (by omega);obtain ⟨ys,n',hn',hy,hlen,hyl,hf⟩:=DataW.trod_struct Tryz.underlying135 ht';obtain ⟨_,hcl,hat⟩:=World.cells?_some hc;match cs',hcl with
   |[v0,v1],_=>
    have g0:DataW.trod enc Tryz.prog W 0 (fun _=>true) true n' 9 (([v0,v1].drop 0).take (Tryz.prog.cellsOf 9))=ys[0]?:=hf 0 _ rfl;have g1:DataW.trod enc Tryz.prog W 0 (fun _=>true) true n' 9 (([v0,v1].drop 1).take (Tryz.prog.cellsOf 9))=ys[1]?:=hf 1 _ rfl;have e0:Tryz.prog.cellsOf 9=1:=(by kernel_rfl);simp only[e0,List.drop_zero,List.take_succ_cons,List.take_zero,List.drop_succ_cons]at g0 g1;obtain ⟨a0,rfl,k0⟩:=z1Y (g0.trans (List.getElem?_eq_getElem (by rw[hyl];decide)));obtain ⟨a1,rfl,k1⟩:=z1Y (g1.trans (List.getElem?_eq_getElem (by rw[hyl];decide)));refine ⟨⟨a0,a1⟩,⟨k0,k1⟩,fun j u hj hu=>?_⟩;rw[←Go.Deep.add_add,hat j hj,←hu];rfl)
  subst h1;exact ⟨some a,cap,l,rfl,h3,h2,hl,hm⟩
theorem yP {n:Nat} {v:Value} {y:DataW H×List MemPlace} (h:DataW.trod enc Tryz.prog W 0 (fun _=>true) true n 64 [v]=some y):
 ∃(A:Option Addr) (c:Nat) (l:List kT),v=.slice A l.length c/\Rd W (· <W.heap.size) 3 A l.length (Ry l)/\(∀x∈l,x.small)/\l.length<=c/\c<=maxLen:=by
 rcases open_slice Tryz.underlying64 h with ⟨hcs,hx⟩|⟨a,len,cap,m,nn,D,Pl,hcs,hb,hl,hm,hmm,hx,hi⟩
 ·simp at hcs
  subst hcs;exact ⟨none,0,[],rfl,Rd.none_ _ _ _ _,by simp,Nat.le_refl _,by simp[maxLen]⟩
 ·simp at hcs
  subst hcs;simp only[if_true]at hmm;have hC:Tryz.prog.cellsOf 142=3:=by kernel_rfl
  rw[hC]at hi
  obtain ⟨l,h1,h2,h3⟩:=z3p (W:=W) (a:=a) (n:=len) (good:=kT.small) kT.bZ (by decide) (fun i hin=>by
   obtain ⟨cs',hc,ht'⟩:=hi i (by omega);obtain ⟨ys,n',hn',hy,hlen,hyl,hf⟩:=DataW.trod_struct Tryz.underlying142 ht';obtain ⟨_,hcl,hat⟩:=World.cells?_some hc;match cs',hcl with
   |[v0,v1,v2],_=>
    have g0:DataW.trod enc Tryz.prog W 0 (fun _=>true) true n' 9 (([v0,v1,v2].drop 0).take (Tryz.prog.cellsOf 9))=ys[0]?:=hf 0 _ rfl;have g1:DataW.trod enc Tryz.prog W 0 (fun _=>true) true n' 3 (([v0,v1,v2].drop 1).take (Tryz.prog.cellsOf 3))=ys[1]?:=hf 1 _ rfl;have g2:DataW.trod enc Tryz.prog W 0 (fun _=>true) true n' 9 (([v0,v1,v2].drop 2).take (Tryz.prog.cellsOf 9))=ys[2]?:=hf 2 _ rfl;have e0:Tryz.prog.cellsOf 9=1:=(by kernel_rfl);have e1:Tryz.prog.cellsOf 3=1:=(by kernel_rfl);simp only[e0,e1,List.drop_zero,List.take_succ_cons,List.take_zero,List.drop_succ_cons]at g0 g1 g2;obtain ⟨a0,rfl,k0⟩:=z1Y (g0.trans (List.getElem?_eq_getElem (by rw[hyl];decide)));obtain ⟨a1,rfl,k1⟩:=Vk Tryz.underlying3 (g1.trans (List.getElem?_eq_getElem (by rw[hyl];decide)));obtain ⟨a2,rfl,k2⟩:=z1Y (g2.trans (List.getElem?_eq_getElem (by rw[hyl];decide)));refine ⟨⟨a0,a1,a2⟩,⟨k0,k2,k1⟩,fun j u hj hu=>?_⟩;rw[←Go.Deep.add_add,hat j hj,←hu];rfl)
  subst h1;exact ⟨some a,cap,l,rfl,h3,h2,hl,hm⟩
theorem BF {n:Nat} {cs:List Value} {y:DataW H×List MemPlace} (h:DataW.trod enc Tryz.prog W 0 (fun _=>true) true n 58 cs=some y):∃x:RV,cs=x.cs/\x.ok W (· <W.heap.size)/\x.row.small:=by
 obtain ⟨ys,n',hn',hy,hlen,hyl,hf⟩:=DataW.trod_struct Tryz.underlying58 h;have hC:Tryz.prog.cellsOf 58=9:=by kernel_rfl
 rw[hC]at hlen;match cs,hlen with
 |[v0,v1,v2,v3,v4,v5,v6,v7,v8],_=>
  have g0:DataW.trod enc Tryz.prog W 0 (fun _=>true) true n' 56 (([v0,v1,v2,v3,v4,v5,v6,v7,v8].drop 0).take (Tryz.prog.cellsOf 56))=ys[0]?:=hf 0 _ rfl;have g1:DataW.trod enc Tryz.prog W 0 (fun _=>true) true n' 3 (([v0,v1,v2,v3,v4,v5,v6,v7,v8].drop 6).take (Tryz.prog.cellsOf 3))=ys[1]?:=hf 1 _ rfl;have g2:DataW.trod enc Tryz.prog W 0 (fun _=>true) true n' 3 (([v0,v1,v2,v3,v4,v5,v6,v7,v8].drop 7).take (Tryz.prog.cellsOf 3))=ys[2]?:=hf 2 _ rfl;have g3:DataW.trod enc Tryz.prog W 0 (fun _=>true) true n' 3 (([v0,v1,v2,v3,v4,v5,v6,v7,v8].drop 8).take (Tryz.prog.cellsOf 3))=ys[3]?:=hf 3 _ rfl;have es:Tryz.prog.cellsOf 9=1:=(by kernel_rfl);have ei:Tryz.prog.cellsOf 3=1:=(by kernel_rfl);have eb:Tryz.prog.cellsOf 4=1:=(by kernel_rfl);have el:Tryz.prog.cellsOf 54=1:=(by kernel_rfl);have er:Tryz.prog.cellsOf 56=6:=(by kernel_rfl);simp only[ei,er,List.drop_zero,List.take_succ_cons,List.take_zero,List.drop_succ_cons]at g0 g1 g2 g3;obtain ⟨zs,n2,_,_,_,hzl,hf2⟩:=DataW.trod_struct Tryz.underlying56 (g0.trans (List.getElem?_eq_getElem (by rw[hyl];decide)));have r0:DataW.trod enc Tryz.prog W 0 (fun _=>true) true n2 3 (([v0,v1,v2,v3,v4,v5].drop 0).take (Tryz.prog.cellsOf 3))=zs[0]?:=hf2 0 _ rfl;have r1:DataW.trod enc Tryz.prog W 0 (fun _=>true) true n2 3 (([v0,v1,v2,v3,v4,v5].drop 1).take (Tryz.prog.cellsOf 3))=zs[1]?:=hf2 1 _ rfl;have r2:DataW.trod enc Tryz.prog W 0 (fun _=>true) true n2 54 (([v0,v1,v2,v3,v4,v5].drop 2).take (Tryz.prog.cellsOf 54))=zs[2]?:=hf2 2 _ rfl;have r3:DataW.trod enc Tryz.prog W 0 (fun _=>true) true n2 9 (([v0,v1,v2,v3,v4,v5].drop 3).take (Tryz.prog.cellsOf 9))=zs[3]?:=hf2 3 _ rfl;have r4:DataW.trod enc Tryz.prog W 0 (fun _=>true) true n2 3 (([v0,v1,v2,v3,v4,v5].drop 4).take (Tryz.prog.cellsOf 3))=zs[4]?:=hf2 4 _ rfl;have r5:DataW.trod enc Tryz.prog W 0 (fun _=>true) true n2 4 (([v0,v1,v2,v3,v4,v5].drop 5).take (Tryz.prog.cellsOf 4))=zs[5]?:=hf2 5 _ rfl;simp only[es,ei,eb,el,List.drop_zero,List.take_succ_cons,List.take_zero,List.drop_succ_cons]at r0 r1 r2 r3 r4 r5;obtain ⟨kind,rfl,i0⟩:=Vk Tryz.underlying3 (r0.trans (List.getElem?_eq_getElem (by rw[hzl];decide)));obtain ⟨time,rfl,i1⟩:=Vk Tryz.underlying3 (r1.trans (List.getElem?_eq_getElem (by rw[hzl];decide)));obtain ⟨A,c,ay,rfl,h1,h2,h3,h4⟩:=yS (r2.trans (List.getElem?_eq_getElem (by rw[hzl];decide)));obtain ⟨text,rfl,i3⟩:=z1Y (r3.trans (List.getElem?_eq_getElem (by rw[hzl];decide)));obtain ⟨value,rfl,i4⟩:=Vk Tryz.underlying3 (r4.trans (List.getElem?_eq_getElem (by rw[hzl];decide)));obtain ⟨null,rfl⟩:=z4w (r5.trans (List.getElem?_eq_getElem (by rw[hzl];decide)));obtain ⟨maker,rfl,i6⟩:=Vk Tryz.underlying3 (g1.trans (List.getElem?_eq_getElem (by rw[hyl];decide)));obtain ⟨seq,rfl,i7⟩:=Vk Tryz.underlying3 (g2.trans (List.getElem?_eq_getElem (by rw[hyl];decide)));obtain ⟨place,rfl,i8⟩:=Vk Tryz.underlying3 (g3.trans (List.getElem?_eq_getElem (by rw[hyl];decide)));exact ⟨⟨⟨kind,time,ay,text,value,null,maker,seq,place⟩,A,c⟩,rfl,⟨h1,h3,h4⟩,h2,i3,i0,i1,i4,i6,i7,i8⟩
variable {args : Array Value} {ds : List (DataW H)} {ps : List MemPlace}
theorem Told.rows {ts:List TypeId} (h:Told enc (22::ts) W args ds ps):∃(A:Option Addr) (c:Nat) (l:List RV) (vs:List Value) (ds':List (DataW H)) (q:List MemPlace),args=(.slice A l.length c::vs).toArray/\
 Rd W (· <W.heap.size) 9 A l.length (gq l)/\(∀x∈l,x.ok W (· <W.heap.size)/\x.row.small)/\l.length<=c/\c<=maxLen/\Told enc ts W vs.toArray ds' q:=by
 obtain ⟨v,vs,d,ds',p,q,rfl,rfl,h0,⟨b,ho⟩,hlt,hw,h'⟩:=h.cons;obtain ⟨A,n,c,rfl⟩:=okWide_slice Tryz.underlying22 ho;obtain ⟨fuel,hf⟩:=h0;rcases open_slice Tryz.underlying22 hf with ⟨hcs,hx⟩|⟨a,len,cap,m,nn,D,Pl,hcs,hb,hl,hm,hmm,hx,hi⟩
 ·simp[Value.cells]at hcs
  obtain ⟨rfl,rfl,rfl⟩:=hcs;exact ⟨none,0,[],vs,ds',q,rfl,Rd.none_ _ _ _ _,by simp,Nat.le_refl _,by simp[maxLen],h'⟩
 ·simp[Value.cells]at hcs
  obtain ⟨rfl,rfl,rfl⟩:=hcs;simp only[if_true]at hmm;have hC:Tryz.prog.cellsOf 58=9:=by kernel_rfl
  rw[hC]at hi
  obtain ⟨l,h1,h2,h3⟩:=z3p (W:=W) (a:=a) (n:=n) (good:=fun x:RV=>x.ok W (· <W.heap.size)/\x.row.small) RV.bZ (by decide) (fun i hin=>by
   obtain ⟨cs',hc,ht'⟩:=hi i (by omega);obtain ⟨x,rfl,hx1,hx2⟩:=BF ht';obtain ⟨_,hcl,hat⟩:=World.cells?_some hc;refine ⟨x,⟨hx1,hx2⟩,fun j u hj hu=>?_⟩;rw[←Go.Deep.add_add,hat j hj,←hu])
  subst h1;exact ⟨some a,c,l,vs,ds',q,rfl,h3,h2,hl,hm,h'⟩
theorem Told.query {ts:List TypeId} (h:Told enc (66::ts) W args ds ps):∃(qy:dN) (A:Option Addr) (c:Nat) (vs:List Value) (ds':List (DataW H)) (q:List MemPlace),args=(iU qy A c::vs).toArray/\
 Rd W (· <W.heap.size) 3 A qy.ms.length (Ry qy.ms)/\(∀x∈qy.ms,x.small)/\qy.ms.length<=c/\c<=maxLen/\i64 qy.lo/\i64 qy.hi/\i64 qy.limit/\Told enc ts W vs.toArray ds' q:=by
 obtain ⟨v,vs,d,ds',p,q,rfl,rfl,h0,⟨b,ho⟩,hlt,hw,h'⟩:=h.cons;obtain ⟨cs,ys,n,rfl,hcl,hyl,hg⟩:=MX Tryz.underlying66 (by kernel_rfl) (by kernel_rfl) ho h0;match cs,hcl with
 |[c0,c1,c2,c3,c4],_=>
  obtain ⟨_,_,t0⟩:=hg 0 _ c0 rfl rfl;obtain ⟨_,_,t1⟩:=hg 1 _ c1 rfl rfl;obtain ⟨_,_,t2⟩:=hg 2 _ c2 rfl rfl;obtain ⟨_,_,t3⟩:=hg 3 _ c3 rfl rfl;obtain ⟨_,_,t4⟩:=hg 4 _ c4 rfl rfl;obtain ⟨lo,rfl,i0⟩:=Vk Tryz.underlying3 t0;obtain ⟨hi,rfl,i1⟩:=Vk Tryz.underlying3 t1;obtain ⟨A,c,ms,rfl,h1,h2,h3,h4⟩:=yP t2;obtain ⟨limit,rfl,i3⟩:=Vk Tryz.underlying3 t3;obtain ⟨texts,rfl⟩:=z4w t4;exact ⟨⟨lo,hi,ms,limit,texts⟩,A,c,vs,ds',q,rfl,h1,h2,h3,h4,i0,i1,i3,h'⟩
end
end Go.Proofs.YtpakjclpjcngmaaGreat
namespace Go.Proofs.YtpakjclpjcngmaaGreat
open Go.RowKit
theorem Tryz.Xh:(Tryz.prog.info? 135).map (fun i=>(i.zero,i.size,i.bytes))=some (some (.agg #[.string ⟨#[]⟩,.string ⟨#[]⟩]),2,32):=by kernel_rfl
theorem Tryz.lH:(Tryz.prog.info? 58).map (fun i=>(i.zero,i.size,i.bytes))=some (some (.agg #[.int .i64 0,.int .i64 0,.slice none 0 0,.string ⟨#[]⟩,.int .i64 0,.bool false,.int .i64 0,.int .i64 0,.int .i64 0]),9,96):=by kernel_rfl
theorem Xe (l:List dP):∀u∈lbl l,u.oneCell'=true:=by
 intro u hu;obtain ⟨x,_,hx⟩:=List.mem_flatMap.1 hu;simp[dP.cs]at hx;rcases hx with rfl|rfl<;>rfl
theorem z41 (l:List RV):∀u∈gq l,u.oneCell'=true:=by
 intro u hu;obtain ⟨x,_,hx⟩:=List.mem_flatMap.1 hu;simp[RV.cs]at hx;rcases hx with rfl|rfl|rfl|rfl|rfl|rfl|rfl|rfl|rfl<;>rfl
theorem vI {b:Nat} {t:TypeId}:∀(vs xs pre:List Value) (w:World),aG w b t (pre++xs).toArray->xs.length=vs.length->aG (jq w b pre.length vs) b t (pre++vs).toArray
 |[],xs,pre,w,h,hl=>by
  have:xs=[]:=List.eq_nil_of_length_eq_zero hl;subst this;exact h
 |v::vs,[],pre,w,h,hl=>by simp at hl
 |v::vs,x::xs,pre,w,h,hl=>by
  have h1:=h.dY pre.length v;have e:(pre++x::xs).toArray.setIfInBounds pre.length v=((pre++[v])++xs).toArray:=(by simp);rw[e]at h1;have h2:=vI vs xs (pre++[v]) _ h1 (by simpa using hl);rw[List.length_append,List.length_singleton]at h2;have e2:(pre++[v]++vs)=pre++v::vs:=(by simp);rw[e2]at h2;exact h2
theorem Me {w:World} {b:Nat} {t:TypeId} {xs:Array Value} (h:aG w b t xs) (vs:List Value) (hl:xs.size=vs.length):aG (jq w b 0 vs) b t vs.toArray:=by
 have:=vI vs xs.toList [] w (by simpa using h) (by simpa using hl);simpa using this
def YW (w:World) (l:List dP) (e:Ending) (w':World):Prop:=
 ∃A c,e=.returned (.slice A l.length c)/\Rd w' (fun k=>w.heap.size<=k/\k<w'.heap.size) 2 A l.length (lbl l)/\Nx w w'/\l.length<=c/\c<=maxLen
section
variable {w : World} {D : Nat → Prop} {A : Option Addr} {n c : Nat} {l : List dP}
theorem yT (h:Rd w D 2 A n (lbl l)) (hl:l.length=n) (hn:n<=1000000000):
 Calls Tryz.prog 156 #[.slice A n c] w (YW w l):=by
 obtain ⟨i0,hi0,hz0,hz1,hz2⟩:=info_parts Tryz.Xh;have Hlen:=ah hl;clear hl;have h':Rd (w.alloc (.cells #[] 135)) D 2 A n (lbl l):=h.nx (by omega) ((Ch.refl _ w).alloc _);have heq:=fun w:World=>Lib.run_eql_slice_nil (P:=Tryz.prog) w 54 135 A n c 0 0 Tryz.underlying54;rcases A with _|ad
 ·have h0:n=0:=by
   rcases Nat.eq_zero_or_pos n with h0|h0
   ·exact h0
   ·obtain ⟨_,h,_⟩:=h.2 h0;cases h
  have hx:l=[]:=List.eq_nil_of_length_eq_zero (by rw[Hlen.out,h0]);have Hx:=ah hx;clear h0 hx;go_enter Tryz.func156,Tryz.ntmps156;go_wp2_with fail;go_ret;rw[YW,Hx.out];exact ⟨none,0,rfl,Rd.none_ _ _ _ _,Ch.refl _ _,by simp,by simp⟩
 ·go_enter Tryz.func156,Tryz.ntmps156
  go_wp2_with (at_builtin;refine z03 _ rfl (.tmp 5) (.tmp 6) _ rfl w.heap.size 135 i0 _ 2 32 Tryz.underlying54 hi0 hz0 hz1 hz2 rfl (by omega) (.slice (some ⟨w.heap.size,0,none⟩) 0 0) 0 [] rfl (World.ownsRow_made w #[] 0 (Nat.le_refl _) (by simp[maxLen]) rfl) D (some ad) n c (lbl l) rfl h' (Xe l) (by simp only[maxLen];omega) (by omega) (by simp) ?_;intro v' w1 hown hg hat;obtain ⟨k,cap,hv,hk,hk1,hrd,hnx,ho⟩:=z5y hown hg hat;clear hown hg hat;rw[hv];clear hv)
  go_ret;obtain ⟨A',c',hv,hc1,hc2⟩:=z07 ho;injection hv with _ _ hv;subst hv;exact ⟨some ⟨k,0,none⟩,cap,by simp[Hlen.out],by rw[Hlen.out];exact hrd.more fun j e=>by omega,hnx,by rw[Hlen.out];exact hc1,hc2⟩
def aaX (w:World) (x:RV) (e:Ending) (w':World):Prop:=
 ∃y:RV,e=.returned (bG y)/\y.row=x.row/\y.ok w' (fun k=>w.heap.size<=k/\k<w'.heap.size)/\Nx w w'
end
section
variable {w : World} {D : Nat → Prop} {x : RV}
theorem MH (h:x.ok w D) (hl:x.row.ay.length<=1000000000):Calls Tryz.prog 79 #[bG x] w (aaX w x):=by
 obtain ⟨⟨kind,time,ay,text,value,null,maker,seq,place⟩,A1,c1⟩:=x;obtain ⟨h1,h2,h3⟩:=h;unfold bG;simp only at h1 h2 h3 hl ⊢;have HR:=ah (fun w' (hn:Nx w w')=>yT (c:=c1) (h1.nx (by decide) hn) rfl hl);clear h1;go_enter Tryz.func79,Tryz.ntmps79;go_wp2_with fail;have NJ:=ah (((Ch.refl (fun _=>False) w).alloc (.cells #[.int .i64 kind,.int .i64 time,.slice A1 ay.length c1,.string text,.int .i64 value,.bool null,.int .i64 maker,.int .i64 seq,.int .i64 place] 58)).alloc (.cells #[.int .i64 0,.int .i64 0,.slice none 0 0,.string ⟨#[]⟩,.int .i64 0,.bool false,.int .i64 0,.int .i64 0,.int .i64 0] 58));refine (HR.out _ NJ.out).mono ?_;rintro e w1 ⟨A2,c2,rfl,rd,nx,hc2,hm2⟩;have b1:aG w1 w.heap.size 58 #[.int .i64 kind,.int .i64 time,.slice A1 ay.length c1,.string text,.int .i64 value,.bool null,.int .i64 maker,.int .i64 seq,.int .i64 place]:=((aG.new w _ _).alloc _).nx nx;have b2:aG w1 (w.heap.size+1) 58 #[.int .i64 0,.int .i64 0,.slice none 0 0,.string ⟨#[]⟩,.int .i64 0,.bool false,.int .i64 0,.int .i64 0,.int .i64 0]:=(by have:=aG.new (w.alloc (.cells #[.int .i64 kind,.int .i64 time,.slice A1 ay.length c1,.string text,.int .i64 value,.bool null,.int .i64 maker,.int .i64 seq,.int .i64 place] 58)) 58 #[.int .i64 0,.int .i64 0,.slice none 0 0,.string ⟨#[]⟩,.int .i64 0,.bool false,.int .i64 0,.int .i64 0,.int .i64 0];simpa using this.nx nx);have NX:=ah (NJ.out.tr nx);have RD:=ah (rd.more (D':=fun k=>w.heap.size+2<=k/\k<w1.heap.size) (by intro k hk;simpa using hk));have f1:=b1.frozen;have f2:=b2.frozen;have d1:=b1.cell;have d2:=b2.cell;have hs:=ah (show w.heap.size+1<w1.heap.size from b2.lt);have B2:=ah b2;clear rd nx HR NJ b1 b2;go_wp2_with fail;obtain ⟨w3,hw3⟩:∃w3,w3=w1.setCell ⟨w.heap.size,2,none⟩ (.slice A2 ay.length c2):=⟨_,rfl⟩;obtain ⟨w2,hW⟩:∃w2,w2=jq w3 (w.heap.size+1) 0 (RV.cs ⟨⟨kind,time,ay,text,value,null,maker,seq,place⟩,A2,c2⟩):=⟨_,rfl⟩;have hch3:Ch (fun k=>k=w.heap.size) w1 w3:=by rw[hw3];exact Ch.setCell (S:=fun k=>k=w.heap.size) (Ch.refl _ w1) (p:=⟨w.heap.size,2,none⟩) (fun _=>rfl) _
 have b3:aG w3 (w.heap.size+1) 58 #[.int .i64 0,.int .i64 0,.slice none 0 0,.string ⟨#[]⟩,.int .i64 0,.bool false,.int .i64 0,.int .i64 0,.int .i64 0]:=by rw[hw3];exact B2.out.far (by simp) _
 have hch:Ch (fun k=>k=w.heap.size+1) w3 w2:=by rw[hW];exact z4C _ _ _
 have b4:aG w2 (w.heap.size+1) 58 #[.int .i64 kind,.int .i64 time,.slice A2 ay.length c2,.string text,.int .i64 value,.bool null,.int .i64 maker,.int .i64 seq,.int .i64 place]:=by rw[hW];exact Me b3 _ rfl
 have d:=b4.cell;simp only[RV.cs,jq,hw3]at hW;rw[←hW];clear hW d1 d2 f1 f2 b3 b4 B2 hw3;refine bodyPost_ret (v:=bG ⟨⟨kind,time,ay,text,value,null,maker,seq,place⟩,A2,c2⟩) (by simp[results,Tryz.results79,go_sem,bG,d]) rfl ?_;have hall:Ch (fun k=>k=w.heap.size∨k=w.heap.size+1) w1 w2:=(hch3.mono fun _ _ h=>.inl h).trans hch fun _ _ h=>.inr h;have hsz:=hall.size;exact ⟨_,rfl,rfl,⟨(RD.out.ch (by decide) hall fun k _ hk=>by omega).more fun k hk=>by have:=hs.out;omega,hc2,hm2⟩,NX.out.trans hall fun i hi hs=>by rcases hs with rfl|rfl<;>omega⟩
end
end Go.Proofs.YtpakjclpjcngmaaGreat
namespace Go.Proofs.YtpakjclpjcngmaaGreat
section
variable {α : Type} {lt : α → α → Bool}
def gQ (lt:α->α->Bool) (bs lo hi:Nat) (ys:List (Tg α)):Prop:=
 ∀i x,lo<=i->i<hi->ys[i]?=some x->x.tag / bs=i / bs/\∀j y,i<j->j<hi->i / bs=j / bs->ys[j]?=some y->Rt lt x y
theorem gQ.sub {bs lo hi lo' hi':Nat} {ys:List (Tg α)} (h:gQ lt bs lo hi ys) (h1:lo<=lo') (h2:hi'<=hi):gQ lt bs lo' hi' ys:=
 fun i x a b hx=>⟨(h i x (by omega) (by omega) hx).1,fun j y c d e hy=>(h i x (by omega) (by omega) hx).2 j y c (by omega) e hy⟩
theorem gQ.same {bs lo hi:Nat} {ys zs:List (Tg α)} (h:gQ lt bs lo hi ys) (e:∀i,lo<=i->i<hi->zs[i]?=ys[i]?):gQ lt bs lo hi zs:=
 fun i x a b hx=>by
  rw[e i a b]at hx;exact ⟨(h i x a b hx).1,fun j y c d f hy=>(h i x a b hx).2 j y c d f (by rw[e j (by omega) d]at hy;exact hy)⟩
theorem gQ.join {bs lo m hi:Nat} {ys:List (Tg α)} (h1:gQ lt bs lo m ys) (h2:gQ lt bs m hi ys) (hm:m % bs=0) (hb:0<bs):gQ lt bs lo hi ys:=by
 intro i x a b hx;by_cases c:i<m
 ·refine ⟨(h1 i x a c hx).1,fun j y d e f hy=>?_⟩
  by_cases g:j<m
  ·exact (h1 i x a c hx).2 j y d g f hy
  ·exfalso
   have q1:i / bs<m / bs:=by
    rw[Nat.div_lt_iff_lt_mul hb,Nat.div_mul_cancel (Nat.dvd_of_mod_eq_zero hm)];exact c
   have q2:m / bs<=j / bs:=Nat.div_le_div_right (by omega);omega
 ·exact h2 i x (by omega) b hx
theorem gQ.one {bs a b:Nat} {ys:List (Tg α)} (ha:a % bs=0) (hb:b<=a+bs) (hbs:0<bs) (ht:∀i x,a<=i->i<b->ys[i]?=some x->a<=x.tag/\x.tag<b) (hs:∀i j x y,a<=i->i<j->j<b->ys[i]?=some x->ys[j]?=some y->Rt lt x y):gQ lt bs a b ys:=by
 have hdiv:∀k,a<=k->k<b->k / bs=a / bs:=fun k h1 h2=>by
  have h3:a=bs * (a / bs):=by have:=Nat.div_add_mod a bs;omega
  have h4:a / bs<=k / bs:=Nat.div_le_div_right h1
  have h5:k / bs<a / bs+1:=by
   rw[Nat.div_lt_iff_lt_mul hbs,Nat.succ_mul,Nat.mul_comm];omega
  omega
 intro i x h1 h2 hx;obtain ⟨t1,t2⟩:=ht i x h1 h2 hx;exact ⟨by rw[hdiv x.tag t1 t2,hdiv i h1 h2],fun j y h3 h4 _ hy=>hs i j x y h1 h3 h4 hx hy⟩
theorem z47 {P C S:List (Tg α)} {i:Nat}:(P++C++S)[i]?=if i<P.length then P[i]? else if i<P.length+C.length then C[i-P.length]? else S[i-P.length-C.length]?:=by
 rw[List.append_assoc];by_cases h1:i<P.length
 ·rw[if_pos h1,List.getElem?_append_left h1]
 ·rw[if_neg h1,List.getElem?_append_right (by omega)]
  by_cases h2:i<P.length+C.length
  ·rw[if_pos h2,List.getElem?_append_left (by omega)]
  ·rw[if_neg h2,List.getElem?_append_right (by omega)]
theorem K_ {bs':Nat} {P M C S:List (Tg α)} (hp:C.Perm M) (hs:C.Pairwise (Rt lt)) (ha:P.length % bs'=0) (hb:M.length<=bs') (hbs:0<bs') (ht:∀x∈M,P.length<=x.tag/\x.tag<P.length+M.length):gQ lt bs' P.length (P.length+M.length) (P++C++S):=by
 have hl:=hp.length_eq;refine gQ.one ha (by omega) hbs (fun i x h1 h2 hx=>?_) (fun i j x y h1 h2 h3 hx hy=>?_)
 ·rw[z47,if_neg (by omega),if_pos (by omega)]at hx
  exact ht x (hp.subset (List.mem_of_getElem? hx))
 ·rw[z47,if_neg (by omega),if_pos (by omega)]at hx hy
  obtain ⟨q1,e1⟩:=List.getElem?_eq_some_iff.1 hx;obtain ⟨q2,e2⟩:=List.getElem?_eq_some_iff.1 hy;rw[←e1,←e2];exact List.pairwise_iff_getElem.1 hs _ _ q1 q2 (by omega)
theorem rJ {bs lo hi:Nat} {ys:List (Tg α)} (h:gQ lt bs lo hi ys) {i:Nat} {x:Tg α} (h1:lo<=i) (h2:i<hi) (hx:ys[i]?=some x) (hb:0<bs):bs * (i / bs)<=x.tag/\x.tag<bs * (i / bs)+bs:=by
 have e:=(h i x h1 h2 hx).1;have d:=Nat.div_add_mod x.tag bs;have m:=Nat.mod_lt x.tag hb;rw[e]at d;omega
theorem Ul {bs n:Nat} {P A B S:List (Tg α)} (h:gQ lt bs P.length n (P++A++B++S)) (hb:0<bs) (ha:P.length % bs=0) (hA:A.length=bs) (hB:B.length<=bs) (hn:P.length+A.length+B.length<=n):
 Runs lt P A B S:=by
 have hdA:∀k,P.length<=k->k<P.length+bs->k / bs=P.length / bs:=fun k h1 h2=>by
  have h3:=Nat.div_add_mod P.length bs;have h4:P.length / bs<=k / bs:=Nat.div_le_div_right h1
  have h5:k / bs<P.length / bs+1:=by
   rw[Nat.div_lt_iff_lt_mul hb,Nat.succ_mul,Nat.mul_comm];omega
  omega
 have hdB:∀k,P.length+bs<=k->k<P.length+bs+bs->k / bs=P.length / bs+1:=fun k h1 h2=>by
  have h3:=Nat.div_add_mod P.length bs
  have h4:P.length / bs+1<=k / bs:=by
   rw[Nat.le_div_iff_mul_le hb,Nat.succ_mul,Nat.mul_comm];omega
  have h5:k / bs<P.length / bs+1+1:=by
   rw[Nat.div_lt_iff_lt_mul hb,Nat.succ_mul,Nat.succ_mul,Nat.mul_comm];omega
  omega
 have gA:∀i (hi:i<A.length),(P++A++B++S)[P.length+i]?=some A[i]:=fun i hi=>by
  rw[List.append_assoc,List.append_assoc,List.getElem?_append_right (by omega),List.getElem?_append_left (by omega),Nat.add_sub_cancel_left,List.getElem?_eq_getElem hi]
 have gB:∀i (hi:i<B.length),(P++A++B++S)[P.length+A.length+i]?=some B[i]:=fun i hi=>by
  rw[List.append_assoc,List.append_assoc,List.getElem?_append_right (by omega),List.getElem?_append_right (by omega),List.getElem?_append_left (by omega),List.getElem?_eq_getElem (by omega)];congr 2
  omega
 refine ⟨List.pairwise_iff_getElem.2 fun i j hi hj hij=>?_,List.pairwise_iff_getElem.2 fun i j hi hj hij=>?_,fun x hx y hy=>?_⟩
 ·exact (h (P.length+i) _ (by omega) (by omega) (gA i hi)).2 (P.length+j) _ (by omega) (by omega) (by rw[hdA (P.length+i) (by omega) (by omega),hdA (P.length+j) (by omega) (by omega)]) (gA j hj)
 ·exact (h (P.length+A.length+i) _ (by omega) (by omega) (gB i hi)).2 (P.length+A.length+j) _ (by omega) (by omega) (by rw[hdB (P.length+A.length+i) (by omega) (by omega),hdB (P.length+A.length+j) (by omega) (by omega)]) (gB j hj)
 ·obtain ⟨i,hi,rfl⟩:=List.mem_iff_getElem.1 hx
  obtain ⟨j,hj,rfl⟩:=List.mem_iff_getElem.1 hy;have t1:=(rJ h (by omega) (by omega) (gA i hi) hb).2;have t2:=(rJ h (by omega) (by omega) (gB j hj) hb).1;rw[hdA _ (by omega) (by omega)]at t1;rw[hdB _ (by omega) (by omega),Nat.mul_succ]at t2;omega
theorem Un {bs a n:Nat} {ys:List (Tg α)} (h:gQ lt bs a n ys) (hb:0<bs) (ha:a % (2 * bs)=0) (hn:n<=a+bs):gQ lt (2 * bs) a n ys:=by
 have hab:a % bs=0:=by
  have:bs∣a:=Nat.dvd_trans ⟨2,by omega⟩ (Nat.dvd_of_mod_eq_zero ha);exact Nat.mod_eq_zero_of_dvd this
 have hd:∀k,a<=k->k<a+bs->k / bs=a / bs:=fun k h1 h2=>by
  have h3:=Nat.div_add_mod a bs;have h4:a / bs<=k / bs:=Nat.div_le_div_right h1
  have h5:k / bs<a / bs+1:=by
   rw[Nat.div_lt_iff_lt_mul hb,Nat.succ_mul,Nat.mul_comm];omega
  omega
 intro i x h1 h2 hx;have e:=(h i x h1 h2 hx).1;refine ⟨?_,fun j y h3 h4 _ hy=>(h i x h1 h2 hx).2 j y h3 h4 (by rw[hd i h1 (by omega),hd j (by omega) (by omega)]) hy⟩;rw[Nat.mul_comm 2 bs,←Nat.div_div_eq_div_mul,←Nat.div_div_eq_div_mul,e]
theorem XU {bs n:Nat} {ys:List (Tg α)} (h:gQ lt bs 0 n ys) (hn:n<=bs) (hl:ys.length=n):ys.Pairwise (Rt lt):=by
 refine List.pairwise_iff_getElem.2 fun i j hi hj hij=>?_;exact (h i _ (by omega) (by omega) (List.getElem?_eq_getElem hi)).2 j _ hij (by omega) (by rw[Nat.div_eq_of_lt (by omega),Nat.div_eq_of_lt (by omega)]) (List.getElem?_eq_getElem hj)
end
end Go.Proofs.YtpakjclpjcngmaaGreat
namespace Go.Proofs.YtpakjclpjcngmaaGreat
open Go.RowKit
def SA (w:World) (g:Nat) (A:Option Addr) (cap:Nat) (zs:List RV):Prop:=
 (A=some ⟨g,0,none⟩∨zs=[])/\w.ownsRow 0 58 9 (.slice A zs.length cap) zs.length (gq zs)
theorem SA.form {w:World} {g cap:Nat} {A:Option Addr} {zs:List RV} (h:SA w g A cap zs) {k:Nat} (hk:k<zs.length):A=some ⟨g,0,none⟩:=by
 rcases h.1 with e|e
 ·exact e
 ·subst e;simp at hk
theorem SA.cell {w:World} {g cap:Nat} {A:Option Addr} {zs:List RV} (h:SA w g A cap zs) {k:Nat} (hk:k<zs.length) (i:Nat) (hi:i<9):w.cell? ⟨g,k * 9+i,none⟩=(zs[k].cs)[i]?:=by
 have e:=h.form hk;subst e;have hl:=yx zs;have hh:k * 9+i<zs.length * 9:=by omega
 rw[h.2.cellAt (k * 9+i) hh];exact z18 RV.bZ hk hi
def Ey (w:World) (g k:Nat) (x:RV):Prop:=
 w.cell? ⟨g,k * 9,none⟩=some (.int .i64 x.row.kind)/\w.cell? ⟨g,k * 9+1,none⟩=some (.int .i64 x.row.time)/\w.cell? ⟨g,k * 9+2,none⟩=some (.slice x.A x.row.ay.length x.c)/\w.cell? ⟨g,k * 9+3,none⟩=some (.string x.row.text)/\
 w.cell? ⟨g,k * 9+4,none⟩=some (.int .i64 x.row.value)/\w.cell? ⟨g,k * 9+5,none⟩=some (.bool x.row.null)/\w.cell? ⟨g,k * 9+6,none⟩=some (.int .i64 x.row.maker)/\w.cell? ⟨g,k * 9+7,none⟩=some (.int .i64 x.row.seq)/\w.cell? ⟨g,k * 9+8,none⟩=some (.int .i64 x.row.place)
theorem SA.at_ {w:World} {g cap:Nat} {A:Option Addr} {zs:List RV} (h:SA w g A cap zs) {k:Nat} (hk:k<zs.length):Ey w g k zs[k]:=
 ⟨h.cell hk 0 (by decide),h.cell hk 1 (by decide),h.cell hk 2 (by decide),h.cell hk 3 (by decide),h.cell hk 4 (by decide),h.cell hk 5 (by decide),h.cell hk 6 (by decide),h.cell hk 7 (by decide),h.cell hk 8 (by decide)⟩
theorem SA.frozen {w:World} {g cap:Nat} {A:Option Addr} {zs:List RV} (h:SA w g A cap zs) {k:Nat} (hk:k<zs.length) (i:Nat):w.frozen? ⟨g,i,none⟩=false:=by
 have e:=h.form hk;subst e;exact h.2.frozenAt i
theorem SA.nx {w w':World} {g cap:Nat} {A:Option Addr} {zs:List RV} (h:SA w g A cap zs) (hn:Nx w w'):SA w' g A cap zs:=
 ⟨h.1,h.2.kept (row:=none) ⟨hn.os,hn.tape,hn.output,hn.size,fun k hk _=>hn.block k hk (fun h=>h)⟩ (by cases A<;>simp[Value.ownBlock])⟩
theorem SA.two {w:World} {g cap:Nat} {A:Option Addr} {zs:List RV} (h:SA w g A cap zs) {i j:Nat} (hi:i<zs.length) (hj:j<zs.length) (x y:RV):
 SA (jq (jq w g (i * 9) x.cs) g (j * 9) y.cs) g A cap ((zs.set i x).set j y)/\Ch (fun k=>k=g) w (jq (jq w g (i * 9) x.cs) g (j * 9) y.cs):=by
 refine ⟨⟨.inl (h.form hi),?_⟩,(z4C _ _ _).trans (z4C _ _ _) fun _ _ e=>e⟩;have e:=h.form hi;subst e;have h2:=z5e y.cs _ _ (j * 9) (z5e x.cs _ _ (i * 9) h.2);have e1:pV (gq zs) (i * 9) x.cs=gq (zs.set i x):=DT RV.bZ hi x;rw[e1]at h2;have e2:pV (gq (zs.set i x)) (j * 9) y.cs=gq ((zs.set i x).set j y):=DT RV.bZ (by simpa using hj) y;rw[e2]at h2;simpa using h2
theorem SA.swap {w:World} {g cap:Nat} {A:Option Addr} {zs:List RV} (h:SA w g A cap zs) {i j:Nat} (hi:i<zs.length) (hj:j<zs.length) {w':World} (e:w'=jq (jq w g (i * 9) (zs[j]).cs) g (j * 9) (zs[i]).cs):
 SA w' g A cap (iE zs i j)/\Ch (fun k=>k=g) w w':=by
 rw[z4B hi hj,e];exact h.two hi hj _ _
section
variable {w : World} {g cap : Nat} {A : Option Addr} {ys : List RV}
theorem sS (h:SA w g A cap ys) (hn:ys.length<=1000000) (a b n:Nat) (h1:a+n<=b) (h2:b+n<=ys.length) (F:Value):
 Calls Tryz.prog 293 #[.slice A ys.length cap,.int .i64 a,.int .i64 b,.int .i64 n,F] w fun e w'=>e=.returned (.tuple #[])/\SA w' g A cap (sF ys a b n)/\Ch (fun k=>k=g) w w':=by
 go_enter Tryz.func293,Tryz.ntmps293;go_wp2_with fail;go_loopw [10] (fun i wr=>∃k:Nat,k<=n/\i=.int .i64 (k:Int)/\SA wr g A cap (sF ys a b k)/\Ch (fun k=>k=g) w wr) (fun i _=>n-(intOf i).toNat)
 case atStart=>exact ⟨0,Nat.zero_le _,rfl,h,Ch.refl _ _⟩
 case round=>
  obtain ⟨w4,rfl⟩:∃w4:World,w4=wr:=⟨_,rfl⟩;obtain ⟨k,hk,rfl,hs,hc⟩:=hrel;by_cases hlt:k<n
  ·have hl:=z2j ys a b k
   have hi:a+k<(sF ys a b k).length:=(by omega);have hj:b+k<(sF ys a b k).length:=(by omega);have e:=hs.form hi;subst e;have ci:=hs.cell hi;have cj:=hs.cell hj;have cf:=hs.frozen hi;have HS:=ah (fun w'=>hs.swap hi hj (w':=w'));have HC:=ah hc;have Hh:=ah h;have Hl:=ah hl;have ij:a+k≠b+k:=(by omega);clear hs hc h hl;generalize (sF ys a b k)[a+k]=x at *;generalize (sF ys a b k)[b+k]=y at *;obtain ⟨⟨kind,time,ay,text,value,null,maker,seq,place⟩,A1,c1⟩:=x;obtain ⟨⟨kind2,bH,dD,dh,value2,dn,aU,seq2,aT⟩,A2,c2⟩:=y;have p0:w4.cell? ⟨g,(a+k) * 9,none⟩=_:=ci 0 (by decide);have p1:=ci 1 (by decide);have p2:=ci 2 (by decide);have p3:=ci 3 (by decide);have p4:=ci 4 (by decide);have p5:=ci 5 (by decide);have p6:=ci 6 (by decide);have p7:=ci 7 (by decide);have p8:=ci 8 (by decide);have q0:w4.cell? ⟨g,(b+k) * 9,none⟩=_:=cj 0 (by decide);have q1:=cj 1 (by decide);have q2:=cj 2 (by decide);have q3:=cj 3 (by decide);have q4:=cj 4 (by decide);have q5:=cj 5 (by decide);have q6:=cj 6 (by decide);have q7:=cj 7 (by decide);have q8:=cj 8 (by decide);simp only[RV.cs,List.getElem?_cons_zero,List.getElem?_cons_succ]at p0 p1 p2 p3 p4 p5 p6 p7 p8 q0 q1 q2 q3 q4 q5 q6 q7 q8;clear ci cj;go_wp2_with fail;go_region
   generalize hW:World.setCell _ _ _=W5;obtain ⟨g1,g2⟩:=HS.out W5 hW.symm;clear hW p0 p1 p2 p3 p4 p5 p6 p7 p8 q0 q1 q2 q3 q4 q5 q6 q7 q8 cf HS;go_wp2_with fail;go_roundw
   case rel=>
    exact ⟨k+1,by omega,by go_num,g1,(HC.out.trans g2 fun _ _ e=>e).drew⟩
   case measure=>simp[intOf];omega
  ·obtain rfl:k=n:=by omega
   go_wp2_with fail;go_end0
   exact ⟨rfl,hs,hc⟩
end
section
variable {w : World} {g cap : Nat} {A : Option Addr} {ys : List RV}
theorem Gq (h:SA w g A cap ys) (hn:ys.length<=1000000) (a m b:Nat) (h1:a<m) (h2:m<b) (h3:b<=ys.length) (F:Value):
 Calls Tryz.prog 255 #[.slice A ys.length cap,.int .i64 a,.int .i64 m,.int .i64 b,F] w fun e w'=>e=.returned (.tuple #[])/\SA w' g A cap (rotL ys a m b)/\Ch (fun k=>k=g) w w':=by
 go_enter Tryz.func255,Tryz.ntmps255;go_wp2_with fail;go_loopw [10,11] (fun s10 s11 wr=>∃(i j:Nat) (zs:List RV),0<i/\0<j/\i<=m/\m+j<=ys.length/\s10=.int .i64 (i:Int)/\s11=.int .i64 (j:Int)/\zs.length=ys.length/\SA wr g A cap zs/\Ch (fun k=>k=g) w wr/\rotL zs (m-i) m (m+j)=rotL ys a m b) (fun s10 s11 _=>(intOf s10).toNat+(intOf s11).toNat)
 case atStart=>exact ⟨m-a,b-m,ys,by omega,by omega,by omega,by omega,by go_num,by go_num,rfl,h,Ch.refl _ _,by congr 1<;>omega⟩
 case round=>
  obtain ⟨w4,rfl⟩:∃w4:World,w4=wr:=⟨_,rfl⟩;obtain ⟨i,j,zs,hi,hj,him,hjm,rfl,rfl,hl,hs,hc,he⟩:=hrel;have Hsw:=ah (fun a b n h1 h2=>sS hs (by omega) a b n h1 h2 F);rw[hl]at Hsw;have HC:=ah hc;have HE:=ah he;clear hs hc he h;by_cases hlt:j<i
  ·have ht:((i:Int) !=(j:Int))=true:=by simp;omega
   have HR:=ah (QH zs hlt him (by omega));have HK:=ah (Hsw.out (m-i) m j (by omega) (by omega));clear Hsw;have hz:m-i+j=m-(i-j):=(by omega);rw[hz]at HR;have e1:((m-i:Nat):Int)=(m:Int)-i:=(by omega);rw[e1]at HK;go_wp2_with fail;refine HK.out.mono ?_;rintro e w5 ⟨rfl,s5,c5⟩;have S5:=ah s5;have C5:=ah c5;clear s5 c5;go_wp2_with fail;go_roundw
   case rel=>exact ⟨i-j,j,_,by omega,hj,by omega,hjm,by go_num,rfl,(z2j _ _ _ _).trans hl,S5.out,HC.out.trans C5.out fun _ _ e=>e,HR.out.trans HE.out⟩
   case measure=>simp[intOf];omega
  ·by_cases hlt2:i<j
   ·have ht:((i:Int) !=(j:Int))=true:=by simp;omega
    have HR:=ah (MK zs hlt2 him (by omega));have HK:=ah (Hsw.out (m-i) (m+j-i) i (by omega) (by omega));clear Hsw;have e1:((m-i:Nat):Int)=(m:Int)-i:=(by omega);have e2:((m+j-i:Nat):Int)=(m:Int)+j-i:=(by omega);rw[e1,e2]at HK;go_wp2_with fail;refine HK.out.mono ?_;rintro e w5 ⟨rfl,s5,c5⟩;have S5:=ah s5;have C5:=ah c5;clear s5 c5;go_wp2_with fail;go_roundw
    case rel=>exact ⟨i,j-i,_,hi,by omega,him,by omega,rfl,by go_num,(z2j _ _ _ _).trans hl,S5.out,HC.out.trans C5.out fun _ _ e=>e,HR.out.trans HE.out⟩
    case measure=>simp[intOf];omega
   ·obtain rfl:i=j:=by omega
    have HR:=ah (QI zs him (by omega));have HK:=ah (Hsw.out (m-i) m i (by omega) (by omega));clear Hsw;have e1:((m-i:Nat):Int)=(m:Int)-i:=(by omega);rw[e1]at HK;go_wp2_with fail;refine HK.out.mono ?_;rintro e w5 ⟨rfl,s5,c5⟩;rw[HR.out,HE.out]at s5;have S5:=ah s5;have C5:=ah c5;clear s5 c5;go_wp2_with fail;go_end0
    exact ⟨rfl,S5.out,HC.out.trans C5.out fun _ _ e=>e⟩
end
end Go.Proofs.YtpakjclpjcngmaaGreat
namespace Go.Proofs.YtpakjclpjcngmaaGreat
section
variable {α : Type} {lt : α → α → Bool}
def rX (lt:α->α->Bool) (P M S:List (Tg α)) (i:Nat) (ys:List (Tg α)):Prop:=
 ∃C,C.Perm (M.take i)/\C.Pairwise (Rt lt)/\ys=P++C++M.drop i++S
def Jq (lt:α->α->Bool) (P M S:List (Tg α)) (i J:Nat) (ys:List (Tg α)):Prop:=
 ∃L R x,P.length+L.length=J/\(L++R).Perm (M.take i)/\(L++R).Pairwise (Rt lt)/\(∀y∈R,Rt lt x y)/\M[i]?=some x/\ys=P++L++[x]++R++M.drop (i+1)++S
theorem rX.first (P M S:List (Tg α)):rX lt P M S 1 (P++M++S):=by
 refine ⟨M.take 1,List.Perm.refl _,?_,by rw[List.append_assoc P (M.take 1),List.take_append_drop]⟩;cases M with
 |nil=>simp
 |cons x M=>simp
theorem Jq.len {P M S:List (Tg α)} {i J:Nat} {ys:List (Tg α)} (h:Jq lt P M S i J ys):ys.length=P.length+M.length+S.length:=by
 obtain ⟨L,R,x,_,hp,_,_,hx,rfl⟩:=h;have:=hp.length_eq
 have hi:i<M.length:=by
  rcases Nat.lt_or_ge i M.length with h|h
  ·exact h
  ·rw[List.getElem?_eq_none h]at hx;cases hx
 simp at this ⊢;omega
theorem rX.enter {P M S:List (Tg α)} {i:Nat} {ys:List (Tg α)} (h:rX lt P M S i ys) (hi:i<M.length):Jq lt P M S i (P.length+i) ys:=by
 obtain ⟨C,hp,hs,rfl⟩:=h;have hl:=hp.length_eq;rw[List.length_take,Nat.min_eq_left (by omega)]at hl;refine ⟨C,[],M[i],by rw[hl],by simpa using hp,by simpa using hs,by simp,List.getElem?_eq_getElem hi,?_⟩;rw[List.drop_eq_getElem_cons hi];simp
theorem rX.last {P M S:List (Tg α)} {i:Nat} {ys:List (Tg α)} (h:rX lt P M S i ys) (hi:M.length<=i):∃C,C.Perm M/\C.Pairwise (Rt lt)/\ys=P++C++S:=by
 obtain ⟨C,hp,hs,rfl⟩:=h;rw[List.take_of_length_le hi]at hp;exact ⟨C,hp,hs,by rw[List.drop_eq_nil_of_le hi,List.append_nil]⟩
theorem Jq.all (w:Weak lt) {P M S:List (Tg α)} {i J:Nat} {ys:List (Tg α)} (h:Jq lt P M S i J ys) (ht:M.Pairwise fun x y=>x.tag<y.tag):
 ∃(hJ:J<ys.length),P.length<=J/\(J=P.length->rX lt P M S (i+1) ys)/\(P.length<J->∃(hJ2:J-1<ys.length),(lt (ys[J]).row (ys[J-1]).row=true->Jq lt P M S i (J-1) (iE ys J (J-1)))/\(lt (ys[J]).row (ys[J-1]).row=false->rX lt P M S (i+1) ys)):=by
 obtain ⟨L,R,x,hJ,hp,hs,hR,hx,rfl⟩:=h
 have hi:i<M.length:=by
  rcases Nat.lt_or_ge i M.length with h|h
  ·exact h
  ·rw[List.getElem?_eq_none h]at hx;cases hx
 have hxe:M[i]=x:=by rw[List.getElem?_eq_getElem hi]at hx;injection hx
 have hJl:J<(P++L++[x]++R++M.drop (i+1)++S).length:=by simp;omega
 have hfin:(∀y∈L,Rt lt y x)->rX lt P M S (i+1) (P++L++[x]++R++M.drop (i+1)++S):=fun hL=>by
  refine ⟨L++[x]++R,?_,z2B w hs hL hR,by simp⟩;rw[List.take_succ_eq_append_getElem hi,hxe];refine List.Perm.trans ?_ (hp.append_right [x]);rw[List.append_assoc,List.append_assoc];exact List.Perm.append_left L List.perm_append_comm
 refine ⟨hJl,by omega,fun e=>hfin (fun y hy=>?_),fun hlt=>?_⟩
 ·have:L=[]:=List.length_eq_zero_iff.1 (by omega)
  subst this;cases hy
 ·have hne:L≠[]:=fun e=>by subst e;simp at hJ;omega
  obtain ⟨L',y,rfl⟩:∃L' y,L=L'++[y]:=⟨L.dropLast,L.getLast hne,(List.dropLast_concat_getLast hne).symm⟩;have hJ':J=(P++L').length+1:=by simp at hJ ⊢;omega
  have eq1:P++(L'++[y])++[x]++R++M.drop (i+1)++S=(P++L')++[y,x]++(R++M.drop (i+1)++S):=by simp
  subst hJ';rw[Nat.add_sub_cancel]
  have g1:(P++(L'++[y])++[x]++R++M.drop (i+1)++S)[(P++L').length+1]?=some x:=by
   rw[eq1,List.append_assoc (P++L'),List.getElem?_append_right (by omega),show (P++L').length+1-(P++L').length=1 by omega];rfl
  have g0:(P++(L'++[y])++[x]++R++M.drop (i+1)++S)[(P++L').length]?=some y:=by
   rw[eq1,List.append_assoc (P++L'),List.getElem?_append_right (Nat.le_refl _),Nat.sub_self];rfl
  obtain ⟨h1,g1⟩:=List.getElem?_eq_some_iff.1 g1;obtain ⟨h0,g0⟩:=List.getElem?_eq_some_iff.1 g0;refine ⟨h0,fun hl=>?_,fun hl=>hfin (fun z hz=>?_)⟩
  ·rw[g1,g0]at hl
   rw[eq1,oZ];refine ⟨L',y::R,x,by simp,?_,?_,?_,hx,by simp⟩
   ·rw[show L'++y::R=L'++[y]++R by simp];exact hp
   ·rw[show L'++y::R=L'++[y]++R by simp];exact hs
   ·intro z hz
    rcases List.mem_cons.1 hz with rfl|hz
    ·exact .inl hl
    ·exact hR z hz
  ·rw[g1,g0]at hl
   have hyM:y∈M.take i:=hp.subset (by simp)
   have hyt:y.tag<x.tag:=by
    rw[←List.take_append_drop i M]at ht;rw[List.pairwise_append]at ht;refine ht.2.2 y hyM x ?_;rw[List.drop_eq_getElem_cons hi,hxe];exact List.mem_cons_self
   have hyx:Rt lt y x:=Rt.qA w hyt hl;rcases List.mem_append.1 hz with hz|hz
   ·have hs2:=(List.pairwise_append.1 (List.pairwise_append.1 hs).1).2.2 z hz y (by simp)
    exact Rt.trans w hs2 hyx
   ·rw[List.mem_singleton.1 hz];exact hyx
end
section
variable {α : Type} {lt : α → α → Bool}
theorem Qi {l:List α} {i:Nat} {x:Tg α} (h:(dX l)[i]?=some x):x.tag=i/\i<l.length:=by
 obtain ⟨h1,e⟩:=List.getElem?_eq_some_iff.1 h;rw[z3y]at e;subst e;rw[z2b]at h1;exact ⟨rfl,h1⟩
structure St1 (lt:α->α->Bool) (l:List α) (a:Nat) (ys:List (Tg α)):Prop where
 md:a % 20=0
 pm:ys.Perm (dX l)
 bk:gQ lt 20 0 a ys
 tl:ys.drop a=(dX l).drop a
theorem St1.start (l:List α):St1 lt l 0 (dX l):=⟨rfl,List.Perm.refl _,fun i x _ h=>by omega,rfl⟩
theorem St1.len {l:List α} {a:Nat} {ys:List (Tg α)} (h:St1 lt l a ys):ys.length=l.length:=by
 rw[h.pm.length_eq,z2b]
theorem St1.cut {l:List α} {a:Nat} {ys:List (Tg α)} (h:St1 lt l a ys) {e:Nat} (h1:a<=e) (h2:e<=l.length) (h3:e<=a+20):∃P M S,ys=P++M++S/\P.length=a/\M.length=e-a/\S.length=l.length-e/\(M.Pairwise fun x y=>x.tag<y.tag)/\
 ∀C,C.Perm M->C.Pairwise (Rt lt)->(P++C++S).Perm (dX l)/\gQ lt 20 0 e (P++C++S)/\(P++C++S).drop e=(dX l).drop e:=by
 have hl:=h.len;have ht:=z2b l;have hP:(ys.take a).length=a:=by rw[List.length_take];omega
 have hM:(((dX l).drop a).take (e-a)).length=e-a:=by rw[List.length_take,List.length_drop];omega
 have hM0:∀i x,(((dX l).drop a).take (e-a))[i]?=some x->x.tag=a+i/\i<e-a:=fun i x hx=>by
  have hi:i<e-a:=by
   have:=(List.getElem?_eq_some_iff.1 hx).1;rwa [hM]at this
  rw[List.getElem?_take_of_lt hi,List.getElem?_drop]at hx;exact ⟨(Qi hx).1,hi⟩
 have hy:ys=ys.take a++((dX l).drop a).take (e-a)++(dX l).drop e:=by
  conv=>lhs;rw[←List.take_append_drop a ys,h.tl]
  rw[List.append_assoc];congr 1
  conv=>lhs;rw[←List.take_append_drop (e-a) ((dX l).drop a)]
  rw[List.drop_drop,show a+(e-a)=e by omega]
 refine ⟨ys.take a,((dX l).drop a).take (e-a),(dX l).drop e,hy,hP,hM,by rw[List.length_drop,ht],?_,fun C hp hs=>?_⟩
 ·refine List.pairwise_iff_getElem.2 fun i j hi hj hij=>?_
  have e1:=(hM0 i _ (List.getElem?_eq_getElem hi)).1;have e2:=(hM0 j _ (List.getElem?_eq_getElem hj)).1;omega
 ·have hCl:C.length=e-a:=by rw[hp.length_eq,hM]
  refine ⟨?_,?_,?_⟩
  ·refine List.Perm.trans ?_ h.pm
   conv=>rhs;rw[hy]
   exact (List.Perm.append_left _ hp).append_right _
  ·refine gQ.join (m:=a) (h.bk.same fun i _ hi=>?_) ?_ h.md (by decide)
   ·rw[z47,if_pos (by omega),List.getElem?_take_of_lt hi]
   ·have:=K_ (bs':=20) (P:=ys.take a) (S:=(dX l).drop e) hp hs (by rw[hP];exact h.md) (by omega) (by decide) (fun x hx=>by
     obtain ⟨i,hi⟩:=List.mem_iff_getElem?.1 hx;obtain ⟨e1,e2⟩:=hM0 i x hi;rw[hP,hM];omega)
    rwa [hP,hM,show a+(e-a)=e by omega]at this
  ·rw[List.drop_append_of_le_length (by rw[List.length_append];omega),List.drop_eq_nil_of_le (by rw[List.length_append];omega),List.nil_append]
structure St2 (lt:α->α->Bool) (l:List α) (bs a:Nat) (ys:List (Tg α)):Prop where
 md:a % (2 * bs)=0
 pm:ys.Perm (dX l)
 bk:gQ lt (2 * bs) 0 a ys
 tl:gQ lt bs a l.length ys
structure St3 (lt:α->α->Bool) (l:List α) (bs:Nat) (ys:List (Tg α)):Prop where
 pm:ys.Perm (dX l)
 bk:gQ lt bs 0 l.length ys
theorem St2.start {l:List α} {bs:Nat} {ys:List (Tg α)} (h:St3 lt l bs ys):St2 lt l bs 0 ys:=⟨Nat.zero_mod _,h.pm,fun i x _ h=>by omega,h.bk⟩
theorem St3.last (w:Weak lt) {l:List α} {bs:Nat} {ys:List (Tg α)} (h:St3 lt l bs ys) (hn:l.length<=bs):ys.map (fun x=>x.row)=eP lt l:=
 z5d w h.pm (XU h.bk hn (by rw[h.pm.length_eq,z2b]))
theorem St2.len {l:List α} {bs a:Nat} {ys:List (Tg α)} (h:St2 lt l bs a ys):ys.length=l.length:=by
 rw[h.pm.length_eq,z2b]
theorem St2.end_ {l:List α} {bs a:Nat} {ys:List (Tg α)} (h:St2 lt l bs a ys) (hb:0<bs) (hn:l.length<=a+bs):St3 lt l (2 * bs) ys:=
 ⟨h.pm,gQ.join h.bk (Un h.tl hb h.md hn) h.md (by omega)⟩
theorem St2.cut {l:List α} {bs a:Nat} {ys:List (Tg α)} (h:St2 lt l bs a ys) (hb:0<bs) {e:Nat} (h1:a+bs<e) (h4:e=a+2 * bs∨(e=l.length/\e<=a+2 * bs)) (h3:e<=l.length):∃P A B S,ys=P++A++B++S/\P.length=a/\A.length=bs/\B.length=e-(a+bs)/\S.length=l.length-e/\Runs lt P A B S/\
 ∀C,oK lt A B C->(P++C++S).Perm (dX l)/\gQ lt (2 * bs) 0 e (P++C++S)/\gQ lt bs e l.length (P++C++S):=by
 have hl:=h.len;have h2:e<=a+2 * bs:=by omega
 obtain ⟨P,A,B,S,rfl,hP,hA,hB,hS⟩:∃P A B S,ys=P++A++B++S/\P.length=a/\A.length=bs/\B.length=e-(a+bs)/\S.length=l.length-e:=by
  refine ⟨ys.take a,(ys.drop a).take bs,(ys.drop (a+bs)).take (e-(a+bs)),ys.drop e,?_,by simp;omega,by simp;omega,by simp;omega,by simp;omega⟩;conv=>lhs;rw[←List.take_append_drop a ys,←List.take_append_drop bs (ys.drop a),List.drop_drop,←List.take_append_drop (e-(a+bs)) (ys.drop (a+bs)),List.drop_drop,show a+bs+(e-(a+bs))=e by omega]
  simp only[List.append_assoc]
 have hab:a % bs=0:=by
  have h5:2 * bs∣a:=Nat.dvd_of_mod_eq_zero h.md;exact Nat.mod_eq_zero_of_dvd (Nat.dvd_trans (Nat.dvd_mul_left bs 2) h5)
 refine ⟨P,A,B,S,rfl,hP,hA,hB,hS,?_,fun C hM=>?_⟩
 ·have:=h.tl
  rw[←hP]at this hab;exact Ul this hb hab hA (by omega) (by omega)
 ·have hCl:=hM.1.length_eq
  rw[List.length_append]at hCl;refine ⟨?_,?_,?_⟩
  ·refine List.Perm.trans ?_ h.pm
   rw[List.append_assoc P A B];exact (List.Perm.append_left _ hM.1).append_right _
  ·refine gQ.join (m:=a) (h.bk.same fun i _ hi=>?_) ?_ h.md (by omega)
   ·rw[z47,if_pos (by omega),List.append_assoc,List.append_assoc,List.getElem?_append_left (by omega)]
   ·have:=K_ (bs':=2 * bs) (P:=P) (S:=S) hM.1 hM.2 (by rw[hP];exact h.md) (by rw[List.length_append];omega) (by omega) (fun x hx=>by
     rw[List.length_append,hP,hA,hB];obtain ⟨i,hi⟩:=List.mem_iff_getElem?.1 hx
     have hil:i<A.length+B.length:=by
      have:=(List.getElem?_eq_some_iff.1 hi).1;rwa [List.length_append]at this
     have hx2:(P++A++B++S)[a+i]?=some x:=by
      rw[List.append_assoc P A B,z47,if_neg (by omega),if_pos (by rw[List.length_append];omega),show a+i-P.length=i by omega];exact hi
     obtain ⟨t1,t2⟩:=rJ h.tl (by omega) (by omega) hx2 hb
     obtain ⟨q,hq⟩:∃q,a=bs * q:=by
      obtain ⟨q,hq⟩:=Nat.dvd_of_mod_eq_zero hab;exact ⟨q,hq⟩
     by_cases hib:i<bs
     ·have e1:(a+i) / bs=q:=by rw[hq,Nat.mul_add_div hb,Nat.div_eq_of_lt hib,Nat.add_zero]
      rw[e1,←hq]at t1 t2;omega
     ·have e1:(a+i) / bs=q+1:=by
       rw[hq,Nat.mul_add_div hb,show i=bs * 1+(i-bs) by omega,Nat.mul_add_div hb,Nat.div_eq_of_lt (by omega)]
      rw[e1,Nat.mul_add,←hq,Nat.mul_one]at t1 t2;have hin:=(h.tl (a+i) x (by omega) (by omega) hx2).1
      have ht:x.tag<l.length:=by
       have:=h.pm.subset (List.mem_of_getElem? hx2);obtain ⟨j,hj⟩:=List.mem_iff_getElem?.1 this;have:=Qi hj;omega
      omega)
    rw[List.length_append,hP,hA,hB]at this;rwa [show a+(bs+(e-(a+bs)))=e by omega]at this
  ·refine (h.tl.sub (lo':=e) (by omega) (Nat.le_refl _)).same fun i hi _=>?_
   rw[z47,if_neg (by omega),if_neg (by omega),List.getElem?_append_right (by simp;omega)];congr 1
   simp
   omega
end
end Go.Proofs.YtpakjclpjcngmaaGreat
