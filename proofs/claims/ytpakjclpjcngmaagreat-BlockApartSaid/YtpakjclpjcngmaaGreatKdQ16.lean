/- Contracts and plain laws that the last text rests on. Conditions: each theorem states its own. -/
import Derived.Test.YtpakjclpjcngmaaGreatKdPdLaw
import Derived.Lib.SmallJoins
import Derived.Deep.Slices
import Derived.Deep.Fields
import Derived.ChangeSame
import Derived.Test.YtpakjclpjcngmaaGreatKdQ4
import Derived.Test.YtpakjclpjcngmaaGreatKdQ3
import Derived.BigRegion
set_option maxRecDepth 100000
set_option maxHeartbeats 8000000
set_option linter.unusedVariables false
namespace Go.Proofs.YtpakjclpjcngmaaGreat
open Go.ChangeShapes Go.WideShapes Go.ChangeAt Go.RowKit Go.Deep
section
variable {H : Type} {enc : TypeId × Value → H} {P : Program} {w : World} {base : Nat} {spare : Nat → Bool} {held : Bool}
end
section
variable {H : Type} {enc : TypeId × Value → H} {W : World}
theorem z1G {n:Nat} {v:Value} {t:TypeId} {y:DataW H×List MemPlace} (ht:Tryz.prog.underlying t=some (.int .i64)) (h:DataW.trod enc Tryz.prog W 0 (fun _=>true) true n t [v]=some y):∃a:Int,v=.int .i64 a/\i64 a:=by
 obtain ⟨a,e,_,wf⟩:=DataW.trod_int ht h;simp at e;exact ⟨a,e,wK wf⟩
theorem z3Q {n:Nat} {v:Value} {y:DataW H×List MemPlace} (h:DataW.trod enc Tryz.prog W 0 (fun _=>true) true n 9 [v]=some y):∃s:ByteArray,v=.string s/\s.size<=9223372036854775807:=by
 obtain ⟨a,e,_,wf⟩:=DataW.trod_string Tryz.underlying9 h;simp at e;unfold maxLen at wf;exact ⟨a,e,by omega⟩
theorem zV {n:Nat} {v:Value} {y:DataW H×List MemPlace} (h:DataW.trod enc Tryz.prog W 0 (fun _=>true) true n 4 [v]=some y):∃b:Bool,v=.bool b:=by
 obtain ⟨a,e,_⟩:=DataW.trod_bool Tryz.underlying4 h;simp at e;exact ⟨a,e⟩
end
def dO.cs (x:dO):List Value:=[.string x.name,.string x.value]
def lbl (l:List dO):List Value:=l.flatMap dO.cs
structure RV where
 row:au
 A:Option Addr
 c:Nat
def RV.cs (x:RV):List Value:=[.int .i64 x.row.kind,.int .i64 x.row.time,.slice x.A x.row.aB.length x.c,.string x.row.text,.int .i64 x.row.value,.bool x.row.null,.int .i64 x.row.maker,.int .i64 x.row.seq,.int .i64 x.row.place]
def ji (l:List RV):List Value:=l.flatMap RV.cs
theorem dO.dP (x:dO):x.cs.length=2:=rfl
theorem RV.dP (x:RV):x.cs.length=9:=rfl
theorem W_ (l:List dO):(lbl l).length=l.length * 2:=z23 dO.dP l
theorem yA (l:List RV):(ji l).length=l.length * 9:=z23 RV.dP l
def RV.ok (w:World) (D:Nat->Prop) (x:RV):Prop:=Rd w D 2 x.A x.row.aB.length (lbl x.row.aB)/\x.row.aB.length<=x.c/\x.c<=maxLen
theorem RV.ok.ch {w w':World} {D D' S:Nat->Prop} {x:RV} (h:x.ok w D) (hc:Ch S w w') (hS:∀k,k<w.heap.size->D k->¬S k) (hD:∀k,D k->D' k):x.ok w' D':=
 ⟨(h.1.ch (by decide) hc hS).more hD,h.2⟩
theorem mg {w:World} {D:Nat->Prop} {A:Option Addr} {n k:Nat} {l:List dO} (h:Rd w D 2 A n (lbl l)) (hk:k<l.length):∃ad,A=some ad/\D ad.block/\w.cell? (ad.add (k * 2))=some (.string l[k].name)/\w.cell? ⟨(ad.add (k * 2)).block,(ad.add (k * 2)).off+1,none⟩=some (.string l[k].value):=by
 have hn:0<n:=by have:=h.1;rw[W_]at this;omega
 obtain ⟨ad,rfl,hb,hc⟩:=h.2 hn;exact ⟨ad,rfl,hb,hc (k * 2+0) _ (P_ dO.dP hk (by decide)),JW 0 (hc (k * 2+1) _ (P_ dO.dP hk (by decide)))⟩
theorem z2n {w:World} {D:Nat->Prop} {A:Option Addr} {n k:Nat} {l:List RV} (h:Rd w D 9 A n (ji l)) (hk:k<l.length):∃ad,A=some ad/\D ad.block/\w.cell? (ad.add (k * 9))=some (.int .i64 l[k].row.kind)/\
 w.cell? ⟨(ad.add (k * 9)).block,(ad.add (k * 9)).off+1,none⟩=some (.int .i64 l[k].row.time)/\w.cell? ⟨(ad.add (k * 9)).block,(ad.add (k * 9)).off+2,none⟩=some (.slice l[k].A l[k].row.aB.length l[k].c)/\
 w.cell? ⟨(ad.add (k * 9)).block,(ad.add (k * 9)).off+3,none⟩=some (.string l[k].row.text)/\w.cell? ⟨(ad.add (k * 9)).block,(ad.add (k * 9)).off+4,none⟩=some (.int .i64 l[k].row.value)/\
 w.cell? ⟨(ad.add (k * 9)).block,(ad.add (k * 9)).off+5,none⟩=some (.bool l[k].row.null)/\w.cell? ⟨(ad.add (k * 9)).block,(ad.add (k * 9)).off+6,none⟩=some (.int .i64 l[k].row.maker)/\
 w.cell? ⟨(ad.add (k * 9)).block,(ad.add (k * 9)).off+7,none⟩=some (.int .i64 l[k].row.seq)/\w.cell? ⟨(ad.add (k * 9)).block,(ad.add (k * 9)).off+8,none⟩=some (.int .i64 l[k].row.place):=by
 have hn:0<n:=by have:=h.1;rw[yA]at this;omega
 obtain ⟨ad,rfl,hb,hc⟩:=h.2 hn;have g:=fun i (hi:i<9) u (hu:(l[k].cs)[i]?=some u)=>hc (k * 9+i) u ((P_ RV.dP hk hi).trans hu);exact ⟨ad,rfl,hb,g 0 (by decide) _ rfl,JW 0 (g 1 (by decide) _ rfl),JW 1 (g 2 (by decide) _ rfl),JW 2 (g 3 (by decide) _ rfl),JW 3 (g 4 (by decide) _ rfl),JW 4 (g 5 (by decide) _ rfl),JW 5 (g 6 (by decide) _ rfl),JW 6 (g 7 (by decide) _ rfl),JW 7 (g 8 (by decide) _ rfl)⟩
def dO.small (x:dO):Prop:=x.name.size<=9223372036854775807/\x.value.size<=9223372036854775807
def au.small (x:au):Prop:=(∀y∈x.aB,y.small)/\x.text.size<=9223372036854775807/\i64 x.kind/\i64 x.time/\i64 x.value/\i64 x.maker/\i64 x.seq/\i64 x.place
def bV (x:RV):Value:=.agg #[.int .i64 x.row.kind,.int .i64 x.row.time,.slice x.A x.row.aB.length x.c,.string x.row.text,.int .i64 x.row.value,.bool x.row.null,.int .i64 x.row.maker,.int .i64 x.row.seq,.int .i64 x.row.place]
section
variable {H : Type} {enc : TypeId × Value → H} {W : World}
theorem yY {n:Nat} {v:Value} {y:DataW H×List MemPlace} (h:DataW.trod enc Tryz.prog W 0 (fun _=>true) true n 54 [v]=some y):
 ∃(A:Option Addr) (c:Nat) (l:List dO),v=.slice A l.length c/\Rd W (· <W.heap.size) 2 A l.length (lbl l)/\(∀x∈l,x.small)/\l.length<=c/\c<=maxLen:=by
 rcases open_slice Tryz.underlying54 h with ⟨hcs,hx⟩|⟨a,len,cap,m,nn,D,Pl,hcs,hb,hl,hm,hmm,hx,hi⟩
 ·simp at hcs
  subst hcs;exact ⟨none,0,[],rfl,Rd.none_ _ _ _ _,by simp,Nat.le_refl _,by simp[maxLen]⟩
 ·simp at hcs
  subst hcs;simp only[if_true]at hmm;have hC:Tryz.prog.cellsOf 135=2:=by kernel_rfl
  rw[hC]at hi
  obtain ⟨l,h1,h2,h3⟩:=z5R (W:=W) (a:=a) (n:=len) (good:=dO.small) dO.dP (by decide) (fun i hin=>by
   obtain ⟨cs',hc,ht'⟩:=hi i (by omega);obtain ⟨ys,n',hn',hy,hlen,hyl,hf⟩:=DataW.trod_struct Tryz.underlying135 ht';obtain ⟨_,hcl,hat⟩:=World.cells?_some hc;match cs',hcl with
   |[v0,v1],_=>
    have g0:DataW.trod enc Tryz.prog W 0 (fun _=>true) true n' 9 (([v0,v1].drop 0).take (Tryz.prog.cellsOf 9))=ys[0]?:=hf 0 _ rfl;have g1:DataW.trod enc Tryz.prog W 0 (fun _=>true) true n' 9 (([v0,v1].drop 1).take (Tryz.prog.cellsOf 9))=ys[1]?:=hf 1 _ rfl;have e0:Tryz.prog.cellsOf 9=1:=(by kernel_rfl);simp only[e0,List.drop_zero,List.take_succ_cons,List.take_zero,List.drop_succ_cons]at g0 g1;obtain ⟨a0,rfl,k0⟩:=z3Q (g0.trans (List.getElem?_eq_getElem (by rw[hyl];decide)));obtain ⟨a1,rfl,k1⟩:=z3Q (g1.trans (List.getElem?_eq_getElem (by rw[hyl];decide)));refine ⟨⟨a0,a1⟩,⟨k0,k1⟩,fun j u hj hu=>?_⟩;rw[←Go.Deep.add_add,hat j hj,←hu];rfl)
  subst h1;exact ⟨some a,cap,l,rfl,h3,h2,hl,hm⟩
theorem BM {n:Nat} {cs:List Value} {y:DataW H×List MemPlace} (h:DataW.trod enc Tryz.prog W 0 (fun _=>true) true n 58 cs=some y):∃x:RV,cs=x.cs/\x.ok W (· <W.heap.size)/\x.row.small:=by
 obtain ⟨ys,n',hn',hy,hlen,hyl,hf⟩:=DataW.trod_struct Tryz.underlying58 h;have hC:Tryz.prog.cellsOf 58=9:=by kernel_rfl
 rw[hC]at hlen;match cs,hlen with
 |[v0,v1,v2,v3,v4,v5,v6,v7,v8],_=>
  have g0:DataW.trod enc Tryz.prog W 0 (fun _=>true) true n' 56 (([v0,v1,v2,v3,v4,v5,v6,v7,v8].drop 0).take (Tryz.prog.cellsOf 56))=ys[0]?:=hf 0 _ rfl;have g1:DataW.trod enc Tryz.prog W 0 (fun _=>true) true n' 3 (([v0,v1,v2,v3,v4,v5,v6,v7,v8].drop 6).take (Tryz.prog.cellsOf 3))=ys[1]?:=hf 1 _ rfl;have g2:DataW.trod enc Tryz.prog W 0 (fun _=>true) true n' 3 (([v0,v1,v2,v3,v4,v5,v6,v7,v8].drop 7).take (Tryz.prog.cellsOf 3))=ys[2]?:=hf 2 _ rfl;have g3:DataW.trod enc Tryz.prog W 0 (fun _=>true) true n' 3 (([v0,v1,v2,v3,v4,v5,v6,v7,v8].drop 8).take (Tryz.prog.cellsOf 3))=ys[3]?:=hf 3 _ rfl;have es:Tryz.prog.cellsOf 9=1:=(by kernel_rfl);have ei:Tryz.prog.cellsOf 3=1:=(by kernel_rfl);have eb:Tryz.prog.cellsOf 4=1:=(by kernel_rfl);have el:Tryz.prog.cellsOf 54=1:=(by kernel_rfl);have er:Tryz.prog.cellsOf 56=6:=(by kernel_rfl);simp only[ei,er,List.drop_zero,List.take_succ_cons,List.take_zero,List.drop_succ_cons]at g0 g1 g2 g3;obtain ⟨zs,n2,_,_,_,hzl,hf2⟩:=DataW.trod_struct Tryz.underlying56 (g0.trans (List.getElem?_eq_getElem (by rw[hyl];decide)));have r0:DataW.trod enc Tryz.prog W 0 (fun _=>true) true n2 3 (([v0,v1,v2,v3,v4,v5].drop 0).take (Tryz.prog.cellsOf 3))=zs[0]?:=hf2 0 _ rfl;have r1:DataW.trod enc Tryz.prog W 0 (fun _=>true) true n2 3 (([v0,v1,v2,v3,v4,v5].drop 1).take (Tryz.prog.cellsOf 3))=zs[1]?:=hf2 1 _ rfl;have r2:DataW.trod enc Tryz.prog W 0 (fun _=>true) true n2 54 (([v0,v1,v2,v3,v4,v5].drop 2).take (Tryz.prog.cellsOf 54))=zs[2]?:=hf2 2 _ rfl;have r3:DataW.trod enc Tryz.prog W 0 (fun _=>true) true n2 9 (([v0,v1,v2,v3,v4,v5].drop 3).take (Tryz.prog.cellsOf 9))=zs[3]?:=hf2 3 _ rfl;have r4:DataW.trod enc Tryz.prog W 0 (fun _=>true) true n2 3 (([v0,v1,v2,v3,v4,v5].drop 4).take (Tryz.prog.cellsOf 3))=zs[4]?:=hf2 4 _ rfl;have r5:DataW.trod enc Tryz.prog W 0 (fun _=>true) true n2 4 (([v0,v1,v2,v3,v4,v5].drop 5).take (Tryz.prog.cellsOf 4))=zs[5]?:=hf2 5 _ rfl;simp only[es,ei,eb,el,List.drop_zero,List.take_succ_cons,List.take_zero,List.drop_succ_cons]at r0 r1 r2 r3 r4 r5;obtain ⟨kind,rfl,i0⟩:=z1G Tryz.underlying3 (r0.trans (List.getElem?_eq_getElem (by rw[hzl];decide)));obtain ⟨time,rfl,i1⟩:=z1G Tryz.underlying3 (r1.trans (List.getElem?_eq_getElem (by rw[hzl];decide)));obtain ⟨A,c,aB,rfl,h1,h2,h3,h4⟩:=yY (r2.trans (List.getElem?_eq_getElem (by rw[hzl];decide)));obtain ⟨text,rfl,i3⟩:=z3Q (r3.trans (List.getElem?_eq_getElem (by rw[hzl];decide)));obtain ⟨value,rfl,i4⟩:=z1G Tryz.underlying3 (r4.trans (List.getElem?_eq_getElem (by rw[hzl];decide)));obtain ⟨null,rfl⟩:=zV (r5.trans (List.getElem?_eq_getElem (by rw[hzl];decide)));obtain ⟨maker,rfl,i6⟩:=z1G Tryz.underlying3 (g1.trans (List.getElem?_eq_getElem (by rw[hyl];decide)));obtain ⟨seq,rfl,i7⟩:=z1G Tryz.underlying3 (g2.trans (List.getElem?_eq_getElem (by rw[hyl];decide)));obtain ⟨place,rfl,i8⟩:=z1G Tryz.underlying3 (g3.trans (List.getElem?_eq_getElem (by rw[hyl];decide)));exact ⟨⟨⟨kind,time,aB,text,value,null,maker,seq,place⟩,A,c⟩,rfl,⟨h1,h3,h4⟩,h2,i3,i0,i1,i4,i6,i7,i8⟩
variable {args : Array Value} {ds : List (DataW H)} {ps : List MemPlace}
end
end Go.Proofs.YtpakjclpjcngmaaGreat
namespace Go.Proofs.YtpakjclpjcngmaaGreat
open Go.RowKit
theorem Tryz.Xb:(Tryz.prog.info? 135).map (fun i=>(i.zero,i.size,i.bytes))=some (some (.agg #[.string ⟨#[]⟩,.string ⟨#[]⟩]),2,32):=by kernel_rfl
theorem Tryz.zi:(Tryz.prog.info? 58).map (fun i=>(i.zero,i.size,i.bytes))=some (some (.agg #[.int .i64 0,.int .i64 0,.slice none 0 0,.string ⟨#[]⟩,.int .i64 0,.bool false,.int .i64 0,.int .i64 0,.int .i64 0]),9,96):=by kernel_rfl
theorem WZ (l:List dO):∀u∈lbl l,u.oneCell'=true:=by
 intro u hu;obtain ⟨x,_,hx⟩:=List.mem_flatMap.1 hu;simp[dO.cs]at hx;rcases hx with rfl|rfl<;>rfl
theorem yx (l:List RV):∀u∈ji l,u.oneCell'=true:=by
 intro u hu;obtain ⟨x,_,hx⟩:=List.mem_flatMap.1 hu;simp[RV.cs]at hx;rcases hx with rfl|rfl|rfl|rfl|rfl|rfl|rfl|rfl|rfl<;>rfl
theorem vM {b:Nat} {t:TypeId}:∀(vs xs pre:List Value) (w:World),aJ w b t (pre++xs).toArray->xs.length=vs.length->aJ (jw w b pre.length vs) b t (pre++vs).toArray
 |[],xs,pre,w,h,hl=>by
  have:xs=[]:=List.eq_nil_of_length_eq_zero hl;subst this;exact h
 |v::vs,[],pre,w,h,hl=>by simp at hl
 |v::vs,x::xs,pre,w,h,hl=>by
  have h1:=h.dX pre.length v;have e:(pre++x::xs).toArray.setIfInBounds pre.length v=((pre++[v])++xs).toArray:=(by simp);rw[e]at h1;have h2:=vM vs xs (pre++[v]) _ h1 (by simpa using hl);rw[List.length_append,List.length_singleton]at h2;have e2:(pre++[v]++vs)=pre++v::vs:=(by simp);rw[e2]at h2;exact h2
theorem MJ {w:World} {b:Nat} {t:TypeId} {xs:Array Value} (h:aJ w b t xs) (vs:List Value) (hl:xs.size=vs.length):aJ (jw w b 0 vs) b t vs.toArray:=by
 have:=vM vs xs.toList [] w (by simpa using h) (by simpa using hl);simpa using this
def YT (w:World) (l:List dO) (e:Ending) (w':World):Prop:=
 ∃A c,e=.returned (.slice A l.length c)/\Rd w' (fun k=>w.heap.size<=k/\k<w'.heap.size) 2 A l.length (lbl l)/\Nx w w'/\l.length<=c/\c<=maxLen
section
variable {w : World} {D : Nat → Prop} {A : Option Addr} {n c : Nat} {l : List dO}
theorem yZ (h:Rd w D 2 A n (lbl l)) (hl:l.length=n) (hn:n<=4398046511104):
 Calls Tryz.prog 156 #[.slice A n c] w (YT w l):=by
 obtain ⟨i0,hi0,hz0,hz1,hz2⟩:=info_parts Tryz.Xb;have Hlen:=ah hl;clear hl;have h':Rd (w.alloc (.cells #[] 135)) D 2 A n (lbl l):=h.nx (by omega) ((Ch.refl _ w).alloc _);have heq:=fun w:World=>Lib.run_eql_slice_nil (P:=Tryz.prog) w 54 135 A n c 0 0 Tryz.underlying54;rcases A with _|ad
 ·have h0:n=0:=by
   rcases Nat.eq_zero_or_pos n with h0|h0
   ·exact h0
   ·obtain ⟨_,h,_⟩:=h.2 h0;cases h
  have hx:l=[]:=List.eq_nil_of_length_eq_zero (by rw[Hlen.out,h0]);have Hx:=ah hx;clear h0 hx;go_enter Tryz.func156,Tryz.ntmps156;go_wp2_with fail;go_ret;rw[YT,Hx.out];exact ⟨none,0,rfl,Rd.none_ _ _ _ _,Ch.refl _ _,by simp,by simp⟩
 ·go_enter Tryz.func156,Tryz.ntmps156
  go_wp2_with (at_builtin;refine z03 _ rfl (.tmp 5) (.tmp 6) _ rfl w.heap.size 135 i0 _ 2 32 Tryz.underlying54 hi0 hz0 hz1 hz2 rfl (by omega) (.slice (some ⟨w.heap.size,0,none⟩) 0 0) 0 [] rfl (World.ownsRow_made w #[] 0 (Nat.le_refl _) (by simp[maxLen]) rfl) D (some ad) n c (lbl l) rfl h' (WZ l) (by simp only[maxLen];omega) (by omega) (by simp) ?_;intro v' w1 hown hg hat;obtain ⟨k,cap,hv,hk,hk1,hrd,hnx,ho⟩:=z67 hown hg hat;clear hown hg hat;rw[hv];clear hv)
  go_ret;obtain ⟨A',c',hv,hc1,hc2⟩:=z04 ho;injection hv with _ _ hv;subst hv;exact ⟨some ⟨k,0,none⟩,cap,by simp[Hlen.out],by rw[Hlen.out];exact hrd.more fun j e=>by omega,hnx,by rw[Hlen.out];exact hc1,hc2⟩
def aaY (w:World) (x:RV) (e:Ending) (w':World):Prop:=
 ∃y:RV,e=.returned (bV y)/\y.row=x.row/\y.ok w' (fun k=>w.heap.size<=k/\k<w'.heap.size)/\Nx w w'
end
section
variable {w : World} {D : Nat → Prop} {x : RV}
theorem MQ (h:x.ok w D) (hl:x.row.aB.length<=4398046511104):Calls Tryz.prog 79 #[bV x] w (aaY w x):=by
 obtain ⟨⟨kind,time,aB,text,value,null,maker,seq,place⟩,A1,c1⟩:=x;obtain ⟨h1,h2,h3⟩:=h;unfold bV;simp only at h1 h2 h3 hl ⊢;have HR:=ah (fun w' (hn:Nx w w')=>yZ (c:=c1) (h1.nx (by decide) hn) rfl hl);clear h1;go_enter Tryz.func79,Tryz.ntmps79;go_wp2_with fail;have NY:=ah (((Ch.refl (fun _=>False) w).alloc (.cells #[.int .i64 kind,.int .i64 time,.slice A1 aB.length c1,.string text,.int .i64 value,.bool null,.int .i64 maker,.int .i64 seq,.int .i64 place] 58)).alloc (.cells #[.int .i64 0,.int .i64 0,.slice none 0 0,.string ⟨#[]⟩,.int .i64 0,.bool false,.int .i64 0,.int .i64 0,.int .i64 0] 58));refine (HR.out _ NY.out).mono ?_;rintro e w1 ⟨A2,c2,rfl,rd,nx,hc2,hm2⟩;have b1:aJ w1 w.heap.size 58 #[.int .i64 kind,.int .i64 time,.slice A1 aB.length c1,.string text,.int .i64 value,.bool null,.int .i64 maker,.int .i64 seq,.int .i64 place]:=((aJ.new w _ _).alloc _).nx nx;have b2:aJ w1 (w.heap.size+1) 58 #[.int .i64 0,.int .i64 0,.slice none 0 0,.string ⟨#[]⟩,.int .i64 0,.bool false,.int .i64 0,.int .i64 0,.int .i64 0]:=(by have:=aJ.new (w.alloc (.cells #[.int .i64 kind,.int .i64 time,.slice A1 aB.length c1,.string text,.int .i64 value,.bool null,.int .i64 maker,.int .i64 seq,.int .i64 place] 58)) 58 #[.int .i64 0,.int .i64 0,.slice none 0 0,.string ⟨#[]⟩,.int .i64 0,.bool false,.int .i64 0,.int .i64 0,.int .i64 0];simpa using this.nx nx);have NX:=ah (NY.out.tr nx);have RD:=ah (rd.more (D':=fun k=>w.heap.size+2<=k/\k<w1.heap.size) (by intro k hk;simpa using hk));have f1:=b1.frozen;have f2:=b2.frozen;have d1:=b1.cell;have d2:=b2.cell;have hs:=ah (show w.heap.size+1<w1.heap.size from b2.lt);have B2:=ah b2;clear rd nx HR NY b1 b2;go_wp2_with fail;obtain ⟨w3,hw3⟩:∃w3,w3=w1.setCell ⟨w.heap.size,2,none⟩ (.slice A2 aB.length c2):=⟨_,rfl⟩;obtain ⟨w2,hW⟩:∃w2,w2=jw w3 (w.heap.size+1) 0 (RV.cs ⟨⟨kind,time,aB,text,value,null,maker,seq,place⟩,A2,c2⟩):=⟨_,rfl⟩;have hch3:Ch (fun k=>k=w.heap.size) w1 w3:=by rw[hw3];exact Ch.setCell (S:=fun k=>k=w.heap.size) (Ch.refl _ w1) (p:=⟨w.heap.size,2,none⟩) (fun _=>rfl) _
 have b3:aJ w3 (w.heap.size+1) 58 #[.int .i64 0,.int .i64 0,.slice none 0 0,.string ⟨#[]⟩,.int .i64 0,.bool false,.int .i64 0,.int .i64 0,.int .i64 0]:=by rw[hw3];exact B2.out.far (by simp) _
 have hch:Ch (fun k=>k=w.heap.size+1) w3 w2:=by rw[hW];exact z5c _ _ _
 have b4:aJ w2 (w.heap.size+1) 58 #[.int .i64 kind,.int .i64 time,.slice A2 aB.length c2,.string text,.int .i64 value,.bool null,.int .i64 maker,.int .i64 seq,.int .i64 place]:=by rw[hW];exact MJ b3 _ rfl
 have d:=b4.cell;simp only[RV.cs,jw,hw3]at hW;rw[←hW];clear hW d1 d2 f1 f2 b3 b4 B2 hw3;refine bodyPost_ret (v:=bV ⟨⟨kind,time,aB,text,value,null,maker,seq,place⟩,A2,c2⟩) (by simp[results,Tryz.results79,go_sem,bV,d]) rfl ?_;have hall:Ch (fun k=>k=w.heap.size∨k=w.heap.size+1) w1 w2:=(hch3.mono fun _ _ h=>.inl h).trans hch fun _ _ h=>.inr h;have hsz:=hall.size;exact ⟨_,rfl,rfl,⟨(RD.out.ch (by decide) hall fun k _ hk=>by omega).more fun k hk=>by have:=hs.out;omega,hc2,hm2⟩,NX.out.trans hall fun i hi hs=>by rcases hs with rfl|rfl<;>omega⟩
end
def SA (w:World) (g:Nat) (A:Option Addr) (cap:Nat) (zs:List RV):Prop:=
 (A=some ⟨g,0,none⟩∨zs=[])/\w.ownsRow 0 58 9 (.slice A zs.length cap) zs.length (ji zs)
theorem SA.form {w:World} {g cap:Nat} {A:Option Addr} {zs:List RV} (h:SA w g A cap zs) {k:Nat} (hk:k<zs.length):A=some ⟨g,0,none⟩:=by
 rcases h.1 with e|e
 ·exact e
 ·subst e;simp at hk
theorem SA.cell {w:World} {g cap:Nat} {A:Option Addr} {zs:List RV} (h:SA w g A cap zs) {k:Nat} (hk:k<zs.length) (i:Nat) (hi:i<9):w.cell? ⟨g,k * 9+i,none⟩=(zs[k].cs)[i]?:=by
 have e:=h.form hk;subst e;have hl:=yA zs;have hh:k * 9+i<zs.length * 9:=by omega
 rw[h.2.cellAt (k * 9+i) hh];exact P_ RV.dP hk hi
def EH (w:World) (g k:Nat) (x:RV):Prop:=
 w.cell? ⟨g,k * 9,none⟩=some (.int .i64 x.row.kind)/\w.cell? ⟨g,k * 9+1,none⟩=some (.int .i64 x.row.time)/\w.cell? ⟨g,k * 9+2,none⟩=some (.slice x.A x.row.aB.length x.c)/\w.cell? ⟨g,k * 9+3,none⟩=some (.string x.row.text)/\
 w.cell? ⟨g,k * 9+4,none⟩=some (.int .i64 x.row.value)/\w.cell? ⟨g,k * 9+5,none⟩=some (.bool x.row.null)/\w.cell? ⟨g,k * 9+6,none⟩=some (.int .i64 x.row.maker)/\w.cell? ⟨g,k * 9+7,none⟩=some (.int .i64 x.row.seq)/\w.cell? ⟨g,k * 9+8,none⟩=some (.int .i64 x.row.place)
theorem SA.at_ {w:World} {g cap:Nat} {A:Option Addr} {zs:List RV} (h:SA w g A cap zs) {k:Nat} (hk:k<zs.length):EH w g k zs[k]:=
 ⟨h.cell hk 0 (by decide),h.cell hk 1 (by decide),h.cell hk 2 (by decide),h.cell hk 3 (by decide),h.cell hk 4 (by decide),h.cell hk 5 (by decide),h.cell hk 6 (by decide),h.cell hk 7 (by decide),h.cell hk 8 (by decide)⟩
theorem SA.frozen {w:World} {g cap:Nat} {A:Option Addr} {zs:List RV} (h:SA w g A cap zs) {k:Nat} (hk:k<zs.length) (i:Nat):w.frozen? ⟨g,i,none⟩=false:=by
 have e:=h.form hk;subst e;exact h.2.frozenAt i
theorem SA.nx {w w':World} {g cap:Nat} {A:Option Addr} {zs:List RV} (h:SA w g A cap zs) (hn:Nx w w'):SA w' g A cap zs:=
 ⟨h.1,h.2.kept (row:=none) ⟨hn.os,hn.tape,hn.output,hn.size,fun k hk _=>hn.block k hk (fun h=>h)⟩ (by cases A<;>simp[Value.ownBlock])⟩
theorem SA.two {w:World} {g cap:Nat} {A:Option Addr} {zs:List RV} (h:SA w g A cap zs) {i j:Nat} (hi:i<zs.length) (hj:j<zs.length) (x y:RV):
 SA (jw (jw w g (i * 9) x.cs) g (j * 9) y.cs) g A cap ((zs.set i x).set j y)/\Ch (fun k=>k=g) w (jw (jw w g (i * 9) x.cs) g (j * 9) y.cs):=by
 refine ⟨⟨.inl (h.form hi),?_⟩,(z5c _ _ _).trans (z5c _ _ _) fun _ _ e=>e⟩;have e:=h.form hi;subst e;have h2:=z5L y.cs _ _ (j * 9) (z5L x.cs _ _ (i * 9) h.2);have e1:pK (ji zs) (i * 9) x.cs=ji (zs.set i x):=DY RV.dP hi x;rw[e1]at h2;have e2:pK (ji (zs.set i x)) (j * 9) y.cs=ji ((zs.set i x).set j y):=DY RV.dP (by simpa using hj) y;rw[e2]at h2;simpa using h2
theorem SA.swap {w:World} {g cap:Nat} {A:Option Addr} {zs:List RV} (h:SA w g A cap zs) {i j:Nat} (hi:i<zs.length) (hj:j<zs.length) {w':World} (e:w'=jw (jw w g (i * 9) (zs[j]).cs) g (j * 9) (zs[i]).cs):
 SA w' g A cap (iI zs i j)/\Ch (fun k=>k=g) w w':=by
 rw[z5a hi hj,e];exact h.two hi hj _ _
section
variable {w : World} {g cap : Nat} {A : Option Addr} {ys : List RV}
theorem sK (h:SA w g A cap ys) (hn:ys.length<=1000000) (a b n:Nat) (h1:a+n<=b) (h2:b+n<=ys.length) (F:Value):
 Calls Tryz.prog 293 #[.slice A ys.length cap,.int .i64 a,.int .i64 b,.int .i64 n,F] w fun e w'=>e=.returned (.tuple #[])/\SA w' g A cap (rV ys a b n)/\Ch (fun k=>k=g) w w':=by
 go_enter Tryz.func293,Tryz.ntmps293;go_wp2_with fail;go_loopw [10] (fun i wr=>∃k:Nat,k<=n/\i=.int .i64 (k:Int)/\SA wr g A cap (rV ys a b k)/\Ch (fun k=>k=g) w wr) (fun i _=>n-(intOf i).toNat)
 case atStart=>exact ⟨0,Nat.zero_le _,rfl,h,Ch.refl _ _⟩
 case round=>
  obtain ⟨w4,rfl⟩:∃w4:World,w4=wr:=⟨_,rfl⟩;obtain ⟨k,hk,rfl,hs,hc⟩:=hrel;by_cases hlt:k<n
  ·have hl:=z2w ys a b k
   have hi:a+k<(rV ys a b k).length:=(by omega);have hj:b+k<(rV ys a b k).length:=(by omega);have e:=hs.form hi;subst e;have ci:=hs.cell hi;have cj:=hs.cell hj;have cf:=hs.frozen hi;have HS:=ah (fun w'=>hs.swap hi hj (w':=w'));have HC:=ah hc;have Hh:=ah h;have Hl:=ah hl;have ij:a+k≠b+k:=(by omega);clear hs hc h hl;generalize (rV ys a b k)[a+k]=x at *;generalize (rV ys a b k)[b+k]=y at *;obtain ⟨⟨kind,time,aB,text,value,null,maker,seq,place⟩,A1,c1⟩:=x;obtain ⟨⟨kind2,bJ,dH,dn,value2,dw,aZ,seq2,aY⟩,A2,c2⟩:=y;have p0:w4.cell? ⟨g,(a+k) * 9,none⟩=_:=ci 0 (by decide);have p1:=ci 1 (by decide);have p2:=ci 2 (by decide);have p3:=ci 3 (by decide);have p4:=ci 4 (by decide);have p5:=ci 5 (by decide);have p6:=ci 6 (by decide);have p7:=ci 7 (by decide);have p8:=ci 8 (by decide);have q0:w4.cell? ⟨g,(b+k) * 9,none⟩=_:=cj 0 (by decide);have q1:=cj 1 (by decide);have q2:=cj 2 (by decide);have q3:=cj 3 (by decide);have q4:=cj 4 (by decide);have q5:=cj 5 (by decide);have q6:=cj 6 (by decide);have q7:=cj 7 (by decide);have q8:=cj 8 (by decide);simp only[RV.cs,List.getElem?_cons_zero,List.getElem?_cons_succ]at p0 p1 p2 p3 p4 p5 p6 p7 p8 q0 q1 q2 q3 q4 q5 q6 q7 q8;clear ci cj;go_wp2_with fail;go_region
   generalize hW:World.setCell _ _ _=W5;obtain ⟨g1,g2⟩:=HS.out W5 hW.symm;clear hW p0 p1 p2 p3 p4 p5 p6 p7 p8 q0 q1 q2 q3 q4 q5 q6 q7 q8 cf HS;go_wp2_with fail;go_roundw
   case rel=>
    exact ⟨k+1,by omega,by go_num,g1,(HC.out.trans g2 fun _ _ e=>e).drew⟩
   case measure=>simp[intOf];omega
  ·obtain rfl:k=n:=by omega
   go_wp2_with fail;go_end0
   exact ⟨rfl,hs,hc⟩
end
section
variable {w : World} {g cap : Nat} {A : Option Addr} {ys : List RV}
theorem GH (h:SA w g A cap ys) (hn:ys.length<=1000000) (a m b:Nat) (h1:a<m) (h2:m<b) (h3:b<=ys.length) (F:Value):
 Calls Tryz.prog 255 #[.slice A ys.length cap,.int .i64 a,.int .i64 m,.int .i64 b,F] w fun e w'=>e=.returned (.tuple #[])/\SA w' g A cap (rotL ys a m b)/\Ch (fun k=>k=g) w w':=by
 go_enter Tryz.func255,Tryz.ntmps255;go_wp2_with fail;go_loopw [10,11] (fun s10 s11 wr=>∃(i j:Nat) (zs:List RV),0<i/\0<j/\i<=m/\m+j<=ys.length/\s10=.int .i64 (i:Int)/\s11=.int .i64 (j:Int)/\zs.length=ys.length/\SA wr g A cap zs/\Ch (fun k=>k=g) w wr/\rotL zs (m-i) m (m+j)=rotL ys a m b) (fun s10 s11 _=>(intOf s10).toNat+(intOf s11).toNat)
 case atStart=>exact ⟨m-a,b-m,ys,by omega,by omega,by omega,by omega,by go_num,by go_num,rfl,h,Ch.refl _ _,by congr 1<;>omega⟩
 case round=>
  obtain ⟨w4,rfl⟩:∃w4:World,w4=wr:=⟨_,rfl⟩;obtain ⟨i,j,zs,hi,hj,him,hjm,rfl,rfl,hl,hs,hc,he⟩:=hrel;have Hsw:=ah (fun a b n h1 h2=>sK hs (by omega) a b n h1 h2 F);rw[hl]at Hsw;have HC:=ah hc;have HE:=ah he;clear hs hc he h;by_cases hlt:j<i
  ·have ht:((i:Int) !=(j:Int))=true:=by simp;omega
   have HR:=ah (QU zs hlt him (by omega));have HK:=ah (Hsw.out (m-i) m j (by omega) (by omega));clear Hsw;have hz:m-i+j=m-(i-j):=(by omega);rw[hz]at HR;have e1:((m-i:Nat):Int)=(m:Int)-i:=(by omega);rw[e1]at HK;go_wp2_with fail;refine HK.out.mono ?_;rintro e w5 ⟨rfl,s5,c5⟩;have S5:=ah s5;have C5:=ah c5;clear s5 c5;go_wp2_with fail;go_roundw
   case rel=>exact ⟨i-j,j,_,by omega,hj,by omega,hjm,by go_num,rfl,(z2w _ _ _ _).trans hl,S5.out,HC.out.trans C5.out fun _ _ e=>e,HR.out.trans HE.out⟩
   case measure=>simp[intOf];omega
  ·by_cases hlt2:i<j
   ·have ht:((i:Int) !=(j:Int))=true:=by simp;omega
    have HR:=ah (MV zs hlt2 him (by omega));have HK:=ah (Hsw.out (m-i) (m+j-i) i (by omega) (by omega));clear Hsw;have e1:((m-i:Nat):Int)=(m:Int)-i:=(by omega);have e2:((m+j-i:Nat):Int)=(m:Int)+j-i:=(by omega);rw[e1,e2]at HK;go_wp2_with fail;refine HK.out.mono ?_;rintro e w5 ⟨rfl,s5,c5⟩;have S5:=ah s5;have C5:=ah c5;clear s5 c5;go_wp2_with fail;go_roundw
    case rel=>exact ⟨i,j-i,_,hi,by omega,him,by omega,rfl,by go_num,(z2w _ _ _ _).trans hl,S5.out,HC.out.trans C5.out fun _ _ e=>e,HR.out.trans HE.out⟩
    case measure=>simp[intOf];omega
   ·obtain rfl:i=j:=by omega
    have HR:=ah (QV zs him (by omega));have HK:=ah (Hsw.out (m-i) m i (by omega) (by omega));clear Hsw;have e1:((m-i:Nat):Int)=(m:Int)-i:=(by omega);rw[e1]at HK;go_wp2_with fail;refine HK.out.mono ?_;rintro e w5 ⟨rfl,s5,c5⟩;rw[HR.out,HE.out]at s5;have S5:=ah s5;have C5:=ah c5;clear s5 c5;go_wp2_with fail;go_end0
    exact ⟨rfl,S5.out,HC.out.trans C5.out fun _ _ e=>e⟩
end
end Go.Proofs.YtpakjclpjcngmaaGreat
