/- Contracts and plain laws that the last text rests on. Conditions: each theorem states its own. -/
import Derived.Test.YtpakjclpjcngmaaGreatKbPcLaw
import Derived.Lib.SmallJoins
import Derived.Deep.Slices
import Derived.Deep.Fields
import Derived.ChangeSame
import Derived.Test.YtpakjclpjcngmaaGreatKbQ3
import Derived.Test.YtpakjclpjcngmaaGreatKbQ2
import Derived.BigRegion
set_option maxRecDepth 100000
set_option maxHeartbeats 1000000
set_option linter.unusedVariables false
namespace Go.Proofs.YtpakjclpjcngmaaGreat
open Go.ChangeShapes Go.WideShapes Go.ChangeAt Go.RowKit Go.Deep
section
variable {H : Type} {enc : TypeId × Value → H} {P : Program} {w : World} {base : Nat} {spare : Nat → Bool} {held : Bool}
end
section
variable {H : Type} {enc : TypeId × Value → H} {W : World}
theorem YN {n:Nat} {v:Value} {t:TypeId} {y:DataW H×List MemPlace} (ht:Tryz.prog.underlying t=some (.int .i64)) (h:DataW.trod enc Tryz.prog W 0 (fun _=>true) true n t [v]=some y):∃a:Int,v=.int .i64 a/\i64 a:=by
 obtain ⟨a,e,_,wf⟩:=DataW.trod_int ht h;simp at e;exact ⟨a,e,uH wf⟩
theorem z2S {n:Nat} {v:Value} {y:DataW H×List MemPlace} (h:DataW.trod enc Tryz.prog W 0 (fun _=>true) true n 9 [v]=some y):∃s:ByteArray,v=.string s/\s.size<=9223372036854775807:=by
 obtain ⟨a,e,_,wf⟩:=DataW.trod_string Tryz.underlying9 h;simp at e;unfold maxLen at wf;exact ⟨a,e,by omega⟩
theorem xG {n:Nat} {v:Value} {y:DataW H×List MemPlace} (h:DataW.trod enc Tryz.prog W 0 (fun _=>true) true n 4 [v]=some y):∃b:Bool,v=.bool b:=by
 obtain ⟨a,e,_⟩:=DataW.trod_bool Tryz.underlying4 h;simp at e;exact ⟨a,e⟩
end
def dL.cs (x:dL):List Value:=[.string x.name,.string x.value]
def lbl (l:List dL):List Value:=l.flatMap dL.cs
structure RV where
 row:aA
 A:Option Addr
 c:Nat
def RV.cs (x:RV):List Value:=[.int .i64 x.row.kind,.int .i64 x.row.time,.slice x.A x.row.aB.length x.c,.string x.row.text,.int .i64 x.row.value,.bool x.row.null,.int .i64 x.row.maker,.int .i64 x.row.seq,.int .i64 x.row.place]
def iE (l:List RV):List Value:=l.flatMap RV.cs
theorem dL.eU (x:dL):x.cs.length=2:=rfl
theorem RV.eU (x:RV):x.cs.length=9:=rfl
theorem SS (l:List dL):(lbl l).length=l.length * 2:=YG dL.eU l
theorem Gp (l:List RV):(iE l).length=l.length * 9:=YG RV.eU l
def RV.ok (w:World) (D:Nat->Prop) (x:RV):Prop:=Rd w D 2 x.A x.row.aB.length (lbl x.row.aB)/\x.row.aB.length<=x.c/\x.c<=maxLen
theorem RV.ok.ch {w w':World} {D D' S:Nat->Prop} {x:RV} (h:x.ok w D) (hc:Ch S w w') (hS:∀k,k<w.heap.size->D k->¬S k) (hD:∀k,D k->D' k):x.ok w' D':=
 ⟨(h.1.ch (by decide) hc hS).more hD,h.2⟩
theorem QF {w:World} {D:Nat->Prop} {A:Option Addr} {n k:Nat} {l:List dL} (h:Rd w D 2 A n (lbl l)) (hk:k<l.length):∃ad,A=some ad/\D ad.block/\w.cell? (ad.add (k * 2))=some (.string l[k].name)/\w.cell? ⟨(ad.add (k * 2)).block,(ad.add (k * 2)).off+1,none⟩=some (.string l[k].value):=by
 have hn:0<n:=by have:=h.1;rw[SS]at this;omega
 obtain ⟨ad,rfl,hb,hc⟩:=h.2 hn;exact ⟨ad,rfl,hb,hc (k * 2+0) _ (Vd dL.eU hk (by decide)),FT 0 (hc (k * 2+1) _ (Vd dL.eU hk (by decide)))⟩
theorem z18 {w:World} {D:Nat->Prop} {A:Option Addr} {n k:Nat} {l:List RV} (h:Rd w D 9 A n (iE l)) (hk:k<l.length):∃ad,A=some ad/\D ad.block/\w.cell? (ad.add (k * 9))=some (.int .i64 l[k].row.kind)/\
 w.cell? ⟨(ad.add (k * 9)).block,(ad.add (k * 9)).off+1,none⟩=some (.int .i64 l[k].row.time)/\w.cell? ⟨(ad.add (k * 9)).block,(ad.add (k * 9)).off+2,none⟩=some (.slice l[k].A l[k].row.aB.length l[k].c)/\
 w.cell? ⟨(ad.add (k * 9)).block,(ad.add (k * 9)).off+3,none⟩=some (.string l[k].row.text)/\w.cell? ⟨(ad.add (k * 9)).block,(ad.add (k * 9)).off+4,none⟩=some (.int .i64 l[k].row.value)/\
 w.cell? ⟨(ad.add (k * 9)).block,(ad.add (k * 9)).off+5,none⟩=some (.bool l[k].row.null)/\w.cell? ⟨(ad.add (k * 9)).block,(ad.add (k * 9)).off+6,none⟩=some (.int .i64 l[k].row.maker)/\
 w.cell? ⟨(ad.add (k * 9)).block,(ad.add (k * 9)).off+7,none⟩=some (.int .i64 l[k].row.seq)/\w.cell? ⟨(ad.add (k * 9)).block,(ad.add (k * 9)).off+8,none⟩=some (.int .i64 l[k].row.place):=by
 have hn:0<n:=by have:=h.1;rw[Gp]at this;omega
 obtain ⟨ad,rfl,hb,hc⟩:=h.2 hn;have g:=fun i (hi:i<9) u (hu:(l[k].cs)[i]?=some u)=>hc (k * 9+i) u ((Vd RV.eU hk hi).trans hu);exact ⟨ad,rfl,hb,g 0 (by decide) _ rfl,FT 0 (g 1 (by decide) _ rfl),FT 1 (g 2 (by decide) _ rfl),FT 2 (g 3 (by decide) _ rfl),FT 3 (g 4 (by decide) _ rfl),FT 4 (g 5 (by decide) _ rfl),FT 5 (g 6 (by decide) _ rfl),FT 6 (g 7 (by decide) _ rfl),FT 7 (g 8 (by decide) _ rfl)⟩
def dL.small (x:dL):Prop:=x.name.size<=9223372036854775807/\x.value.size<=9223372036854775807
def aA.small (x:aA):Prop:=(∀y∈x.aB,y.small)/\x.text.size<=9223372036854775807/\i64 x.kind/\i64 x.time/\i64 x.value/\i64 x.maker/\i64 x.seq/\i64 x.place
def dA (x:RV):Value:=.agg #[.int .i64 x.row.kind,.int .i64 x.row.time,.slice x.A x.row.aB.length x.c,.string x.row.text,.int .i64 x.row.value,.bool x.row.null,.int .i64 x.row.maker,.int .i64 x.row.seq,.int .i64 x.row.place]
section
variable {H : Type} {enc : TypeId × Value → H} {W : World}
theorem wW {n:Nat} {v:Value} {y:DataW H×List MemPlace} (h:DataW.trod enc Tryz.prog W 0 (fun _=>true) true n 54 [v]=some y):
 ∃(A:Option Addr) (c:Nat) (l:List dL),v=.slice A l.length c/\Rd W (· <W.heap.size) 2 A l.length (lbl l)/\(∀x∈l,x.small)/\l.length<=c/\c<=maxLen:=by
 rcases open_slice Tryz.underlying54 h with ⟨hcs,hx⟩|⟨a,len,cap,m,nn,D,Pl,hcs,hb,hl,hm,hmm,hx,hi⟩
 ·simp at hcs
  subst hcs;exact ⟨none,0,[],rfl,Rd.none_ _ _ _ _,by simp,Nat.le_refl _,by simp[maxLen]⟩
 ·simp at hcs
  subst hcs;simp only[if_true]at hmm;have hC:Tryz.prog.cellsOf 135=2:=by kernel_rfl
  rw[hC]at hi
  obtain ⟨l,h1,h2,h3⟩:=z4I (W:=W) (a:=a) (n:=len) (good:=dL.small) dL.eU (by decide) (fun i hin=>by
   obtain ⟨cs',hc,ht'⟩:=hi i (by omega);obtain ⟨ys,n',hn',hy,hlen,hyl,hf⟩:=DataW.trod_struct Tryz.underlying135 ht';obtain ⟨_,hcl,hat⟩:=World.cells?_some hc;match cs',hcl with
   |[v0,v1],_=>
    have g0:DataW.trod enc Tryz.prog W 0 (fun _=>true) true n' 9 (([v0,v1].drop 0).take (Tryz.prog.cellsOf 9))=ys[0]?:=hf 0 _ rfl;have g1:DataW.trod enc Tryz.prog W 0 (fun _=>true) true n' 9 (([v0,v1].drop 1).take (Tryz.prog.cellsOf 9))=ys[1]?:=hf 1 _ rfl;have e0:Tryz.prog.cellsOf 9=1:=(by kernel_rfl);simp only[e0,List.drop_zero,List.take_succ_cons,List.take_zero,List.drop_succ_cons]at g0 g1;obtain ⟨a0,rfl,k0⟩:=z2S (g0.trans (List.getElem?_eq_getElem (by rw[hyl];decide)));obtain ⟨a1,rfl,k1⟩:=z2S (g1.trans (List.getElem?_eq_getElem (by rw[hyl];decide)));refine ⟨⟨a0,a1⟩,⟨k0,k1⟩,fun j u hj hu=>?_⟩;rw[←Go.Deep.add_add,hat j hj,←hu];rfl)
  subst h1;exact ⟨some a,cap,l,rfl,h3,h2,hl,hm⟩
theorem yJ {n:Nat} {cs:List Value} {y:DataW H×List MemPlace} (h:DataW.trod enc Tryz.prog W 0 (fun _=>true) true n 58 cs=some y):∃x:RV,cs=x.cs/\x.ok W (· <W.heap.size)/\x.row.small:=by
 obtain ⟨ys,n',hn',hy,hlen,hyl,hf⟩:=DataW.trod_struct Tryz.underlying58 h;have hC:Tryz.prog.cellsOf 58=9:=by kernel_rfl
 rw[hC]at hlen;match cs,hlen with
 |[v0,v1,v2,v3,v4,v5,v6,v7,v8],_=>
  have g0:DataW.trod enc Tryz.prog W 0 (fun _=>true) true n' 56 (([v0,v1,v2,v3,v4,v5,v6,v7,v8].drop 0).take (Tryz.prog.cellsOf 56))=ys[0]?:=hf 0 _ rfl;have g1:DataW.trod enc Tryz.prog W 0 (fun _=>true) true n' 3 (([v0,v1,v2,v3,v4,v5,v6,v7,v8].drop 6).take (Tryz.prog.cellsOf 3))=ys[1]?:=hf 1 _ rfl;have g2:DataW.trod enc Tryz.prog W 0 (fun _=>true) true n' 3 (([v0,v1,v2,v3,v4,v5,v6,v7,v8].drop 7).take (Tryz.prog.cellsOf 3))=ys[2]?:=hf 2 _ rfl;have g3:DataW.trod enc Tryz.prog W 0 (fun _=>true) true n' 3 (([v0,v1,v2,v3,v4,v5,v6,v7,v8].drop 8).take (Tryz.prog.cellsOf 3))=ys[3]?:=hf 3 _ rfl;have es:Tryz.prog.cellsOf 9=1:=(by kernel_rfl);have ei:Tryz.prog.cellsOf 3=1:=(by kernel_rfl);have eb:Tryz.prog.cellsOf 4=1:=(by kernel_rfl);have el:Tryz.prog.cellsOf 54=1:=(by kernel_rfl);have er:Tryz.prog.cellsOf 56=6:=(by kernel_rfl);simp only[ei,er,List.drop_zero,List.take_succ_cons,List.take_zero,List.drop_succ_cons]at g0 g1 g2 g3;obtain ⟨zs,n2,_,_,_,hzl,hf2⟩:=DataW.trod_struct Tryz.underlying56 (g0.trans (List.getElem?_eq_getElem (by rw[hyl];decide)));have r0:DataW.trod enc Tryz.prog W 0 (fun _=>true) true n2 3 (([v0,v1,v2,v3,v4,v5].drop 0).take (Tryz.prog.cellsOf 3))=zs[0]?:=hf2 0 _ rfl;have r1:DataW.trod enc Tryz.prog W 0 (fun _=>true) true n2 3 (([v0,v1,v2,v3,v4,v5].drop 1).take (Tryz.prog.cellsOf 3))=zs[1]?:=hf2 1 _ rfl;have r2:DataW.trod enc Tryz.prog W 0 (fun _=>true) true n2 54 (([v0,v1,v2,v3,v4,v5].drop 2).take (Tryz.prog.cellsOf 54))=zs[2]?:=hf2 2 _ rfl;have r3:DataW.trod enc Tryz.prog W 0 (fun _=>true) true n2 9 (([v0,v1,v2,v3,v4,v5].drop 3).take (Tryz.prog.cellsOf 9))=zs[3]?:=hf2 3 _ rfl;have r4:DataW.trod enc Tryz.prog W 0 (fun _=>true) true n2 3 (([v0,v1,v2,v3,v4,v5].drop 4).take (Tryz.prog.cellsOf 3))=zs[4]?:=hf2 4 _ rfl;have r5:DataW.trod enc Tryz.prog W 0 (fun _=>true) true n2 4 (([v0,v1,v2,v3,v4,v5].drop 5).take (Tryz.prog.cellsOf 4))=zs[5]?:=hf2 5 _ rfl;simp only[es,ei,eb,el,List.drop_zero,List.take_succ_cons,List.take_zero,List.drop_succ_cons]at r0 r1 r2 r3 r4 r5;obtain ⟨kind,rfl,i0⟩:=YN Tryz.underlying3 (r0.trans (List.getElem?_eq_getElem (by rw[hzl];decide)));obtain ⟨time,rfl,i1⟩:=YN Tryz.underlying3 (r1.trans (List.getElem?_eq_getElem (by rw[hzl];decide)));obtain ⟨A,c,aB,rfl,h1,h2,h3,h4⟩:=wW (r2.trans (List.getElem?_eq_getElem (by rw[hzl];decide)));obtain ⟨text,rfl,i3⟩:=z2S (r3.trans (List.getElem?_eq_getElem (by rw[hzl];decide)));obtain ⟨value,rfl,i4⟩:=YN Tryz.underlying3 (r4.trans (List.getElem?_eq_getElem (by rw[hzl];decide)));obtain ⟨null,rfl⟩:=xG (r5.trans (List.getElem?_eq_getElem (by rw[hzl];decide)));obtain ⟨maker,rfl,i6⟩:=YN Tryz.underlying3 (g1.trans (List.getElem?_eq_getElem (by rw[hyl];decide)));obtain ⟨seq,rfl,i7⟩:=YN Tryz.underlying3 (g2.trans (List.getElem?_eq_getElem (by rw[hyl];decide)));obtain ⟨place,rfl,i8⟩:=YN Tryz.underlying3 (g3.trans (List.getElem?_eq_getElem (by rw[hyl];decide)));exact ⟨⟨⟨kind,time,aB,text,value,null,maker,seq,place⟩,A,c⟩,rfl,⟨h1,h3,h4⟩,h2,i3,i0,i1,i4,i6,i7,i8⟩
variable {args : Array Value} {ds : List (DataW H)} {ps : List MemPlace}
end
end Go.Proofs.YtpakjclpjcngmaaGreat
namespace Go.Proofs.YtpakjclpjcngmaaGreat
open Go.RowKit
theorem Tryz.GN:(Tryz.prog.info? 135).map (fun i=>(i.zero,i.size,i.bytes))=some (some (.agg #[.string ⟨#[]⟩,.string ⟨#[]⟩]),2,32):=by kernel_rfl
theorem Tryz.wY:(Tryz.prog.info? 58).map (fun i=>(i.zero,i.size,i.bytes))=some (some (.agg #[.int .i64 0,.int .i64 0,.slice none 0 0,.string ⟨#[]⟩,.int .i64 0,.bool false,.int .i64 0,.int .i64 0,.int .i64 0]),9,96):=by kernel_rfl
theorem GI (l:List dL):∀u∈lbl l,u.oneCell'=true:=by
 intro u hu;obtain ⟨x,_,hx⟩:=List.mem_flatMap.1 hu;simp[dL.cs]at hx;rcases hx with rfl|rfl<;>rfl
theorem wu (l:List RV):∀u∈iE l,u.oneCell'=true:=by
 intro u hu;obtain ⟨x,_,hx⟩:=List.mem_flatMap.1 hu;simp[RV.cs]at hx;rcases hx with rfl|rfl|rfl|rfl|rfl|rfl|rfl|rfl|rfl<;>rfl
theorem tC {b:Nat} {t:TypeId}:∀(vs xs pre:List Value) (w:World),aG w b t (pre++xs).toArray->xs.length=vs.length->aG (lJ w b pre.length vs) b t (pre++vs).toArray
 |[],xs,pre,w,h,hl=>by
  have:xs=[]:=List.eq_nil_of_length_eq_zero hl;subst this;exact h
 |v::vs,[],pre,w,h,hl=>by simp at hl
 |v::vs,x::xs,pre,w,h,hl=>by
  have h1:=h.dK pre.length v;have e:(pre++x::xs).toArray.setIfInBounds pre.length v=((pre++[v])++xs).toArray:=(by simp);rw[e]at h1;have h2:=tC vs xs (pre++[v]) _ h1 (by simpa using hl);rw[List.length_append,List.length_singleton]at h2;have e2:(pre++[v]++vs)=pre++v::vs:=(by simp);rw[e2]at h2;exact h2
theorem IY {w:World} {b:Nat} {t:TypeId} {xs:Array Value} (h:aG w b t xs) (vs:List Value) (hl:xs.size=vs.length):aG (lJ w b 0 vs) b t vs.toArray:=by
 have:=tC vs xs.toList [] w (by simpa using h) (by simpa using hl);simpa using this
def Qp (w:World) (l:List dL) (e:Ending) (w':World):Prop:=
 ∃A c,e=.returned (.slice A l.length c)/\Rd w' (fun k=>w.heap.size<=k/\k<w'.heap.size) 2 A l.length (lbl l)/\Nx w w'/\l.length<=c/\c<=maxLen
section
variable {w : World} {D : Nat → Prop} {A : Option Addr} {n c : Nat} {l : List dL}
theorem SV (h:Rd w D 2 A n (lbl l)) (hl:l.length=n) (hn:n<=4398046511104):
 Calls Tryz.prog 156 #[.slice A n c] w (Qp w l):=by
 obtain ⟨i0,hi0,hz0,hz1,hz2⟩:=info_parts Tryz.GN;have Hlen:=ah hl;clear hl;have h':Rd (w.alloc (.cells #[] 135)) D 2 A n (lbl l):=h.nx (by omega) ((Ch.refl _ w).alloc _);have heq:=fun w:World=>Lib.run_eql_slice_nil (P:=Tryz.prog) w 54 135 A n c 0 0 Tryz.underlying54;rcases A with _|ad
 ·have h0:n=0:=by
   rcases Nat.eq_zero_or_pos n with h0|h0
   ·exact h0
   ·obtain ⟨_,h,_⟩:=h.2 h0;cases h
  have hx:l=[]:=List.eq_nil_of_length_eq_zero (by rw[Hlen.out,h0]);have Hx:=ah hx;clear h0 hx;go_enter Tryz.func156,Tryz.ntmps156;go_wp2_with fail;go_ret;rw[Qp,Hx.out];exact ⟨none,0,rfl,Rd.none_ _ _ _ _,Ch.refl _ _,by simp,by simp⟩
 ·go_enter Tryz.func156,Tryz.ntmps156
  go_wp2_with (at_builtin;refine z07 _ rfl (.tmp 5) (.tmp 6) _ rfl w.heap.size 135 i0 _ 2 32 Tryz.underlying54 hi0 hz0 hz1 hz2 rfl (by omega) (.slice (some ⟨w.heap.size,0,none⟩) 0 0) 0 [] rfl (World.ownsRow_made w #[] 0 (Nat.le_refl _) (by simp[maxLen]) rfl) D (some ad) n c (lbl l) rfl h' (GI l) (by simp only[maxLen];omega) (by omega) (by simp) ?_;intro v' w1 hown hg hat;obtain ⟨k,cap,hv,hk,hk1,hrd,hnx,ho⟩:=z2n hown hg hat;clear hown hg hat;rw[hv];clear hv)
  go_ret;obtain ⟨A',c',hv,hc1,hc2⟩:=z08 ho;injection hv with _ _ hv;subst hv;exact ⟨some ⟨k,0,none⟩,cap,by simp[Hlen.out],by rw[Hlen.out];exact hrd.more fun j e=>by omega,hnx,by rw[Hlen.out];exact hc1,hc2⟩
theorem wH (h:Rd w D 2 A n (lbl l)) (hl:l.length=n) (hn:n<=4398046511104):
 Calls Tryz.prog 87 #[.slice A n c] w (Qp w l):=by
 obtain ⟨i0,hi0,hz0,hz1,hz2⟩:=info_parts Tryz.GN;have Hlen:=ah hl;clear hl;have h':Rd (w.alloc (.cells #[] 135)) D 2 A n (lbl l):=h.nx (by omega) ((Ch.refl _ w).alloc _);go_enter Tryz.func87,Tryz.ntmps87;go_wp2_with (at_builtin;refine z07 _ rfl (.tmp 3) (.tmp 4) _ rfl w.heap.size 135 i0 _ 2 32 Tryz.underlying54 hi0 hz0 hz1 hz2 rfl (by omega) (.slice (some ⟨w.heap.size,0,none⟩) 0 0) 0 [] rfl (World.ownsRow_made w #[] 0 (Nat.le_refl _) (by simp[maxLen]) rfl) D A n c (lbl l) rfl h' (GI l) (by simp only[maxLen];omega) (by omega) (by simp) ?_;intro v' w1 hown hg hat;obtain ⟨k,cap,hv,hk,hk1,hrd,hnx,ho⟩:=z2n hown hg hat;clear hown hg hat;rw[hv];clear hv)
 go_ret;obtain ⟨A',c',hv,hc1,hc2⟩:=z08 ho;injection hv with _ _ hv;subst hv;exact ⟨some ⟨k,0,none⟩,cap,by simp[Hlen.out],by rw[Hlen.out];exact hrd.more fun j e=>by omega,hnx,by rw[Hlen.out];exact hc1,hc2⟩
end
section
variable {w : World} {D : Nat → Prop} {x : RV}
end
section
variable {w : World} {g cap : Nat} {A : Option Addr} {ys : List RV}
end
section
variable {w : World} {g cap : Nat} {A : Option Addr} {ys : List RV}
end
end Go.Proofs.YtpakjclpjcngmaaGreat
