/- Contracts and plain laws that the last text rests on. Conditions: each theorem states its own. -/
import Derived.Test.YtdbfejfhpkakhaaGreatKKd2PbLaw
import Derived.Lib.SmallJoins
import Derived.Deep.Slices
import Derived.Deep.Fields
import Derived.ChangeSame
import Derived.Test.YtdbfejfhpkakhaaGreatKKd2Q3
import Derived.Test.YtdbfejfhpkakhaaGreatKKd2Q2
import Derived.BigRegion
set_option maxRecDepth 100000
set_option maxHeartbeats 8000000
set_option linter.unusedVariables false
set_option linter.unusedSimpArgs false
namespace Go.Proofs.YtdbfejfhpkakhaaGreat
open Go.ChangeShapes Go.WideShapes Go.ChangeAt Go.RowKit Go.Deep
section
variable {H : Type} {enc : TypeId × Value → H} {P : Program} {w : World} {base : Nat} {spare : Nat → Bool} {held : Bool}
end
section
variable {H : Type} {enc : TypeId × Value → H} {W : World}
theorem zf {n:Nat} {v:Value} {t:TypeId} {y:DataW H×List MemPlace} (ht:Tryz.prog.underlying t=some (.int .i64)) (h:DataW.trod enc Tryz.prog W 0 (fun _=>true) true n t [v]=some y):∃a:Int,v=.int .i64 a/\i64 a:=by
 obtain ⟨a,e,_,wf⟩:=DataW.trod_int ht h;simp at e;exact ⟨a,e,qU wf⟩
theorem z2j {n:Nat} {v:Value} {y:DataW H×List MemPlace} (h:DataW.trod enc Tryz.prog W 0 (fun _=>true) true n 9 [v]=some y):∃s:ByteArray,v=.string s/\s.size<=9223372036854775807:=by
 obtain ⟨a,e,_,wf⟩:=DataW.trod_string Tryz.underlying9 h;simp at e;unfold maxLen at wf;exact ⟨a,e,by omega⟩
theorem uU {n:Nat} {v:Value} {y:DataW H×List MemPlace} (h:DataW.trod enc Tryz.prog W 0 (fun _=>true) true n 4 [v]=some y):∃b:Bool,v=.bool b:=by
 obtain ⟨a,e,_⟩:=DataW.trod_bool Tryz.underlying4 h;simp at e;exact ⟨a,e⟩
end
def bT.cs (x:bT):List Value:=[.string x.name,.string x.value]
def lbl (l:List bT):List Value:=l.flatMap bT.cs
structure RV where
 row:aC
 A:Option Addr
 c:Nat
def RV.cs (x:RV):List Value:=[.int .i64 x.row.kind,.int .i64 x.row.time,.slice x.A x.row.ak.length x.c,.string x.row.text,.int .i64 x.row.value,.bool x.row.null,.int .i64 x.row.maker,.int .i64 x.row.seq,.int .i64 x.row.place]
def bM (l:List RV):List Value:=l.flatMap RV.cs
theorem bT.aQ (x:bT):x.cs.length=2:=rfl
theorem RV.aQ (x:RV):x.cs.length=9:=rfl
theorem Py (l:List bT):(lbl l).length=l.length * 2:=zy bT.aQ l
theorem tC (l:List RV):(bM l).length=l.length * 9:=zy RV.aQ l
def RV.ok (w:World) (D:Nat->Prop) (x:RV):Prop:=Rd w D 2 x.A x.row.ak.length (lbl x.row.ak)/\x.row.ak.length<=x.c/\x.c<=maxLen
theorem RV.ok.ch {w w':World} {D D' S:Nat->Prop} {x:RV} (h:x.ok w D) (hc:Ch S w w') (hS:∀k,k<w.heap.size->D k->¬S k) (hD:∀k,D k->D' k):x.ok w' D':=
 ⟨(h.1.ch (by decide) hc hS).more hD,h.2⟩
theorem SY {w:World} {D:Nat->Prop} {A:Option Addr} {n k:Nat} {l:List bT} (h:Rd w D 2 A n (lbl l)) (hk:k<l.length):∃ad,A=some ad/\D ad.block/\w.cell? (ad.add (k * 2))=some (.string l[k].name)/\w.cell? ⟨(ad.add (k * 2)).block,(ad.add (k * 2)).off+1,none⟩=some (.string l[k].value):=by
 have hn:0<n:=by have:=h.1;rw[Py]at this;omega
 obtain ⟨ad,rfl,hb,hc⟩:=h.2 hn;exact ⟨ad,rfl,hb,hc (k * 2+0) _ (oI bT.aQ hk (by decide)),z09 0 (hc (k * 2+1) _ (oI bT.aQ hk (by decide)))⟩
theorem qg {w:World} {D:Nat->Prop} {A:Option Addr} {n k:Nat} {l:List RV} (h:Rd w D 9 A n (bM l)) (hk:k<l.length):∃ad,A=some ad/\D ad.block/\w.cell? (ad.add (k * 9))=some (.int .i64 l[k].row.kind)/\
 w.cell? ⟨(ad.add (k * 9)).block,(ad.add (k * 9)).off+1,none⟩=some (.int .i64 l[k].row.time)/\w.cell? ⟨(ad.add (k * 9)).block,(ad.add (k * 9)).off+2,none⟩=some (.slice l[k].A l[k].row.ak.length l[k].c)/\
 w.cell? ⟨(ad.add (k * 9)).block,(ad.add (k * 9)).off+3,none⟩=some (.string l[k].row.text)/\w.cell? ⟨(ad.add (k * 9)).block,(ad.add (k * 9)).off+4,none⟩=some (.int .i64 l[k].row.value)/\
 w.cell? ⟨(ad.add (k * 9)).block,(ad.add (k * 9)).off+5,none⟩=some (.bool l[k].row.null)/\w.cell? ⟨(ad.add (k * 9)).block,(ad.add (k * 9)).off+6,none⟩=some (.int .i64 l[k].row.maker)/\
 w.cell? ⟨(ad.add (k * 9)).block,(ad.add (k * 9)).off+7,none⟩=some (.int .i64 l[k].row.seq)/\w.cell? ⟨(ad.add (k * 9)).block,(ad.add (k * 9)).off+8,none⟩=some (.int .i64 l[k].row.place):=by
 have hn:0<n:=by have:=h.1;rw[tC]at this;omega
 obtain ⟨ad,rfl,hb,hc⟩:=h.2 hn;have g:=fun i (hi:i<9) u (hu:(l[k].cs)[i]?=some u)=>hc (k * 9+i) u ((oI RV.aQ hk hi).trans hu);exact ⟨ad,rfl,hb,g 0 (by decide) _ rfl,z09 0 (g 1 (by decide) _ rfl),z09 1 (g 2 (by decide) _ rfl),z09 2 (g 3 (by decide) _ rfl),z09 3 (g 4 (by decide) _ rfl),z09 4 (g 5 (by decide) _ rfl),z09 5 (g 6 (by decide) _ rfl),z09 6 (g 7 (by decide) _ rfl),z09 7 (g 8 (by decide) _ rfl)⟩
def bT.small (x:bT):Prop:=x.name.size<=9223372036854775807/\x.value.size<=9223372036854775807
def aC.small (x:aC):Prop:=(∀y∈x.ak,y.small)/\x.text.size<=9223372036854775807/\i64 x.kind/\i64 x.time/\i64 x.value/\i64 x.maker/\i64 x.seq/\i64 x.place
def aK (x:RV):Value:=.agg #[.int .i64 x.row.kind,.int .i64 x.row.time,.slice x.A x.row.ak.length x.c,.string x.row.text,.int .i64 x.row.value,.bool x.row.null,.int .i64 x.row.maker,.int .i64 x.row.seq,.int .i64 x.row.place]
section
variable {H : Type} {enc : TypeId × Value → H} {W : World}
theorem um {n:Nat} {v:Value} {y:DataW H×List MemPlace} (h:DataW.trod enc Tryz.prog W 0 (fun _=>true) true n 55 [v]=some y):
 ∃(A:Option Addr) (c:Nat) (l:List bT),v=.slice A l.length c/\Rd W (· <W.heap.size) 2 A l.length (lbl l)/\(∀x∈l,x.small)/\l.length<=c/\c<=maxLen:=by
 rcases open_slice Tryz.underlying55 h with ⟨hcs,hx⟩|⟨a,len,cap,m,nn,D,Pl,hcs,hb,hl,hm,hmm,hx,hi⟩
 ·simp at hcs
  subst hcs;exact ⟨none,0,[],rfl,Rd.none_ _ _ _ _,by simp,Nat.le_refl _,by simp[maxLen]⟩
 ·simp at hcs
  subst hcs;simp only[if_true]at hmm;have hC:Tryz.prog.cellsOf 71=2:=by kernel_rfl
  rw[hC]at hi
  obtain ⟨l,h1,h2,h3⟩:=z3u (W:=W) (a:=a) (n:=len) (good:=bT.small) bT.aQ (by decide) (fun i hin=>by
   obtain ⟨cs',hc,ht'⟩:=hi i (by omega);obtain ⟨ys,n',hn',hy,hlen,hyl,hf⟩:=DataW.trod_struct Tryz.underlying71 ht';obtain ⟨_,hcl,hat⟩:=World.cells?_some hc;match cs',hcl with
   |[v0,v1],_=>
    have g0:DataW.trod enc Tryz.prog W 0 (fun _=>true) true n' 9 (([v0,v1].drop 0).take (Tryz.prog.cellsOf 9))=ys[0]?:=hf 0 _ rfl;have g1:DataW.trod enc Tryz.prog W 0 (fun _=>true) true n' 9 (([v0,v1].drop 1).take (Tryz.prog.cellsOf 9))=ys[1]?:=hf 1 _ rfl;have e0:Tryz.prog.cellsOf 9=1:=(by kernel_rfl);simp only[e0,List.drop_zero,List.take_succ_cons,List.take_zero,List.drop_succ_cons]at g0 g1;obtain ⟨a0,rfl,k0⟩:=z2j (g0.trans (List.getElem?_eq_getElem (by rw[hyl];decide)));obtain ⟨a1,rfl,k1⟩:=z2j (g1.trans (List.getElem?_eq_getElem (by rw[hyl];decide)));refine ⟨⟨a0,a1⟩,⟨k0,k1⟩,fun j u hj hu=>?_⟩;rw[←Go.Deep.add_add,hat j hj,←hu];rfl)
  subst h1;exact ⟨some a,cap,l,rfl,h3,h2,hl,hm⟩
variable {args : Array Value} {ds : List (DataW H)} {ps : List MemPlace}
end
end Go.Proofs.YtdbfejfhpkakhaaGreat
namespace Go.Proofs.YtdbfejfhpkakhaaGreat
open Go.RowKit
theorem Tryz.kM:(Tryz.prog.info? 71).map (fun i=>(i.zero,i.size,i.bytes))=some (some (.agg #[.string ⟨#[]⟩,.string ⟨#[]⟩]),2,32):=by kernel_rfl
theorem Tryz.fZ:(Tryz.prog.info? 79).map (fun i=>(i.zero,i.size,i.bytes))=some (some (.agg #[.int .i64 0,.int .i64 0,.slice none 0 0,.string ⟨#[]⟩,.int .i64 0,.bool false,.int .i64 0,.int .i64 0,.int .i64 0]),9,96):=by kernel_rfl
theorem kJ (l:List bT):∀u∈lbl l,u.oneCell'=true:=by
 intro u hu;obtain ⟨x,_,hx⟩:=List.mem_flatMap.1 hu;simp[bT.cs]at hx;rcases hx with rfl|rfl<;>rfl
theorem IY (l:List RV):∀u∈bM l,u.oneCell'=true:=by
 intro u hu;obtain ⟨x,_,hx⟩:=List.mem_flatMap.1 hu;simp[RV.cs]at hx;rcases hx with rfl|rfl|rfl|rfl|rfl|rfl|rfl|rfl|rfl<;>rfl
theorem qE {b:Nat} {t:TypeId}:∀(vs xs pre:List Value) (w:World),aG w b t (pre++xs).toArray->xs.length=vs.length->aG (dI w b pre.length vs) b t (pre++vs).toArray
 |[],xs,pre,w,h,hl=>by
  have:xs=[]:=List.eq_nil_of_length_eq_zero hl;subst this;exact h
 |v::vs,[],pre,w,h,hl=>by simp at hl
 |v::vs,x::xs,pre,w,h,hl=>by
  have h1:=h.aS pre.length v;have e:(pre++x::xs).toArray.setIfInBounds pre.length v=((pre++[v])++xs).toArray:=(by simp);rw[e]at h1;have h2:=qE vs xs (pre++[v]) _ h1 (by simpa using hl);rw[List.length_append,List.length_singleton]at h2;have e2:(pre++[v]++vs)=pre++v::vs:=(by simp);rw[e2]at h2;exact h2
theorem VN {w:World} {b:Nat} {t:TypeId} {xs:Array Value} (h:aG w b t xs) (vs:List Value) (hl:xs.size=vs.length):aG (dI w b 0 vs) b t vs.toArray:=by
 have:=qE vs xs.toList [] w (by simpa using h) (by simpa using hl);simpa using this
def MX (w:World) (l:List bT) (e:Ending) (w':World):Prop:=
 ∃A c,e=.returned (.slice A l.length c)/\Rd w' (fun k=>w.heap.size<=k/\k<w'.heap.size) 2 A l.length (lbl l)/\Nx w w'/\l.length<=c/\c<=maxLen
section
variable {w : World} {D : Nat → Prop} {A : Option Addr} {n c : Nat} {l : List bT}
theorem uo (h:Rd w D 2 A n (lbl l)) (hl:l.length=n) (hn:n<=4398046511104):
 Calls Tryz.prog 77 #[.slice A n c] w (MX w l):=by
 obtain ⟨i0,hi0,hz0,hz1,hz2⟩:=info_parts Tryz.kM;have Hlen:=ah hl;clear hl;have h':Rd (w.alloc (.cells #[] 71)) D 2 A n (lbl l):=h.nx (by omega) ((Ch.refl _ w).alloc _);have heq:=fun w:World=>Lib.run_eql_slice_nil (P:=Tryz.prog) w 55 71 A n c 0 0 Tryz.underlying55;rcases A with _|ad
 ·have h0:n=0:=by
   rcases Nat.eq_zero_or_pos n with h0|h0
   ·exact h0
   ·obtain ⟨_,h,_⟩:=h.2 h0;cases h
  have hx:l=[]:=List.eq_nil_of_length_eq_zero (by rw[Hlen.out,h0]);have Hx:=ah hx;clear h0 hx;go_enter Tryz.func77,Tryz.ntmps77;go_wp2_with fail;go_ret;rw[MX,Hx.out];exact ⟨none,0,rfl,Rd.none_ _ _ _ _,Ch.refl _ _,by simp,by simp⟩
 ·go_enter Tryz.func77,Tryz.ntmps77
  go_wp2_with (at_builtin;refine z04 _ rfl (.tmp 5) (.tmp 6) _ rfl w.heap.size 71 i0 _ 2 32 Tryz.underlying55 hi0 hz0 hz1 hz2 rfl (by omega) (.slice (some ⟨w.heap.size,0,none⟩) 0 0) 0 [] rfl (World.ownsRow_made w #[] 0 (Nat.le_refl _) (by simp[maxLen]) rfl) D (some ad) n c (lbl l) rfl h' (kJ l) (by simp only[maxLen];omega) (by omega) (by simp) ?_;intro v' w1 hown hg hat;obtain ⟨k,cap,hv,hk,hk1,hrd,hnx,ho⟩:=Y_ hown hg hat;clear hown hg hat;rw[hv];clear hv)
  go_ret;obtain ⟨A',c',hv,hc1,hc2⟩:=h_ ho;injection hv with _ _ hv;subst hv;exact ⟨some ⟨k,0,none⟩,cap,by simp[Hlen.out],by rw[Hlen.out];exact hrd.more fun j e=>by omega,hnx,by rw[Hlen.out];exact hc1,hc2⟩
theorem tV (h:Rd w D 2 A n (lbl l)) (hl:l.length=n) (hn:n<=4398046511104):
 Calls Tryz.prog 54 #[.slice A n c] w (MX w l):=by
 obtain ⟨i0,hi0,hz0,hz1,hz2⟩:=info_parts Tryz.kM;have Hlen:=ah hl;clear hl;have h':Rd (w.alloc (.cells #[] 71)) D 2 A n (lbl l):=h.nx (by omega) ((Ch.refl _ w).alloc _);go_enter Tryz.func54,Tryz.ntmps54;go_wp2_with (at_builtin;refine z04 _ rfl (.tmp 3) (.tmp 4) _ rfl w.heap.size 71 i0 _ 2 32 Tryz.underlying55 hi0 hz0 hz1 hz2 rfl (by omega) (.slice (some ⟨w.heap.size,0,none⟩) 0 0) 0 [] rfl (World.ownsRow_made w #[] 0 (Nat.le_refl _) (by simp[maxLen]) rfl) D A n c (lbl l) rfl h' (kJ l) (by simp only[maxLen];omega) (by omega) (by simp) ?_;intro v' w1 hown hg hat;obtain ⟨k,cap,hv,hk,hk1,hrd,hnx,ho⟩:=Y_ hown hg hat;clear hown hg hat;rw[hv];clear hv)
 go_ret;obtain ⟨A',c',hv,hc1,hc2⟩:=h_ ho;injection hv with _ _ hv;subst hv;exact ⟨some ⟨k,0,none⟩,cap,by simp[Hlen.out],by rw[Hlen.out];exact hrd.more fun j e=>by omega,hnx,by rw[Hlen.out];exact hc1,hc2⟩
def UU (w:World) (x:RV) (e:Ending) (w':World):Prop:=
 ∃y:RV,e=.returned (aK y)/\y.row=x.row/\y.ok w' (fun k=>w.heap.size<=k/\k<w'.heap.size)/\Nx w w'
end
section
variable {w : World} {D : Nat → Prop} {x : RV}
theorem qG (h:x.ok w D) (hl:x.row.ak.length<=4398046511104):Calls Tryz.prog 53 #[aK x] w (UU w x):=by
 obtain ⟨⟨kind,time,ak,text,value,null,maker,seq,place⟩,A1,c1⟩:=x;obtain ⟨h1,h2,h3⟩:=h;unfold aK;simp only at h1 h2 h3 hl ⊢;have HR:=ah (fun w' (hn:Nx w w')=>uo (c:=c1) (h1.nx (by decide) hn) rfl hl);clear h1;go_enter Tryz.func53,Tryz.ntmps53;go_wp2_with fail;have pq:=ah (((Ch.refl (fun _=>False) w).alloc (.cells #[.int .i64 kind,.int .i64 time,.slice A1 ak.length c1,.string text,.int .i64 value,.bool null,.int .i64 maker,.int .i64 seq,.int .i64 place] 79)).alloc (.cells #[.int .i64 0,.int .i64 0,.slice none 0 0,.string ⟨#[]⟩,.int .i64 0,.bool false,.int .i64 0,.int .i64 0,.int .i64 0] 79));refine (HR.out _ pq.out).mono ?_;rintro e w1 ⟨A2,c2,rfl,rd,nx,hc2,hm2⟩;have b1:aG w1 w.heap.size 79 #[.int .i64 kind,.int .i64 time,.slice A1 ak.length c1,.string text,.int .i64 value,.bool null,.int .i64 maker,.int .i64 seq,.int .i64 place]:=((aG.new w _ _).alloc _).nx nx;have b2:aG w1 (w.heap.size+1) 79 #[.int .i64 0,.int .i64 0,.slice none 0 0,.string ⟨#[]⟩,.int .i64 0,.bool false,.int .i64 0,.int .i64 0,.int .i64 0]:=(by have:=aG.new (w.alloc (.cells #[.int .i64 kind,.int .i64 time,.slice A1 ak.length c1,.string text,.int .i64 value,.bool null,.int .i64 maker,.int .i64 seq,.int .i64 place] 79)) 79 #[.int .i64 0,.int .i64 0,.slice none 0 0,.string ⟨#[]⟩,.int .i64 0,.bool false,.int .i64 0,.int .i64 0,.int .i64 0];simpa using this.nx nx);have NX:=ah (pq.out.tr nx);have RD:=ah (rd.more (D':=fun k=>w.heap.size+2<=k/\k<w1.heap.size) (by intro k hk;simpa using hk));have f1:=b1.frozen;have f2:=b2.frozen;have d1:=b1.cell;have d2:=b2.cell;have hs:=ah (show w.heap.size+1<w1.heap.size from b2.lt);have B2:=ah b2;clear rd nx HR pq b1 b2;go_wp2_with fail;obtain ⟨w3,hw3⟩:∃w3,w3=w1.setCell ⟨w.heap.size,2,none⟩ (.slice A2 ak.length c2):=⟨_,rfl⟩;obtain ⟨w2,hW⟩:∃w2,w2=dI w3 (w.heap.size+1) 0 (RV.cs ⟨⟨kind,time,ak,text,value,null,maker,seq,place⟩,A2,c2⟩):=⟨_,rfl⟩;have UA:Ch (fun k=>k=w.heap.size) w1 w3:=by rw[hw3];exact Ch.setCell (S:=fun k=>k=w.heap.size) (Ch.refl _ w1) (p:=⟨w.heap.size,2,none⟩) (fun _=>rfl) _
 have b3:aG w3 (w.heap.size+1) 79 #[.int .i64 0,.int .i64 0,.slice none 0 0,.string ⟨#[]⟩,.int .i64 0,.bool false,.int .i64 0,.int .i64 0,.int .i64 0]:=by rw[hw3];exact B2.out.far (by simp) _
 have hch:Ch (fun k=>k=w.heap.size+1) w3 w2:=by rw[hW];exact NT _ _ _
 have b4:aG w2 (w.heap.size+1) 79 #[.int .i64 kind,.int .i64 time,.slice A2 ak.length c2,.string text,.int .i64 value,.bool null,.int .i64 maker,.int .i64 seq,.int .i64 place]:=by rw[hW];exact VN b3 _ rfl
 have d:=b4.cell;simp only[RV.cs,dI,hw3]at hW;rw[←hW];clear hW d1 d2 f1 f2 b3 b4 B2 hw3;refine bodyPost_ret (v:=aK ⟨⟨kind,time,ak,text,value,null,maker,seq,place⟩,A2,c2⟩) (by simp[results,Tryz.results53,go_sem,aK,d]) rfl ?_;have hall:Ch (fun k=>k=w.heap.size∨k=w.heap.size+1) w1 w2:=(UA.mono fun _ _ h=>.inl h).trans hch fun _ _ h=>.inr h;have hsz:=hall.size;exact ⟨_,rfl,rfl,⟨(RD.out.ch (by decide) hall fun k _ hk=>by omega).more fun k hk=>by have:=hs.out;omega,hc2,hm2⟩,NX.out.trans hall fun i hi hs=>by rcases hs with rfl|rfl<;>omega⟩
end
def SA (w:World) (g:Nat) (A:Option Addr) (cap:Nat) (zs:List RV):Prop:=
 (A=some ⟨g,0,none⟩∨zs=[])/\w.ownsRow 0 79 9 (.slice A zs.length cap) zs.length (bM zs)
theorem SA.form {w:World} {g cap:Nat} {A:Option Addr} {zs:List RV} (h:SA w g A cap zs) {k:Nat} (hk:k<zs.length):A=some ⟨g,0,none⟩:=by
 rcases h.1 with e|e
 ·exact e
 ·subst e;simp at hk
theorem SA.cell {w:World} {g cap:Nat} {A:Option Addr} {zs:List RV} (h:SA w g A cap zs) {k:Nat} (hk:k<zs.length) (i:Nat) (hi:i<9):w.cell? ⟨g,k * 9+i,none⟩=(zs[k].cs)[i]?:=by
 have e:=h.form hk;subst e;have hl:=tC zs;have hh:k * 9+i<zs.length * 9:=by omega
 rw[h.2.cellAt (k * 9+i) hh];exact oI RV.aQ hk hi
def yM (w:World) (g k:Nat) (x:RV):Prop:=
 w.cell? ⟨g,k * 9,none⟩=some (.int .i64 x.row.kind)/\w.cell? ⟨g,k * 9+1,none⟩=some (.int .i64 x.row.time)/\w.cell? ⟨g,k * 9+2,none⟩=some (.slice x.A x.row.ak.length x.c)/\w.cell? ⟨g,k * 9+3,none⟩=some (.string x.row.text)/\
 w.cell? ⟨g,k * 9+4,none⟩=some (.int .i64 x.row.value)/\w.cell? ⟨g,k * 9+5,none⟩=some (.bool x.row.null)/\w.cell? ⟨g,k * 9+6,none⟩=some (.int .i64 x.row.maker)/\w.cell? ⟨g,k * 9+7,none⟩=some (.int .i64 x.row.seq)/\w.cell? ⟨g,k * 9+8,none⟩=some (.int .i64 x.row.place)
theorem SA.at_ {w:World} {g cap:Nat} {A:Option Addr} {zs:List RV} (h:SA w g A cap zs) {k:Nat} (hk:k<zs.length):yM w g k zs[k]:=
 ⟨h.cell hk 0 (by decide),h.cell hk 1 (by decide),h.cell hk 2 (by decide),h.cell hk 3 (by decide),h.cell hk 4 (by decide),h.cell hk 5 (by decide),h.cell hk 6 (by decide),h.cell hk 7 (by decide),h.cell hk 8 (by decide)⟩
theorem SA.frozen {w:World} {g cap:Nat} {A:Option Addr} {zs:List RV} (h:SA w g A cap zs) {k:Nat} (hk:k<zs.length) (i:Nat):w.frozen? ⟨g,i,none⟩=false:=by
 have e:=h.form hk;subst e;exact h.2.frozenAt i
theorem SA.nx {w w':World} {g cap:Nat} {A:Option Addr} {zs:List RV} (h:SA w g A cap zs) (hn:Nx w w'):SA w' g A cap zs:=
 ⟨h.1,h.2.kept (row:=none) ⟨hn.os,hn.tape,hn.output,hn.size,fun k hk _=>hn.block k hk (fun h=>h)⟩ (by cases A<;>simp[Value.ownBlock])⟩
theorem SA.two {w:World} {g cap:Nat} {A:Option Addr} {zs:List RV} (h:SA w g A cap zs) {i j:Nat} (hi:i<zs.length) (hj:j<zs.length) (x y:RV):
 SA (dI (dI w g (i * 9) x.cs) g (j * 9) y.cs) g A cap ((zs.set i x).set j y)/\Ch (fun k=>k=g) w (dI (dI w g (i * 9) x.cs) g (j * 9) y.cs):=by
 refine ⟨⟨.inl (h.form hi),?_⟩,(NT _ _ _).trans (NT _ _ _) fun _ _ e=>e⟩;have e:=h.form hi;subst e;have h2:=ZI y.cs _ _ (j * 9) (ZI x.cs _ _ (i * 9) h.2);have e1:lQ (bM zs) (i * 9) x.cs=bM (zs.set i x):=xR RV.aQ hi x;rw[e1]at h2;have e2:lQ (bM (zs.set i x)) (j * 9) y.cs=bM ((zs.set i x).set j y):=xR RV.aQ (by simpa using hj) y;rw[e2]at h2;simpa using h2
theorem SA.swap {w:World} {g cap:Nat} {A:Option Addr} {zs:List RV} (h:SA w g A cap zs) {i j:Nat} (hi:i<zs.length) (hj:j<zs.length) {w':World} (e:w'=dI (dI w g (i * 9) (zs[j]).cs) g (j * 9) (zs[i]).cs):
 SA w' g A cap (fQ zs i j)/\Ch (fun k=>k=g) w w':=by
 rw[z32 hi hj,e];exact h.two hi hj _ _
section
variable {w : World} {g cap : Nat} {A : Option Addr} {ys : List RV}
theorem oN (h:SA w g A cap ys) (hn:ys.length<=1000000) (a b n:Nat) (h1:a+n<=b) (h2:b+n<=ys.length) (F:Value):
 Calls Tryz.prog 227 #[.slice A ys.length cap,.int .i64 a,.int .i64 b,.int .i64 n,F] w fun e w'=>e=.returned (.tuple #[])/\SA w' g A cap (oC ys a b n)/\Ch (fun k=>k=g) w w':=by
 go_enter Tryz.func227,Tryz.ntmps227;go_wp2_with fail;go_loopw [10] (fun i wr=>∃k:Nat,k<=n/\i=.int .i64 (k:Int)/\SA wr g A cap (oC ys a b k)/\Ch (fun k=>k=g) w wr) (fun i _=>n-(intOf i).toNat)
 case atStart=>exact ⟨0,Nat.zero_le _,rfl,h,Ch.refl _ _⟩
 case round=>
  obtain ⟨w4,rfl⟩:∃w4:World,w4=wr:=⟨_,rfl⟩;obtain ⟨k,hk,rfl,hs,hc⟩:=hrel;by_cases hlt:k<n
  ·have hl:=WR ys a b k
   have hi:a+k<(oC ys a b k).length:=(by omega);have hj:b+k<(oC ys a b k).length:=(by omega);have e:=hs.form hi;subst e;have ci:=hs.cell hi;have cj:=hs.cell hj;have cf:=hs.frozen hi;have HS:=ah (fun w'=>hs.swap hi hj (w':=w'));have HC:=ah hc;have Hh:=ah h;have Hl:=ah hl;have ij:a+k≠b+k:=(by omega);clear hs hc h hl;generalize (oC ys a b k)[a+k]=x at *;generalize (oC ys a b k)[b+k]=y at *;obtain ⟨⟨kind,time,ak,text,value,null,maker,seq,place⟩,A1,c1⟩:=x;obtain ⟨⟨kind2,aU,bJ,bH,value2,bI,aP,seq2,aO⟩,A2,c2⟩:=y;have p0:w4.cell? ⟨g,(a+k) * 9,none⟩=_:=ci 0 (by decide);have p1:=ci 1 (by decide);have p2:=ci 2 (by decide);have p3:=ci 3 (by decide);have p4:=ci 4 (by decide);have p5:=ci 5 (by decide);have p6:=ci 6 (by decide);have p7:=ci 7 (by decide);have p8:=ci 8 (by decide);have q0:w4.cell? ⟨g,(b+k) * 9,none⟩=_:=cj 0 (by decide);have q1:=cj 1 (by decide);have q2:=cj 2 (by decide);have q3:=cj 3 (by decide);have q4:=cj 4 (by decide);have q5:=cj 5 (by decide);have q6:=cj 6 (by decide);have q7:=cj 7 (by decide);have q8:=cj 8 (by decide);simp only[RV.cs,List.getElem?_cons_zero,List.getElem?_cons_succ]at p0 p1 p2 p3 p4 p5 p6 p7 p8 q0 q1 q2 q3 q4 q5 q6 q7 q8;clear ci cj;go_wp2_with fail;go_region
   generalize hW:World.setCell _ _ _=W5;obtain ⟨g1,g2⟩:=HS.out W5 hW.symm;clear hW p0 p1 p2 p3 p4 p5 p6 p7 p8 q0 q1 q2 q3 q4 q5 q6 q7 q8 cf HS;go_wp2_with fail;go_roundw
   case rel=>
    exact ⟨k+1,by omega,by go_num,g1,(HC.out.trans g2 fun _ _ e=>e).drew⟩
   case measure=>simp[intOf];omega
  ·obtain rfl:k=n:=by omega
   go_wp2_with fail;go_end0
   exact ⟨rfl,hs,hc⟩
end
section
variable {w : World} {g cap : Nat} {A : Option Addr} {ys : List RV}
theorem Aq (h:SA w g A cap ys) (hn:ys.length<=1000000) (a m b:Nat) (h1:a<m) (h2:m<b) (h3:b<=ys.length) (F:Value):
 Calls Tryz.prog 214 #[.slice A ys.length cap,.int .i64 a,.int .i64 m,.int .i64 b,F] w fun e w'=>e=.returned (.tuple #[])/\SA w' g A cap (rotL ys a m b)/\Ch (fun k=>k=g) w w':=by
 go_enter Tryz.func214,Tryz.ntmps214;go_wp2_with fail;go_loopw [10,11] (fun s10 s11 wr=>∃(i j:Nat) (zs:List RV),0<i/\0<j/\i<=m/\m+j<=ys.length/\s10=.int .i64 (i:Int)/\s11=.int .i64 (j:Int)/\zs.length=ys.length/\SA wr g A cap zs/\Ch (fun k=>k=g) w wr/\rotL zs (m-i) m (m+j)=rotL ys a m b) (fun s10 s11 _=>(intOf s10).toNat+(intOf s11).toNat)
 case atStart=>exact ⟨m-a,b-m,ys,by omega,by omega,by omega,by omega,by go_num,by go_num,rfl,h,Ch.refl _ _,by congr 1<;>omega⟩
 case round=>
  obtain ⟨w4,rfl⟩:∃w4:World,w4=wr:=⟨_,rfl⟩;obtain ⟨i,j,zs,hi,hj,him,hjm,rfl,rfl,hl,hs,hc,he⟩:=hrel;have UZ:=ah (fun a b n h1 h2=>oN hs (by omega) a b n h1 h2 F);rw[hl]at UZ;have HC:=ah hc;have HE:=ah he;clear hs hc he h;by_cases hlt:j<i
  ·have ht:((i:Int) !=(j:Int))=true:=by simp;omega
   have HR:=ah (JC zs hlt him (by omega));have HK:=ah (UZ.out (m-i) m j (by omega) (by omega));clear UZ;have hz:m-i+j=m-(i-j):=(by omega);rw[hz]at HR;have e1:((m-i:Nat):Int)=(m:Int)-i:=(by omega);rw[e1]at HK;go_wp2_with fail;refine HK.out.mono ?_;rintro e w5 ⟨rfl,s5,c5⟩;have S5:=ah s5;have C5:=ah c5;clear s5 c5;go_wp2_with fail;go_roundw
   case rel=>exact ⟨i-j,j,_,by omega,hj,by omega,hjm,by go_num,rfl,(WR _ _ _ _).trans hl,S5.out,HC.out.trans C5.out fun _ _ e=>e,HR.out.trans HE.out⟩
   case measure=>simp[intOf];omega
  ·by_cases hlt2:i<j
   ·have ht:((i:Int) !=(j:Int))=true:=by simp;omega
    have HR:=ah (FK zs hlt2 him (by omega));have HK:=ah (UZ.out (m-i) (m+j-i) i (by omega) (by omega));clear UZ;have e1:((m-i:Nat):Int)=(m:Int)-i:=(by omega);have e2:((m+j-i:Nat):Int)=(m:Int)+j-i:=(by omega);rw[e1,e2]at HK;go_wp2_with fail;refine HK.out.mono ?_;rintro e w5 ⟨rfl,s5,c5⟩;have S5:=ah s5;have C5:=ah c5;clear s5 c5;go_wp2_with fail;go_roundw
    case rel=>exact ⟨i,j-i,_,hi,by omega,him,by omega,rfl,by go_num,(WR _ _ _ _).trans hl,S5.out,HC.out.trans C5.out fun _ _ e=>e,HR.out.trans HE.out⟩
    case measure=>simp[intOf];omega
   ·obtain rfl:i=j:=by omega
    have HR:=ah (JD zs him (by omega));have HK:=ah (UZ.out (m-i) m i (by omega) (by omega));clear UZ;have e1:((m-i:Nat):Int)=(m:Int)-i:=(by omega);rw[e1]at HK;go_wp2_with fail;refine HK.out.mono ?_;rintro e w5 ⟨rfl,s5,c5⟩;rw[HR.out,HE.out]at s5;have S5:=ah s5;have C5:=ah c5;clear s5 c5;go_wp2_with fail;go_end0
    exact ⟨rfl,S5.out,HC.out.trans C5.out fun _ _ e=>e⟩
end
end Go.Proofs.YtdbfejfhpkakhaaGreat
namespace Go.Proofs.YtdbfejfhpkakhaaGreat
section
variable {α : Type} {lt : α → α → Bool}
def oh (lt:α->α->Bool) (P M S:List (Tg α)) (i:Nat) (ys:List (Tg α)):Prop:=
 ∃C,C.Perm (M.take i)/\C.Pairwise (Rt lt)/\ys=P++C++M.drop i++S
def CW (lt:α->α->Bool) (P M S:List (Tg α)) (i J:Nat) (ys:List (Tg α)):Prop:=
 ∃L R x,P.length+L.length=J/\(L++R).Perm (M.take i)/\(L++R).Pairwise (Rt lt)/\(∀y∈R,Rt lt x y)/\M[i]?=some x/\ys=P++L++[x]++R++M.drop (i+1)++S
theorem oh.first (P M S:List (Tg α)):oh lt P M S 1 (P++M++S):=by
 refine ⟨M.take 1,List.Perm.refl _,?_,by rw[List.append_assoc P (M.take 1),List.take_append_drop]⟩;cases M with
 |nil=>simp
 |cons x M=>simp
theorem CW.len {P M S:List (Tg α)} {i J:Nat} {ys:List (Tg α)} (h:CW lt P M S i J ys):ys.length=P.length+M.length+S.length:=by
 obtain ⟨L,R,x,_,hp,_,_,hx,rfl⟩:=h;have:=hp.length_eq
 have hi:i<M.length:=by
  rcases Nat.lt_or_ge i M.length with h|h
  ·exact h
  ·rw[List.getElem?_eq_none h]at hx;cases hx
 simp at this ⊢;omega
theorem oh.enter {P M S:List (Tg α)} {i:Nat} {ys:List (Tg α)} (h:oh lt P M S i ys) (hi:i<M.length):CW lt P M S i (P.length+i) ys:=by
 obtain ⟨C,hp,hs,rfl⟩:=h;have hl:=hp.length_eq;rw[List.length_take,Nat.min_eq_left (by omega)]at hl;refine ⟨C,[],M[i],by rw[hl],by simpa using hp,by simpa using hs,by simp,List.getElem?_eq_getElem hi,?_⟩;rw[List.drop_eq_getElem_cons hi];simp
theorem oh.last {P M S:List (Tg α)} {i:Nat} {ys:List (Tg α)} (h:oh lt P M S i ys) (hi:M.length<=i):∃C,C.Perm M/\C.Pairwise (Rt lt)/\ys=P++C++S:=by
 obtain ⟨C,hp,hs,rfl⟩:=h;rw[List.take_of_length_le hi]at hp;exact ⟨C,hp,hs,by rw[List.drop_eq_nil_of_le hi,List.append_nil]⟩
theorem CW.all (w:Weak lt) {P M S:List (Tg α)} {i J:Nat} {ys:List (Tg α)} (h:CW lt P M S i J ys) (ht:M.Pairwise fun x y=>x.tag<y.tag):
 ∃(hJ:J<ys.length),P.length<=J/\(J=P.length->oh lt P M S (i+1) ys)/\(P.length<J->∃(hJ2:J-1<ys.length),(lt (ys[J]).row (ys[J-1]).row=true->CW lt P M S i (J-1) (fQ ys J (J-1)))/\(lt (ys[J]).row (ys[J-1]).row=false->oh lt P M S (i+1) ys)):=by
 obtain ⟨L,R,x,hJ,hp,hs,hR,hx,rfl⟩:=h
 have hi:i<M.length:=by
  rcases Nat.lt_or_ge i M.length with h|h
  ·exact h
  ·rw[List.getElem?_eq_none h]at hx;cases hx
 have hxe:M[i]=x:=by rw[List.getElem?_eq_getElem hi]at hx;injection hx
 have hJl:J<(P++L++[x]++R++M.drop (i+1)++S).length:=by simp;omega
 have hfin:(∀y∈L,Rt lt y x)->oh lt P M S (i+1) (P++L++[x]++R++M.drop (i+1)++S):=fun hL=>by
  refine ⟨L++[x]++R,?_,z1L w hs hL hR,by simp⟩;rw[List.take_succ_eq_append_getElem hi,hxe];refine List.Perm.trans ?_ (hp.append_right [x]);rw[List.append_assoc,List.append_assoc];exact List.Perm.append_left L List.perm_append_comm
 refine ⟨hJl,by omega,fun e=>hfin (fun y hy=>?_),fun hlt=>?_⟩
 ·have:L=[]:=List.length_eq_zero_iff.1 (by omega)
  subst this;cases hy
 ·have hne:L≠[]:=fun e=>by subst e;simp at hJ;omega
  obtain ⟨L',y,rfl⟩:∃L' y,L=L'++[y]:=⟨L.dropLast,L.getLast hne,(List.dropLast_concat_getLast hne).symm⟩;have hJ':J=(P++L').length+1:=by simp at hJ ⊢;omega
  have eq1:P++(L'++[y])++[x]++R++M.drop (i+1)++S=(P++L')++[y,x]++(R++M.drop (i+1)++S):=by simp
  subst hJ';rw[Nat.add_sub_cancel]
  have g1:(P++(L'++[y])++[x]++R++M.drop (i+1)++S)[(P++L').length+1]?=some x:=by
   rw[eq1,List.append_assoc (P++L'),List.getElem?_append_right (by omega),show (P++L').length+1-(P++L').length=1 by omega];rfl
  have g0:(P++(L'++[y])++[x]++R++M.drop (i+1)++S)[(P++L').length]?=some y:=by
   rw[eq1,List.append_assoc (P++L'),List.getElem?_append_right (Nat.le_refl _),Nat.sub_self];rfl
  obtain ⟨h1,g1⟩:=List.getElem?_eq_some_iff.1 g1;obtain ⟨h0,g0⟩:=List.getElem?_eq_some_iff.1 g0;refine ⟨h0,fun hl=>?_,fun hl=>hfin (fun z hz=>?_)⟩
  ·rw[g1,g0]at hl
   rw[eq1,lH];refine ⟨L',y::R,x,by simp,?_,?_,?_,hx,by simp⟩
   ·rw[show L'++y::R=L'++[y]++R by simp];exact hp
   ·rw[show L'++y::R=L'++[y]++R by simp];exact hs
   ·intro z hz
    rcases List.mem_cons.1 hz with rfl|hz
    ·exact .inl hl
    ·exact hR z hz
  ·rw[g1,g0]at hl
   have hyM:y∈M.take i:=hp.subset (by simp)
   have hyt:y.tag<x.tag:=by
    rw[←List.take_append_drop i M]at ht;rw[List.pairwise_append]at ht;refine ht.2.2 y hyM x ?_;rw[List.drop_eq_getElem_cons hi,hxe];exact List.mem_cons_self
   have hyx:Rt lt y x:=Rt.mP w hyt hl;rcases List.mem_append.1 hz with hz|hz
   ·have hs2:=(List.pairwise_append.1 (List.pairwise_append.1 hs).1).2.2 z hz y (by simp)
    exact Rt.trans w hs2 hyx
   ·rw[List.mem_singleton.1 hz];exact hyx
end
section
variable {α : Type} {lt : α → α → Bool}
theorem Jf {l:List α} {i:Nat} {x:Tg α} (h:(bV l)[i]?=some x):x.tag=i/\i<l.length:=by
 obtain ⟨h1,e⟩:=List.getElem?_eq_some_iff.1 h;rw[lG]at e;subst e;rw[Rf]at h1;exact ⟨rfl,h1⟩
structure St1 (lt:α->α->Bool) (l:List α) (a:Nat) (ys:List (Tg α)):Prop where
 md:a % 20=0
 pm:ys.Perm (bV l)
 bk:dW lt 20 0 a ys
 tl:ys.drop a=(bV l).drop a
theorem St1.start (l:List α):St1 lt l 0 (bV l):=⟨rfl,List.Perm.refl _,fun i x _ h=>by omega,rfl⟩
theorem St1.len {l:List α} {a:Nat} {ys:List (Tg α)} (h:St1 lt l a ys):ys.length=l.length:=by
 rw[h.pm.length_eq,Rf]
theorem St1.cut {l:List α} {a:Nat} {ys:List (Tg α)} (h:St1 lt l a ys) {e:Nat} (h1:a<=e) (h2:e<=l.length) (h3:e<=a+20):∃P M S,ys=P++M++S/\P.length=a/\M.length=e-a/\S.length=l.length-e/\(M.Pairwise fun x y=>x.tag<y.tag)/\
 ∀C,C.Perm M->C.Pairwise (Rt lt)->(P++C++S).Perm (bV l)/\dW lt 20 0 e (P++C++S)/\(P++C++S).drop e=(bV l).drop e:=by
 have hl:=h.len;have ht:=Rf l;have hP:(ys.take a).length=a:=by rw[List.length_take];omega
 have hM:(((bV l).drop a).take (e-a)).length=e-a:=by rw[List.length_take,List.length_drop];omega
 have hM0:∀i x,(((bV l).drop a).take (e-a))[i]?=some x->x.tag=a+i/\i<e-a:=fun i x hx=>by
  have hi:i<e-a:=by
   have:=(List.getElem?_eq_some_iff.1 hx).1;rwa [hM]at this
  rw[List.getElem?_take_of_lt hi,List.getElem?_drop]at hx;exact ⟨(Jf hx).1,hi⟩
 have hy:ys=ys.take a++((bV l).drop a).take (e-a)++(bV l).drop e:=by
  conv=>lhs;rw[←List.take_append_drop a ys,h.tl]
  rw[List.append_assoc];congr 1
  conv=>lhs;rw[←List.take_append_drop (e-a) ((bV l).drop a)]
  rw[List.drop_drop,show a+(e-a)=e by omega]
 refine ⟨ys.take a,((bV l).drop a).take (e-a),(bV l).drop e,hy,hP,hM,by rw[List.length_drop,ht],?_,fun C hp hs=>?_⟩
 ·refine List.pairwise_iff_getElem.2 fun i j hi hj hij=>?_
  have e1:=(hM0 i _ (List.getElem?_eq_getElem hi)).1;have e2:=(hM0 j _ (List.getElem?_eq_getElem hj)).1;omega
 ·have hCl:C.length=e-a:=by rw[hp.length_eq,hM]
  refine ⟨?_,?_,?_⟩
  ·refine List.Perm.trans ?_ h.pm
   conv=>rhs;rw[hy]
   exact (List.Perm.append_left _ hp).append_right _
  ·refine dW.join (m:=a) (h.bk.same fun i _ hi=>?_) ?_ h.md (by decide)
   ·rw[VI,if_pos (by omega),List.getElem?_take_of_lt hi]
   ·have:=ED (bs':=20) (P:=ys.take a) (S:=(bV l).drop e) hp hs (by rw[hP];exact h.md) (by omega) (by decide) (fun x hx=>by
     obtain ⟨i,hi⟩:=List.mem_iff_getElem?.1 hx;obtain ⟨e1,e2⟩:=hM0 i x hi;rw[hP,hM];omega)
    rwa [hP,hM,show a+(e-a)=e by omega]at this
  ·rw[List.drop_append_of_le_length (by rw[List.length_append];omega),List.drop_eq_nil_of_le (by rw[List.length_append];omega),List.nil_append]
structure St2 (lt:α->α->Bool) (l:List α) (bs a:Nat) (ys:List (Tg α)):Prop where
 md:a % (2 * bs)=0
 pm:ys.Perm (bV l)
 bk:dW lt (2 * bs) 0 a ys
 tl:dW lt bs a l.length ys
structure St3 (lt:α->α->Bool) (l:List α) (bs:Nat) (ys:List (Tg α)):Prop where
 pm:ys.Perm (bV l)
 bk:dW lt bs 0 l.length ys
theorem St2.start {l:List α} {bs:Nat} {ys:List (Tg α)} (h:St3 lt l bs ys):St2 lt l bs 0 ys:=⟨Nat.zero_mod _,h.pm,fun i x _ h=>by omega,h.bk⟩
theorem St3.last (w:Weak lt) {l:List α} {bs:Nat} {ys:List (Tg α)} (h:St3 lt l bs ys) (hn:l.length<=bs):ys.map (fun x=>x.row)=bP lt l:=
 vX w h.pm (Qr h.bk hn (by rw[h.pm.length_eq,Rf]))
theorem St2.len {l:List α} {bs a:Nat} {ys:List (Tg α)} (h:St2 lt l bs a ys):ys.length=l.length:=by
 rw[h.pm.length_eq,Rf]
theorem St2.end_ {l:List α} {bs a:Nat} {ys:List (Tg α)} (h:St2 lt l bs a ys) (hb:0<bs) (hn:l.length<=a+bs):St3 lt l (2 * bs) ys:=
 ⟨h.pm,dW.join h.bk (MG h.tl hb h.md hn) h.md (by omega)⟩
theorem St2.cut {l:List α} {bs a:Nat} {ys:List (Tg α)} (h:St2 lt l bs a ys) (hb:0<bs) {e:Nat} (h1:a+bs<e) (h4:e=a+2 * bs∨(e=l.length/\e<=a+2 * bs)) (h3:e<=l.length):∃P A B S,ys=P++A++B++S/\P.length=a/\A.length=bs/\B.length=e-(a+bs)/\S.length=l.length-e/\Runs lt P A B S/\
 ∀C,kX lt A B C->(P++C++S).Perm (bV l)/\dW lt (2 * bs) 0 e (P++C++S)/\dW lt bs e l.length (P++C++S):=by
 have hl:=h.len;have h2:e<=a+2 * bs:=by omega
 obtain ⟨P,A,B,S,rfl,hP,hA,hB,hS⟩:∃P A B S,ys=P++A++B++S/\P.length=a/\A.length=bs/\B.length=e-(a+bs)/\S.length=l.length-e:=by
  refine ⟨ys.take a,(ys.drop a).take bs,(ys.drop (a+bs)).take (e-(a+bs)),ys.drop e,?_,by simp;omega,by simp;omega,by simp;omega,by simp;omega⟩;conv=>lhs;rw[←List.take_append_drop a ys,←List.take_append_drop bs (ys.drop a),List.drop_drop,←List.take_append_drop (e-(a+bs)) (ys.drop (a+bs)),List.drop_drop,show a+bs+(e-(a+bs))=e by omega]
  simp only[List.append_assoc]
 have hab:a % bs=0:=by
  have h5:2 * bs∣a:=Nat.dvd_of_mod_eq_zero h.md;exact Nat.mod_eq_zero_of_dvd (Nat.dvd_trans (Nat.dvd_mul_left bs 2) h5)
 refine ⟨P,A,B,S,rfl,hP,hA,hB,hS,?_,fun C hM=>?_⟩
 ·have:=h.tl
  rw[←hP]at this hab;exact MC this hb hab hA (by omega) (by omega)
 ·have hCl:=hM.1.length_eq
  rw[List.length_append]at hCl;refine ⟨?_,?_,?_⟩
  ·refine List.Perm.trans ?_ h.pm
   rw[List.append_assoc P A B];exact (List.Perm.append_left _ hM.1).append_right _
  ·refine dW.join (m:=a) (h.bk.same fun i _ hi=>?_) ?_ h.md (by omega)
   ·rw[VI,if_pos (by omega),List.append_assoc,List.append_assoc,List.getElem?_append_left (by omega)]
   ·have:=ED (bs':=2 * bs) (P:=P) (S:=S) hM.1 hM.2 (by rw[hP];exact h.md) (by rw[List.length_append];omega) (by omega) (fun x hx=>by
     rw[List.length_append,hP,hA,hB];obtain ⟨i,hi⟩:=List.mem_iff_getElem?.1 hx
     have hil:i<A.length+B.length:=by
      have:=(List.getElem?_eq_some_iff.1 hi).1;rwa [List.length_append]at this
     have hx2:(P++A++B++S)[a+i]?=some x:=by
      rw[List.append_assoc P A B,VI,if_neg (by omega),if_pos (by rw[List.length_append];omega),show a+i-P.length=i by omega];exact hi
     obtain ⟨t1,t2⟩:=nS h.tl (by omega) (by omega) hx2 hb
     obtain ⟨q,hq⟩:∃q,a=bs * q:=by
      obtain ⟨q,hq⟩:=Nat.dvd_of_mod_eq_zero hab;exact ⟨q,hq⟩
     by_cases hib:i<bs
     ·have e1:(a+i) / bs=q:=by rw[hq,Nat.mul_add_div hb,Nat.div_eq_of_lt hib,Nat.add_zero]
      rw[e1,←hq]at t1 t2;omega
     ·have e1:(a+i) / bs=q+1:=by
       rw[hq,Nat.mul_add_div hb,show i=bs * 1+(i-bs) by omega,Nat.mul_add_div hb,Nat.div_eq_of_lt (by omega)]
      rw[e1,Nat.mul_add,←hq,Nat.mul_one]at t1 t2;have hin:=(h.tl (a+i) x (by omega) (by omega) hx2).1
      have ht:x.tag<l.length:=by
       have:=h.pm.subset (List.mem_of_getElem? hx2);obtain ⟨j,hj⟩:=List.mem_iff_getElem?.1 this;have:=Jf hj;omega
      omega)
    rw[List.length_append,hP,hA,hB]at this;rwa [show a+(bs+(e-(a+bs)))=e by omega]at this
  ·refine (h.tl.sub (lo':=e) (by omega) (Nat.le_refl _)).same fun i hi _=>?_
   rw[VI,if_neg (by omega),if_neg (by omega),List.getElem?_append_right (by simp;omega)];congr 1
   simp
   omega
end
namespace Ps
structure kC (α:Type) where
 win:Int
 part:ByteArray
 rows:List α
def kC.key {α:Type} (g:kC α):Int×ByteArray:=(g.win,g.part)
def kC.add {α:Type} (g:kC α) (x:α):kC α:=⟨g.win,g.part,g.rows++[x]⟩
structure jm {α:Type} (key:α->Int×ByteArray) (gs:List (kC α)) (pre:List α):Prop where
 rows:∀g∈gs,g.rows=pre.filter fun x=>decide (key x=g.key)
 apart:gs.Pairwise fun a b=>a.key≠b.key
 all:∀x∈pre,∃g∈gs,key x=g.key
section
variable {α : Type} {key : α → Int × ByteArray} {gs gs' : List (kC α)} {pre : List α} {x : α}
theorem jm.nil:jm key [] ([]:List α):=⟨(fun g hg=>by cases hg),List.Pairwise.nil,(fun x hx=>by cases hx)⟩
theorem jm.perm (h:jm key gs pre) (p:gs'.Perm gs):jm key gs' pre:=
 ⟨fun g hg=>h.rows g (p.mem_iff.1 hg),h.apart.perm p.symm (fun e=>Ne.symm e),fun x hx=>by obtain ⟨g,hg,e⟩:=h.all x hx;exact ⟨g,p.mem_iff.2 hg,e⟩⟩
theorem jm.new (h:jm key gs pre) (hn:∀g∈gs,g.key≠key x):jm key (gs++[⟨(key x).1,(key x).2,[]⟩]) pre:=by
 refine ⟨fun g hg=>?_,?_,fun y hy=>?_⟩
 ·rcases List.mem_append.1 hg with hg|hg
  ·exact h.rows g hg
  ·rw[List.mem_singleton]at hg
   subst hg;symm
   rw[List.filter_eq_nil_iff];intro y hy;obtain ⟨g,hg,e⟩:=h.all y hy;rw[e];simp only[decide_eq_true_eq];exact hn g hg
 ·rw[List.pairwise_append]
  refine ⟨h.apart,List.pairwise_singleton _ _,fun a ha b hb=>?_⟩;rw[List.mem_singleton]at hb;subst hb;exact hn a ha
 ·obtain ⟨g,hg,e⟩:=h.all y hy
  exact ⟨g,List.mem_append_left _ hg,e⟩
theorem jm.add (h:jm key gs pre) {n:Nat} (hn:n<gs.length) (he:key x=gs[n].key):jm key (gs.set n (gs[n].add x)) (pre++[x]):=by
 have hk:∀i (hi:i<gs.length),((gs.set n (gs[n].add x))[i]'(by rw[List.length_set];exact hi)).key=gs[i].key:=fun i hi=>by
  rw[List.getElem_set];split
  ·next e=>subst e;rfl
  ·rfl
 refine ⟨fun g hg=>?_,?_,fun y hy=>?_⟩
 ·obtain ⟨i,hi,rfl⟩:=List.mem_iff_getElem.1 hg
  rw[List.length_set]at hi;have h1:=h.rows gs[i] (List.getElem_mem hi);rw[List.filter_append,hk i hi,List.getElem_set];by_cases e:n=i
  ·subst e
   rw[if_pos rfl,List.filter_cons,if_pos (by simpa using he)];show gs[n].rows++[x]=_
   rw[h1];rfl
  ·rw[if_neg e,List.filter_cons,if_neg ?_,List.filter_nil,List.append_nil]
   ·exact h1
   ·simp only[decide_eq_true_eq]
    rw[he];intro ee;rcases Nat.lt_or_ge n i with hl|hl
    ·exact List.pairwise_iff_getElem.1 h.apart n i hn hi hl ee
    ·exact List.pairwise_iff_getElem.1 h.apart i n hi hn (by omega) ee.symm
 ·rw[List.pairwise_iff_getElem]
  intro i j hi hj hij;rw[List.length_set]at hi hj;rw[hk i hi,hk j hj];exact List.pairwise_iff_getElem.1 h.apart i j hi hj hij
 ·rcases List.mem_append.1 hy with hy|hy
  ·obtain ⟨g,hg,e⟩:=h.all y hy
   obtain ⟨i,hi,rfl⟩:=List.mem_iff_getElem.1 hg;exact ⟨(gs.set n (gs[n].add x))[i]'(by rw[List.length_set];exact hi),List.getElem_mem _,by rw[hk i hi];exact e⟩
  ·rw[List.mem_singleton]at hy
   subst hy;exact ⟨(gs.set n (gs[n].add y))[n]'(by rw[List.length_set];exact hn),List.getElem_mem _,by rw[hk n hn];exact he⟩
end
def partT (ak:List bT) (aH:List ByteArray):ByteArray:=if gQ (aX ak aH)=true then fF (textF (aX ak aH)) else ⟨#[]⟩
def keyE (window:Int) (aH:List ByteArray) (x:aC):Int×ByteArray:=(x.time.tdiv window,partT x.ak aH)
theorem z2K (ak:List bT) (aH:List ByteArray):(partT ak aH).size<=300:=by
 unfold partT;split
 ·next h=>
  have:=Je h;show (textF (aX ak aH)).toArray.size<=300
  simpa using this
 ·exact Nat.zero_le _
end Ps
end Go.Proofs.YtdbfejfhpkakhaaGreat
