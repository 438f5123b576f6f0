/- Contracts and plain laws that the last text rests on. Conditions: each theorem states its own. -/
import Derived.Test.YtdbfejfhpkakhaaGreatKePbLaw
import Derived.Lib.SmallJoins
import Derived.Deep.Slices
import Derived.Deep.Fields
import Derived.ChangeSame
import Derived.Test.YtdbfejfhpkakhaaGreatKeQ4
import Derived.Test.YtdbfejfhpkakhaaGreatKeQ2
import Derived.Test.YtdbfejfhpkakhaaGreatKeQ3
import Derived.BigRegion
set_option maxRecDepth 100000
set_option maxHeartbeats 8000000
set_option linter.unusedVariables false
namespace Go.Proofs.YtdbfejfhpkakhaaGreat
open Go.ChangeShapes Go.WideShapes Go.ChangeAt Go.RowKit Go.Deep
section
variable {H : Type} {enc : TypeId × Value → H} {P : Program} {w : World} {base : Nat} {spare : Nat → Bool} {held : Bool}
end
section
variable {H : Type} {enc : TypeId × Value → H} {W : World}
theorem Gx {n:Nat} {v:Value} {t:TypeId} {y:DataW H×List MemPlace} (ht:Tryz.prog.underlying t=some (.int .i64)) (h:DataW.trod enc Tryz.prog W 0 (fun _=>true) true n t [v]=some y):∃a:Int,v=.int .i64 a/\i64 a:=by
 obtain ⟨a,e,_,wf⟩:=DataW.trod_int ht h;simp at e;exact ⟨a,e,qJ wf⟩
end
def bZ.cs (x:bZ):List Value:=[.string x.name,.string x.value]
def lbl (l:List bZ):List Value:=l.flatMap bZ.cs
structure RV where
 row:aC
 A:Option Addr
 c:Nat
def RV.cs (x:RV):List Value:=[.int .i64 x.row.kind,.int .i64 x.row.time,.slice x.A x.row.ak.length x.c,.string x.row.text,.int .i64 x.row.value,.bool x.row.null,.int .i64 x.row.maker,.int .i64 x.row.seq,.int .i64 x.row.place]
def dI (l:List RV):List Value:=l.flatMap RV.cs
theorem bZ.aO (x:bZ):x.cs.length=2:=rfl
theorem RV.aO (x:RV):x.cs.length=9:=rfl
theorem MV (l:List bZ):(lbl l).length=l.length * 2:=DN bZ.aO l
theorem sD (l:List RV):(dI l).length=l.length * 9:=DN RV.aO l
def RV.ok (w:World) (D:Nat->Prop) (x:RV):Prop:=Rd w D 2 x.A x.row.ak.length (lbl x.row.ak)/\x.row.ak.length<=x.c/\x.c<=maxLen
theorem RV.ok.ch {w w':World} {D D' S:Nat->Prop} {x:RV} (h:x.ok w D) (hc:Ch S w w') (hS:∀k,k<w.heap.size->D k->¬S k) (hD:∀k,D k->D' k):x.ok w' D':=
 ⟨(h.1.ch (by decide) hc hS).more hD,h.2⟩
theorem mM {w:World} {D:Nat->Prop} {A:Option Addr} {n k:Nat} {l:List bZ} (h:Rd w D 2 A n (lbl l)) (hk:k<l.length):∃ad,A=some ad/\D ad.block/\w.cell? (ad.add (k * 2))=some (.string l[k].name)/\w.cell? ⟨(ad.add (k * 2)).block,(ad.add (k * 2)).off+1,none⟩=some (.string l[k].value):=by
 have hn:0<n:=by have:=h.1;rw[MV]at this;omega
 obtain ⟨ad,rfl,hb,hc⟩:=h.2 hn;exact ⟨ad,rfl,hb,hc (k * 2+0) _ (uH bZ.aO hk (by decide)),z09 0 (hc (k * 2+1) _ (uH bZ.aO hk (by decide)))⟩
theorem z14 {w:World} {D:Nat->Prop} {A:Option Addr} {n k:Nat} {l:List RV} (h:Rd w D 9 A n (dI l)) (hk:k<l.length):∃ad,A=some ad/\D ad.block/\w.cell? (ad.add (k * 9))=some (.int .i64 l[k].row.kind)/\
 w.cell? ⟨(ad.add (k * 9)).block,(ad.add (k * 9)).off+1,none⟩=some (.int .i64 l[k].row.time)/\w.cell? ⟨(ad.add (k * 9)).block,(ad.add (k * 9)).off+2,none⟩=some (.slice l[k].A l[k].row.ak.length l[k].c)/\
 w.cell? ⟨(ad.add (k * 9)).block,(ad.add (k * 9)).off+3,none⟩=some (.string l[k].row.text)/\w.cell? ⟨(ad.add (k * 9)).block,(ad.add (k * 9)).off+4,none⟩=some (.int .i64 l[k].row.value)/\
 w.cell? ⟨(ad.add (k * 9)).block,(ad.add (k * 9)).off+5,none⟩=some (.bool l[k].row.null)/\w.cell? ⟨(ad.add (k * 9)).block,(ad.add (k * 9)).off+6,none⟩=some (.int .i64 l[k].row.maker)/\
 w.cell? ⟨(ad.add (k * 9)).block,(ad.add (k * 9)).off+7,none⟩=some (.int .i64 l[k].row.seq)/\w.cell? ⟨(ad.add (k * 9)).block,(ad.add (k * 9)).off+8,none⟩=some (.int .i64 l[k].row.place):=by
 have hn:0<n:=by have:=h.1;rw[sD]at this;omega
 obtain ⟨ad,rfl,hb,hc⟩:=h.2 hn;have g:=fun i (hi:i<9) u (hu:(l[k].cs)[i]?=some u)=>hc (k * 9+i) u ((uH RV.aO hk hi).trans hu);exact ⟨ad,rfl,hb,g 0 (by decide) _ rfl,z09 0 (g 1 (by decide) _ rfl),z09 1 (g 2 (by decide) _ rfl),z09 2 (g 3 (by decide) _ rfl),z09 3 (g 4 (by decide) _ rfl),z09 4 (g 5 (by decide) _ rfl),z09 5 (g 6 (by decide) _ rfl),z09 6 (g 7 (by decide) _ rfl),z09 7 (g 8 (by decide) _ rfl)⟩
def bZ.small (x:bZ):Prop:=x.name.size<=9223372036854775807/\x.value.size<=9223372036854775807
def aC.small (x:aC):Prop:=(∀y∈x.ak,y.small)/\x.text.size<=9223372036854775807/\i64 x.kind/\i64 x.time/\i64 x.value/\i64 x.maker/\i64 x.seq/\i64 x.place
def aJ (x:RV):Value:=.agg #[.int .i64 x.row.kind,.int .i64 x.row.time,.slice x.A x.row.ak.length x.c,.string x.row.text,.int .i64 x.row.value,.bool x.row.null,.int .i64 x.row.maker,.int .i64 x.row.seq,.int .i64 x.row.place]
section
variable {H : Type} {enc : TypeId × Value → H} {W : World}
variable {args : Array Value} {ds : List (DataW H)} {ps : List MemPlace}
end
end Go.Proofs.YtdbfejfhpkakhaaGreat
namespace Go.Proofs.YtdbfejfhpkakhaaGreat
open Go.RowKit
theorem Tryz.CQ:(Tryz.prog.info? 71).map (fun i=>(i.zero,i.size,i.bytes))=some (some (.agg #[.string ⟨#[]⟩,.string ⟨#[]⟩]),2,32):=by kernel_rfl
theorem Tryz.iL:(Tryz.prog.info? 79).map (fun i=>(i.zero,i.size,i.bytes))=some (some (.agg #[.int .i64 0,.int .i64 0,.slice none 0 0,.string ⟨#[]⟩,.int .i64 0,.bool false,.int .i64 0,.int .i64 0,.int .i64 0]),9,96):=by kernel_rfl
theorem CB (l:List bZ):∀u∈lbl l,u.oneCell'=true:=by
 intro u hu;obtain ⟨x,_,hx⟩:=List.mem_flatMap.1 hu;simp[bZ.cs]at hx;rcases hx with rfl|rfl<;>rfl
theorem Tq (l:List RV):∀u∈dI l,u.oneCell'=true:=by
 intro u hu;obtain ⟨x,_,hx⟩:=List.mem_flatMap.1 hu;simp[RV.cs]at hx;rcases hx with rfl|rfl|rfl|rfl|rfl|rfl|rfl|rfl|rfl<;>rfl
theorem qp {b:Nat} {t:TypeId}:∀(vs xs pre:List Value) (w:World),aG w b t (pre++xs).toArray->xs.length=vs.length->aG (dK w b pre.length vs) b t (pre++vs).toArray
 |[],xs,pre,w,h,hl=>by
  have:xs=[]:=List.eq_nil_of_length_eq_zero hl;subst this;exact h
 |v::vs,[],pre,w,h,hl=>by simp at hl
 |v::vs,x::xs,pre,w,h,hl=>by
  have h1:=h.aS pre.length v;have e:(pre++x::xs).toArray.setIfInBounds pre.length v=((pre++[v])++xs).toArray:=(by simp);rw[e]at h1;have h2:=qp vs xs (pre++[v]) _ h1 (by simpa using hl);rw[List.length_append,List.length_singleton]at h2;have e2:(pre++[v]++vs)=pre++v::vs:=(by simp);rw[e2]at h2;exact h2
theorem UA {w:World} {b:Nat} {t:TypeId} {xs:Array Value} (h:aG w b t xs) (vs:List Value) (hl:xs.size=vs.length):aG (dK w b 0 vs) b t vs.toArray:=by
 have:=qp vs xs.toList [] w (by simpa using h) (by simpa using hl);simpa using this
def PW (w:World) (l:List bZ) (e:Ending) (w':World):Prop:=
 ∃A c,e=.returned (.slice A l.length c)/\Rd w' (fun k=>w.heap.size<=k/\k<w'.heap.size) 2 A l.length (lbl l)/\Nx w w'/\l.length<=c/\c<=maxLen
section
variable {w : World} {D : Nat → Prop} {A : Option Addr} {n c : Nat} {l : List bZ}
theorem sV (h:Rd w D 2 A n (lbl l)) (hl:l.length=n) (hn:n<=4398046511104):
 Calls Tryz.prog 77 #[.slice A n c] w (PW w l):=by
 obtain ⟨i0,hi0,hz0,hz1,hz2⟩:=info_parts Tryz.CQ;have Hlen:=ah hl;clear hl;have h':Rd (w.alloc (.cells #[] 71)) D 2 A n (lbl l):=h.nx (by omega) ((Ch.refl _ w).alloc _);have heq:=fun w:World=>Lib.run_eql_slice_nil (P:=Tryz.prog) w 55 71 A n c 0 0 Tryz.underlying55;rcases A with _|ad
 ·have h0:n=0:=by
   rcases Nat.eq_zero_or_pos n with h0|h0
   ·exact h0
   ·obtain ⟨_,h,_⟩:=h.2 h0;cases h
  have hx:l=[]:=List.eq_nil_of_length_eq_zero (by rw[Hlen.out,h0]);have Hx:=ah hx;clear h0 hx;go_enter Tryz.func77,Tryz.ntmps77;go_wp2_with fail;go_ret;rw[PW,Hx.out];exact ⟨none,0,rfl,Rd.none_ _ _ _ _,Ch.refl _ _,by simp,by simp⟩
 ·go_enter Tryz.func77,Tryz.ntmps77
  go_wp2_with (at_builtin;refine z04 _ rfl (.tmp 5) (.tmp 6) _ rfl w.heap.size 71 i0 _ 2 32 Tryz.underlying55 hi0 hz0 hz1 hz2 rfl (by omega) (.slice (some ⟨w.heap.size,0,none⟩) 0 0) 0 [] rfl (World.ownsRow_made w #[] 0 (Nat.le_refl _) (by simp[maxLen]) rfl) D (some ad) n c (lbl l) rfl h' (CB l) (by simp only[maxLen];omega) (by omega) (by simp) ?_;intro v' w1 hown hg hat;obtain ⟨k,cap,hv,hk,hk1,hrd,hnx,ho⟩:=XY hown hg hat;clear hown hg hat;rw[hv];clear hv)
  go_ret;obtain ⟨A',c',hv,hc1,hc2⟩:=iJ ho;injection hv with _ _ hv;subst hv;exact ⟨some ⟨k,0,none⟩,cap,by simp[Hlen.out],by rw[Hlen.out];exact hrd.more fun j e=>by omega,hnx,by rw[Hlen.out];exact hc1,hc2⟩
def RX (w:World) (x:RV) (e:Ending) (w':World):Prop:=
 ∃y:RV,e=.returned (aJ y)/\y.row=x.row/\y.ok w' (fun k=>w.heap.size<=k/\k<w'.heap.size)/\Nx w w'
end
section
variable {w : World} {D : Nat → Prop} {x : RV}
theorem qx (h:x.ok w D) (hl:x.row.ak.length<=4398046511104):Calls Tryz.prog 53 #[aJ x] w (RX w x):=by
 obtain ⟨⟨kind,time,ak,text,value,null,maker,seq,place⟩,A1,c1⟩:=x;obtain ⟨h1,h2,h3⟩:=h;unfold aJ;simp only at h1 h2 h3 hl ⊢;have HR:=ah (fun w' (hn:Nx w w')=>sV (c:=c1) (h1.nx (by decide) hn) rfl hl);clear h1;go_enter Tryz.func53,Tryz.ntmps53;go_wp2_with fail;have E_:=ah (((Ch.refl (fun _=>False) w).alloc (.cells #[.int .i64 kind,.int .i64 time,.slice A1 ak.length c1,.string text,.int .i64 value,.bool null,.int .i64 maker,.int .i64 seq,.int .i64 place] 79)).alloc (.cells #[.int .i64 0,.int .i64 0,.slice none 0 0,.string ⟨#[]⟩,.int .i64 0,.bool false,.int .i64 0,.int .i64 0,.int .i64 0] 79));refine (HR.out _ E_.out).mono ?_;rintro e w1 ⟨A2,c2,rfl,rd,nx,hc2,hm2⟩;have b1:aG w1 w.heap.size 79 #[.int .i64 kind,.int .i64 time,.slice A1 ak.length c1,.string text,.int .i64 value,.bool null,.int .i64 maker,.int .i64 seq,.int .i64 place]:=((aG.new w _ _).alloc _).nx nx;have b2:aG w1 (w.heap.size+1) 79 #[.int .i64 0,.int .i64 0,.slice none 0 0,.string ⟨#[]⟩,.int .i64 0,.bool false,.int .i64 0,.int .i64 0,.int .i64 0]:=(by have:=aG.new (w.alloc (.cells #[.int .i64 kind,.int .i64 time,.slice A1 ak.length c1,.string text,.int .i64 value,.bool null,.int .i64 maker,.int .i64 seq,.int .i64 place] 79)) 79 #[.int .i64 0,.int .i64 0,.slice none 0 0,.string ⟨#[]⟩,.int .i64 0,.bool false,.int .i64 0,.int .i64 0,.int .i64 0];simpa using this.nx nx);have NX:=ah (E_.out.tr nx);have RD:=ah (rd.more (D':=fun k=>w.heap.size+2<=k/\k<w1.heap.size) (by intro k hk;simpa using hk));have f1:=b1.frozen;have f2:=b2.frozen;have d1:=b1.cell;have d2:=b2.cell;have hs:=ah (show w.heap.size+1<w1.heap.size from b2.lt);have B2:=ah b2;clear rd nx HR E_ b1 b2;go_wp2_with fail;obtain ⟨w3,hw3⟩:∃w3,w3=w1.setCell ⟨w.heap.size,2,none⟩ (.slice A2 ak.length c2):=⟨_,rfl⟩;obtain ⟨w2,hW⟩:∃w2,w2=dK w3 (w.heap.size+1) 0 (RV.cs ⟨⟨kind,time,ak,text,value,null,maker,seq,place⟩,A2,c2⟩):=⟨_,rfl⟩;have Zi:Ch (fun k=>k=w.heap.size) w1 w3:=by rw[hw3];exact Ch.setCell (S:=fun k=>k=w.heap.size) (Ch.refl _ w1) (p:=⟨w.heap.size,2,none⟩) (fun _=>rfl) _
 have b3:aG w3 (w.heap.size+1) 79 #[.int .i64 0,.int .i64 0,.slice none 0 0,.string ⟨#[]⟩,.int .i64 0,.bool false,.int .i64 0,.int .i64 0,.int .i64 0]:=by rw[hw3];exact B2.out.far (by simp) _
 have hch:Ch (fun k=>k=w.heap.size+1) w3 w2:=by rw[hW];exact OH _ _ _
 have b4:aG w2 (w.heap.size+1) 79 #[.int .i64 kind,.int .i64 time,.slice A2 ak.length c2,.string text,.int .i64 value,.bool null,.int .i64 maker,.int .i64 seq,.int .i64 place]:=by rw[hW];exact UA b3 _ rfl
 have d:=b4.cell;simp only[RV.cs,dK,hw3]at hW;rw[←hW];clear hW d1 d2 f1 f2 b3 b4 B2 hw3;refine bodyPost_ret (v:=aJ ⟨⟨kind,time,ak,text,value,null,maker,seq,place⟩,A2,c2⟩) (by simp[results,Tryz.results53,go_sem,aJ,d]) rfl ?_;have hall:Ch (fun k=>k=w.heap.size∨k=w.heap.size+1) w1 w2:=(Zi.mono fun _ _ h=>.inl h).trans hch fun _ _ h=>.inr h;have hsz:=hall.size;exact ⟨_,rfl,rfl,⟨(RD.out.ch (by decide) hall fun k _ hk=>by omega).more fun k hk=>by have:=hs.out;omega,hc2,hm2⟩,NX.out.trans hall fun i hi hs=>by rcases hs with rfl|rfl<;>omega⟩
end
end Go.Proofs.YtdbfejfhpkakhaaGreat
namespace Go.Proofs.YtdbfejfhpkakhaaGreat
section
variable {α : Type} {lt : α → α → Bool}
def dP (lt:α->α->Bool) (bs lo hi:Nat) (ys:List (Tg α)):Prop:=
 ∀i x,lo<=i->i<hi->ys[i]?=some x->x.tag / bs=i / bs/\∀j y,i<j->j<hi->i / bs=j / bs->ys[j]?=some y->Rt lt x y
theorem dP.sub {bs lo hi lo' hi':Nat} {ys:List (Tg α)} (h:dP lt bs lo hi ys) (h1:lo<=lo') (h2:hi'<=hi):dP lt bs lo' hi' ys:=
 fun i x a b hx=>⟨(h i x (by omega) (by omega) hx).1,fun j y c d e hy=>(h i x (by omega) (by omega) hx).2 j y c (by omega) e hy⟩
theorem dP.same {bs lo hi:Nat} {ys zs:List (Tg α)} (h:dP lt bs lo hi ys) (e:∀i,lo<=i->i<hi->zs[i]?=ys[i]?):dP lt bs lo hi zs:=
 fun i x a b hx=>by
  rw[e i a b]at hx;exact ⟨(h i x a b hx).1,fun j y c d f hy=>(h i x a b hx).2 j y c d f (by rw[e j (by omega) d]at hy;exact hy)⟩
theorem dP.join {bs lo m hi:Nat} {ys:List (Tg α)} (h1:dP lt bs lo m ys) (h2:dP lt bs m hi ys) (hm:m % bs=0) (hb:0<bs):dP lt bs lo hi ys:=by
 intro i x a b hx;by_cases c:i<m
 ·refine ⟨(h1 i x a c hx).1,fun j y d e f hy=>?_⟩
  by_cases g:j<m
  ·exact (h1 i x a c hx).2 j y d g f hy
  ·exfalso
   have q1:i / bs<m / bs:=by
    rw[Nat.div_lt_iff_lt_mul hb,Nat.div_mul_cancel (Nat.dvd_of_mod_eq_zero hm)];exact c
   have q2:m / bs<=j / bs:=Nat.div_le_div_right (by omega);omega
 ·exact h2 i x (by omega) b hx
theorem dP.one {bs a b:Nat} {ys:List (Tg α)} (ha:a % bs=0) (hb:b<=a+bs) (hbs:0<bs) (ht:∀i x,a<=i->i<b->ys[i]?=some x->a<=x.tag/\x.tag<b) (hs:∀i j x y,a<=i->i<j->j<b->ys[i]?=some x->ys[j]?=some y->Rt lt x y):dP lt bs a b ys:=by
 have hdiv:∀k,a<=k->k<b->k / bs=a / bs:=fun k h1 h2=>by
  have h3:a=bs * (a / bs):=by have:=Nat.div_add_mod a bs;omega
  have h4:a / bs<=k / bs:=Nat.div_le_div_right h1
  have h5:k / bs<a / bs+1:=by
   rw[Nat.div_lt_iff_lt_mul hbs,Nat.succ_mul,Nat.mul_comm];omega
  omega
 intro i x h1 h2 hx;obtain ⟨t1,t2⟩:=ht i x h1 h2 hx;exact ⟨by rw[hdiv x.tag t1 t2,hdiv i h1 h2],fun j y h3 h4 _ hy=>hs i j x y h1 h3 h4 hx hy⟩
theorem Tv {P C S:List (Tg α)} {i:Nat}:(P++C++S)[i]?=if i<P.length then P[i]? else if i<P.length+C.length then C[i-P.length]? else S[i-P.length-C.length]?:=by
 rw[List.append_assoc];by_cases h1:i<P.length
 ·rw[if_pos h1,List.getElem?_append_left h1]
 ·rw[if_neg h1,List.getElem?_append_right (by omega)]
  by_cases h2:i<P.length+C.length
  ·rw[if_pos h2,List.getElem?_append_left (by omega)]
  ·rw[if_neg h2,List.getElem?_append_right (by omega)]
theorem Dq {bs':Nat} {P M C S:List (Tg α)} (hp:C.Perm M) (hs:C.Pairwise (Rt lt)) (ha:P.length % bs'=0) (hb:M.length<=bs') (hbs:0<bs') (ht:∀x∈M,P.length<=x.tag/\x.tag<P.length+M.length):dP lt bs' P.length (P.length+M.length) (P++C++S):=by
 have hl:=hp.length_eq;refine dP.one ha (by omega) hbs (fun i x h1 h2 hx=>?_) (fun i j x y h1 h2 h3 hx hy=>?_)
 ·rw[Tv,if_neg (by omega),if_pos (by omega)]at hx
  exact ht x (hp.subset (List.mem_of_getElem? hx))
 ·rw[Tv,if_neg (by omega),if_pos (by omega)]at hx hy
  obtain ⟨q1,e1⟩:=List.getElem?_eq_some_iff.1 hx;obtain ⟨q2,e2⟩:=List.getElem?_eq_some_iff.1 hy;rw[←e1,←e2];exact List.pairwise_iff_getElem.1 hs _ _ q1 q2 (by omega)
theorem nK {bs lo hi:Nat} {ys:List (Tg α)} (h:dP lt bs lo hi ys) {i:Nat} {x:Tg α} (h1:lo<=i) (h2:i<hi) (hx:ys[i]?=some x) (hb:0<bs):bs * (i / bs)<=x.tag/\x.tag<bs * (i / bs)+bs:=by
 have e:=(h i x h1 h2 hx).1;have d:=Nat.div_add_mod x.tag bs;have m:=Nat.mod_lt x.tag hb;rw[e]at d;omega
theorem Kt {bs n:Nat} {P A B S:List (Tg α)} (h:dP lt bs P.length n (P++A++B++S)) (hb:0<bs) (ha:P.length % bs=0) (hA:A.length=bs) (hB:B.length<=bs) (hn:P.length+A.length+B.length<=n):
 Runs lt P A B S:=by
 have hdA:∀k,P.length<=k->k<P.length+bs->k / bs=P.length / bs:=fun k h1 h2=>by
  have h3:=Nat.div_add_mod P.length bs;have h4:P.length / bs<=k / bs:=Nat.div_le_div_right h1
  have h5:k / bs<P.length / bs+1:=by
   rw[Nat.div_lt_iff_lt_mul hb,Nat.succ_mul,Nat.mul_comm];omega
  omega
 have hdB:∀k,P.length+bs<=k->k<P.length+bs+bs->k / bs=P.length / bs+1:=fun k h1 h2=>by
  have h3:=Nat.div_add_mod P.length bs
  have h4:P.length / bs+1<=k / bs:=by
   rw[Nat.le_div_iff_mul_le hb,Nat.succ_mul,Nat.mul_comm];omega
  have h5:k / bs<P.length / bs+1+1:=by
   rw[Nat.div_lt_iff_lt_mul hb,Nat.succ_mul,Nat.succ_mul,Nat.mul_comm];omega
  omega
 have gA:∀i (hi:i<A.length),(P++A++B++S)[P.length+i]?=some A[i]:=fun i hi=>by
  rw[List.append_assoc,List.append_assoc,List.getElem?_append_right (by omega),List.getElem?_append_left (by omega),Nat.add_sub_cancel_left,List.getElem?_eq_getElem hi]
 have gB:∀i (hi:i<B.length),(P++A++B++S)[P.length+A.length+i]?=some B[i]:=fun i hi=>by
  rw[List.append_assoc,List.append_assoc,List.getElem?_append_right (by omega),List.getElem?_append_right (by omega),List.getElem?_append_left (by omega),List.getElem?_eq_getElem (by omega)];congr 2
  omega
 refine ⟨List.pairwise_iff_getElem.2 fun i j hi hj hij=>?_,List.pairwise_iff_getElem.2 fun i j hi hj hij=>?_,fun x hx y hy=>?_⟩
 ·exact (h (P.length+i) _ (by omega) (by omega) (gA i hi)).2 (P.length+j) _ (by omega) (by omega) (by rw[hdA (P.length+i) (by omega) (by omega),hdA (P.length+j) (by omega) (by omega)]) (gA j hj)
 ·exact (h (P.length+A.length+i) _ (by omega) (by omega) (gB i hi)).2 (P.length+A.length+j) _ (by omega) (by omega) (by rw[hdB (P.length+A.length+i) (by omega) (by omega),hdB (P.length+A.length+j) (by omega) (by omega)]) (gB j hj)
 ·obtain ⟨i,hi,rfl⟩:=List.mem_iff_getElem.1 hx
  obtain ⟨j,hj,rfl⟩:=List.mem_iff_getElem.1 hy;have t1:=(nK h (by omega) (by omega) (gA i hi) hb).2;have t2:=(nK h (by omega) (by omega) (gB j hj) hb).1;rw[hdA _ (by omega) (by omega)]at t1;rw[hdB _ (by omega) (by omega),Nat.mul_succ]at t2;omega
theorem Kv {bs a n:Nat} {ys:List (Tg α)} (h:dP lt bs a n ys) (hb:0<bs) (ha:a % (2 * bs)=0) (hn:n<=a+bs):dP lt (2 * bs) a n ys:=by
 have hab:a % bs=0:=by
  have:bs∣a:=Nat.dvd_trans ⟨2,by omega⟩ (Nat.dvd_of_mod_eq_zero ha);exact Nat.mod_eq_zero_of_dvd this
 have hd:∀k,a<=k->k<a+bs->k / bs=a / bs:=fun k h1 h2=>by
  have h3:=Nat.div_add_mod a bs;have h4:a / bs<=k / bs:=Nat.div_le_div_right h1
  have h5:k / bs<a / bs+1:=by
   rw[Nat.div_lt_iff_lt_mul hb,Nat.succ_mul,Nat.mul_comm];omega
  omega
 intro i x h1 h2 hx;have e:=(h i x h1 h2 hx).1;refine ⟨?_,fun j y h3 h4 _ hy=>(h i x h1 h2 hx).2 j y h3 h4 (by rw[hd i h1 (by omega),hd j (by omega) (by omega)]) hy⟩;rw[Nat.mul_comm 2 bs,←Nat.div_div_eq_div_mul,←Nat.div_div_eq_div_mul,e]
theorem NQ {bs n:Nat} {ys:List (Tg α)} (h:dP lt bs 0 n ys) (hn:n<=bs) (hl:ys.length=n):ys.Pairwise (Rt lt):=by
 refine List.pairwise_iff_getElem.2 fun i j hi hj hij=>?_;exact (h i _ (by omega) (by omega) (List.getElem?_eq_getElem hi)).2 j _ hij (by omega) (by rw[Nat.div_eq_of_lt (by omega),Nat.div_eq_of_lt (by omega)]) (List.getElem?_eq_getElem hj)
end
end Go.Proofs.YtdbfejfhpkakhaaGreat
namespace Go.Proofs.YtdbfejfhpkakhaaGreat
open Go.RowKit
def SA (w:World) (g:Nat) (A:Option Addr) (cap:Nat) (zs:List RV):Prop:=
 (A=some ⟨g,0,none⟩∨zs=[])/\w.ownsRow 0 79 9 (.slice A zs.length cap) zs.length (dI zs)
theorem SA.form {w:World} {g cap:Nat} {A:Option Addr} {zs:List RV} (h:SA w g A cap zs) {k:Nat} (hk:k<zs.length):A=some ⟨g,0,none⟩:=by
 rcases h.1 with e|e
 ·exact e
 ·subst e;simp at hk
theorem SA.cell {w:World} {g cap:Nat} {A:Option Addr} {zs:List RV} (h:SA w g A cap zs) {k:Nat} (hk:k<zs.length) (i:Nat) (hi:i<9):w.cell? ⟨g,k * 9+i,none⟩=(zs[k].cs)[i]?:=by
 have e:=h.form hk;subst e;have hl:=sD zs;have hh:k * 9+i<zs.length * 9:=by omega
 rw[h.2.cellAt (k * 9+i) hh];exact uH RV.aO hk hi
def yc (w:World) (g k:Nat) (x:RV):Prop:=
 w.cell? ⟨g,k * 9,none⟩=some (.int .i64 x.row.kind)/\w.cell? ⟨g,k * 9+1,none⟩=some (.int .i64 x.row.time)/\w.cell? ⟨g,k * 9+2,none⟩=some (.slice x.A x.row.ak.length x.c)/\w.cell? ⟨g,k * 9+3,none⟩=some (.string x.row.text)/\
 w.cell? ⟨g,k * 9+4,none⟩=some (.int .i64 x.row.value)/\w.cell? ⟨g,k * 9+5,none⟩=some (.bool x.row.null)/\w.cell? ⟨g,k * 9+6,none⟩=some (.int .i64 x.row.maker)/\w.cell? ⟨g,k * 9+7,none⟩=some (.int .i64 x.row.seq)/\w.cell? ⟨g,k * 9+8,none⟩=some (.int .i64 x.row.place)
theorem SA.at_ {w:World} {g cap:Nat} {A:Option Addr} {zs:List RV} (h:SA w g A cap zs) {k:Nat} (hk:k<zs.length):yc w g k zs[k]:=
 ⟨h.cell hk 0 (by decide),h.cell hk 1 (by decide),h.cell hk 2 (by decide),h.cell hk 3 (by decide),h.cell hk 4 (by decide),h.cell hk 5 (by decide),h.cell hk 6 (by decide),h.cell hk 7 (by decide),h.cell hk 8 (by decide)⟩
theorem SA.frozen {w:World} {g cap:Nat} {A:Option Addr} {zs:List RV} (h:SA w g A cap zs) {k:Nat} (hk:k<zs.length) (i:Nat):w.frozen? ⟨g,i,none⟩=false:=by
 have e:=h.form hk;subst e;exact h.2.frozenAt i
theorem SA.nx {w w':World} {g cap:Nat} {A:Option Addr} {zs:List RV} (h:SA w g A cap zs) (hn:Nx w w'):SA w' g A cap zs:=
 ⟨h.1,h.2.kept (row:=none) ⟨hn.os,hn.tape,hn.output,hn.size,fun k hk _=>hn.block k hk (fun h=>h)⟩ (by cases A<;>simp[Value.ownBlock])⟩
theorem SA.two {w:World} {g cap:Nat} {A:Option Addr} {zs:List RV} (h:SA w g A cap zs) {i j:Nat} (hi:i<zs.length) (hj:j<zs.length) (x y:RV):
 SA (dK (dK w g (i * 9) x.cs) g (j * 9) y.cs) g A cap ((zs.set i x).set j y)/\Ch (fun k=>k=g) w (dK (dK w g (i * 9) x.cs) g (j * 9) y.cs):=by
 refine ⟨⟨.inl (h.form hi),?_⟩,(OH _ _ _).trans (OH _ _ _) fun _ _ e=>e⟩;have e:=h.form hi;subst e;have h2:=Yc y.cs _ _ (j * 9) (Yc x.cs _ _ (i * 9) h.2);have e1:kZ (dI zs) (i * 9) x.cs=dI (zs.set i x):=wY RV.aO hi x;rw[e1]at h2;have e2:kZ (dI (zs.set i x)) (j * 9) y.cs=dI ((zs.set i x).set j y):=wY RV.aO (by simpa using hj) y;rw[e2]at h2;simpa using h2
theorem SA.swap {w:World} {g cap:Nat} {A:Option Addr} {zs:List RV} (h:SA w g A cap zs) {i j:Nat} (hi:i<zs.length) (hj:j<zs.length) {w':World} (e:w'=dK (dK w g (i * 9) (zs[j]).cs) g (j * 9) (zs[i]).cs):
 SA w' g A cap (fJ zs i j)/\Ch (fun k=>k=g) w w':=by
 rw[Xi hi hj,e];exact h.two hi hj _ _
section
variable {w : World} {g cap : Nat} {A : Option Addr} {ys : List RV}
theorem oD (h:SA w g A cap ys) (hn:ys.length<=1000000) (a b n:Nat) (h1:a+n<=b) (h2:b+n<=ys.length) (F:Value):
 Calls Tryz.prog 227 #[.slice A ys.length cap,.int .i64 a,.int .i64 b,.int .i64 n,F] w fun e w'=>e=.returned (.tuple #[])/\SA w' g A cap (nZ ys a b n)/\Ch (fun k=>k=g) w w':=by
 go_enter Tryz.func227,Tryz.ntmps227;go_wp2_with fail;go_loopw [10] (fun i wr=>∃k:Nat,k<=n/\i=.int .i64 (k:Int)/\SA wr g A cap (nZ ys a b k)/\Ch (fun k=>k=g) w wr) (fun i _=>n-(intOf i).toNat)
 case atStart=>exact ⟨0,Nat.zero_le _,rfl,h,Ch.refl _ _⟩
 case round=>
  obtain ⟨w4,rfl⟩:∃w4:World,w4=wr:=⟨_,rfl⟩;obtain ⟨k,hk,rfl,hs,hc⟩:=hrel;by_cases hlt:k<n
  ·have hl:=Us ys a b k
   have hi:a+k<(nZ ys a b k).length:=(by omega);have hj:b+k<(nZ ys a b k).length:=(by omega);have e:=hs.form hi;subst e;have ci:=hs.cell hi;have cj:=hs.cell hj;have cf:=hs.frozen hi;have HS:=ah (fun w'=>hs.swap hi hj (w':=w'));have HC:=ah hc;have Hh:=ah h;have Hl:=ah hl;have ij:a+k≠b+k:=(by omega);clear hs hc h hl;generalize (nZ ys a b k)[a+k]=x at *;generalize (nZ ys a b k)[b+k]=y at *;obtain ⟨⟨kind,time,ak,text,value,null,maker,seq,place⟩,A1,c1⟩:=x;obtain ⟨⟨kind2,bH,bW,bT,value2,bV,aV,seq2,aU⟩,A2,c2⟩:=y;have p0:w4.cell? ⟨g,(a+k) * 9,none⟩=_:=ci 0 (by decide);have p1:=ci 1 (by decide);have p2:=ci 2 (by decide);have p3:=ci 3 (by decide);have p4:=ci 4 (by decide);have p5:=ci 5 (by decide);have p6:=ci 6 (by decide);have p7:=ci 7 (by decide);have p8:=ci 8 (by decide);have q0:w4.cell? ⟨g,(b+k) * 9,none⟩=_:=cj 0 (by decide);have q1:=cj 1 (by decide);have q2:=cj 2 (by decide);have q3:=cj 3 (by decide);have q4:=cj 4 (by decide);have q5:=cj 5 (by decide);have q6:=cj 6 (by decide);have q7:=cj 7 (by decide);have q8:=cj 8 (by decide);simp only[RV.cs,List.getElem?_cons_zero,List.getElem?_cons_succ]at p0 p1 p2 p3 p4 p5 p6 p7 p8 q0 q1 q2 q3 q4 q5 q6 q7 q8;clear ci cj;go_wp2_with fail;go_region
   generalize hW:World.setCell _ _ _=W5;obtain ⟨g1,g2⟩:=HS.out W5 hW.symm;clear hW p0 p1 p2 p3 p4 p5 p6 p7 p8 q0 q1 q2 q3 q4 q5 q6 q7 q8 cf HS;go_wp2_with fail;go_roundw
   case rel=>
    exact ⟨k+1,by omega,by go_num,g1,(HC.out.trans g2 fun _ _ e=>e).drew⟩
   case measure=>simp[intOf];omega
  ·obtain rfl:k=n:=by omega
   go_wp2_with fail;go_end0
   exact ⟨rfl,hs,hc⟩
end
section
variable {w : World} {g cap : Nat} {A : Option Addr} {ys : List RV}
theorem zA (h:SA w g A cap ys) (hn:ys.length<=1000000) (a m b:Nat) (h1:a<m) (h2:m<b) (h3:b<=ys.length) (F:Value):
 Calls Tryz.prog 214 #[.slice A ys.length cap,.int .i64 a,.int .i64 m,.int .i64 b,F] w fun e w'=>e=.returned (.tuple #[])/\SA w' g A cap (rotL ys a m b)/\Ch (fun k=>k=g) w w':=by
 go_enter Tryz.func214,Tryz.ntmps214;go_wp2_with fail;go_loopw [10,11] (fun s10 s11 wr=>∃(i j:Nat) (zs:List RV),0<i/\0<j/\i<=m/\m+j<=ys.length/\s10=.int .i64 (i:Int)/\s11=.int .i64 (j:Int)/\zs.length=ys.length/\SA wr g A cap zs/\Ch (fun k=>k=g) w wr/\rotL zs (m-i) m (m+j)=rotL ys a m b) (fun s10 s11 _=>(intOf s10).toNat+(intOf s11).toNat)
 case atStart=>exact ⟨m-a,b-m,ys,by omega,by omega,by omega,by omega,by go_num,by go_num,rfl,h,Ch.refl _ _,by congr 1<;>omega⟩
 case round=>
  obtain ⟨w4,rfl⟩:∃w4:World,w4=wr:=⟨_,rfl⟩;obtain ⟨i,j,zs,hi,hj,him,hjm,rfl,rfl,hl,hs,hc,he⟩:=hrel;have Sl:=ah (fun a b n h1 h2=>oD hs (by omega) a b n h1 h2 F);rw[hl]at Sl;have HC:=ah hc;have HE:=ah he;clear hs hc he h;by_cases hlt:j<i
  ·have ht:((i:Int) !=(j:Int))=true:=by simp;omega
   have HR:=ah (Ij zs hlt him (by omega));have HK:=ah (Sl.out (m-i) m j (by omega) (by omega));clear Sl;have hz:m-i+j=m-(i-j):=(by omega);rw[hz]at HR;have e1:((m-i:Nat):Int)=(m:Int)-i:=(by omega);rw[e1]at HK;go_wp2_with fail;refine HK.out.mono ?_;rintro e w5 ⟨rfl,s5,c5⟩;have S5:=ah s5;have C5:=ah c5;clear s5 c5;go_wp2_with fail;go_roundw
   case rel=>exact ⟨i-j,j,_,by omega,hj,by omega,hjm,by go_num,rfl,(Us _ _ _ _).trans hl,S5.out,HC.out.trans C5.out fun _ _ e=>e,HR.out.trans HE.out⟩
   case measure=>simp[intOf];omega
  ·by_cases hlt2:i<j
   ·have ht:((i:Int) !=(j:Int))=true:=by simp;omega
    have HR:=ah (Ei zs hlt2 him (by omega));have HK:=ah (Sl.out (m-i) (m+j-i) i (by omega) (by omega));clear Sl;have e1:((m-i:Nat):Int)=(m:Int)-i:=(by omega);have e2:((m+j-i:Nat):Int)=(m:Int)+j-i:=(by omega);rw[e1,e2]at HK;go_wp2_with fail;refine HK.out.mono ?_;rintro e w5 ⟨rfl,s5,c5⟩;have S5:=ah s5;have C5:=ah c5;clear s5 c5;go_wp2_with fail;go_roundw
    case rel=>exact ⟨i,j-i,_,hi,by omega,him,by omega,rfl,by go_num,(Us _ _ _ _).trans hl,S5.out,HC.out.trans C5.out fun _ _ e=>e,HR.out.trans HE.out⟩
    case measure=>simp[intOf];omega
   ·obtain rfl:i=j:=by omega
    have HR:=ah (Ik zs him (by omega));have HK:=ah (Sl.out (m-i) m i (by omega) (by omega));clear Sl;have e1:((m-i:Nat):Int)=(m:Int)-i:=(by omega);rw[e1]at HK;go_wp2_with fail;refine HK.out.mono ?_;rintro e w5 ⟨rfl,s5,c5⟩;rw[HR.out,HE.out]at s5;have S5:=ah s5;have C5:=ah c5;clear s5 c5;go_wp2_with fail;go_end0
    exact ⟨rfl,S5.out,HC.out.trans C5.out fun _ _ e=>e⟩
end
end Go.Proofs.YtdbfejfhpkakhaaGreat
namespace Go.Proofs.YtdbfejfhpkakhaaGreat
section
variable {α : Type} {lt : α → α → Bool}
def nU (lt:α->α->Bool) (P M S:List (Tg α)) (i:Nat) (ys:List (Tg α)):Prop:=
 ∃C,C.Perm (M.take i)/\C.Pairwise (Rt lt)/\ys=P++C++M.drop i++S
def Bd (lt:α->α->Bool) (P M S:List (Tg α)) (i J:Nat) (ys:List (Tg α)):Prop:=
 ∃L R x,P.length+L.length=J/\(L++R).Perm (M.take i)/\(L++R).Pairwise (Rt lt)/\(∀y∈R,Rt lt x y)/\M[i]?=some x/\ys=P++L++[x]++R++M.drop (i+1)++S
theorem nU.first (P M S:List (Tg α)):nU lt P M S 1 (P++M++S):=by
 refine ⟨M.take 1,List.Perm.refl _,?_,by rw[List.append_assoc P (M.take 1),List.take_append_drop]⟩;cases M with
 |nil=>simp
 |cons x M=>simp
theorem Bd.len {P M S:List (Tg α)} {i J:Nat} {ys:List (Tg α)} (h:Bd lt P M S i J ys):ys.length=P.length+M.length+S.length:=by
 obtain ⟨L,R,x,_,hp,_,_,hx,rfl⟩:=h;have:=hp.length_eq
 have hi:i<M.length:=by
  rcases Nat.lt_or_ge i M.length with h|h
  ·exact h
  ·rw[List.getElem?_eq_none h]at hx;cases hx
 simp at this ⊢;omega
theorem nU.enter {P M S:List (Tg α)} {i:Nat} {ys:List (Tg α)} (h:nU lt P M S i ys) (hi:i<M.length):Bd lt P M S i (P.length+i) ys:=by
 obtain ⟨C,hp,hs,rfl⟩:=h;have hl:=hp.length_eq;rw[List.length_take,Nat.min_eq_left (by omega)]at hl;refine ⟨C,[],M[i],by rw[hl],by simpa using hp,by simpa using hs,by simp,List.getElem?_eq_getElem hi,?_⟩;rw[List.drop_eq_getElem_cons hi];simp
theorem nU.last {P M S:List (Tg α)} {i:Nat} {ys:List (Tg α)} (h:nU lt P M S i ys) (hi:M.length<=i):∃C,C.Perm M/\C.Pairwise (Rt lt)/\ys=P++C++S:=by
 obtain ⟨C,hp,hs,rfl⟩:=h;rw[List.take_of_length_le hi]at hp;exact ⟨C,hp,hs,by rw[List.drop_eq_nil_of_le hi,List.append_nil]⟩
theorem Bd.all (w:Weak lt) {P M S:List (Tg α)} {i J:Nat} {ys:List (Tg α)} (h:Bd lt P M S i J ys) (ht:M.Pairwise fun x y=>x.tag<y.tag):
 ∃(hJ:J<ys.length),P.length<=J/\(J=P.length->nU lt P M S (i+1) ys)/\(P.length<J->∃(hJ2:J-1<ys.length),(lt (ys[J]).row (ys[J-1]).row=true->Bd lt P M S i (J-1) (fJ ys J (J-1)))/\(lt (ys[J]).row (ys[J-1]).row=false->nU lt P M S (i+1) ys)):=by
 obtain ⟨L,R,x,hJ,hp,hs,hR,hx,rfl⟩:=h
 have hi:i<M.length:=by
  rcases Nat.lt_or_ge i M.length with h|h
  ·exact h
  ·rw[List.getElem?_eq_none h]at hx;cases hx
 have hxe:M[i]=x:=by rw[List.getElem?_eq_getElem hi]at hx;injection hx
 have Zn:J<(P++L++[x]++R++M.drop (i+1)++S).length:=by simp;omega
 have hfin:(∀y∈L,Rt lt y x)->nU lt P M S (i+1) (P++L++[x]++R++M.drop (i+1)++S):=fun hL=>by
  refine ⟨L++[x]++R,?_,Yv w hs hL hR,by simp⟩;rw[List.take_succ_eq_append_getElem hi,hxe];refine List.Perm.trans ?_ (hp.append_right [x]);rw[List.append_assoc,List.append_assoc];exact List.Perm.append_left L List.perm_append_comm
 refine ⟨Zn,by omega,fun e=>hfin (fun y hy=>?_),fun hlt=>?_⟩
 ·have:L=[]:=List.length_eq_zero_iff.1 (by omega)
  subst this;cases hy
 ·have hne:L≠[]:=fun e=>by subst e;simp at hJ;omega
  obtain ⟨L',y,rfl⟩:∃L' y,L=L'++[y]:=⟨L.dropLast,L.getLast hne,(List.dropLast_concat_getLast hne).symm⟩;have hJ':J=(P++L').length+1:=by simp at hJ ⊢;omega
  have eq1:P++(L'++[y])++[x]++R++M.drop (i+1)++S=(P++L')++[y,x]++(R++M.drop (i+1)++S):=by simp
  subst hJ';rw[Nat.add_sub_cancel]
  have g1:(P++(L'++[y])++[x]++R++M.drop (i+1)++S)[(P++L').length+1]?=some x:=by
   rw[eq1,List.append_assoc (P++L'),List.getElem?_append_right (by omega),show (P++L').length+1-(P++L').length=1 by omega];rfl
  have g0:(P++(L'++[y])++[x]++R++M.drop (i+1)++S)[(P++L').length]?=some y:=by
   rw[eq1,List.append_assoc (P++L'),List.getElem?_append_right (Nat.le_refl _),Nat.sub_self];rfl
  obtain ⟨h1,g1⟩:=List.getElem?_eq_some_iff.1 g1;obtain ⟨h0,g0⟩:=List.getElem?_eq_some_iff.1 g0;refine ⟨h0,fun hl=>?_,fun hl=>hfin (fun z hz=>?_)⟩
  ·rw[g1,g0]at hl
   rw[eq1,kS];refine ⟨L',y::R,x,by simp,?_,?_,?_,hx,by simp⟩
   ·rw[show L'++y::R=L'++[y]++R by simp];exact hp
   ·rw[show L'++y::R=L'++[y]++R by simp];exact hs
   ·intro z hz
    rcases List.mem_cons.1 hz with rfl|hz
    ·exact .inl hl
    ·exact hR z hz
  ·rw[g1,g0]at hl
   have hyM:y∈M.take i:=hp.subset (by simp)
   have hyt:y.tag<x.tag:=by
    rw[←List.take_append_drop i M]at ht;rw[List.pairwise_append]at ht;refine ht.2.2 y hyM x ?_;rw[List.drop_eq_getElem_cons hi,hxe];exact List.mem_cons_self
   have hyx:Rt lt y x:=Rt.lV w hyt hl;rcases List.mem_append.1 hz with hz|hz
   ·have hs2:=(List.pairwise_append.1 (List.pairwise_append.1 hs).1).2.2 z hz y (by simp)
    exact Rt.trans w hs2 hyx
   ·rw[List.mem_singleton.1 hz];exact hyx
end
namespace Ps
structure pq (α:Type) where
 win:Int
 part:ByteArray
 rows:List α
def pq.key {α:Type} (g:pq α):Int×ByteArray:=(g.win,g.part)
def pq.add {α:Type} (g:pq α) (x:α):pq α:=⟨g.win,g.part,g.rows++[x]⟩
structure rE {α:Type} (key:α->Int×ByteArray) (gs:List (pq α)) (pre:List α):Prop where
 rows:∀g∈gs,g.rows=pre.filter fun x=>decide (key x=g.key)
 apart:gs.Pairwise fun a b=>a.key≠b.key
 all:∀x∈pre,∃g∈gs,key x=g.key
section
variable {α : Type} {key : α → Int × ByteArray} {gs gs' : List (pq α)} {pre : List α} {x : α}
theorem rE.nil:rE key [] ([]:List α):=⟨(fun g hg=>by cases hg),List.Pairwise.nil,(fun x hx=>by cases hx)⟩
theorem rE.perm (h:rE key gs pre) (p:gs'.Perm gs):rE key gs' pre:=
 ⟨fun g hg=>h.rows g (p.mem_iff.1 hg),h.apart.perm p.symm (fun e=>Ne.symm e),fun x hx=>by obtain ⟨g,hg,e⟩:=h.all x hx;exact ⟨g,p.mem_iff.2 hg,e⟩⟩
theorem rE.new (h:rE key gs pre) (hn:∀g∈gs,g.key≠key x):rE key (gs++[⟨(key x).1,(key x).2,[]⟩]) pre:=by
 refine ⟨fun g hg=>?_,?_,fun y hy=>?_⟩
 ·rcases List.mem_append.1 hg with hg|hg
  ·exact h.rows g hg
  ·rw[List.mem_singleton]at hg
   subst hg;symm
   rw[List.filter_eq_nil_iff];intro y hy;obtain ⟨g,hg,e⟩:=h.all y hy;rw[e];simp only[decide_eq_true_eq];exact hn g hg
 ·rw[List.pairwise_append]
  refine ⟨h.apart,List.pairwise_singleton _ _,fun a ha b hb=>?_⟩;rw[List.mem_singleton]at hb;subst hb;exact hn a ha
 ·obtain ⟨g,hg,e⟩:=h.all y hy
  exact ⟨g,List.mem_append_left _ hg,e⟩
theorem rE.add (h:rE key gs pre) {n:Nat} (hn:n<gs.length) (he:key x=gs[n].key):rE key (gs.set n (gs[n].add x)) (pre++[x]):=by
 have hk:∀i (hi:i<gs.length),((gs.set n (gs[n].add x))[i]'(by rw[List.length_set];exact hi)).key=gs[i].key:=fun i hi=>by
  rw[List.getElem_set];split
  ·next e=>subst e;rfl
  ·rfl
 refine ⟨fun g hg=>?_,?_,fun y hy=>?_⟩
 ·obtain ⟨i,hi,rfl⟩:=List.mem_iff_getElem.1 hg
  rw[List.length_set]at hi;have h1:=h.rows gs[i] (List.getElem_mem hi);rw[List.filter_append,hk i hi,List.getElem_set];by_cases e:n=i
  ·subst e
   rw[if_pos rfl,List.filter_cons,if_pos (by simpa using he)];show gs[n].rows++[x]=_
   rw[h1];rfl
  ·rw[if_neg e,List.filter_cons,if_neg ?_,List.filter_nil,List.append_nil]
   ·exact h1
   ·simp only[decide_eq_true_eq]
    rw[he];intro ee;rcases Nat.lt_or_ge n i with hl|hl
    ·exact List.pairwise_iff_getElem.1 h.apart n i hn hi hl ee
    ·exact List.pairwise_iff_getElem.1 h.apart i n hi hn (by omega) ee.symm
 ·rw[List.pairwise_iff_getElem]
  intro i j hi hj hij;rw[List.length_set]at hi hj;rw[hk i hi,hk j hj];exact List.pairwise_iff_getElem.1 h.apart i j hi hj hij
 ·rcases List.mem_append.1 hy with hy|hy
  ·obtain ⟨g,hg,e⟩:=h.all y hy
   obtain ⟨i,hi,rfl⟩:=List.mem_iff_getElem.1 hg;exact ⟨(gs.set n (gs[n].add x))[i]'(by rw[List.length_set];exact hi),List.getElem_mem _,by rw[hk i hi];exact e⟩
  ·rw[List.mem_singleton]at hy
   subst hy;exact ⟨(gs.set n (gs[n].add y))[n]'(by rw[List.length_set];exact hn),List.getElem_mem _,by rw[hk n hn];exact he⟩
end
def partT (ak:List bZ) (aK:List ByteArray):ByteArray:=if gK (bJ ak aK)=true then vY (textF (bJ ak aK)) else ⟨#[]⟩
def keyE (window:Int) (aK:List ByteArray) (x:aC):Int×ByteArray:=(x.time.tdiv window,partT x.ak aK)
theorem Yf (ak:List bZ) (aK:List ByteArray):(partT ak aK).size<=300:=by
 unfold partT;split
 ·next h=>
  have:=GN h;show (textF (bJ ak aK)).toArray.size<=300
  simpa using this
 ·exact Nat.zero_le _
end Ps
end Go.Proofs.YtdbfejfhpkakhaaGreat
