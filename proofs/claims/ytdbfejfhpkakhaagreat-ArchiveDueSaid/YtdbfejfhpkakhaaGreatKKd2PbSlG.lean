/- Contracts and plain laws that the last text rests on. Conditions: each theorem states its own. -/
import Derived.Test.YtdbfejfhpkakhaaGreatKKd2Q3
import Derived.Shelf.SlSortCmp.NoneTotal
set_option maxRecDepth 100000
set_option linter.unusedVariables false
set_option linter.unusedSimpArgs false
namespace Go.Proofs.YtdbfejfhpkakhaaGreat
open Go.Shelf Go.RowKit Go.Sort
theorem Rd.Xt (w:World) (a b:Int):Rd (w.alloc (.cells #[.int .i64 a,.int .i64 b] 3)) (fun k=>k=w.heap.size) 1 (some ⟨w.heap.size,0,none⟩) 2 ([a,b].map (Value.int .i64)):=
 ⟨rfl,fun _=>⟨_,rfl,rfl,fun j u hu=>World.news_of_block (aG.new w 3 #[.int .i64 a,.int .i64 b]) j u (by simpa using hu)⟩⟩
/-! a row of structs as the kit's sort has it -/
section
variable {α : Type} [Inhabited α] {cs : α → List Value} {k : Nat}
theorem Ef (hk:∀x,(cs x).length=k) (h0:0<k) (d:Array α) (j:Nat) (hj:j<d.size * k):(d.toList.flatMap cs)[j]?=some (flatK cs k d)[j]! :=by
 have h1:j / k<d.size:=(Nat.div_lt_iff_lt_mul h0).2 hj;have h2:j % k<k:=Nat.mod_lt _ h0;have e:j / k * k+j % k=j:=Nat.div_add_mod' j k;have g:=oI (f:=cs) hk (l:=d.toList) (k:=j / k) (i:=j % k) (by simpa using h1) h2;rw[e]at g;rw[g,get_flatK cs k d j hj,Array.getElem_toList,getElem!_pos d (j / k) h1,getElem!_pos _ _ (by rw[hk];exact h2),List.getElem?_eq_getElem (by rw[hk];exact h2)]
theorem qV {W w:World} {e:TypeId} {g c:Nat} {l:List α} (hk:∀x,(cs x).length=k) (h0:0<k) (o:aF W w e k (.slice (some ⟨g,0,none⟩) l.length c) l.length (l.flatMap cs)):HoldsK cs k w g 0 l.toArray:=by
 intro j hj;rw[size_flatK,List.size_toArray]at hj;rcases o.own.2 with ⟨hn,_⟩|⟨g',cap,cur,hv,_,hh,_⟩
 ·cases hn
 ·injection hv with hv
  injection hv with hv;injection hv with hv;subst hv;have hb:aG w g e cur:=hh;refine ⟨?_,hb.frozen _⟩
  have hl:0<l.length:=by
   rcases Nat.eq_zero_or_pos l.length with h|h
   ·rw[h,Nat.zero_mul]at hj;omega
   ·exact h
  obtain ⟨ad,had,_,hc⟩:=o.rd.2 hl;injection had with had;subst had;have h1:=Ef hk h0 l.toArray j (by simpa using hj);have h2:=hc j _ h1;have ea:(Addr.mk g 0 none).add j=⟨g,0+j,none⟩:=by unfold Addr.add;split<;>simp_all
  rw[ea]at h2;exact h2
theorem wG {w:World} {g:Nat} {d:Array α} (hk:∀x,(cs x).length=k) (h0:0<k) (h:HoldsK cs k w g 0 d):Rd w (fun j=>j=g) k (some ⟨g,0,none⟩) d.size (d.toList.flatMap cs):=by
 refine ⟨by rw[zy hk,Array.length_toList],fun _=>⟨_,rfl,rfl,fun j u hu=>?_⟩⟩
 have hj:j<d.size * k:=by
  rcases Nat.lt_or_ge j (d.size * k) with hj|hj
  ·exact hj
  ·rw[List.getElem?_eq_none (by rw[zy hk,Array.length_toList];exact hj)]at hu
   cases hu
 have h1:=(h j (by rw[size_flatK];exact hj)).1;rw[Ef hk h0 d j hj]at hu;injection hu with hu;have ea:(Addr.mk g 0 none).add j=⟨g,0+j,none⟩:=by unfold Addr.add;split<;>simp_all
 rw[ea,←hu];exact h1
theorem yD (w:World) (g n:Nat) (d:Array α) (os:Array Obj):Ch (fun j=>j=g) w (sortWorldK cs k w g 0 n d os):=by
 unfold sortWorldK;refine ⟨rfl,rfl,rfl,?_,fun j hj hne=>?_⟩
 ·simp[grow,putRowK,putRow,mapBlock,Sort.ahead]
 ·simp only[grow,putRowK,putRow,mapBlock,Sort.ahead]
  rw[Array.getElem?_append_left (by simpa using hj),Array.getElem?_modify];rw[if_neg (fun e=>hne e.symm)]
end
theorem DK {α:Type} [Inhabited α] {d d':Array α} (h:PermIn 0 d.size d d'):d'.toList.Perm d.toList:=by
 obtain ⟨h1,_,h3⟩:=h;have e1:d.extract 0 d.size=d:=by simp
 have e2:d'.extract 0 d.size=d':=by rw[←h1];simp
 rw[e1,e2]at h3;exact h3
theorem DL {α:Type} [Inhabited α] {lt:α->α->Bool} {d:Array α} {n:Nat} (hn:n=d.size) (h:SortedIn lt 0 n d):d.toList.Pairwise (fun x y=>lt y x=false):=by
 rw[List.pairwise_iff_getElem];intro i j hi hj hij;have hi2:i<d.size:=by simpa using hi
 have hj2:j<d.size:=by simpa using hj
 have:=h i j (Nat.zero_le _) hij (by omega);rw[getElem!_pos d j hj2,getElem!_pos d i hi2]at this;simpa using this
end Go.Proofs.YtdbfejfhpkakhaaGreat
