/- Contracts and plain laws that the last text rests on. Conditions: each theorem states its own. -/
import Derived.Test.YtdbfejfhpkakhaaGreatKKd2Q29
import Derived.Test.YtdbfejfhpkakhaaGreatKKd2Q3
import Derived.Test.YtdbfejfhpkakhaaGreatKKd2PbSlG
import Derived.Shelf.SlSortCmp.NoneTotal
import Derived.Test.YtdbfejfhpkakhaaGreatKKd2Q30
set_option maxRecDepth 100000
set_option maxHeartbeats 8000000
set_option linter.unusedVariables false
set_option linter.unusedSimpArgs false
namespace Go.Proofs.YtdbfejfhpkakhaaGreat
open Go.Shelf Go.RowKit Go.Sort
theorem Jt (x y:GV) (W:World):Calls Tryz.prog 85 #[.agg x.cs.toArray,.agg y.cs.toArray] W fun e w'=>e=.returned (.int .i64 (Cb x y))/\∃q os',w'=grow (W.drewN q) os':=by
 have HG:Hid (Cb x y=qM [eU x.g.win y.g.win,jB x.g.part y.g.part]):=ah rfl;obtain ⟨⟨w1,p1,r1⟩,A1,c1⟩:=x;obtain ⟨⟨w2,p2,r2⟩,A2,c2⟩:=y;unfold GV.cs;simp only at HG ⊢;have B1:=(aG.new W 135 #[.int .i64 w1,.string p1,.slice A1 r1.length c1]).alloc (.cells #[.int .i64 w2,.string p2,.slice A2 r2.length c2] 135);have B2:=aG.new (W.alloc (.cells #[.int .i64 w1,.string p1,.slice A1 r1.length c1] 135)) 135 #[.int .i64 w2,.string p2,.slice A2 r2.length c2];rw[World.size_alloc]at B2;have s0:((W.alloc (.cells #[.int .i64 w1,.string p1,.slice A1 r1.length c1] 135)).alloc (.cells #[.int .i64 w2,.string p2,.slice A2 r2.length c2] 135)).cell? ⟨W.heap.size,0,none⟩=some (.int .i64 w1):=B1.cell 0;have s1:((W.alloc (.cells #[.int .i64 w1,.string p1,.slice A1 r1.length c1] 135)).alloc (.cells #[.int .i64 w2,.string p2,.slice A2 r2.length c2] 135)).cell? ⟨W.heap.size,1,none⟩=some (.string p1):=B1.cell 1;have t0:((W.alloc (.cells #[.int .i64 w1,.string p1,.slice A1 r1.length c1] 135)).alloc (.cells #[.int .i64 w2,.string p2,.slice A2 r2.length c2] 135)).cell? ⟨W.heap.size+1,0,none⟩=some (.int .i64 w2):=B2.cell 0;have t1:((W.alloc (.cells #[.int .i64 w1,.string p1,.slice A1 r1.length c1] 135)).alloc (.cells #[.int .i64 w2,.string p2,.slice A2 r2.length c2] 135)).cell? ⟨W.heap.size+1,1,none⟩=some (.string p2):=B2.cell 1;clear B1 B2;go_enter Tryz.func85,Tryz.ntmps85;go_wp2_with fail;have HC:=ah (fun w=>Ez w1 w2 w);have HS:=ah (fun w=>LH p1 p2 w);generalize eU w1 w2=z1 at *;generalize jB p1 p2=z2 at *;have HO:=ah (JO (l:=[z1,z2]) (n:=2) (c:=2) ((Rd.Xt ((W.alloc (.cells #[.int .i64 w1,.string p1,.slice A1 r1.length c1] 135)).alloc (.cells #[.int .i64 w2,.string p2,.slice A2 r2.length c2] 135)) z1 z2).nx (by decide) ((Ch.refl (fun _=>False) _).drew)) rfl (by decide));simp only[World.size_alloc]at HO
 go_region_held3 (fun w'=>w'.cell? ⟨W.heap.size,0,none⟩=some (.int .i64 w1)/\w'.cell? ⟨W.heap.size,1,none⟩=some (.string p1)/\w'.cell? ⟨W.heap.size+1,0,none⟩=some (.int .i64 w2)/\w'.cell? ⟨W.heap.size+1,1,none⟩=some (.string p2)) (first|(with_reducible exact ⟨s0,s1,t0,t1⟩)|go_keep) ((first
  |(go_at_call 87;refine (HC.out _).mono ?_;rintro e w' ⟨rfl,rfl⟩)
  |(go_at_call 88;refine (HS.out _).mono ?_;rintro e w' ⟨rfl,rfl⟩)
  |(go_at_call 86;refine (HO.out).mono ?_;rintro e w' ⟨rfl,rfl⟩)))
 go_wp2_with fail;go_ret;exact ⟨by rw[HG.out];rfl,1,_,by rw[alloc_eq_grow,alloc_eq_grow,alloc_eq_grow,grow_grow,grow_grow];rfl⟩
theorem QH (w:World):(isAgg 135).run Tryz.prog w=.ok true w:=Tryz.isAgg135 w
theorem Jw (w:World):(Go.sizeOf 135).run Tryz.prog w=.ok 3 w:=Tryz.sizeOf135 w
theorem PX (x:GV):∀v∈x.cs,v.oneCell'=true:=by
 intro v hv;unfold GV.cs at hv;simp at hv;rcases hv with rfl|rfl|rfl<;>rfl
theorem sZ {W w:World} {A:Option Addr} {c:Nat} {l:List GV} (o:aF W w 135 3 (.slice A l.length c) l.length (fM l)) (hl:l.length<=1000000):
 Calls Tryz.prog 84 #[.slice A l.length c,.func (.func 85) #[] #[]] w fun e w'=>e=.returned (.tuple #[])/\∃m:List GV,m.Perm l/\m.Pairwise (fun x y=>ltOf Cb y x=false)/\
  Rd w' (fun k=>(Value.slice A l.length c).ownBlock=some k) 3 A m.length (fM m)/\Ch (fun k=>(Value.slice A l.length c).ownBlock=some k) w w':=by
 rcases o.own.2 with ⟨hv,hn⟩|⟨g,cap,cur,hv,_,hh,_⟩
 ·injection hv with h1 h2 h3
  subst h1;have:l=[]:=List.eq_nil_of_length_eq_zero hn;subst this;have hcon:=AnyF.slices_SortFunc_none Tryz.sortG none c (.func (.func 85) #[] #[]) w;change Calls Tryz.prog 84 _ _ _ at hcon;refine hcon.mono ?_;rintro e w' ⟨rfl,rfl⟩;exact ⟨rfl,[],List.Perm.refl _,List.Pairwise.nil,Rd.none_ _ _ _ _,Ch.refl _ _⟩
 ·injection hv with h1 h2 h3
  subst h1;have hb:aG w g 135 cur:=hh;have eg:∀args w,(callFunc 85 args).run Tryz.prog w=.ok (.enter 85 args) w:=enters_of Tryz.func85 (by kernel_rfl) rfl;have hH:=qV (cs:=GV.cs) (k:=3) GV.aQ (by decide) o;have hcon:=AnyQ.slices_SortFunc Tryz.sortG 3 QH Jw GV.cs GV.aQ PX Cb LP 85 #[] g 0 c l.toArray w eg (fun _ _ _ _ x y=>Jt x y _) hH hb.lt (by rw[List.size_toArray];omega);change Calls Tryz.prog 84 _ _ _ at hcon;rw[List.size_toArray]at hcon;refine hcon.mono ?_;rintro e w' ⟨rfl,d',n,os,hp,hs,rfl⟩;have hsz:d'.size=l.length:=by have:=hp.1;rw[this,List.size_toArray]
  have hH2:HoldsK GV.cs 3 (sortWorldK GV.cs 3 w g 0 n d' os) g 0 d':=holdsK_sortWorldK_c GV.cs 3 w g 0 l.toArray d' n os hH hb.lt (by rw[hsz,List.size_toArray]);refine ⟨rfl,d'.toList,DK (d:=l.toArray) (by rw[List.size_toArray];exact hp),DL hsz.symm hs,?_,?_⟩
  ·have h:=wG (k:=3) GV.aQ (by decide) hH2
   rw[Array.length_toList];exact h.more fun k hk=>by rw[hk];rfl
  ·exact (yD w g n d' os).mono fun i _ hi=>by rw[hi];rfl
end Go.Proofs.YtdbfejfhpkakhaaGreat
