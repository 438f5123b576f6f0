/- Contracts and plain laws that the last text rests on. Conditions: each theorem states its own. -/
import Derived.Test.YtdbfejfhpkakhaaGreatKKd2Q22
import Derived.Test.YtdbfejfhpkakhaaGreatKKd2Q13
import Derived.IntWalk
import Derived.Deep.RegionLaw
import Derived.BigRegion
import Derived.Deep.RegionHeld3
import Derived.Test.YtdbfejfhpkakhaaGreatKKd2Q20
import Derived.Test.YtdbfejfhpkakhaaGreatKKd2Q2
import Derived.Test.YtdbfejfhpkakhaaGreatKKd2Q21
import Derived.Laws.BitsAllLaws
import Derived.Test.YtdbfejfhpkakhaaGreatKKd2Q6
import Derived.Test.YtdbfejfhpkakhaaGreatKKd2PbOrdR
import Derived.RangeFuncBox
import Derived.RangeFuncLeaves
import Derived.Shelf.Abstract
import Derived.WalkKit
import Derived.OwnWalkIn
import Derived.TacticsInMore
import Derived.LoopNIn
import Derived.LoopIn
import Derived.Test.YtdbfejfhpkakhaaGreatKKd2Q12
set_option maxRecDepth 100000
set_option maxHeartbeats 16000000
set_option linter.unusedVariables false
set_option linter.unusedSimpArgs false
namespace Go.Proofs.YtdbfejfhpkakhaaGreat
open Go.ChangeShapes Go.WideShapes Go.ChangeAt Go.RowKit Go.Deep
theorem Tryz.PK:(Tryz.prog.info? 57).map (fun i=>(i.zero,i.size,i.bytes))=some (some (.agg #[.int .i64 0,.int .i64 0,.slice none 0 0,.string ⟨#[]⟩,.int .i64 0,.bool false]),6,72):=by kernel_rfl
def RV.rs (x:RV):List Value:=[.int .i64 x.row.kind,.int .i64 x.row.time,.slice x.A x.row.ak.length x.c,.string x.row.text,.int .i64 x.row.value,.bool x.row.null]
theorem RV.Aj (x:RV):x.rs.length=6:=rfl
def oD (l:List RV):List Value:=l.flatMap RV.rs
theorem OQ (l:List RV):(oD l).length=l.length * 6:=zy RV.Aj l
theorem AA (a b:List RV):oD (a++b)=oD a++oD b:=by simp[oD]
theorem OM (l:List RV):∀u∈oD l,u.oneCell'=true:=by
 intro u hu;obtain ⟨x,_,hx⟩:=List.mem_flatMap.1 hu;simp[RV.rs]at hx;rcases hx with rfl|rfl|rfl|rfl|rfl|rfl<;>rfl
theorem tY {w:World} {D:Nat->Prop} {A:Option Addr} {n k:Nat} {l:List RV} (h:Rd w D 6 A n (oD l)) (hk:k<l.length):∃ad,A=some ad/\D ad.block/\w.cell? (ad.add (k * 6))=some (.int .i64 l[k].row.kind)/\
 w.cell? ⟨(ad.add (k * 6)).block,(ad.add (k * 6)).off+1,none⟩=some (.int .i64 l[k].row.time)/\w.cell? ⟨(ad.add (k * 6)).block,(ad.add (k * 6)).off+2,none⟩=some (.slice l[k].A l[k].row.ak.length l[k].c)/\
 w.cell? ⟨(ad.add (k * 6)).block,(ad.add (k * 6)).off+3,none⟩=some (.string l[k].row.text)/\w.cell? ⟨(ad.add (k * 6)).block,(ad.add (k * 6)).off+4,none⟩=some (.int .i64 l[k].row.value)/\
 w.cell? ⟨(ad.add (k * 6)).block,(ad.add (k * 6)).off+5,none⟩=some (.bool l[k].row.null):=by
 have hn:0<n:=by have:=h.1;rw[OQ]at this;omega
 obtain ⟨ad,rfl,hb,hc⟩:=h.2 hn;have g:=fun i (hi:i<6) u (hu:(l[k].rs)[i]?=some u)=>hc (k * 6+i) u ((oI RV.Aj hk hi).trans hu);exact ⟨ad,rfl,hb,g 0 (by decide) _ rfl,z09 0 (g 1 (by decide) _ rfl),z09 1 (g 2 (by decide) _ rfl),z09 2 (g 3 (by decide) _ rfl),z09 3 (g 4 (by decide) _ rfl),z09 4 (g 5 (by decide) _ rfl)⟩
structure dF where
 maker:Int
 seq:Int
 A:Option Addr
 c:Nat
 l:List RV
def dF.cs (b:dF):List Value:=[.int .i64 b.maker,.int .i64 b.seq,.slice b.A b.l.length b.c]
def oG (b:dF):Value:=.agg #[.int .i64 b.maker,.int .i64 b.seq,.slice b.A b.l.length b.c]
def uT (l:List dF):List Value:=l.flatMap dF.cs
theorem dF.aQ (x:dF):x.cs.length=3:=rfl
theorem Qn (l:List dF):(uT l).length=l.length * 3:=zy dF.aQ l
def dF.named (b:dF):Prop:=∀i (h:i<b.l.length),(b.l[i]).row.maker=b.maker/\(b.l[i]).row.seq=b.seq/\(b.l[i]).row.place=(i:Int)
structure dF.ok (w:World) (D:Nat->Prop) (b:dF):Prop where
 rd:Rd w D 6 b.A b.l.length (oD b.l)
 ok:∀x∈b.l,x.ok w D
 mid:∀x∈b.l,x.row.mid
 named:b.named
 cap:b.l.length<=b.c
 max:b.c<=maxLen
theorem dF.ok.ch {w w':World} {D D' S:Nat->Prop} {b:dF} (h:b.ok w D) (hc:Ch S w w') (hS:∀k,k<w.heap.size->D k->¬S k) (hD:∀k,D k->D' k):b.ok w' D':=
 ⟨(h.rd.ch (by decide) hc hS).more hD,fun x hx=>(h.ok x hx).ch hc hS hD,h.mid,h.named,h.cap,h.max⟩
theorem dF.ok.nx {w w':World} {D:Nat->Prop} {b:dF} (h:b.ok w D) (hc:Nx w w'):b.ok w' D:=h.ch hc (fun _ _ _ hf=>hf) fun _ hd=>hd
end Go.Proofs.YtdbfejfhpkakhaaGreat
namespace Go.Proofs.YtdbfejfhpkakhaaGreat
open Go.RowKit
def BuTo (W w:World) (v:Value) (xs:List Nat) (z:Nat) (e:Ending) (w':World):Prop:=
 ∃v',e=.returned v'/\aF W w' 5 1 v' (xs++aB z).length (bl (xs++aB z))/\Moved w w' v v'
theorem UM {W w:World} {v:Value} {xs:List Nat} {z:Nat} (ho:aF W w 5 1 v xs.length (bl xs)) (hz:z<9223372036854775808) (hs:xs.length<=100000000):
 Calls Tryz.prog 135 #[v,.int .i64 (z:Int)] w (BuTo W w v xs z):=by
 obtain ⟨i0,hi0,hz0,hz1,hz2⟩:=info_parts Tryz.info5;have Vk:=ah (fun (w:World)=>z10 z w (by omega));have hpl:=(z08 (n:=z) (by omega)).2;have HO:=ah ho;have kw:IntKind.u64.wrap (z:Int)=(z:Int):=by rw[IntKind.wrap_u64];omega
 obtain ⟨A,c,rfl, -, -⟩:=ho.form;clear ho;go_enter Tryz.func135,Tryz.ntmps135;go_wp2_with fail;refine (Vk.out _).mono ?_;rintro e w3 ⟨k3,cap3,rfl,o3,hk3,hk3',hc3, -⟩;have N3:=ah o3.nx;have OV:=ah (HO.out.tr N3.out);have R3:=ah o3.tZ;clear o3;go_wp2_with (at_builtin;refine z05 rfl (.tmp 5) (.tmp 8) _ rfl 5 i0 _ 1 1 Tryz.underlying47 hi0 hz0 hz1 hz2 rfl (by omega) rfl OV.out _ (some ⟨k3,0,none⟩) (aB z).length cap3 (bl (aB z)) rfl R3.out (jk _) (by simp only[maxLen];omega) (by omega) ?_;intro v5 w5 o5 m5;have O5:=ah o5;have M5:=ah m5;clear o5 m5)
 go_ret;refine ⟨_,rfl,?_,⟨(N3.out.mono (fun _ _ hf=>hf.elim)).trans M5.out.ch (fun i _ e=>e),?_⟩⟩
 ·have:=O5.out
  simpa [bl]using this
 ·rcases M5.out.at_ with e|⟨j,e,h⟩
  ·exact .inl e
  ·exact .inr ⟨j,e,Nat.le_trans N3.out.size h⟩
end Go.Proofs.YtdbfejfhpkakhaaGreat
namespace Go.Proofs.YtdbfejfhpkakhaaGreat
/-! rows in groups -/
theorem Ti {α:Type} (per:Nat) (l:List α):(eu per l).length=(l.length+per-1) / per:=by simp[eu]
theorem ZV {α:Type} {per:Nat} {l:List α} {i:Nat} (h:i<(eu per l).length):(eu per l)[i]=(l.drop (i * per)).take per:=by simp[eu]
theorem kS {per n i:Nat} (hp:0<per):i<(n+per-1) / per↔i * per<n:=by
 rw[Nat.lt_div_iff_mul_lt hp];constructor
 ·intro h;omega
 ·intro h;omega
theorem rD {α:Type} {per:Nat} (hp:0<per):eu per ([]:List α)=[]:=by
 have:(eu per ([]:List α)).length=0:=by rw[Ti];simp;omega
 exact List.eq_nil_of_length_eq_zero this
theorem nD {α:Type} {per:Nat} {l:List α} (hp:0<per) (hl:0<l.length):eu per l=l.take per::eu per (l.drop per):=by
 apply List.ext_getElem
 ·rw[List.length_cons,Ti,Ti,List.length_drop]
  by_cases h:per<=l.length
  ·rw[show l.length+per-1=(l.length-per+per-1)+per by omega,Nat.add_div_right _ hp]
  ·rw[show l.length-per=0 by omega,Nat.zero_add,Nat.div_eq_of_lt (show per-1<per by omega)]
   exact Nat.div_eq_of_lt_le (by omega) (by omega)
 ·intro i h1 h2
  rw[ZV h1];cases i with
  |zero=>simp
  |succ i=>
   rw[List.getElem_cons_succ,ZV,List.drop_drop];congr 2
   rw[Nat.succ_mul,Nat.add_comm]
theorem nC {α:Type} {per:Nat} (hp:0<per):∀(n:Nat) (l:List α),l.length<=n->(eu per l).flatten=l
 |0,l,h=>by
  have:l=[]:=List.eq_nil_of_length_eq_zero (by omega);subst this;rw[rD hp];rfl
 |n+1,l,h=>by
  by_cases h0:l.length=0
  ·have:l=[]:=List.eq_nil_of_length_eq_zero h0
   subst this;rw[rD hp];rfl
  ·rw[nD hp (by omega),List.flatten_cons,nC hp n (l.drop per) (by rw[List.length_drop];omega),List.take_append_drop]
theorem rC {α:Type} {per:Nat} (hp:0<per) (l:List α):(eu per l).flatten=l:=nC hp l.length l (Nat.le_refl _)
/-! the spans -/
theorem WZ:∀(gs:List (List aC)) (a:Nat),(sF a gs).length=gs.length
 |[],_=>rfl
 |g::gs,a=>by rw[sF,List.length_cons,List.length_cons,WZ gs]
end Go.Proofs.YtdbfejfhpkakhaaGreat
namespace Go.Proofs.YtdbfejfhpkakhaaGreat
open Go.RowKit
def uV (W w:World) (g:Nat) (xs:List Nat):Prop:=∃v,aG w g 47 #[v]/\aF W w 5 1 v xs.length (bl xs)
def EG (w w':World):Prop:=∀b t cs,t≠5->t≠47->aG w b t cs->aG w' b t cs
theorem EG.of {w w':World} {g:Nat} {v:Value} {W:World} {n:Nat} {xs:List Value} (hb:aG w g 47 #[v]) (ho:aF W w 5 1 v n xs) (c:Ch (fun k=>k=g∨v.ownBlock=some k) w w'):EG w w':=fun b t cs h1 h2 h=>h.ch c (by
 rintro (e|e)
 ·subst e
  exact aG.DT h hb h2 rfl
 ·exact z07 ho.own h (Ne.symm h1) e)
def MR (W w:World) (g:Nat) (zs:List Nat) (e:Ending) (w':World):Prop:=e=.returned (.tuple #[])/\uV W w' g zs/\EG w w'
theorem L_ {W w:World} {g:Nat} {v:Value} {xs ys:List Nat} {B:Option Addr} {m c:Nat} {D:Nat->Prop} (hb:aG w g 47 #[v]) (ho:aF W w 5 1 v xs.length (bl xs)) (hW:W.heap.size<=g) (hy:Rd w D 1 B m (bl ys)) (hl:ys.length=m) (hD:∀k,D k->v.ownBlock≠some k) (er:Int)
 (hs:xs.length+ys.length<=100000000):
 Calls Tryz.prog 117 #[.slice B m c,.int .i64 er,.pointer (some ⟨g,0,none⟩)] w (MR W w g (xs++fD ys)):=by
 obtain ⟨i0,hi0,hz0,hz1,hz2⟩:=info_parts Tryz.info5;have Vk:=ah (fun (w:World)=>z10 m w (by omega));have HW:Hid (xs++fD ys=xs++aB m++ys):=ah (by rw[←hl];simp[fD]);have hpl:=(z08 (n:=m) (by omega)).2;have HB:=ah hb;have HO:=ah ho;have HY:=ah hy;have kw:IntKind.u64.wrap (m:Int)=(m:Int):=by rw[IntKind.wrap_u64];omega
 have hne:=z07 ho.own hb (by decide);have Iz:=ah hne;have c0:w.drew.cell? ⟨g,0,none⟩=some v:=hb.cell 0;clear hb ho hy hne;generalize xs++fD ys=Z at *;go_enter Tryz.func117,Tryz.ntmps117;refine sD (fun _=>True) (fun _=>false) rfl trivial (fun hS0=>?_)
 try simp only[Act.put,aA,au,ay]
 refine z00 (i:=1) (oi:=_) (v:=?_) rfl (fun _ _ _ h=>h) (Or.inl ⟨by rfl,?_⟩) ?_;rotate_left
 ·(intro w hSw;(try dsimp only at hSw);go_split_ands;go_simp;try with_reducible rfl)
 try simp only[Act.put,List.setIfInBounds_toArray]
 refine z00 (i:=2) (oi:=_) (v:=?_) rfl (fun _ _ _ h=>h) (Or.inl ⟨by rfl,?_⟩) ?_;rotate_left
 ·(intro w hSw;(try dsimp only at hSw);go_split_ands;go_simp;try with_reducible rfl)
 try simp only[Act.put]
 refine z00 (i:=3) (oi:=_) (v:=?_) rfl (fun _ _ _ h=>h) (Or.inl ⟨by rfl,?_⟩) ?_;rotate_left
 ·(intro w hSw;(try dsimp only at hSw);go_split_ands;go_simp;try with_reducible rfl)
 try simp only[Act.put]
 refine z00 (i:=6) (oi:=_) (v:=?_) rfl (fun _ _ _ h=>h) (Or.inl ⟨by rfl,?_⟩) ?_;rotate_left
 ·(intro w hSw;(try dsimp only at hSw);go_split_ands;go_simp;try with_reducible rfl)
 try simp only[Act.put]
 refine W_ (fun w'=>w'.cell? ⟨g,0,none⟩=some v) (fun i=>decide (i=5∨i=7∨i=8)) (fun _=>trivial) ?_;have hSS:(fun w'=>w'.cell? ⟨g,0,none⟩=some v) w.drew:=c0;refine z00 (i:=0) (oi:=_) (v:=?_) rfl (fun _ _ _ h=>h) (Or.inl ⟨by rfl,?_⟩) ?_;rotate_left
 ·(intro w hSw;(try dsimp only at hSw);go_split_ands;go_simp;try with_reducible rfl)
 try simp only[Act.put]
 refine z02 (rs:=[4]) (by kernel_rfl) (by simp) (z01.cons (o:=_) rfl (fun K hK=>?_) z01.nil);go_simp;refine (Vk.out _).mono ?_;rintro e w3 ⟨k3,cap3,rfl,o3,hk3,hk3',hc3, -⟩;have N3:=ah (((Ch.refl (fun _=>False) w).drew).tr o3.nx);have OV:=ah (HO.out.tr N3.out);have BV:=ah (HB.out.nx N3.out);have R3:=ah o3.tZ;have c3:w3.cell? ⟨g,0,none⟩=some v:=BV.out.cell 0;have RY:=ah (HY.out.nx (by decide) N3.out);have hk3w:w.heap.size<=k3:=hk3;have hlt3:∀k,v.ownBlock=some k->k≠k3:=fun k e=>by have:=(HO.out.lt k e).2;omega
 clear o3;refine hK.out _ _ (fun _=>c3) (fun aj=>?_);have hHeld:=aj (by decide);clear hK K aj
 try simp only[Act.put,aA,au,ay]
 refine z02 (rs:=[5]) (by kernel_rfl) (by simp) (z01.cons (o:=_) rfl (fun K hK=>?_) z01.nil);refine Ns _ rfl (.tmp 5) (.tmp 9) _ rfl W.heap.size 5 i0 _ 1 1 Tryz.underlying47 hi0 hz0 hz1 hz2 rfl (by omega) v xs.length (bl xs) rfl OV.out.own _ (some ⟨k3,0,none⟩) (aB m).length cap3 (bl (aB m)) rfl R3.out (jk _) (by simp only[maxLen];omega) (by omega) OV.out.nx.size ?_;intro v5 w5 Xi gr5 at5;obtain ⟨o5,m5⟩:=Di OV.out (Ch.refl _ _) Xi gr5 at5;have O5:=ah o5;have M5:=ah m5;have RY5:=ah (RY.out.ch (by decide) m5.ch (fun k _ hk e=>hD k hk e));clear Xi gr5 at5 o5 m5;refine hK.out _ _ (fun h=>absurd h (by decide)) (fun aj=>?_);clear hK K aj
 try simp only[Act.put,List.setIfInBounds_toArray]
 refine z02 (rs:=[7]) (by kernel_rfl) (by simp) (z01.cons (o:=_) rfl (fun K hK=>?_) z01.nil);refine Ns _ rfl (.tmp 10) (.tmp 11) _ rfl W.heap.size 5 i0 _ 1 1 Tryz.underlying47 hi0 hz0 hz1 hz2 rfl (by omega) v5 (xs.length+(aB m).length) (bl xs++bl (aB m)) rfl O5.out.own D B m c (bl ys) rfl RY5.out (jk _) (by simp only[maxLen];omega) (by omega) O5.out.nx.size ?_;intro v7 w7 dn gr7 at7;obtain ⟨o7,m7⟩:=Di O5.out (Ch.refl _ _) dn gr7 at7;have O7:=ah o7;have M7:=ah m7;have hv5:v5.ownBlock≠some g:=z07 O5.out.own (BV.out.ch M5.out.ch Iz.out) (by decide);have B7:=ah ((BV.out.ch M5.out.ch Iz.out).ch m7.ch hv5);have f7:w7.frozen? ⟨g,0,none⟩=false:=B7.out.frozen 0;have c7:w7.cell? ⟨g,0,none⟩=some v:=B7.out.cell 0;obtain ⟨A7,cp7,rfl, -, -⟩:=o7.form;clear dn gr7 at7 o7 m7 hv5;refine hK.out _ _ (fun h=>absurd h (by decide)) (fun aj=>?_);clear hK K aj
 try simp only[Act.put]
 refine z02 (rs:=[8]) (by kernel_rfl) (by simp) (z01.cons (o:=_) rfl (fun K hK=>?_) z01.nil);go_simp;refine hK.out _ _ (fun h=>absurd h (by decide)) (fun aj=>?_);clear hK K aj
 try simp only[Act.put,aA,au,ay]
 refine kE (by kernel_rfl) ?_ _;go_wp2_with fail;refine bodyPost_ret (results_none rfl _ _ _) rfl ?_;have hv7:(Value.slice A7 (xs.length+(aB m).length+m) cp7).ownBlock≠some g:=z07 O7.out.own B7.out (by decide);have cs:Ch (fun k=>k=g) w7 (w7.setCell ⟨g,0,none⟩ (.slice A7 (xs.length+(aB m).length+m) cp7)):=Ch.setCell (S:=fun k=>k=g) (Ch.refl _ w7) (p:=⟨g,0,none⟩) (fun _=>rfl) _;refine ⟨rfl,⟨_,B7.out.aS 0 _,?_⟩,EG.of HB.out HO.out ?_⟩
 ·rw[HW.out,←hl]
  have:=O7.out.ch cs (fun k e h=>hv7 (by rw[e,h])) (fun i hi e=>by omega);rw[←hl]at this;simpa [bl,Nat.add_assoc]using this
 ·refine (((N3.out.mono (fun _ _ hf=>hf.elim)).trans M5.out.ch (fun i _ e=>.inr e)).trans M7.out.ch (fun i hi e=>?_)).trans cs (fun i _ e=>.inl e)
  rcases M5.out.at_ with h|⟨j,h,h2⟩
  ·right;rw[←h];exact e
  ·rw[h]at e
   injection e with e;have:=N3.out.size;omega
end Go.Proofs.YtdbfejfhpkakhaaGreat
namespace Go.Proofs.YtdbfejfhpkakhaaGreat
open Go.RowKit Go.Shelf
attribute [local go_sem] Oper.semAt_some
def bn (n per k:Nat):Nat:=min per (n-k * per)
def bg (n per:Nat):Nat:=(n+per-1) / per
def uS (A:Option Addr) (n per k:Nat):Value:=.slice (A.map fun ad=>ad.add (k * per * 9)) (bn n per k) (bn n per k)
def EP (p q:Nat) (W W':World):Prop:=W.heap.size<=W'.heap.size/\W'.heap[p]?=W.heap[p]?/\W'.heap[q]?=W.heap[q]?
theorem EP.refl (p q:Nat) (W:World):EP p q W W:=⟨Nat.le_refl _,rfl,rfl⟩
theorem EP.trans {p q:Nat} {A B C:World} (h:EP p q A B) (k:EP p q B C):EP p q A C:=⟨Nat.le_trans h.1 k.1,k.2.1.trans h.2.1,k.2.2.trans h.2.2⟩
theorem ZR {W W':World} {p:Nat} (h:W'.heap[p]?=W.heap[p]?) (i:Nat):W'.cell? ⟨p,i,none⟩=W.cell? ⟨p,i,none⟩:=by
 unfold World.cell?;simp only[h]
theorem Ia (l p q:Nat) (A:Option Addr) (n c per:Nat) (jG:1<=per) (RU:per<=1000000) (hn:n<=1000000) (hc:n<=c) (hA:0<n->A≠none) (J:Nat->World->Prop) (Jx:World->Prop) (hJd:∀k W q,J k W->J k (W.drewN q))
 (hY:∀k W,J k W->k<bg n per->YieldAt Fence.wide 8 Tryz.prog l #[uS A n per k] W fun e W'=>
   (e=.returned (.bool true)/\J (k+1) W'/\EP p q W W')∨(e=.returned (.bool false)/\Jx W'))
 (W:World) (hp:W.cell? ⟨p,0,none⟩=some (.slice A n c)) (hq:W.cell? ⟨q,0,none⟩=some (.int .i64 (per:Int))) (h0:J 0 W):
 CallsIn Fence.wide 9 Tryz.prog 116 #[.func (.yield l) #[] #[],.pointer (some ⟨p,0,none⟩),.pointer (some ⟨q,0,none⟩)] W fun e W'=>(∃v,e=.returned v)/\
  (J (bg n per) W'∨Jx W'):=by
 refine callsIn_of_wp Tryz.func116 rfl trivial ?_ rfl;simp only[Tryz.ntmps116,List.size_toArray,List.length_cons,List.length_nil,Nat.reduceAdd,Nat.reduceSub,Array.replicate_succ,Array.replicate_zero,List.push_toArray,List.append_toArray,List.nil_append,List.cons_append];gi_wp2
 gi_loopw [4] (fun i wr=>∃k:Nat,k<=bg n per/\i=.int .i64 ((k * per:Nat):Int)/\J k wr/\EP p q W wr)
  (fun i _=>n+per-(intOf i).toNat)
 case atStart=>exact ⟨0,Nat.zero_le _,by simp,h0,EP.refl _ _ _⟩
 case round=>
  obtain ⟨k,hk,rfl,hJs,hnx⟩:=hrel;have p0:wr.cell? ⟨p,0,none⟩=some (.slice A n c):=(ZR hnx.2.1 0).trans hp;have q0:wr.cell? ⟨q,0,none⟩=some (.int .i64 (per:Int)):=(ZR hnx.2.2 0).trans hq;by_cases hlt:k<bg n per
  ·have hlt2:k * per<n:=(kS (by omega)).1 hlt
   obtain ⟨ad,rfl⟩:=Option.ne_none_iff_exists'.1 (hA (by omega));have HY:=ah fun q'=>hY k (wr.drewN q') (hJd _ _ _ hJs) hlt;have hm1:bn n per k=min per (n-k * per):=rfl;have hm2:0<bn n per k:=by rw[hm1];omega
   have hm3:k * per+bn n per k<=n:=by rw[hm1];omega
   have hmul:(k+1) * per=k * per+per:=Nat.succ_mul k per;have HMUL:=ah hmul;unfold uS at HY;clear hmul hJs;unfold bn at HY hm1 hm2 hm3;clear hm1;generalize k * per=i at *;have e1:IntKind.i64.wrap ((n:Int)-(i:Int))=(n:Int)-i:=IntWalk.i64_in _ (by omega);gi_wp2
   refine wpIn_wide.2 ?_;go_quiet (fail)
   obtain ⟨fn,tmps,assign,body,hy,hR⟩:=HY.out nq;have eT:((i:Int)+min (per:Int) ((n-i:Nat):Int)).toNat-i=min per (n-i):=(by omega);rw[Option.map_some]at hy;gi_wp2
   refine hR.mono ?_;rintro e W3 (⟨rfl,hJ3,hk3⟩|⟨rfl,hJx3⟩)
   ·have hk4:EP p q W W3:=hnx.trans (EP.trans (B:=wr.drewN nq) ⟨Nat.le_refl _,rfl,rfl⟩ hk3)
    have q3:W3.cell? ⟨q,0,none⟩=some (.int .i64 (per:Int)):=(ZR hk4.2.2 0).trans hq;gi_wp2
    go_roundw
    case rel=>exact ⟨k+1,hlt,by rw[HMUL.out];simp,hJ3,hk4⟩
    case measure=>simp[intOf];omega
   ·gi_wp2
    refine bodyPost_ret (results_none rfl _ _ _) rfl ?_;exact ⟨⟨_,rfl⟩,.inr hJx3⟩
  ·obtain rfl:k=bg n per:=by omega
   have hge:n<=bg n per * per:=by
    have h1:=(kS (per:=per) (n:=n) (i:=bg n per) (by omega)).2;exact Nat.not_lt.1 fun h=>absurd (h1 h) (Nat.lt_irrefl _)
   generalize bg n per * per=i at *;gi_wp2
   go_end0
   exact ⟨⟨_,rfl⟩,.inl hJs⟩
theorem grown_drewN (W:World) (k:Nat):W.grownBy (W.drewN k) none:=⟨rfl,rfl,rfl,Nat.le_refl _,fun _ _ _=>rfl⟩
theorem P_ {N k:Nat} (h:k<N):(List.finRange N).take (k+1)=(List.finRange N).take k++[⟨k,h⟩]:=by
 rw[List.take_succ_eq_append_getElem (by rw[List.length_finRange];exact h)];simp
theorem UG {α:Type} {N:Nat} (f:Nat->α):(List.finRange N).map (fun i=>f i.val)=(List.range N).map f:=by
 apply List.ext_getElem
 ·simp
 ·intro i h1 h2
  simp
theorem yB (p q:Nat) (A:Option Addr) (n c per:Nat) (jG:1<=per) (RU:per<=1000000) (hn:n<=1000000) (hc:n<=c) (hA:0<n->A≠none) (w:World) (hp:w.cell? ⟨p,0,none⟩=some (.slice A n c)) (hq:w.cell? ⟨q,0,none⟩=some (.int .i64 (per:Int))):
 SeqStopsK Fence.wide 9 Tryz.prog 116 #[.pointer (some ⟨p,0,none⟩),.pointer (some ⟨q,0,none⟩)] (fun k:Fin (bg n per)=> #[uS A n per k.val]) (EP p q) (fun xs=>xs=List.finRange (bg n per)) (fun _=>True) (bg n per) w:=fun l J Jx W hW hJ _ hY h0=>by
 have h1:=World.block_lt_of_cell? w _ hp;have h2:=World.block_lt_of_cell? w _ hq;refine (Ia l p q A n c per jG RU hn hc hA (fun k W=>J ((List.finRange (bg n per)).take k) W) (fun W=>∃pre,Jx pre W) (fun k W' q' h=>hJ _ W' _ none h (grown_drewN W' q') (fun r hr=>by cases hr)) (fun k W' h hk=>?_) W ((hW.cell (p:=⟨p,0,none⟩) h1).trans hp) ((hW.cell (p:=⟨q,0,none⟩) h2).trans hq) (by simpa using h0)).mono ?_
 ·obtain ⟨fn,tmps,assign,body,hy,hR⟩:=hY _ ⟨k,hk⟩ W' h (by rw[List.length_take,List.length_finRange];omega)
  refine ⟨fn,tmps,assign,body,hy,hR.mono ?_⟩;rintro e W2 (⟨rfl,hJ2,hk2⟩|⟨rfl,hJ2⟩)
  ·exact .inl ⟨rfl,by rw[P_ hk];exact hJ2,hk2⟩
  ·exact .inr ⟨rfl,_,hJ2⟩
 ·rintro e W2 ⟨he,hJ2|⟨pre,hJ2⟩⟩
  ·exact ⟨he,.inl ⟨_,rfl,by rw[List.take_of_length_le (by simp)]at hJ2;exact hJ2⟩⟩
  ·exact ⟨he,.inr ⟨pre,trivial,hJ2⟩⟩
theorem H_ (A:Option Addr) (n c per:Nat) (jG:1<=per) (hp2:per<=1000000) (w:World):
 Calls Tryz.prog 90 #[.slice A n c,.int .i64 (per:Int)] w fun e w'=>e=.returned (.func (.func 116) #[] #[.pointer (some ⟨w.heap.size,0,none⟩),.pointer (some ⟨w.heap.size+1,0,none⟩)])/\
  w'=(w.alloc (.cells #[.slice A n c] 34)).alloc (.cells #[.int .i64 (per:Int)] 3):=by
 have q1:¬((per:Int)<1):=by omega
 go_enter Tryz.func90,Tryz.ntmps90;go_wp2_with fail;go_ret;exact ⟨rfl,rfl⟩
end Go.Proofs.YtdbfejfhpkakhaaGreat
namespace Go.Proofs.YtdbfejfhpkakhaaGreat
open Go.ChangeShapes Go.WideShapes Go.ChangeAt Go.RowKit Go.Deep
def nameB (mk sq:Int) (l:List RV):List RV:=l.mapIdx fun i x=>⟨{ x.row with maker:=mk,seq:=sq,place:=(i:Int)},x.A,x.c⟩
theorem Za (mk sq:Int) (l:List RV):(nameB mk sq l).length=l.length:=by unfold nameB;rw[List.length_mapIdx]
theorem ZG {mk sq:Int} {l:List RV} {i:Nat} (h:i<l.length):(nameB mk sq l)[i]'(by rw[Za];exact h)=⟨{ l[i].row with maker:=mk,seq:=sq,place:=(i:Int)},l[i].A,l[i].c⟩:=by
 unfold nameB;rw[List.getElem_mapIdx]
theorem Gn (mk sq:Int) (l:List RV):oD (nameB mk sq l)=oD l:=by
 unfold oD;rw[List.flatMap_def,List.flatMap_def];congr 1
 refine List.ext_getElem (by rw[List.length_map,List.length_map,Za]) fun i h1 h2=>?_;rw[List.length_map]at h2;rw[List.getElem_map,List.getElem_map,ZG h2];rfl
theorem qP {mk sq:Int} {l:List RV} {x:RV} (h:x∈nameB mk sq l):∃i,∃hi:i<l.length,x=⟨{ l[i].row with maker:=mk,seq:=sq,place:=(i:Int)},l[i].A,l[i].c⟩:=by
 obtain ⟨i,hi,rfl⟩:=List.getElem_of_mem h;rw[Za]at hi;exact ⟨i,hi,ZG hi⟩
section
variable {H : Type} {enc : TypeId × Value → H} {W : World}
theorem wE {n:Nat} {cs:List Value} {y:DataW H×List MemPlace} (h:DataW.trod enc Tryz.prog W 0 (fun _=>true) true n 57 cs=some y):∃x:RV,cs=x.rs/\x.ok W (· <W.heap.size)/\x.row.small:=by
 obtain ⟨zs,n2,_,_,hlen,hzl,hf2⟩:=DataW.trod_struct Tryz.underlying57 h;have hC:Tryz.prog.cellsOf 57=6:=by kernel_rfl
 rw[hC]at hlen;match cs,hlen with
 |[v0,v1,v2,v3,v4,v5],_=>
  have es:Tryz.prog.cellsOf 9=1:=(by kernel_rfl);have ei:Tryz.prog.cellsOf 3=1:=(by kernel_rfl);have eb:Tryz.prog.cellsOf 4=1:=(by kernel_rfl);have el:Tryz.prog.cellsOf 55=1:=(by kernel_rfl);have r0:DataW.trod enc Tryz.prog W 0 (fun _=>true) true n2 3 (([v0,v1,v2,v3,v4,v5].drop 0).take (Tryz.prog.cellsOf 3))=zs[0]?:=hf2 0 _ rfl;have r1:DataW.trod enc Tryz.prog W 0 (fun _=>true) true n2 3 (([v0,v1,v2,v3,v4,v5].drop 1).take (Tryz.prog.cellsOf 3))=zs[1]?:=hf2 1 _ rfl;have r2:DataW.trod enc Tryz.prog W 0 (fun _=>true) true n2 55 (([v0,v1,v2,v3,v4,v5].drop 2).take (Tryz.prog.cellsOf 55))=zs[2]?:=hf2 2 _ rfl;have r3:DataW.trod enc Tryz.prog W 0 (fun _=>true) true n2 9 (([v0,v1,v2,v3,v4,v5].drop 3).take (Tryz.prog.cellsOf 9))=zs[3]?:=hf2 3 _ rfl;have r4:DataW.trod enc Tryz.prog W 0 (fun _=>true) true n2 3 (([v0,v1,v2,v3,v4,v5].drop 4).take (Tryz.prog.cellsOf 3))=zs[4]?:=hf2 4 _ rfl;have r5:DataW.trod enc Tryz.prog W 0 (fun _=>true) true n2 4 (([v0,v1,v2,v3,v4,v5].drop 5).take (Tryz.prog.cellsOf 4))=zs[5]?:=hf2 5 _ rfl;simp only[es,ei,eb,el,List.drop_zero,List.take_succ_cons,List.take_zero,List.drop_succ_cons]at r0 r1 r2 r3 r4 r5;obtain ⟨kind,rfl,i0⟩:=zf Tryz.underlying3 (r0.trans (List.getElem?_eq_getElem (by rw[hzl];decide)));obtain ⟨time,rfl,i1⟩:=zf Tryz.underlying3 (r1.trans (List.getElem?_eq_getElem (by rw[hzl];decide)));obtain ⟨A,c,ak,rfl,h1,h2,h3,h4⟩:=um (r2.trans (List.getElem?_eq_getElem (by rw[hzl];decide)));obtain ⟨text,rfl,i3⟩:=z2j (r3.trans (List.getElem?_eq_getElem (by rw[hzl];decide)));obtain ⟨value,rfl,i4⟩:=zf Tryz.underlying3 (r4.trans (List.getElem?_eq_getElem (by rw[hzl];decide)));obtain ⟨null,rfl⟩:=uU (r5.trans (List.getElem?_eq_getElem (by rw[hzl];decide)));exact ⟨⟨⟨kind,time,ak,text,value,null,0,0,0⟩,A,c⟩,rfl,⟨h1,h3,h4⟩,h2,i3,i0,i1,i4,(show i64 0 from by unfold i64;decide),(show i64 0 from by unfold i64;decide),(show i64 0 from by unfold i64;decide)⟩
theorem tX {n:Nat} {v:Value} {y:DataW H×List MemPlace} (h:DataW.trod enc Tryz.prog W 0 (fun _=>true) true n 35 [v]=some y):
 ∃(A:Option Addr) (c:Nat) (l:List RV),v=.slice A l.length c/\Rd W (· <W.heap.size) 6 A l.length (oD l)/\(∀x∈l,x.ok W (· <W.heap.size)/\x.row.small)/\l.length<=c/\c<=maxLen:=by
 rcases open_slice Tryz.underlying35 h with ⟨hcs,hx⟩|⟨a,len,cap,m,nn,D,Pl,hcs,hb,hl,hm,hmm,hx,hi⟩
 ·simp at hcs
  subst hcs;exact ⟨none,0,[],rfl,Rd.none_ _ _ _ _,by simp,Nat.le_refl _,by simp[maxLen]⟩
 ·simp at hcs
  subst hcs;simp only[if_true]at hmm;have hC:Tryz.prog.cellsOf 57=6:=by kernel_rfl
  rw[hC]at hi
  obtain ⟨l,h1,h2,h3⟩:=z3u (W:=W) (a:=a) (n:=len) (good:=fun x:RV=>x.ok W (· <W.heap.size)/\x.row.small) RV.Aj (by decide) (fun i hin=>by
   obtain ⟨cs',hc,ht'⟩:=hi i (by omega);obtain ⟨x,rfl,hx1,hx2⟩:=wE ht';obtain ⟨_,hcl,hat⟩:=World.cells?_some hc;refine ⟨x,⟨hx1,hx2⟩,fun j u hj hu=>?_⟩;rw[←Go.Deep.add_add,hat j hj,←hu])
  subst h1;exact ⟨some a,cap,l,rfl,h3,h2,hl,hm⟩
variable {args : Array Value} {ds : List (DataW H)} {ps : List MemPlace}
theorem Told.bt {ts:List TypeId} (h:Told enc (37::ts) W args ds ps):∃(b:dF) (vs:List Value) (ds':List (DataW H)) (q:List MemPlace),args=(oG b::vs).toArray/\b.ok W (· <W.heap.size)/\Told enc ts W vs.toArray ds' q:=by
 obtain ⟨v,vs,d,ds',p,q,rfl,rfl,h0,⟨b,ho⟩,hlt,hw,h'⟩:=h.cons;obtain ⟨cs,ys,n,rfl,hcl,hyl,hg⟩:=qN Tryz.underlying37 (by kernel_rfl) (by kernel_rfl) ho h0;match cs,hcl with
 |[c0,c1,c2],_=>
  obtain ⟨_,_,t0⟩:=hg 0 _ c0 rfl rfl;obtain ⟨_,_,t1⟩:=hg 1 _ c1 rfl rfl;obtain ⟨_,_,t2⟩:=hg 2 _ c2 rfl rfl;obtain ⟨mk,rfl,i0⟩:=zf Tryz.underlying3 t0;obtain ⟨sq,rfl,i1⟩:=zf Tryz.underlying3 t1;obtain ⟨A,c,l,rfl,h1,h2,h3,h4⟩:=tX t2;have hln:=Za mk sq l;refine ⟨⟨mk,sq,A,c,nameB mk sq l⟩,vs,ds',q,by unfold oG;rw[hln],⟨?_,?_,?_,?_,by rw[hln];exact h3,h4⟩,h'⟩
  ·show Rd W _ 6 A (nameB mk sq l).length (oD (nameB mk sq l))
   rw[hln,Gn];exact h1
  ·intro x hx
   obtain ⟨i,hi,rfl⟩:=qP hx;exact (h2 _ (List.getElem_mem hi)).1
  ·intro x hx
   obtain ⟨i,hi,rfl⟩:=qP hx;obtain ⟨⟨h5,h6,h7⟩,s1,s2,s3,s4,s5, -⟩:=h2 _ (List.getElem_mem hi);unfold maxLen at h4 h7;exact ⟨⟨s1,s2,s3,s4,s5,i0,i1,by unfold i64;simp only;omega⟩,by simp only;omega⟩
  ·intro i hi
   have hi':i<l.length:=by rw[←hln];exact hi
   have e:=ZG (mk:=mk) (sq:=sq) hi';refine ⟨?_,?_,?_⟩
   ·show ((nameB mk sq l)[i]).row.maker=mk
    rw[e]
   ·show ((nameB mk sq l)[i]).row.seq=sq
    rw[e]
   ·show ((nameB mk sq l)[i]).row.place=_
    rw[e]
end
end Go.Proofs.YtdbfejfhpkakhaaGreat
