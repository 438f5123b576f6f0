/- Contracts and plain laws that the last text rests on. Conditions: each theorem states its own. -/
import Derived.Test.YtdbfejfhpkakhaaGreatKKd2Q5
import Derived.Test.YtdbfejfhpkakhaaGreatKKd2Q7
import Derived.Test.YtdbfejfhpkakhaaGreatKKd2Q3
import Derived.Test.YtdbfejfhpkakhaaGreatKKd2Q4
import Derived.Shelf.SlSortCmp.WholeK
import Derived.Deep.RegionHeld3
import Derived.Test.YtdbfejfhpkakhaaGreatKKd2PbLaw
import Derived.Maps.Views
import Derived.Maps.OwnOps
import Derived.Maps.OwnSet
import Derived.DeepKeys4
set_option maxRecDepth 100000
set_option maxHeartbeats 4000000
set_option linter.unusedVariables false
set_option linter.unusedSimpArgs false
namespace Go.Proofs.YtdbfejfhpkakhaaGreat
open Go.RowKit Go.Sort
structure GV where
 g:Ps.kC RV
 A:Option Addr
 c:Nat
def GV.cs (x:GV):List Value:=[.int .i64 x.g.win,.string x.g.part,.slice x.A x.g.rows.length x.c]
instance:Inhabited GV:=⟨⟨⟨0,⟨#[]⟩,[]⟩,none,0⟩⟩
def fM (l:List GV):List Value:=l.flatMap GV.cs
theorem GV.aQ (x:GV):x.cs.length=3:=rfl
def jB (a b:ByteArray):Int:=if bD a b=true then -1 else if bD b a=true then 1 else 0
def Cb (x y:GV):Int:=qM [eU x.g.win y.g.win,jB x.g.part y.g.part]
theorem LK (a b:ByteArray):jB a b<0↔bD a b=true:=by
 unfold jB;by_cases h:bD a b=true
 ·simp[h]
 ·by_cases h2:bD b a=true
  ·simp[h,h2]
  ·simp[h,h2]
theorem nR (a b:ByteArray):bD a b=true↔a.data.toList<b.data.toList:=by
 unfold bD;rw[decide_eq_true_iff]
theorem uQ (x y:GV):ltOf Cb x y=decide (x.g.win<y.g.win∨(x.g.win=y.g.win/\bD x.g.part y.g.part=true)):=by
 unfold ltOf;rw[decide_eq_decide];have a:=YZ x.g.win y.g.win;have a':=WM x.g.win y.g.win;have b':=LK x.g.part y.g.part;unfold Cb qM;by_cases h1:x.g.win=y.g.win
 ·rw[if_pos (a.2 h1)]
  have e:qM [jB x.g.part y.g.part]=jB x.g.part y.g.part:=by
   unfold qM qM;split
   ·next h=>rw[h]
   ·rfl
  rw[e,b'];constructor
  ·exact fun h=>.inr ⟨h1,h⟩
  ·rintro (h|⟨_,h⟩)
   ·omega
   ·exact h
 ·rw[if_neg (fun e=>h1 (a.1 e)),a']
  constructor
  ·exact .inl
  ·rintro (h|⟨h,_⟩)
   ·exact h
   ·exact absurd h h1
theorem yH {a b c:ByteArray} (h1:¬bD a b=true) (h2:¬bD b c=true):¬bD a c=true:=by
 rw[nR]at *;intro h;exact h2 (List.lt_of_le_of_lt (List.not_lt.1 h1) h)
theorem LP:SWO (ltOf Cb) where
 irrefl x:=by
  rw[uQ,decide_eq_false_iff_not];rintro (h|⟨_,h⟩)
  ·omega
  ·rw[YW]at h;cases h
 trans x y z h1 h2:=by
  rw[uQ,decide_eq_true_iff]at h1 h2 ⊢;rcases h1 with h1|⟨e1,h1⟩<;>rcases h2 with h2|⟨e2,h2⟩
  ·left;omega
  ·left;omega
  ·left;omega
  ·right;exact ⟨by omega,Zd h1 h2⟩
 ntrans x y z h1 h2:=by
  rw[uQ,decide_eq_false_iff_not]at h1 h2 ⊢
  have t1:y.g.win<=x.g.win/\(x.g.win=y.g.win->¬bD x.g.part y.g.part=true):=⟨by
   rcases Int.lt_or_le x.g.win y.g.win with h|h
   ·exact absurd (.inl h) h1
   ·exact h,fun e h=>h1 (.inr ⟨e,h⟩)⟩
  have t2:z.g.win<=y.g.win/\(y.g.win=z.g.win->¬bD y.g.part z.g.part=true):=⟨by
   rcases Int.lt_or_le y.g.win z.g.win with h|h
   ·exact absurd (.inl h) h2
   ·exact h,fun e h=>h2 (.inr ⟨e,h⟩)⟩
  rintro (h|⟨e,h⟩)
  ·omega
  ·exact yH (t1.2 (by omega)) (t2.2 (by omega)) h
theorem Kr (x:ByteArray) (w:World):Calls Tryz.prog 115 #[.string x] w fun e w'=>e=.returned (.bool false)/\w=w':=by
 have hq:(x.toList !=x.toList)=false:=by simp
 go_enter Tryz.func115,Tryz.ntmps115;go_wp2_with fail;go_ret;exact ⟨by first|rfl|simp,rfl⟩
theorem rV {a b:ByteArray} (h1:bD a b=false) (h2:bD b a=false):a=b:=by
 have k1:¬a.data.toList<b.data.toList:=fun h=>by rw[(nR a b).2 h]at h1;cases h1
 have k2:¬b.data.toList<a.data.toList:=fun h=>by rw[(nR b a).2 h]at h2;cases h2
 have e:=List.le_antisymm (List.not_lt.1 k2) (List.not_lt.1 k1);obtain ⟨⟨a⟩⟩:=a;obtain ⟨⟨b⟩⟩:=b;simp at e;rw[e]
theorem LH (x y:ByteArray) (w:World):Calls Tryz.prog 88 #[.string x,.string y] w fun e w'=>e=.returned (.int .i64 (jB x y))/\w=w':=by
 have Hn:=ah Kr;have q1:=Nr x y;have q2:=Nr y x;cases h1:bD x y
 ·cases h2:bD y x
  ·have HR:Hid (jB x y=0):=ah (by unfold jB;rw[h1,h2];rfl)
   rw[h1]at q1;rw[h2]at q2;have q3:(x.toList==y.toList)=true:=by rw[rV h1 h2];simp
   clear h1 h2;go_enter Tryz.func88,Tryz.ntmps88;go_wp2_with fail;refine (Hn.out _ _).mono ?_;rintro e w1 ⟨rfl,rfl⟩;go_wp2_with fail;refine (Hn.out _ _).mono ?_;rintro e w1 ⟨rfl,rfl⟩;go_wp2_with fail;go_ret;exact ⟨by rw[HR.out];rfl,rfl⟩
  ·have HR:Hid (jB x y=1):=ah (by unfold jB;rw[h1,h2];rfl)
   rw[h1]at q1;rw[h2]at q2
   have q3:(x.toList==y.toList)=false:=by
    rw[beq_eq_false_iff_ne];intro e
    have e2:x=y:=by
     rw[ByteArray.toList_eq,ByteArray.toList_eq]at e;cases x;cases y
     simpa [Array.ext_iff]using congrArg List.toArray e
    subst e2;rw[YW]at h2;cases h2
   clear h1 h2;go_enter Tryz.func88,Tryz.ntmps88;go_wp2_with fail;refine (Hn.out _ _).mono ?_;rintro e w1 ⟨rfl,rfl⟩;go_wp2_with fail;refine (Hn.out _ _).mono ?_;rintro e w1 ⟨rfl,rfl⟩;go_wp2_with fail;go_ret;exact ⟨by rw[HR.out];rfl,rfl⟩
 ·have HR:Hid (jB x y= -1):=ah (by unfold jB;rw[h1];rfl)
  rw[h1]at q1;clear h1;go_enter Tryz.func88,Tryz.ntmps88;go_wp2_with fail;refine (Hn.out _ _).mono ?_;rintro e w1 ⟨rfl,rfl⟩;go_wp2_with fail;refine (Hn.out _ _).mono ?_;rintro e w1 ⟨rfl,rfl⟩;go_wp2_with fail;go_ret;exact ⟨by rw[HR.out];rfl,rfl⟩
end Go.Proofs.YtdbfejfhpkakhaaGreat
namespace Go.Proofs.YtdbfejfhpkakhaaGreat
open Go.RowKit Go.Maps Ps
theorem Tryz.Xg:WideMaps.KeyLaw Tryz.prog 173:=deep_law_laid Tryz.wX (m:=3) (by omega) (of_decide_eq_true (by kernel_rfl)) (by kernel_rfl) (by kernel_rfl)
theorem Tryz.kF:Keyed Tryz.prog 173:=Keyed.of_law Tryz.Xg
def JL (k:Int×ByteArray):Value:=.agg #[.int .i64 k.1,.string k.2]
def Ny (k:Int×ByteArray):Lit:=.string (keyBytes [.int .i64 k.1,.string k.2.data.toList])
def NI (k:Int×ByteArray):Prop:=i64 k.1/\k.2.size<=1000000
theorem wf64 {a:Int} (h:i64 a):(Lit.int .i64 a).wf=true:=by
 obtain ⟨h3,h4⟩:=h;have h1:IntKind.i64.min= -9223372036854775808:=rfl;have h2:IntKind.i64.max=9223372036854775807:=rfl;simp only[Lit.wf,Bool.and_eq_true,decide_eq_true_eq];omega
theorem mJ {k:Int×ByteArray} (h:NI k):keyOf Tryz.prog 173 (JL k)=some (Ny k):=by
 have hsz:∃m,Tryz.prog.types.size=m+1:=⟨Tryz.prog.types.size-1,by have:0<Tryz.prog.types.size:=of_decide_eq_true (by kernel_rfl);omega⟩;have hkt:Tryz.prog.keyType 173=true:=by kernel_rfl
 have hc:Tryz.prog.cellsOf 173=2:=by kernel_rfl
 have hc1:Tryz.prog.cellsOf 3=1:=by kernel_rfl
 have hc2:Tryz.prog.cellsOf 9=1:=by kernel_rfl
 have hf:(JL k).formed Tryz.prog 173=true:=by
  simp[JL,Value.formed,Tryz.underlying173,hc]
 obtain ⟨m,hm⟩:=hsz;have wa:=wf64 h.1;have wb:k.2.size<=maxLen:=by have:=h.2;unfold maxLen;omega
 unfold keyOf;simp only[Tryz.underlying173];rw[if_pos (by rw[hkt,hf];rfl),hm];unfold Program.keyLits JL Ny;simp only[Tryz.underlying173,Value.cells];rw[if_pos (by rw[hc];exact ⟨rfl,by simp⟩)];simp[hc1,hc2,Program.keyLits,Tryz.underlying3,Tryz.underlying9,wa,wb]
theorem DJ {a b:Int×ByteArray} (ha:NI a) (hb:NI b) (h:Ny a=Ny b):a=b:=by
 have h1:=mJ ha;have h2:=mJ hb;rw[h]at h1;have h3:=Tryz.kF.inj h1 h2;unfold JL at h3;obtain ⟨a1,a2⟩:=a;obtain ⟨b1,b2⟩:=b;simp at h3;rw[h3.1,h3.2]
theorem DI (a:Int×ByteArray):WideAt.IsKeyLit (Ny a):=trivial
theorem vG (w:World):(zeroValue 3).run Tryz.prog w=.ok (.int .i64 0) w:=by kernel_rfl
def pU (w:World) (b n:Nat) (ks:List (Int×ByteArray)):Prop:=∃D:DataW Unit,w.ownsMap Tryz.prog 173 (plainElem Tryz.prog 3) b n D/\IsMap D/\
 (∀k,NI k->k∉ks->has D (Ny k)=false)/\∀i (hi:i<ks.length),NI ks[i]->has D (Ny ks[i])=true/\D.atKey (Ny ks[i]) (.lit (.int .i64 0))=.lit (.int .i64 (i:Int))
theorem pU.made (w:World):pU (w.alloc (.map #[] 0)) w.heap.size 0 []:=⟨_,World.ownsMap_made w _ _ _,isMap_empty,fun k _ _=>rfl,fun i hi=>absurd hi (Nat.not_lt_zero _)⟩
theorem pU.lt {w:World} {b n:Nat} {ks:List (Int×ByteArray)} (h:pU w b n ks):b<w.heap.size:=h.choose_spec.1.lt
theorem pU.ch {S:Nat->Prop} {w w':World} {b n:Nat} {ks:List (Int×ByteArray)} (h:pU w b n ks) (c:Ch S w w') (hb:¬S b):pU w' b n ks:=by
 obtain ⟨D,h1,h2,h3,h4⟩:=h;refine ⟨D,?_,h2,h3,h4⟩;have hlt:=h1.lt;obtain ⟨es,clock,hb2,F,hs,hD⟩:=h1;exact ⟨es,clock,(c.block b hlt hb).trans hb2,F,hs,hD⟩
theorem KD {v:Value} {z:Int} {ps:List MemPlace} (h:plainElem (H:=Unit) Tryz.prog 3 v=some (.lit (.int .i64 z),ps)):v=.int .i64 z:=by
 unfold plainElem at h;rw[Tryz.underlying3]at h;cases v<;>simp at h
 obtain ⟨⟨rfl,_⟩,rfl,_⟩:=h;rfl
theorem pU.look0 {w:World} {b n:Nat} {ks:List (Int×ByteArray)} (h:pU w b n ks) {k:Int×ByteArray} (hk:NI k) (hn:k∉ks):∃v,(Instr.lookup 171 (.map (some b)) (JL k) true).run Tryz.prog w=.ok (.tuple #[v,.bool false]) w:=by
 obtain ⟨D,h1,h2,h3,h4⟩:=h;obtain ⟨v,ps,hrun,hv⟩:=h1.look_ok Tryz.kF Tryz.underlying171 (vG w) (plainElem_int Tryz.underlying3 (wf64 ⟨by decide,by decide⟩)) (mJ hk);rw[h3 k hk hn]at hrun;exact ⟨v,hrun⟩
theorem pU.look1 {w:World} {b n:Nat} {ks:List (Int×ByteArray)} (h:pU w b n ks) {i:Nat} (hi:i<ks.length) (hk:NI ks[i]):(Instr.lookup 171 (.map (some b)) (JL ks[i]) true).run Tryz.prog w=.ok (.tuple #[.int .i64 (i:Int),.bool true]) w:=by
 obtain ⟨D,h1,h2,h3,h4⟩:=h;obtain ⟨v,ps,hrun,hv⟩:=h1.look_ok Tryz.kF Tryz.underlying171 (vG w) (plainElem_int Tryz.underlying3 (wf64 ⟨by decide,by decide⟩)) (mJ hk);obtain ⟨e1,e2⟩:=h4 i hi hk;rw[e1]at hrun;rw[e2]at hv;rw[KD hv]at hrun;exact hrun
theorem pU.put {w:World} {b n:Nat} {ks:List (Int×ByteArray)} (h:pU w b n ks) (hn:n<maxLen) {k:Int×ByteArray} (hk:NI k) (hno:k∉ks) (hl:ks.length<=1000000):
 ∃w',(Instr.mapUpdate 171 (.map (some b)) (JL k) (.int .i64 (ks.length:Int))).run Tryz.prog w=.ok () w'/\pU w' b (n+1) (ks++[k])/\Ch (· =b) w w':=by
 obtain ⟨D,h1,h2,h3,h4⟩:=h;obtain ⟨w',hrun,hown,hg⟩:=h1.update Tryz.kF Tryz.underlying171 hn (mJ hk) (plainElem_int Tryz.underlying3 (wf64 (a:=(ks.length:Int)) ⟨by omega,by omega⟩));refine ⟨w',hrun,⟨_,hown,h2.put _ _,fun j hj hjn=>?_,fun i hi hki=>?_⟩,(Ch.refl (· =b) w).grown hg (fun k hk _=>by cases hk;rfl)⟩
 ·rw[List.mem_append,List.mem_singleton,not_or]at hjn
  rw[has_put_other (fun e=>hjn.2 (DJ hj hk e))];exact h3 j hj hjn.1
 ·rw[List.length_append,List.length_singleton]at hi
  rcases Nat.lt_or_ge i ks.length with hl2|hl2
  ·rw[List.getElem_append_left hl2]at hki ⊢
   have hne:Ny ks[i]≠Ny k:=fun e=>hno (by rw[←DJ hki hk e];exact List.getElem_mem hl2);rw[has_put_other hne,atKey_put_other hne];exact h4 i hl2 hki
  ·have:i=ks.length:=by omega
   subst this;have e:(ks++[k])[ks.length]'(by simp)=k:=(by simp);rw[e];exact ⟨has_put_same h2 (DI k) _,atKey_put_same h2 (DI k) _ _⟩
end Go.Proofs.YtdbfejfhpkakhaaGreat
namespace Go.Proofs.YtdbfejfhpkakhaaGreat
open Go.RowKit Ps
theorem Tryz.PL:(Tryz.prog.info? 135).map (fun i=>(i.zero,i.size,i.bytes))=some (some (.agg #[.int .i64 0,.string ⟨#[]⟩,.slice none 0 0]),3,48):=by kernel_rfl
def GV.sl (x:GV):Value:=.slice x.A x.g.rows.length x.c
def GV.key (x:GV):Int×ByteArray:=x.g.key
theorem kR (l:List GV):∀u∈fM l,u.oneCell'=true:=by
 intro u hu;obtain ⟨x,_,hx⟩:=List.mem_flatMap.1 hu;simp[GV.cs]at hx;rcases hx with rfl|rfl|rfl<;>rfl
theorem IQ {w:World} {base base':Nat} {e e':TypeId} {size size' n n':Nat} {v v':Value} {xs xs':List Value} (h:w.ownsRow base e size v n xs) (h':w.ownsRow base' e' size' v' n' xs') (hne:e≠e'):∀k,v.ownBlock=some k->v'.ownBlock≠some k:=by
 rcases h.2 with ⟨rfl,_⟩|⟨g,cap,cur,rfl,_,hh,_⟩
 ·intro k hk
  simp[Value.ownBlock]at hk
 ·intro k hk
  have hg:g=k:=by simpa [Value.ownBlock]using hk
  subst hg;rcases h'.2 with ⟨rfl,_⟩|⟨g',cap',cur',rfl,_,hh',_⟩
  ·simp[Value.ownBlock]
  ·intro he
   have:g'=g:=(by simpa [Value.ownBlock]using he);subst this;rw[hh]at hh';injection hh' with hh';injection hh' with _ ht;exact hne ht
structure dV (B:Nat) (w:World) (v:Value) (gs:List GV):Prop where
 own:w.ownsRow B 135 3 v gs.length (fM gs)
 rows:∀i (hi:i<gs.length),w.ownsRow B 79 9 gs[i].sl gs[i].g.rows.length (bM gs[i].g.rows)
 apart:∀i j (hi:i<gs.length) (hj:j<gs.length),i≠j->∀k,gs[i].sl.ownBlock=some k->gs[j].sl.ownBlock≠some k
section
variable {B : Nat} {w w' w7 : World} {v v' : Value} {gs : List GV}
theorem dV.nil (B:Nat) (w:World):dV B w (.slice none 0 0) []:=⟨World.ownsRow_nil _ _ _ _,fun i hi=>absurd hi (Nat.not_lt_zero _),fun i j hi=>absurd hi (Nat.not_lt_zero _)⟩
theorem dV.ch {S:Nat->Prop} (h:dV B w v gs) (c:Ch S w w') (hS:∀k,B<=k->¬S k):dV B w' v gs:=
 ⟨z06 h.own c (fun k hk=>hS k (h.own.lt k hk).1),fun i hi=>z06 (h.rows i hi) c (fun k hk=>hS k ((h.rows i hi).lt k hk).1),h.apart⟩
theorem dV.tr (h:dV B w v gs) (c:Nx w w'):dV B w' v gs:=h.ch c fun _ _ hf=>hf
theorem dV.push (h:dV B w v gs) {q:Int} {p:ByteArray} (o:w7.ownsRow B 135 3 v' (gs.length+1) (fM gs++fM [⟨⟨q,p,[]⟩,none,0⟩])) (c:Ch (fun k=>v.ownBlock=some k) w w7):dV B w7 v' (gs++[⟨⟨q,p,[]⟩,none,0⟩]):=by
 refine ⟨by rw[List.length_append,List.length_singleton,show fM (gs++[⟨⟨q,p,[]⟩,none,0⟩])=fM gs++fM [⟨⟨q,p,[]⟩,none,0⟩] by simp[fM]];exact o,fun i hi=>?_,fun i j hi hj hne k hk=>?_⟩
 ·rcases Nat.lt_or_ge i gs.length with hl|hl
  ·rw[List.getElem_append_left hl]
   exact z06 (h.rows i hl) c (fun k hk=>IQ (h.rows i hl) h.own (by decide) k hk)
  ·have:i=gs.length:=by rw[List.length_append,List.length_singleton]at hi;omega
   subst this;have e:(gs++[(⟨⟨q,p,[]⟩,none,0⟩:GV)])[gs.length]'hi=⟨⟨q,p,[]⟩,none,0⟩:=(by simp);rw[e];exact World.ownsRow_nil _ _ _ _
 ·rw[List.length_append,List.length_singleton]at hi hj
  rcases Nat.lt_or_ge i gs.length with hl|hl
  ·rw[List.getElem_append_left hl]at hk
   rcases Nat.lt_or_ge j gs.length with hl2|hl2
   ·rw[List.getElem_append_left hl2]
    exact h.apart i j hl hl2 hne k hk
   ·have:j=gs.length:=by omega
    subst this;have e:(gs++[(⟨⟨q,p,[]⟩,none,0⟩:GV)])[gs.length]'(by simp)=⟨⟨q,p,[]⟩,none,0⟩:=(by simp);rw[e];simp[GV.sl,Value.ownBlock]
  ·exfalso
   have:i=gs.length:=(by omega);subst this;have e:(gs++[(⟨⟨q,p,[]⟩,none,0⟩:GV)])[gs.length]'(by simp)=⟨⟨q,p,[]⟩,none,0⟩:=(by simp);rw[e]at hk;simp[GV.sl,Value.ownBlock]at hk
def GV.add (x:GV) (y:RV) (A:Option Addr) (c:Nat):GV:=⟨x.g.add y,A,c⟩
theorem xO:∀{gs:List GV} {n:Nat} (hn:n<gs.length) (z:GV) (u:Value),z.cs=[.int .i64 gs[n].g.win,.string gs[n].g.part,u]->fM (gs.set n z)=(fM gs).set (n * 3+2) u
 |x::gs,0,_,z,u,hz=>by
  show z.cs++fM gs=(x.cs++fM gs).set 2 u
  rw[hz];rfl
 |x::gs,n+1,hn,z,u,hz=>by
  have ih:=xO (gs:=gs) (n:=n) (by simpa using hn) z u hz;show x.cs++fM (gs.set n z)=(x.cs++fM gs).set ((n+1) * 3+2) u
  rw[ih,List.set_append,if_neg (by rw[GV.aQ];omega)];congr 2
  rw[GV.aQ];omega
theorem Ed {n:Nat} (hn:n<gs.length) (y:RV) (A:Option Addr) (c:Nat):fM (gs.set n (gs[n].add y A c))=(fM gs).set (n * 3+2) (.slice A (gs[n].g.rows.length+1) c):=by
 refine xO hn _ _ ?_;show [Value.int .i64 gs[n].g.win,.string gs[n].g.part,.slice A (gs[n].g.rows++[y]).length c]=_
 rw[List.length_append,List.length_singleton]
theorem dV.add {g c0:Nat} (h:dV B w (.slice (some ⟨g,0,none⟩) gs.length c0) gs) {n:Nat} (hn:n<gs.length) {y:RV} {A:Option Addr} {c:Nat} (o:w7.ownsRow B 79 9 (.slice A (gs[n].g.rows.length+1) c) (gs[n].g.rows.length+1) (bM gs[n].g.rows++bM [y]))
 (ch:Ch (fun k=>gs[n].sl.ownBlock=some k) w w7) (hat:(Value.slice A (gs[n].g.rows.length+1) c).ownBlock=gs[n].sl.ownBlock∨∃k,(Value.slice A (gs[n].g.rows.length+1) c).ownBlock=some k/\w.heap.size<=k):
 dV B (w7.setCell ⟨g,n * 3+2,none⟩ (.slice A (gs[n].g.rows.length+1) c)) (.slice (some ⟨g,0,none⟩) gs.length c0) (gs.set n (gs[n].add y A c)):=by
 have o7:w7.ownsRow B 135 3 (.slice (some ⟨g,0,none⟩) gs.length c0) gs.length (fM gs):=z06 h.own ch (fun k hk=>IQ h.own (h.rows n hn) (by decide) k hk);have r7:∀i (hi:i<gs.length),i≠n->w7.ownsRow B 79 9 gs[i].sl gs[i].g.rows.length (bM gs[i].g.rows):=fun i hi hne=>z06 (h.rows i hi) ch (fun k hk=>h.apart i n hi hn hne k hk);have cs:Ch (fun k=>k=g) w7 (w7.setCell ⟨g,n * 3+2,none⟩ (.slice A (gs[n].g.rows.length+1) c)):=Ch.setCell (Ch.refl (fun k=>k=g) w7) (p:=⟨g,n * 3+2,none⟩) (fun _=>rfl) _;refine ⟨?_,fun i hi=>?_,fun i j hi hj hne k hk=>?_⟩
 ·rw[List.length_set,Ed hn]
  exact (o7.stored _ _).1
 ·rw[List.length_set]at hi
  rw[List.getElem_set];split
  ·next e=>
   subst e;have h1:(gs[n].add y A c).g.rows=gs[n].g.rows++[y]:=rfl
   have h2:(gs[n].add y A c).sl=.slice A (gs[n].g.rows.length+1) c:=by
    unfold GV.sl;rw[h1,List.length_append,List.length_singleton];rfl
   rw[h2,h1,List.length_append,List.length_singleton,show bM (gs[n].g.rows++[y])=bM gs[n].g.rows++bM [y] by simp[bM]];exact z06 o cs (fun k hk e=>IQ o o7 (by decide) k hk (by rw[e];rfl))
  ·next e=>exact z06 (r7 i hi (fun e2=>e e2.symm)) cs (fun k hk e2=>IQ (r7 i hi (fun e2=>e e2.symm)) o7 (by decide) k hk (by rw[e2];rfl))
 ·rw[List.length_set]at hi hj
  have key:∀i (hi:i<gs.length),i≠n->∀k,(Value.slice A (gs[n].g.rows.length+1) c).ownBlock=some k->gs[i].sl.ownBlock≠some k:=by
   intro i hi hne k hk e;rcases hat with hh|⟨k2,hk2,hge⟩
   ·rw[hh]at hk
    exact h.apart i n hi hn hne k e hk
   ·rw[hk2]at hk
    injection hk with hk;subst hk;have:=((h.rows i hi).lt _ e).2;omega
  have h2:(gs[n].add y A c).sl=.slice A (gs[n].g.rows.length+1) c:=by
   unfold GV.sl;have h1:(gs[n].add y A c).g.rows=gs[n].g.rows++[y]:=rfl;rw[h1,List.length_append,List.length_singleton];rfl
  rw[List.getElem_set]at hk ⊢;by_cases e1:n=i
  ·rw[if_pos e1]at hk
   subst e1;rw[if_neg hne];rw[h2]at hk;exact key j hj (fun e=>hne e.symm) k hk
  ·rw[if_neg e1]at hk
   by_cases e2:n=j
   ·subst e2
    rw[if_pos rfl,h2];intro e;exact key i hi (fun e=>e1 e.symm) k e hk
   ·rw[if_neg e2]
    exact h.apart i j hi hj hne k hk
end
theorem Tryz.KP:(Tryz.prog.info? 44).map (fun i=>(i.zero,i.size,i.bytes))=some (some (.agg #[.int .i64 0,.string ⟨#[]⟩,.slice none 0 0]),3,48):=by kernel_rfl
structure gU (B:Nat) (w:World) (v:Value) (gs:List GV):Prop where
 own:w.ownsRow B 44 3 v gs.length (fM gs)
 rows:∀i (hi:i<gs.length),w.ownsRow B 79 9 gs[i].sl gs[i].g.rows.length (bM gs[i].g.rows)
 apart:∀i j (hi:i<gs.length) (hj:j<gs.length),i≠j->∀k,gs[i].sl.ownBlock=some k->gs[j].sl.ownBlock≠some k
section
variable {B : Nat} {w w' w7 : World} {v v' : Value} {gs : List GV}
theorem gU.nil (B:Nat) (w:World):gU B w (.slice none 0 0) []:=⟨World.ownsRow_nil _ _ _ _,fun i hi=>absurd hi (Nat.not_lt_zero _),fun i j hi=>absurd hi (Nat.not_lt_zero _)⟩
theorem gU.ch {S:Nat->Prop} (h:gU B w v gs) (c:Ch S w w') (hS:∀k,B<=k->¬S k):gU B w' v gs:=
 ⟨z06 h.own c (fun k hk=>hS k (h.own.lt k hk).1),fun i hi=>z06 (h.rows i hi) c (fun k hk=>hS k ((h.rows i hi).lt k hk).1),h.apart⟩
theorem gU.tr (h:gU B w v gs) (c:Nx w w'):gU B w' v gs:=h.ch c fun _ _ hf=>hf
theorem gU.ins (h:gU B w v gs) {q:Int} {p:ByteArray} {n:Nat} (hn:n<=gs.length) (o:w7.ownsRow B 44 3 v' (gs.length+1) (fM (gs.take n)++fM [⟨⟨q,p,[]⟩,none,0⟩]++fM (gs.drop n))) (c:Nx w w7):
 gU B w7 v' (gs.take n++⟨⟨q,p,[]⟩,none,0⟩::gs.drop n):=by
 have hl:(gs.take n++(⟨⟨q,p,[]⟩,none,0⟩:GV)::gs.drop n).length=gs.length+1:=by simp;omega
 have at_:∀i (hi:i<(gs.take n++(⟨⟨q,p,[]⟩,none,0⟩:GV)::gs.drop n).length),((gs.take n++(⟨⟨q,p,[]⟩,none,0⟩:GV)::gs.drop n)[i]=⟨⟨q,p,[]⟩,none,0⟩/\i=n)∨∃k,∃hk:k<gs.length,(gs.take n++(⟨⟨q,p,[]⟩,none,0⟩:GV)::gs.drop n)[i]=gs[k]/\k=(if i<n then i else i-1)/\i≠n:=fun i hi=>by
  have ht:(gs.take n).length=n:=by rw[List.length_take];omega
  rcases Nat.lt_trichotomy i n with hc|hc|hc
  ·refine .inr ⟨i,by omega,?_,by rw[if_pos hc],by omega⟩
   rw[List.getElem_append_left (by omega),List.getElem_take]
  ·subst hc
   refine .inl ⟨?_,rfl⟩;rw[List.getElem_append_right (by omega)];simp[ht]
  ·rw[hl]at hi
   refine .inr ⟨i-1,by omega,?_,by rw[if_neg (by omega)],by omega⟩;rw[List.getElem_append_right (by omega),List.getElem_cons,dif_neg (by omega),List.getElem_drop];congr 1
   omega
 refine ⟨by rw[hl,show fM (gs.take n++(⟨⟨q,p,[]⟩,none,0⟩:GV)::gs.drop n)=fM (gs.take n)++fM [⟨⟨q,p,[]⟩,none,0⟩]++fM (gs.drop n) by simp[fM]];exact o,fun i hi=>?_,fun i j hi hj hne k hk=>?_⟩
 ·rcases at_ i hi with ⟨e, -⟩|⟨k,hk,e, -, -⟩
  ·rw[e]
   exact World.ownsRow_nil _ _ _ _
  ·rw[e]
   exact z06 (h.rows k hk) c (fun _ _ hf=>hf)
 ·rcases at_ i hi with ⟨e, -⟩|⟨a,ha,e,e1,e2⟩
  ·rw[e]at hk
   simp[GV.sl,Value.ownBlock]at hk
  ·rcases at_ j hj with ⟨e', -⟩|⟨b,hb,e',e3,e4⟩
   ·rw[e']
    simp[GV.sl,Value.ownBlock]
   ·rw[e]at hk
    rw[e'];refine h.apart a b ha hb (fun e5=>?_) k hk;rw[e1,e3]at e5;split at e5<;>split at e5<;>omega
theorem gU.add {g c0:Nat} (h:gU B w (.slice (some ⟨g,0,none⟩) gs.length c0) gs) {n:Nat} (hn:n<gs.length) {y:RV} {A:Option Addr} {c:Nat} (o:w7.ownsRow B 79 9 (.slice A (gs[n].g.rows.length+1) c) (gs[n].g.rows.length+1) (bM gs[n].g.rows++bM [y]))
 (ch:Ch (fun k=>gs[n].sl.ownBlock=some k) w w7) (hat:(Value.slice A (gs[n].g.rows.length+1) c).ownBlock=gs[n].sl.ownBlock∨∃k,(Value.slice A (gs[n].g.rows.length+1) c).ownBlock=some k/\w.heap.size<=k):
 gU B (w7.setCell ⟨g,n * 3+2,none⟩ (.slice A (gs[n].g.rows.length+1) c)) (.slice (some ⟨g,0,none⟩) gs.length c0) (gs.set n (gs[n].add y A c)):=by
 have o7:w7.ownsRow B 44 3 (.slice (some ⟨g,0,none⟩) gs.length c0) gs.length (fM gs):=z06 h.own ch (fun k hk=>IQ h.own (h.rows n hn) (by decide) k hk);have r7:∀i (hi:i<gs.length),i≠n->w7.ownsRow B 79 9 gs[i].sl gs[i].g.rows.length (bM gs[i].g.rows):=fun i hi hne=>z06 (h.rows i hi) ch (fun k hk=>h.apart i n hi hn hne k hk);have cs:Ch (fun k=>k=g) w7 (w7.setCell ⟨g,n * 3+2,none⟩ (.slice A (gs[n].g.rows.length+1) c)):=Ch.setCell (Ch.refl (fun k=>k=g) w7) (p:=⟨g,n * 3+2,none⟩) (fun _=>rfl) _;refine ⟨?_,fun i hi=>?_,fun i j hi hj hne k hk=>?_⟩
 ·rw[List.length_set,Ed hn]
  exact (o7.stored _ _).1
 ·rw[List.length_set]at hi
  rw[List.getElem_set];split
  ·next e=>
   subst e;have h1:(gs[n].add y A c).g.rows=gs[n].g.rows++[y]:=rfl
   have h2:(gs[n].add y A c).sl=.slice A (gs[n].g.rows.length+1) c:=by
    unfold GV.sl;rw[h1,List.length_append,List.length_singleton];rfl
   rw[h2,h1,List.length_append,List.length_singleton,show bM (gs[n].g.rows++[y])=bM gs[n].g.rows++bM [y] by simp[bM]];exact z06 o cs (fun k hk e=>IQ o o7 (by decide) k hk (by rw[e];rfl))
  ·next e=>exact z06 (r7 i hi (fun e2=>e e2.symm)) cs (fun k hk e2=>IQ (r7 i hi (fun e2=>e e2.symm)) o7 (by decide) k hk (by rw[e2];rfl))
 ·rw[List.length_set]at hi hj
  have key:∀i (hi:i<gs.length),i≠n->∀k,(Value.slice A (gs[n].g.rows.length+1) c).ownBlock=some k->gs[i].sl.ownBlock≠some k:=by
   intro i hi hne k hk e;rcases hat with hh|⟨k2,hk2,hge⟩
   ·rw[hh]at hk
    exact h.apart i n hi hn hne k e hk
   ·rw[hk2]at hk
    injection hk with hk;subst hk;have:=((h.rows i hi).lt _ e).2;omega
  have h2:(gs[n].add y A c).sl=.slice A (gs[n].g.rows.length+1) c:=by
   unfold GV.sl;have h1:(gs[n].add y A c).g.rows=gs[n].g.rows++[y]:=rfl;rw[h1,List.length_append,List.length_singleton];rfl
  rw[List.getElem_set]at hk ⊢;by_cases e1:n=i
  ·rw[if_pos e1]at hk
   subst e1;rw[if_neg hne];rw[h2]at hk;exact key j hj (fun e=>hne e.symm) k hk
  ·rw[if_neg e1]at hk
   by_cases e2:n=j
   ·subst e2
    rw[if_pos rfl,h2];intro e;exact key i hi (fun e=>e1 e.symm) k e hk
   ·rw[if_neg e2]
    exact h.apart i j hi hj hne k hk
end
end Go.Proofs.YtdbfejfhpkakhaaGreat
namespace Go.Proofs.YtdbfejfhpkakhaaGreat
open Ps
def ltK (a b:Int×ByteArray):Prop:=a.1<b.1∨(a.1=b.1/\bD a.2 b.2=true)
theorem Gv {a b c:Int×ByteArray} (h:ltK a b) (k:ltK b c):ltK a c:=by
 unfold ltK at *;rcases h with h|⟨h,h2⟩<;>rcases k with k|⟨k,k2⟩
 ·exact .inl (by omega)
 ·exact .inl (by omega)
 ·exact .inl (by omega)
 ·exact .inr ⟨by omega,Zd h2 k2⟩
theorem Kv {a b:Int×ByteArray} (h:ltK a b):a≠b:=by
 rintro rfl;rcases h with h|⟨-,h⟩
 ·omega
 ·rw[YW]at h;cases h
theorem Pq {a b:Int×ByteArray} (h:¬ltK a b) (hne:a≠b):ltK b a:=by
 unfold ltK at *;by_cases h1:b.1<a.1
 ·exact .inl h1
 ·have h2:a.1=b.1:=by
   by_cases h3:a.1<b.1
   ·exact absurd (.inl h3) h
   ·omega
  refine .inr ⟨h2.symm,?_⟩;cases h4:bD b.2 a.2
  ·exfalso
   have h5:bD a.2 b.2=false:=by
    cases h6:bD a.2 b.2
    ·rfl
    ·exact absurd (.inr ⟨h2,h6⟩) h
   exact hne (Prod.ext h2 (rV h5 h4))
  ·rfl
section
variable {α : Type} {key : α → Int × ByteArray} {gs : List (kC α)} {pre : List α}
def pR (gs:List (kC α)):Prop:=gs.Pairwise fun a b=>ltK a.key b.key
theorem Ot {k:Int×ByteArray} (h:pR gs) {n:Nat} (hn:n<=gs.length) (h1:∀i (hi:i<gs.length),i<n->ltK gs[i].key k) (h2:∀hi:n<gs.length,ltK k gs[n].key):
 pR (gs.take n++⟨k.1,k.2,[]⟩::gs.drop n)/\∀g∈gs,g.key≠k:=by
 have ht:∀g∈gs.take n,ltK g.key k:=fun g hg=>by
  obtain ⟨i,hi,rfl⟩:=List.getElem_of_mem hg;rw[List.getElem_take];rw[List.length_take]at hi;exact h1 i (by omega) (by omega)
 have hd:∀g∈gs.drop n,ltK k g.key:=fun g hg=>by
  obtain ⟨i,hi,rfl⟩:=List.getElem_of_mem hg;rw[List.length_drop]at hi;rw[List.getElem_drop];rcases Nat.eq_zero_or_pos i with e|e
  ·subst e
   exact h2 (by omega)
  ·exact Gv (h2 (by omega)) (List.pairwise_iff_getElem.1 h n (n+i) (by omega) (by omega) (by omega))
 have hp:pR (gs.take n++gs.drop n):=by rw[List.take_append_drop];exact h
 obtain ⟨p1,p2,p3⟩:=List.pairwise_append.1 hp;refine ⟨List.pairwise_append.2 ⟨p1,List.pairwise_cons.2 ⟨fun g hg=>hd g hg,p2⟩,fun a ha b hb=>?_⟩,fun g hg=>?_⟩
 ·rcases List.mem_cons.1 hb with rfl|hb
  ·exact ht a ha
  ·exact p3 a ha b hb
 ·rw[←List.take_append_drop n gs]at hg
  rcases List.mem_append.1 hg with hg|hg
  ·exact Kv (ht g hg)
  ·exact fun e=>Kv (hd g hg) e.symm
theorem Oz (h:jm key gs pre) {x:α} {n:Nat} (hne:∀g∈gs,g.key≠key x):jm key (gs.take n++⟨(key x).1,(key x).2,[]⟩::gs.drop n) pre:=by
 refine (h.new hne).perm ?_;refine List.Perm.trans ?_ (List.perm_append_singleton _ _).symm;refine List.Perm.trans List.perm_middle ?_;rw[List.take_append_drop]
theorem Ou (h:pR gs) {n:Nat} (hn:n<gs.length) (x:α):pR (gs.set n (gs[n].add x)):=by
 have hk:∀i (hi:i<gs.length),((gs.set n (gs[n].add x))[i]'(by rw[List.length_set];exact hi)).key=gs[i].key:=fun i hi=>by
  rw[List.getElem_set];split
  ·next e=>subst e;rfl
  ·rfl
 refine List.pairwise_iff_getElem.2 fun i j hi hj hij=>?_;rw[List.length_set]at hi hj;rw[hk i hi,hk j hj];exact List.pairwise_iff_getElem.1 h i j hi hj hij
end
end Go.Proofs.YtdbfejfhpkakhaaGreat
namespace Go.Proofs.YtdbfejfhpkakhaaGreat
open Go.RowKit Ps
theorem BH {w:World} {D:Nat->Prop} {A:Option Addr} {n k:Nat} {l:List GV} (h:Rd w D 3 A n (fM l)) (hk:k<l.length):∃ad,A=some ad/\w.cell? (ad.add (k * 3))=some (.int .i64 l[k].g.win)/\
 w.cell? ⟨(ad.add (k * 3)).block,(ad.add (k * 3)).off+1,none⟩=some (.string l[k].g.part)/\
 w.cell? ⟨(ad.add (k * 3)).block,(ad.add (k * 3)).off+2,none⟩=some (.slice l[k].A l[k].g.rows.length l[k].c):=by
 have hn:0<n:=by have:=h.1;rw[show (fM l).length=l.length * 3 from zy GV.aQ l]at this;omega
 obtain ⟨ad,rfl,hb,hc⟩:=h.2 hn;exact ⟨ad,rfl,hc (k * 3+0) _ (oI GV.aQ hk (by decide)),z09 0 (hc (k * 3+1) _ (oI GV.aQ hk (by decide))),z09 1 (hc (k * 3+2) _ (oI GV.aQ hk (by decide)))⟩
def MS (gs:List GV) (n:Nat) (k:Int×ByteArray):Prop:=∀hi:n<gs.length,¬ltK gs[n].g.key k
def Sr (gs:List GV) (n:Nat) (k:Int×ByteArray):Prop:=∃hi:n<gs.length,gs[n].g.key=k
def MZ (gs:List GV) (n:Nat) (k:Int×ByteArray):Prop:=∀hi:n<gs.length,gs[n].g.key≠k
def iM (gs:List GV) (n:Nat) (q:Int) (p:ByteArray):List GV:=gs.take n++(⟨⟨q,p,[]⟩,none,0⟩:GV)::gs.drop n
theorem KH {gs:List GV} {n:Nat} {q:Int} {p:ByteArray} (hn:n<=gs.length):(iM gs n q p).length=gs.length+1:=by
 unfold iM;simp
 omega
theorem KI {gs:List GV} {n:Nat} {q:Int} {p:ByteArray} (hn:n<=gs.length) (h:n<(iM gs n q p).length):(iM gs n q p)[n]=⟨⟨q,p,[]⟩,none,0⟩:=by
 have ht:(gs.take n).length=n:=by rw[List.length_take];omega
 have h1:(iM gs n q p)[n]?=some ⟨⟨q,p,[]⟩,none,0⟩:=by
  unfold iM;rw[List.getElem?_append_right (by omega)];simp[ht]
 rw[List.getElem?_eq_getElem h]at h1;injection h1
theorem KG {gs:List GV} {n:Nat} {q:Int} {p:ByteArray}:(iM gs n q p).map (fun g=>g.g)=(gs.map fun g=>g.g).take n++⟨q,p,[]⟩::(gs.map fun g=>g.g).drop n:=by
 unfold iM;rw[List.map_append,List.map_cons,List.map_take,List.map_drop]
theorem PG {key:RV->Int×ByteArray} {gs:List GV} {pre:List RV} {x:RV} {n:Nat} {q:Int} {p:ByteArray} (hn:n<=gs.length) (hk:key x=(q,p)) (hS:jm key (gs.map fun g=>g.g) pre) (hT:pR (gs.map fun g=>g.g))
 (h1:∀i (hi:i<gs.length),i<n->ltK gs[i].g.key (q,p)) (h2:∀hi:n<gs.length,¬ltK gs[n].g.key (q,p)) (h3:∀hi:n<gs.length,gs[n].g.key≠(q,p)):
 jm key ((iM gs n q p).map fun g=>g.g) pre/\pR ((iM gs n q p).map fun g=>g.g):=by
 have hl:(gs.map fun g=>g.g).length=gs.length:=List.length_map ..;obtain ⟨a,b⟩:=Ot (k:=(q,p)) hT (n:=n) (by omega) (fun i hi hin=>by rw[List.getElem_map];exact h1 i (by omega) hin) (fun hi=>by rw[List.getElem_map];exact Pq (h2 (by omega)) (h3 (by omega)));rw[KG];refine ⟨?_,a⟩;have:=Oz (n:=n) hS (x:=x) (fun g hg=>by rw[hk];exact b g hg);rw[hk]at this;exact this
theorem Rd.Xo (w:World) (q:Int) (p:ByteArray):Rd (w.alloc (.cells #[.int .i64 q,.string p,.slice none 0 0] 44)) (fun k=>k=w.heap.size) 3 (some ⟨w.heap.size,0,none⟩) 1 (fM [⟨⟨q,p,[]⟩,none,0⟩]):=
 ⟨rfl,fun _=>⟨_,rfl,rfl,fun j u hu=>World.news_of_block (aG.new w 44 #[.int .i64 q,.string p,.slice none 0 0]) j u (by simpa [fM,GV.cs]using hu)⟩⟩
end Go.Proofs.YtdbfejfhpkakhaaGreat
