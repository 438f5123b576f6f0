/- Contracts and plain laws that the last text rests on. Conditions: each theorem states its own. -/
import Derived.Test.YtdbfejfhpkakhaaGreatKeQ6
import Derived.Test.YtdbfejfhpkakhaaGreatKeQ8
import Derived.Test.YtdbfejfhpkakhaaGreatKeQ4
import Derived.Test.YtdbfejfhpkakhaaGreatKeQ5
import Derived.Shelf.SlSortCmp.WholeK
import Derived.Deep.RegionHeld3
import Derived.Test.YtdbfejfhpkakhaaGreatKePbLaw
import Derived.Maps.Views
import Derived.Maps.OwnOps
import Derived.Maps.OwnSet
import Derived.DeepKeys4
set_option maxRecDepth 100000
set_option maxHeartbeats 4000000
set_option linter.unusedVariables false
namespace Go.Proofs.YtdbfejfhpkakhaaGreat
open Go.RowKit Go.Sort
structure GV where
 g:Ps.pq RV
 A:Option Addr
 c:Nat
def GV.cs (x:GV):List Value:=[.int .i64 x.g.win,.string x.g.part,.slice x.A x.g.rows.length x.c]
instance:Inhabited GV:=⟨⟨⟨0,⟨#[]⟩,[]⟩,none,0⟩⟩
def jg (l:List GV):List Value:=l.flatMap GV.cs
theorem GV.aO (x:GV):x.cs.length=3:=rfl
def jl (a b:ByteArray):Int:=if bC a b=true then -1 else if bC b a=true then 1 else 0
def AB (x y:GV):Int:=qC [gV x.g.win y.g.win,jl x.g.part y.g.part]
theorem JM (a b:ByteArray):jl a b<0↔bC a b=true:=by
 unfold jl;by_cases h:bC a b=true
 ·simp[h]
 ·by_cases h2:bC b a=true
  ·simp[h,h2]
  ·simp[h,h2]
theorem nJ (a b:ByteArray):bC a b=true↔a.data.toList<b.data.toList:=by
 unfold bC;rw[decide_eq_true_iff]
theorem uf (x y:GV):ltOf AB x y=decide (x.g.win<y.g.win∨(x.g.win=y.g.win/\bC x.g.part y.g.part=true)):=by
 unfold ltOf;rw[decide_eq_decide];have a:=Xb x.g.win y.g.win;have a':=z2n x.g.win y.g.win;have b':=JM x.g.part y.g.part;unfold AB qC;by_cases h1:x.g.win=y.g.win
 ·rw[if_pos (a.2 h1)]
  have e:qC [jl x.g.part y.g.part]=jl x.g.part y.g.part:=by
   unfold qC qC;split
   ·next h=>rw[h]
   ·rfl
  rw[e,b'];constructor
  ·exact fun h=>.inr ⟨h1,h⟩
  ·rintro (h|⟨_,h⟩)
   ·omega
   ·exact h
 ·rw[if_neg (fun e=>h1 (a.1 e)),a']
  constructor
  ·exact .inl
  ·rintro (h|⟨h,_⟩)
   ·exact h
   ·exact absurd h h1
theorem xW {a b c:ByteArray} (h1:¬bC a b=true) (h2:¬bC b c=true):¬bC a c=true:=by
 rw[nJ]at *;intro h;exact h2 (List.lt_of_le_of_lt (List.not_lt.1 h1) h)
theorem JQ:SWO (ltOf AB) where
 irrefl x:=by
  rw[uf,decide_eq_false_iff_not];rintro (h|⟨_,h⟩)
  ·omega
  ·rw[nI]at h;cases h
 trans x y z h1 h2:=by
  rw[uf,decide_eq_true_iff]at h1 h2 ⊢;rcases h1 with h1|⟨e1,h1⟩<;>rcases h2 with h2|⟨e2,h2⟩
  ·left;omega
  ·left;omega
  ·left;omega
  ·right;exact ⟨by omega,Yo h1 h2⟩
 ntrans x y z h1 h2:=by
  rw[uf,decide_eq_false_iff_not]at h1 h2 ⊢
  have t1:y.g.win<=x.g.win/\(x.g.win=y.g.win->¬bC x.g.part y.g.part=true):=⟨by
   rcases Int.lt_or_le x.g.win y.g.win with h|h
   ·exact absurd (.inl h) h1
   ·exact h,fun e h=>h1 (.inr ⟨e,h⟩)⟩
  have t2:z.g.win<=y.g.win/\(y.g.win=z.g.win->¬bC y.g.part z.g.part=true):=⟨by
   rcases Int.lt_or_le y.g.win z.g.win with h|h
   ·exact absurd (.inl h) h2
   ·exact h,fun e h=>h2 (.inr ⟨e,h⟩)⟩
  rintro (h|⟨e,h⟩)
  ·omega
  ·exact xW (t1.2 (by omega)) (t2.2 (by omega)) h
theorem IW (x:ByteArray) (w:World):Calls Tryz.prog 115 #[.string x] w fun e w'=>e=.returned (.bool false)/\w=w':=by
 have hq:(x.toList !=x.toList)=false:=by simp
 go_enter Tryz.func115,Tryz.ntmps115;go_wp2_with fail;go_ret;exact ⟨by first|rfl|simp,rfl⟩
theorem FY {a b:ByteArray} (h1:bC a b=false) (h2:bC b a=false):a=b:=by
 have k1:¬a.data.toList<b.data.toList:=fun h=>by rw[(nJ a b).2 h]at h1;cases h1
 have k2:¬b.data.toList<a.data.toList:=fun h=>by rw[(nJ b a).2 h]at h2;cases h2
 have e:=List.le_antisymm (List.not_lt.1 k2) (List.not_lt.1 k1);obtain ⟨⟨a⟩⟩:=a;obtain ⟨⟨b⟩⟩:=b;simp at e;rw[e]
theorem JK (x y:ByteArray) (w:World):Calls Tryz.prog 88 #[.string x,.string y] w fun e w'=>e=.returned (.int .i64 (jl x y))/\w=w':=by
 have Hn:=ah IW;have q1:=KT x y;have q2:=KT y x;cases h1:bC x y
 ·cases h2:bC y x
  ·have HR:Hid (jl x y=0):=ah (by unfold jl;rw[h1,h2];rfl)
   rw[h1]at q1;rw[h2]at q2;have q3:(x.toList==y.toList)=true:=by rw[FY h1 h2];simp
   clear h1 h2;go_enter Tryz.func88,Tryz.ntmps88;go_wp2_with fail;refine (Hn.out _ _).mono ?_;rintro e w1 ⟨rfl,rfl⟩;go_wp2_with fail;refine (Hn.out _ _).mono ?_;rintro e w1 ⟨rfl,rfl⟩;go_wp2_with fail;go_ret;exact ⟨by rw[HR.out];rfl,rfl⟩
  ·have HR:Hid (jl x y=1):=ah (by unfold jl;rw[h1,h2];rfl)
   rw[h1]at q1;rw[h2]at q2
   have q3:(x.toList==y.toList)=false:=by
    rw[beq_eq_false_iff_ne];intro e
    have e2:x=y:=by
     rw[ByteArray.toList_eq,ByteArray.toList_eq]at e;cases x;cases y
     simpa [Array.ext_iff]using congrArg List.toArray e
    subst e2;rw[nI]at h2;cases h2
   clear h1 h2;go_enter Tryz.func88,Tryz.ntmps88;go_wp2_with fail;refine (Hn.out _ _).mono ?_;rintro e w1 ⟨rfl,rfl⟩;go_wp2_with fail;refine (Hn.out _ _).mono ?_;rintro e w1 ⟨rfl,rfl⟩;go_wp2_with fail;go_ret;exact ⟨by rw[HR.out];rfl,rfl⟩
 ·have HR:Hid (jl x y= -1):=ah (by unfold jl;rw[h1];rfl)
  rw[h1]at q1;clear h1;go_enter Tryz.func88,Tryz.ntmps88;go_wp2_with fail;refine (Hn.out _ _).mono ?_;rintro e w1 ⟨rfl,rfl⟩;go_wp2_with fail;refine (Hn.out _ _).mono ?_;rintro e w1 ⟨rfl,rfl⟩;go_wp2_with fail;go_ret;exact ⟨by rw[HR.out];rfl,rfl⟩
end Go.Proofs.YtdbfejfhpkakhaaGreat
namespace Go.Proofs.YtdbfejfhpkakhaaGreat
open Go.RowKit Go.Maps Ps
theorem Tryz.UH:WideMaps.KeyLaw Tryz.prog 173:=deep_law_laid Tryz.wz (m:=3) (by omega) (of_decide_eq_true (by kernel_rfl)) (by kernel_rfl) (by kernel_rfl)
theorem Tryz.jT:Keyed Tryz.prog 173:=Keyed.of_law Tryz.UH
def Iu (k:Int×ByteArray):Value:=.agg #[.int .i64 k.1,.string k.2]
def KY (k:Int×ByteArray):Lit:=.string (keyBytes [.int .i64 k.1,.string k.2.data.toList])
def La (k:Int×ByteArray):Prop:=i64 k.1/\k.2.size<=1000000
theorem wf64 {a:Int} (h:i64 a):(Lit.int .i64 a).wf=true:=by
 obtain ⟨h3,h4⟩:=h;have h1:IntKind.i64.min= -9223372036854775808:=rfl;have h2:IntKind.i64.max=9223372036854775807:=rfl;simp only[Lit.wf,Bool.and_eq_true,decide_eq_true_eq];omega
theorem lS {k:Int×ByteArray} (h:La k):keyOf Tryz.prog 173 (Iu k)=some (KY k):=by
 have hsz:∃m,Tryz.prog.types.size=m+1:=⟨Tryz.prog.types.size-1,by have:0<Tryz.prog.types.size:=of_decide_eq_true (by kernel_rfl);omega⟩;have hkt:Tryz.prog.keyType 173=true:=by kernel_rfl
 have hc:Tryz.prog.cellsOf 173=2:=by kernel_rfl
 have hc1:Tryz.prog.cellsOf 3=1:=by kernel_rfl
 have hc2:Tryz.prog.cellsOf 9=1:=by kernel_rfl
 have hf:(Iu k).formed Tryz.prog 173=true:=by
  simp[Iu,Value.formed,Tryz.underlying173,hc]
 obtain ⟨m,hm⟩:=hsz;have wa:=wf64 h.1;have wb:k.2.size<=maxLen:=by have:=h.2;unfold maxLen;omega
 unfold keyOf;simp only[Tryz.underlying173];rw[if_pos (by rw[hkt,hf];rfl),hm];unfold Program.keyLits Iu KY;simp only[Tryz.underlying173,Value.cells];rw[if_pos (by rw[hc];exact ⟨rfl,by simp⟩)];simp[hc1,hc2,Program.keyLits,Tryz.underlying3,Tryz.underlying9,wa,wb]
theorem Cc {a b:Int×ByteArray} (ha:La a) (hb:La b) (h:KY a=KY b):a=b:=by
 have h1:=lS ha;have h2:=lS hb;rw[h]at h1;have h3:=Tryz.jT.inj h1 h2;unfold Iu at h3;obtain ⟨a1,a2⟩:=a;obtain ⟨b1,b2⟩:=b;simp at h3;rw[h3.1,h3.2]
theorem Cb (a:Int×ByteArray):WideAt.IsKeyLit (KY a):=trivial
theorem uF (w:World):(zeroValue 3).run Tryz.prog w=.ok (.int .i64 0) w:=by kernel_rfl
def oZ (w:World) (b n:Nat) (ks:List (Int×ByteArray)):Prop:=∃D:DataW Unit,w.ownsMap Tryz.prog 173 (plainElem Tryz.prog 3) b n D/\IsMap D/\
 (∀k,La k->k∉ks->has D (KY k)=false)/\∀i (hi:i<ks.length),La ks[i]->has D (KY ks[i])=true/\D.atKey (KY ks[i]) (.lit (.int .i64 0))=.lit (.int .i64 (i:Int))
theorem oZ.made (w:World):oZ (w.alloc (.map #[] 0)) w.heap.size 0 []:=⟨_,World.ownsMap_made w _ _ _,isMap_empty,fun k _ _=>rfl,fun i hi=>absurd hi (Nat.not_lt_zero _)⟩
theorem oZ.lt {w:World} {b n:Nat} {ks:List (Int×ByteArray)} (h:oZ w b n ks):b<w.heap.size:=h.choose_spec.1.lt
theorem oZ.ch {S:Nat->Prop} {w w':World} {b n:Nat} {ks:List (Int×ByteArray)} (h:oZ w b n ks) (c:Ch S w w') (hb:¬S b):oZ w' b n ks:=by
 obtain ⟨D,h1,h2,h3,h4⟩:=h;refine ⟨D,?_,h2,h3,h4⟩;have hlt:=h1.lt;obtain ⟨es,clock,hb2,F,hs,hD⟩:=h1;exact ⟨es,clock,(c.block b hlt hb).trans hb2,F,hs,hD⟩
theorem Je {v:Value} {z:Int} {ps:List MemPlace} (h:plainElem (H:=Unit) Tryz.prog 3 v=some (.lit (.int .i64 z),ps)):v=.int .i64 z:=by
 unfold plainElem at h;rw[Tryz.underlying3]at h;cases v<;>simp at h
 obtain ⟨⟨rfl,_⟩,rfl,_⟩:=h;rfl
theorem oZ.look0 {w:World} {b n:Nat} {ks:List (Int×ByteArray)} (h:oZ w b n ks) {k:Int×ByteArray} (hk:La k) (hn:k∉ks):∃v,(Instr.lookup 171 (.map (some b)) (Iu k) true).run Tryz.prog w=.ok (.tuple #[v,.bool false]) w:=by
 obtain ⟨D,h1,h2,h3,h4⟩:=h;obtain ⟨v,ps,hrun,hv⟩:=h1.look_ok Tryz.jT Tryz.underlying171 (uF w) (plainElem_int Tryz.underlying3 (wf64 ⟨by decide,by decide⟩)) (lS hk);rw[h3 k hk hn]at hrun;exact ⟨v,hrun⟩
theorem oZ.look1 {w:World} {b n:Nat} {ks:List (Int×ByteArray)} (h:oZ w b n ks) {i:Nat} (hi:i<ks.length) (hk:La ks[i]):(Instr.lookup 171 (.map (some b)) (Iu ks[i]) true).run Tryz.prog w=.ok (.tuple #[.int .i64 (i:Int),.bool true]) w:=by
 obtain ⟨D,h1,h2,h3,h4⟩:=h;obtain ⟨v,ps,hrun,hv⟩:=h1.look_ok Tryz.jT Tryz.underlying171 (uF w) (plainElem_int Tryz.underlying3 (wf64 ⟨by decide,by decide⟩)) (lS hk);obtain ⟨e1,e2⟩:=h4 i hi hk;rw[e1]at hrun;rw[e2]at hv;rw[Je hv]at hrun;exact hrun
theorem oZ.put {w:World} {b n:Nat} {ks:List (Int×ByteArray)} (h:oZ w b n ks) (hn:n<maxLen) {k:Int×ByteArray} (hk:La k) (hno:k∉ks) (hl:ks.length<=1000000):
 ∃w',(Instr.mapUpdate 171 (.map (some b)) (Iu k) (.int .i64 (ks.length:Int))).run Tryz.prog w=.ok () w'/\oZ w' b (n+1) (ks++[k])/\Ch (· =b) w w':=by
 obtain ⟨D,h1,h2,h3,h4⟩:=h;obtain ⟨w',hrun,hown,hg⟩:=h1.update Tryz.jT Tryz.underlying171 hn (lS hk) (plainElem_int Tryz.underlying3 (wf64 (a:=(ks.length:Int)) ⟨by omega,by omega⟩));refine ⟨w',hrun,⟨_,hown,h2.put _ _,fun j hj hjn=>?_,fun i hi hki=>?_⟩,(Ch.refl (· =b) w).grown hg (fun k hk _=>by cases hk;rfl)⟩
 ·rw[List.mem_append,List.mem_singleton,not_or]at hjn
  rw[has_put_other (fun e=>hjn.2 (Cc hj hk e))];exact h3 j hj hjn.1
 ·rw[List.length_append,List.length_singleton]at hi
  rcases Nat.lt_or_ge i ks.length with hl2|hl2
  ·rw[List.getElem_append_left hl2]at hki ⊢
   have hne:KY ks[i]≠KY k:=fun e=>hno (by rw[←Cc hki hk e];exact List.getElem_mem hl2);rw[has_put_other hne,atKey_put_other hne];exact h4 i hl2 hki
  ·have:i=ks.length:=by omega
   subst this;have e:(ks++[k])[ks.length]'(by simp)=k:=(by simp);rw[e];exact ⟨has_put_same h2 (Cb k) _,atKey_put_same h2 (Cb k) _ _⟩
end Go.Proofs.YtdbfejfhpkakhaaGreat
namespace Go.Proofs.YtdbfejfhpkakhaaGreat
open Go.RowKit Ps
theorem Tryz.Na:(Tryz.prog.info? 135).map (fun i=>(i.zero,i.size,i.bytes))=some (some (.agg #[.int .i64 0,.string ⟨#[]⟩,.slice none 0 0]),3,48):=by kernel_rfl
def GV.sl (x:GV):Value:=.slice x.A x.g.rows.length x.c
def GV.key (x:GV):Int×ByteArray:=x.g.key
theorem Np (l:List GV):∀u∈jg l,u.oneCell'=true:=by
 intro u hu;obtain ⟨x,_,hx⟩:=List.mem_flatMap.1 hu;simp[GV.cs]at hx;rcases hx with rfl|rfl|rfl<;>rfl
theorem Ql {w:World} {base base':Nat} {e e':TypeId} {size size' n n':Nat} {v v':Value} {xs xs':List Value} (h:w.ownsRow base e size v n xs) (h':w.ownsRow base' e' size' v' n' xs') (hne:e≠e'):∀k,v.ownBlock=some k->v'.ownBlock≠some k:=by
 rcases h.2 with ⟨rfl,_⟩|⟨g,cap,cur,rfl,_,hh,_⟩
 ·intro k hk
  simp[Value.ownBlock]at hk
 ·intro k hk
  have hg:g=k:=by simpa [Value.ownBlock]using hk
  subst hg;rcases h'.2 with ⟨rfl,_⟩|⟨g',cap',cur',rfl,_,hh',_⟩
  ·simp[Value.ownBlock]
  ·intro he
   have:g'=g:=(by simpa [Value.ownBlock]using he);subst this;rw[hh]at hh';injection hh' with hh';injection hh' with _ ht;exact hne ht
structure dO (B:Nat) (w:World) (v:Value) (gs:List GV):Prop where
 own:w.ownsRow B 135 3 v gs.length (jg gs)
 rows:∀i (hi:i<gs.length),w.ownsRow B 79 9 gs[i].sl gs[i].g.rows.length (dI gs[i].g.rows)
 apart:∀i j (hi:i<gs.length) (hj:j<gs.length),i≠j->∀k,gs[i].sl.ownBlock=some k->gs[j].sl.ownBlock≠some k
section
variable {B : Nat} {w w' w7 : World} {v v' : Value} {gs : List GV}
theorem dO.nil (B:Nat) (w:World):dO B w (.slice none 0 0) []:=⟨World.ownsRow_nil _ _ _ _,fun i hi=>absurd hi (Nat.not_lt_zero _),fun i j hi=>absurd hi (Nat.not_lt_zero _)⟩
theorem dO.ch {S:Nat->Prop} (h:dO B w v gs) (c:Ch S w w') (hS:∀k,B<=k->¬S k):dO B w' v gs:=
 ⟨dY h.own c (fun k hk=>hS k (h.own.lt k hk).1),fun i hi=>dY (h.rows i hi) c (fun k hk=>hS k ((h.rows i hi).lt k hk).1),h.apart⟩
theorem dO.tr (h:dO B w v gs) (c:Nx w w'):dO B w' v gs:=h.ch c fun _ _ hf=>hf
theorem dO.push (h:dO B w v gs) {q:Int} {p:ByteArray} (o:w7.ownsRow B 135 3 v' (gs.length+1) (jg gs++jg [⟨⟨q,p,[]⟩,none,0⟩])) (c:Ch (fun k=>v.ownBlock=some k) w w7):dO B w7 v' (gs++[⟨⟨q,p,[]⟩,none,0⟩]):=by
 refine ⟨by rw[List.length_append,List.length_singleton,show jg (gs++[⟨⟨q,p,[]⟩,none,0⟩])=jg gs++jg [⟨⟨q,p,[]⟩,none,0⟩] by simp[jg]];exact o,fun i hi=>?_,fun i j hi hj hne k hk=>?_⟩
 ·rcases Nat.lt_or_ge i gs.length with hl|hl
  ·rw[List.getElem_append_left hl]
   exact dY (h.rows i hl) c (fun k hk=>Ql (h.rows i hl) h.own (by decide) k hk)
  ·have:i=gs.length:=by rw[List.length_append,List.length_singleton]at hi;omega
   subst this;have e:(gs++[(⟨⟨q,p,[]⟩,none,0⟩:GV)])[gs.length]'hi=⟨⟨q,p,[]⟩,none,0⟩:=(by simp);rw[e];exact World.ownsRow_nil _ _ _ _
 ·rw[List.length_append,List.length_singleton]at hi hj
  rcases Nat.lt_or_ge i gs.length with hl|hl
  ·rw[List.getElem_append_left hl]at hk
   rcases Nat.lt_or_ge j gs.length with hl2|hl2
   ·rw[List.getElem_append_left hl2]
    exact h.apart i j hl hl2 hne k hk
   ·have:j=gs.length:=by omega
    subst this;have e:(gs++[(⟨⟨q,p,[]⟩,none,0⟩:GV)])[gs.length]'(by simp)=⟨⟨q,p,[]⟩,none,0⟩:=(by simp);rw[e];simp[GV.sl,Value.ownBlock]
  ·exfalso
   have:i=gs.length:=(by omega);subst this;have e:(gs++[(⟨⟨q,p,[]⟩,none,0⟩:GV)])[gs.length]'(by simp)=⟨⟨q,p,[]⟩,none,0⟩:=(by simp);rw[e]at hk;simp[GV.sl,Value.ownBlock]at hk
def GV.add (x:GV) (y:RV) (A:Option Addr) (c:Nat):GV:=⟨x.g.add y,A,c⟩
theorem wU:∀{gs:List GV} {n:Nat} (hn:n<gs.length) (z:GV) (u:Value),z.cs=[.int .i64 gs[n].g.win,.string gs[n].g.part,u]->jg (gs.set n z)=(jg gs).set (n * 3+2) u
 |x::gs,0,_,z,u,hz=>by
  show z.cs++jg gs=(x.cs++jg gs).set 2 u
  rw[hz];rfl
 |x::gs,n+1,hn,z,u,hz=>by
  have ih:=wU (gs:=gs) (n:=n) (by simpa using hn) z u hz;show x.cs++jg (gs.set n z)=(x.cs++jg gs).set ((n+1) * 3+2) u
  rw[ih,List.set_append,if_neg (by rw[GV.aO];omega)];congr 2
  rw[GV.aO];omega
theorem Nl {n:Nat} (hn:n<gs.length) (y:RV) (A:Option Addr) (c:Nat):jg (gs.set n (gs[n].add y A c))=(jg gs).set (n * 3+2) (.slice A (gs[n].g.rows.length+1) c):=by
 refine wU hn _ _ ?_;show [Value.int .i64 gs[n].g.win,.string gs[n].g.part,.slice A (gs[n].g.rows++[y]).length c]=_
 rw[List.length_append,List.length_singleton]
theorem dO.add {g c0:Nat} (h:dO B w (.slice (some ⟨g,0,none⟩) gs.length c0) gs) {n:Nat} (hn:n<gs.length) {y:RV} {A:Option Addr} {c:Nat} (o:w7.ownsRow B 79 9 (.slice A (gs[n].g.rows.length+1) c) (gs[n].g.rows.length+1) (dI gs[n].g.rows++dI [y]))
 (ch:Ch (fun k=>gs[n].sl.ownBlock=some k) w w7) (hat:(Value.slice A (gs[n].g.rows.length+1) c).ownBlock=gs[n].sl.ownBlock∨∃k,(Value.slice A (gs[n].g.rows.length+1) c).ownBlock=some k/\w.heap.size<=k):
 dO B (w7.setCell ⟨g,n * 3+2,none⟩ (.slice A (gs[n].g.rows.length+1) c)) (.slice (some ⟨g,0,none⟩) gs.length c0) (gs.set n (gs[n].add y A c)):=by
 have o7:w7.ownsRow B 135 3 (.slice (some ⟨g,0,none⟩) gs.length c0) gs.length (jg gs):=dY h.own ch (fun k hk=>Ql h.own (h.rows n hn) (by decide) k hk);have r7:∀i (hi:i<gs.length),i≠n->w7.ownsRow B 79 9 gs[i].sl gs[i].g.rows.length (dI gs[i].g.rows):=fun i hi hne=>dY (h.rows i hi) ch (fun k hk=>h.apart i n hi hn hne k hk);have cs:Ch (fun k=>k=g) w7 (w7.setCell ⟨g,n * 3+2,none⟩ (.slice A (gs[n].g.rows.length+1) c)):=Ch.setCell (Ch.refl (fun k=>k=g) w7) (p:=⟨g,n * 3+2,none⟩) (fun _=>rfl) _;refine ⟨?_,fun i hi=>?_,fun i j hi hj hne k hk=>?_⟩
 ·rw[List.length_set,Nl hn]
  exact (o7.stored _ _).1
 ·rw[List.length_set]at hi
  rw[List.getElem_set];split
  ·next e=>
   subst e;have h1:(gs[n].add y A c).g.rows=gs[n].g.rows++[y]:=rfl
   have h2:(gs[n].add y A c).sl=.slice A (gs[n].g.rows.length+1) c:=by
    unfold GV.sl;rw[h1,List.length_append,List.length_singleton];rfl
   rw[h2,h1,List.length_append,List.length_singleton,show dI (gs[n].g.rows++[y])=dI gs[n].g.rows++dI [y] by simp[dI]];exact dY o cs (fun k hk e=>Ql o o7 (by decide) k hk (by rw[e];rfl))
  ·next e=>exact dY (r7 i hi (fun e2=>e e2.symm)) cs (fun k hk e2=>Ql (r7 i hi (fun e2=>e e2.symm)) o7 (by decide) k hk (by rw[e2];rfl))
 ·rw[List.length_set]at hi hj
  have key:∀i (hi:i<gs.length),i≠n->∀k,(Value.slice A (gs[n].g.rows.length+1) c).ownBlock=some k->gs[i].sl.ownBlock≠some k:=by
   intro i hi hne k hk e;rcases hat with hh|⟨k2,hk2,hge⟩
   ·rw[hh]at hk
    exact h.apart i n hi hn hne k e hk
   ·rw[hk2]at hk
    injection hk with hk;subst hk;have:=((h.rows i hi).lt _ e).2;omega
  have h2:(gs[n].add y A c).sl=.slice A (gs[n].g.rows.length+1) c:=by
   unfold GV.sl;have h1:(gs[n].add y A c).g.rows=gs[n].g.rows++[y]:=rfl;rw[h1,List.length_append,List.length_singleton];rfl
  rw[List.getElem_set]at hk ⊢;by_cases e1:n=i
  ·rw[if_pos e1]at hk
   subst e1;rw[if_neg hne];rw[h2]at hk;exact key j hj (fun e=>hne e.symm) k hk
  ·rw[if_neg e1]at hk
   by_cases e2:n=j
   ·subst e2
    rw[if_pos rfl,h2];intro e;exact key i hi (fun e=>e1 e.symm) k e hk
   ·rw[if_neg e2]
    exact h.apart i j hi hj hne k hk
end
end Go.Proofs.YtdbfejfhpkakhaaGreat
