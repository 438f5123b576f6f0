/- Contracts and plain laws that the last text rests on. Conditions: each theorem states its own. -/
import Derived.Test.YtdbfejfhpkakhaaGreatKKf2Q3
import Derived.IntWalk
import Derived.Lib.Varint
import Derived.Lib.Zigzag
import Derived.Deep.CutBlock
import Derived.Deep.DeepCutAuto
set_option maxRecDepth 100000
set_option maxHeartbeats 4000000
set_option linter.unusedVariables false
namespace Go.Proofs.YtdbfejfhpkakhaaGreat
open Go.RowKit
theorem pU.Tv {W w:World} {e:TypeId} {n:Nat} {v:Value} {xs:List Value} (h:aA W w e 1 v n xs) (hn:0<n):pU W e 1 n xs (.returned v) w:=by
 obtain ⟨g,cap,hv,_,_⟩:=h.own.form hn;exact pU.AB h (by rw[hv];simp[Value.ownBlock])
theorem NK (v:Nat) (W:World) (hv:v<18446744073709551616):Calls Tryz.prog 52 #[.int .u64 (v:Int)] W (pU W 5 1 (au v).length (bl (au v))):=by
 obtain ⟨i0,hi0,hz0,hz1,hz2⟩:=info_parts Tryz.info5;have h0:=aA.nil W W 5 1 (Ch.refl _ W);have hl10:=(z05 hv).2;go_enter Tryz.func52,Tryz.ntmps52;go_wp2_with fail;go_loopw [0,3] (fun s0 u wr=>∃(r:Nat) (pre:List Nat),r<18446744073709551616/\s0=.int .u64 (r:Int)/\aA W wr 5 1 u pre.length (bl pre)/\Hid (au v=pre++au r)/\pre.length+(au r).length<=10) (fun s0 _ _=>(intOf s0).toNat)
 case atStart=>exact ⟨v,[],hv,rfl,by simpa [bl]using h0,ah rfl,by simpa using hl10⟩
 case round=>
  clear h0;obtain ⟨w1,rfl⟩:∃w1:World,w1=wr:=⟨_,rfl⟩;obtain ⟨r,pre,hr,rfl,ho,H,hlen⟩:=hrel
  have kw:IntKind.u8.wrap (r:Int)=((r % 256:Nat):Int):=by
   have:IntKind.u8.wrap (r:Int)=(r:Int) % 256:=(by simp[IntKind.wrap,IntKind.bits,IntKind.signed]);omega
  have hpl:=(z05 hr).1;by_cases h:128<=r
  ·have hb:=lW h
   have hor:bits .or .u8 ((r % 256:Nat):Int) 128=((128+r % 128:Nat):Int):=by
    rw[Lib.u8_or128_any _ (by omega) (by omega)];omega
   have hdiv:(r:Int) / 128=((r / 128:Nat):Int):=(by omega);have e2:bl (pre++[128+r % 128])=bl pre++[.int .u8 ((128+r % 128:Nat):Int)]:=(by simp[bl]);have hlb:(au r).length=(au (r / 128)).length+1:=by rw[hb];rfl
   have hm:r / 128<r:=(by omega);have hr2:r / 128<18446744073709551616:=(by omega);have Hb:=ah hb;have He2:=ah e2;clear hb e2;generalize r / 128=q at *;generalize 128+r % 128=y at *;generalize r % 256=z at *;go_wp2_with (at_builtin;refine QU rfl (.tmp 6) (.tmp 10) _ rfl 5 i0 _ 1 Tryz.underlying47 hi0 hz0 hz1 hz2 rfl _ rfl rfl ho rfl (by simp only[maxLen];omega) (by omega) ?_;intro v' w' ho2 hmv)
   go_roundw
   case rel=>exact ⟨q,pre++[y],hr2,rfl,by rw[List.length_append,He2.out];exact ho2,ah (by rw[H.out,Hb.out];simp),by rw[List.length_append];simp only[List.length_cons,List.length_nil];omega⟩
   case measure=>simp[intOf];omega
  ·have hs:=WG (show r<128 by omega)
   have e2:bl (pre++[r])=bl pre++[.int .u8 (r:Int)]:=(by simp[bl]);rw[show r % 256=r by omega]at kw;have He2:=ah e2;have Hs:=ah hs;clear e2 hs;go_wp2_with (at_builtin;refine QU rfl (.tmp 14) (.tmp 17) _ rfl 5 i0 _ 1 Tryz.underlying47 hi0 hz0 hz1 hz2 rfl _ rfl rfl ho rfl (by simp only[maxLen];omega) (by omega) ?_;intro v' w' ho2 hmv)
   go_ret;rw[H.out,Hs.out,List.length_append,He2.out];exact pU.Tv ho2 (Nat.succ_pos _)
theorem Iz (x:Int) (h0: -9223372036854775808<=x) (h1:x<=9223372036854775807):
 bits .xor .u64 (IntKind.u64.wrap (IntKind.u64.wrap x * 2)) (IntKind.u64.wrap (x / 9223372036854775808))=(zig x:Int):=by
 by_cases h:0<=x
 ·obtain ⟨n,rfl⟩:=Int.eq_ofNat_of_zero_le h
  have e1:IntKind.u64.wrap (IntKind.u64.wrap (n:Int) * 2)=((2 * n:Nat):Int):=by rw[IntKind.wrap_u64,IntKind.wrap_u64];omega
  have e2:IntKind.u64.wrap ((n:Int) / 9223372036854775808)=((0:Nat):Int):=by rw[IntKind.wrap_u64];omega
  rw[e1,e2,u64_xor_nat _ _ (by omega) (by decide),Nat.xor_zero];unfold zig;rw[if_pos (by omega)];omega
 ·have e1:IntKind.u64.wrap (IntKind.u64.wrap x * 2)=(((2 * x+18446744073709551616).toNat:Nat):Int):=by rw[IntKind.wrap_u64,IntKind.wrap_u64];omega
  have e2:IntKind.u64.wrap (x / 9223372036854775808)=((2 ^ 64-1:Nat):Int):=by rw[IntKind.wrap_u64];omega
  rw[e1,e2,u64_xor_nat _ _ (by omega) (by decide),Nat.xor_comm,Lib.xor_ones64 _ (by omega)];unfold zig;rw[if_neg h];omega
theorem JL (x:Int) (w:World) (h0: -9223372036854775808<=x) (h1:x<=9223372036854775807):Calls Tryz.prog 218 #[.int .i64 x] w fun e w'=>e=.returned (.int .u64 (zig x:Int))/\w=w':=by
 have H:=ah (Iz x h0 h1);go_enter Tryz.func218,Tryz.ntmps218;go_wp2_with fail;go_ret;exact ⟨Ov H.out,rfl⟩
theorem FQ (x:Int) (W:World) (h0: -9223372036854775808<=x) (h1:x<=9223372036854775807):Calls Tryz.prog 202 #[.int .i64 x] W (pU W 5 1 (au (zig x)).length (bl (au (zig x)))):=by
 have hz:=yX h0 h1;go_enter Tryz.func202,Tryz.ntmps202;go_wp2_with fail;with_reducible refine (JL x _ h0 h1).mono ?_
 rintro e w1 ⟨rfl,rfl⟩;go_wp2_with fail;with_reducible refine (NK _ _ hz).mono ?_
 rintro e w1 ⟨k,cap,rfl,h⟩;go_wp2_with fail;go_ret;exact ⟨k,cap,rfl,h⟩
end Go.Proofs.YtdbfejfhpkakhaaGreat
namespace Go.Proofs.YtdbfejfhpkakhaaGreat
def oV (x:Int):Prop:= -1152921504606846976<=x/\x<=1152921504606846976
instance (x:Int):Decidable (oV x):=by unfold oV;exact inferInstance
def jc (l:List Int) (fr k:Nat):List Int:=(List.range l.length).map fun j=>if k<j/\fr<=j then l.getD j 0-l.getD (j-1) 0 else l.getD j 0
def M_ (l:List Int) (fr:Nat):List Int:=(List.range l.length).map fun j=>if fr<=j then l.getD j 0-l.getD (j-1) 0 else l.getD j 0
def eF (l:List Int):Nat->List Int
 |0=>l
 |k+1=>M_ (eF l k) (k+1)
theorem z2o (l:List Int) (fr k:Nat):(jc l fr k).length=l.length:=by simp[jc]
theorem oK (l:List Int) (fr:Nat):(M_ l fr).length=l.length:=by simp[M_]
theorem z1H (l:List Int):∀k,(eF l k).length=l.length:=by
 intro k;induction k with
 |zero=>rfl
 |succ k ih=>rw[eF,oK,ih]
theorem sH (l:List Int) (fr k:Nat) (h:l.length<=k+1):jc l fr k=l:=by
 apply List.ext_getElem
 ·simp[jc]
 ·intro i h1 h2
  simp only[jc,List.getElem_map,List.getElem_range];rw[if_neg (by omega)];simp[List.getD,h2]
theorem zJ (l:List Int) (fr k:Nat) (h:k<fr):jc l fr k=M_ l fr:=by
 unfold jc M_;refine List.map_congr_left fun j _=>?_;by_cases hj:fr<=j
 ·rw[if_pos ⟨by omega,hj⟩,if_pos hj]
 ·rw[if_neg (by omega),if_neg hj]
theorem YR (l:List Int) (fr k j:Nat) (hj:j<l.length):(jc l fr k).getD j 0=if k<j/\fr<=j then l.getD j 0-l.getD (j-1) 0 else l.getD j 0:=by
 simp[jc,List.getD,hj]
theorem zI (l:List Int) (fr k:Nat) (hk:k+1<l.length) (hf:fr<=k+1):(jc l fr (k+1)).set (k+1) ((jc l fr (k+1)).getD (k+1) 0-(jc l fr (k+1)).getD k 0)=jc l fr k:=by
 rw[YR l fr (k+1) (k+1) hk,YR l fr (k+1) k (by omega),if_neg (by omega),if_neg (by omega)];apply List.ext_getElem
 ·simp[jc]
 ·intro i h1 h2
  rw[List.getElem_set];simp only[jc,List.getElem_map,List.getElem_range];by_cases e:k+1=i
  ·subst e
   rw[if_pos rfl,if_pos ⟨by omega,hf⟩];simp
  ·rw[if_neg e]
   by_cases h:k+1<i/\fr<=i
   ·rw[if_pos h,if_pos (by omega)]
   ·rw[if_neg h,if_neg (by omega)]
def jG (B:Int) (l:List Int):Prop:=∀x∈l, -B<=x/\x<=B
theorem z19 {B:Int} {l:List Int} (h:jG B l) (hB:0<=B) (i:Nat): -B<=l.getD i 0/\l.getD i 0<=B:=by
 by_cases hi:i<l.length
 ·have e:l.getD i 0=l[i]:=by simp[List.getD,hi]
  rw[e];exact h _ (List.getElem_mem hi)
 ·rw[List.getD_eq_getElem?_getD,List.getElem?_eq_none (by omega)]
  simp only[Option.getD_none];omega
theorem zK {B:Int} {l:List Int} (h:jG B l) (hB:0<=B) (fr k:Nat):jG (2 * B) (jc l fr k):=by
 intro x hx;simp only[jc,List.mem_map]at hx;obtain ⟨j,_,rfl⟩:=hx;have h1:=z19 h hB j;have h2:=z19 h hB (j-1);split<;>omega
theorem ZX {B:Int} {l:List Int} (h:jG B l) (hB:0<=B) (fr:Nat):jG (2 * B) (M_ l fr):=by
 intro x hx;simp only[M_,List.mem_map]at hx;obtain ⟨j,_,rfl⟩:=hx;have h1:=z19 h hB j;have h2:=z19 h hB (j-1);split<;>omega
theorem Z_ {l:List Int} (h:∀x∈l,oV x):∀k,k<=2->jG 4611686018427387904 (eF l k):=by
 have h0:jG 1152921504606846976 l:=fun x hx=>h x hx;have h1:=ZX h0 (by omega) 1;have h2:=ZX h1 (by omega) 2;intro k hk;match k,hk with
 |0,_=>intro x hx;have:=h0 x hx;omega
 |1,_=>intro x hx;have:=h1 x hx;omega
 |2,_=>intro x hx;have:=h2 x hx;omega
def oq (l:List Int):List Nat:=l.flatMap fun x=>au (zig x)
def gY (l:List Int) (w:Nat):List Nat:=au l.length++oq (eF l w)
theorem z1D {l:List Int} {k:Nat} (h:k<l.length):oq (l.take (k+1))=oq (l.take k)++au (zig (l.getD k 0)):=by
 have e:l.getD k 0=l[k]:=by simp[List.getD,h]
 rw[e,List.take_succ_eq_append_getElem h];unfold oq;rw[List.flatMap_append];simp
theorem CB {B:Int} {l:List Int} (h:jG B l) (hB:B<=4611686018427387904) {x:Int} (hx:x∈l):zig x<18446744073709551616:=by
 have:=h x hx;exact yX (by omega) (by omega)
theorem Bh {l:List Int} (h:jG 4611686018427387904 l):okB (oq l):=by
 intro x hx;simp only[oq,List.mem_flatMap]at hx;obtain ⟨y,hy,hx⟩:=hx;exact iQ (CB h (Int.le_refl _) hy) x hx
theorem xI {l:List Int} (h:jG 4611686018427387904 l):(oq l).length<=10 * l.length:=by
 induction l with
 |nil=>simp[oq]
 |cons x l ih=>
  have h1:=(z05 (CB h (Int.le_refl _) (x:=x) (by simp))).2;have h2:=ih (fun y hy=>h y (by simp[hy]));have e:oq (x::l)=au (zig x)++oq l:=rfl;rw[e,List.length_append,List.length_cons];omega
theorem PL {l:List Int} (h:∀x∈l,oV x) (hl:l.length<18446744073709551616) {k:Nat} (hk:k<=2):okB (gY l k):=fun x hx=>by
 rcases List.mem_append.1 hx with h1|h1
 ·exact iQ hl x h1
 ·exact Bh (Z_ h k hk) x h1
theorem m_ {l:List Int} (h:∀x∈l,oV x) (hl:l.length<18446744073709551616) {k:Nat} (hk:k<=2):1<=(gY l k).length/\(gY l k).length<=10+10 * l.length:=by
 have h1:=z05 hl;have h2:=xI (Z_ h k hk);rw[z1H]at h2;unfold gY;rw[List.length_append];omega
def jh (l:List Int):Int:=if 2048<l.length then 5 else if ∀x∈l,oV x then 0 else 2
def bst (l:List Int):Nat->Nat×Int
 |0=>(0, -1)
 |k+1=>if (bst l k).2<0∨((gY l k).length:Int)<(bst l k).2 then (k,((gY l k).length:Int)) else bst l k
theorem Ux (l:List Int):∀k,(bst l k).1<=k-1:=by
 intro k;induction k with
 |zero=>exact Nat.le_refl _
 |succ k ih=>
  simp only[bst];split
  ·exact Nat.le_refl _
  ·omega
def fM (l:List Int):Nat:=if jh l≠0 then 0 else (bst l 3).1
theorem Vt (l:List Int):fM l<=2:=by
 unfold fM;split
 ·omega
 ·exact Ux l 3
theorem Vu {l:List Int} (h:jh l=0):l.length<=2048/\∀x∈l,oV x:=by
 unfold jh at h;split at h
 ·cases h
 ·split at h
  ·exact ⟨by omega,by assumption⟩
  ·cases h
end Go.Proofs.YtdbfejfhpkakhaaGreat
