/- Contracts and plain laws that the last text rests on. Conditions: each theorem states its own. -/
import Derived.Test.YtdbfejfhpkakhaaGreatKKd2Q3
import Derived.IntWalk
import Derived.Lib.Varint
import Derived.Lib.Zigzag
import Derived.Deep.CutBlock
import Derived.Deep.DeepCutAuto
set_option maxRecDepth 100000
set_option maxHeartbeats 4000000
set_option linter.unusedVariables false
set_option linter.unusedSimpArgs false
namespace Go.Proofs.YtdbfejfhpkakhaaGreat
open Go.RowKit
theorem pX.TP {W w:World} {e:TypeId} {n:Nat} {v:Value} {xs:List Value} (h:aF W w e 1 v n xs) (hn:0<n):pX W e 1 n xs (.returned v) w:=by
 obtain ⟨g,cap,hv,_,_⟩:=h.own.form hn;exact pX.A_ h (by rw[hv];simp[Value.ownBlock])
theorem z10 (v:Nat) (W:World) (hv:v<18446744073709551616):Calls Tryz.prog 52 #[.int .u64 (v:Int)] W (pX W 5 1 (aB v).length (bl (aB v))):=by
 obtain ⟨i0,hi0,hz0,hz1,hz2⟩:=info_parts Tryz.info5;have h0:=aF.nil W W 5 1 (Ch.refl _ W);have hl10:=(z08 hv).2;go_enter Tryz.func52,Tryz.ntmps52;go_wp2_with fail;go_loopw [0,3] (fun s0 u wr=>∃(r:Nat) (pre:List Nat),r<18446744073709551616/\s0=.int .u64 (r:Int)/\aF W wr 5 1 u pre.length (bl pre)/\Hid (aB v=pre++aB r)/\pre.length+(aB r).length<=10) (fun s0 _ _=>(intOf s0).toNat)
 case atStart=>exact ⟨v,[],hv,rfl,by simpa [bl]using h0,ah rfl,by simpa using hl10⟩
 case round=>
  clear h0;obtain ⟨w1,rfl⟩:∃w1:World,w1=wr:=⟨_,rfl⟩;obtain ⟨r,pre,hr,rfl,ho,H,hlen⟩:=hrel
  have kw:IntKind.u8.wrap (r:Int)=((r % 256:Nat):Int):=by
   have:IntKind.u8.wrap (r:Int)=(r:Int) % 256:=(by simp[IntKind.wrap,IntKind.bits,IntKind.signed]);omega
  have hpl:=(z08 hr).1;by_cases h:128<=r
  ·have hb:=Tz h
   have hor:bits .or .u8 ((r % 256:Nat):Int) 128=((128+r % 128:Nat):Int):=by
    rw[Lib.u8_or128_any _ (by omega) (by omega)];omega
   have hdiv:(r:Int) / 128=((r / 128:Nat):Int):=(by omega);have e2:bl (pre++[128+r % 128])=bl pre++[.int .u8 ((128+r % 128:Nat):Int)]:=(by simp[bl]);have hlb:(aB r).length=(aB (r / 128)).length+1:=by rw[hb];rfl
   have hm:r / 128<r:=(by omega);have hr2:r / 128<18446744073709551616:=(by omega);have Hb:=ah hb;have He2:=ah e2;clear hb e2;generalize r / 128=q at *;generalize 128+r % 128=y at *;generalize r % 256=z at *;go_wp2_with (at_builtin;refine Rq rfl (.tmp 6) (.tmp 10) _ rfl 5 i0 _ 1 Tryz.underlying47 hi0 hz0 hz1 hz2 rfl _ rfl rfl ho rfl (by simp only[maxLen];omega) (by omega) ?_;intro v' w' ho2 hmv)
   go_roundw
   case rel=>exact ⟨q,pre++[y],hr2,rfl,by rw[List.length_append,He2.out];exact ho2,ah (by rw[H.out,Hb.out];simp),by rw[List.length_append];simp only[List.length_cons,List.length_nil];omega⟩
   case measure=>simp[intOf];omega
  ·have hs:=Nv (show r<128 by omega)
   have e2:bl (pre++[r])=bl pre++[.int .u8 (r:Int)]:=(by simp[bl]);rw[show r % 256=r by omega]at kw;have He2:=ah e2;have Hs:=ah hs;clear e2 hs;go_wp2_with (at_builtin;refine Rq rfl (.tmp 14) (.tmp 17) _ rfl 5 i0 _ 1 Tryz.underlying47 hi0 hz0 hz1 hz2 rfl _ rfl rfl ho rfl (by simp only[maxLen];omega) (by omega) ?_;intro v' w' ho2 hmv)
   go_ret;rw[H.out,Hs.out,List.length_append,He2.out];exact pX.TP ho2 (Nat.succ_pos _)
theorem IW (x:Int) (h0: -9223372036854775808<=x) (h1:x<=9223372036854775807):
 bits .xor .u64 (IntKind.u64.wrap (IntKind.u64.wrap x * 2)) (IntKind.u64.wrap (x / 9223372036854775808))=(zig x:Int):=by
 by_cases h:0<=x
 ·obtain ⟨n,rfl⟩:=Int.eq_ofNat_of_zero_le h
  have e1:IntKind.u64.wrap (IntKind.u64.wrap (n:Int) * 2)=((2 * n:Nat):Int):=by rw[IntKind.wrap_u64,IntKind.wrap_u64];omega
  have e2:IntKind.u64.wrap ((n:Int) / 9223372036854775808)=((0:Nat):Int):=by rw[IntKind.wrap_u64];omega
  rw[e1,e2,u64_xor_nat _ _ (by omega) (by decide),Nat.xor_zero];unfold zig;rw[if_pos (by omega)];omega
 ·have e1:IntKind.u64.wrap (IntKind.u64.wrap x * 2)=(((2 * x+18446744073709551616).toNat:Nat):Int):=by rw[IntKind.wrap_u64,IntKind.wrap_u64];omega
  have e2:IntKind.u64.wrap (x / 9223372036854775808)=((2 ^ 64-1:Nat):Int):=by rw[IntKind.wrap_u64];omega
  rw[e1,e2,u64_xor_nat _ _ (by omega) (by decide),Nat.xor_comm,Lib.xor_ones64 _ (by omega)];unfold zig;rw[if_neg h];omega
theorem J_ (x:Int) (w:World) (h0: -9223372036854775808<=x) (h1:x<=9223372036854775807):Calls Tryz.prog 218 #[.int .i64 x] w fun e w'=>e=.returned (.int .u64 (zig x:Int))/\w=w':=by
 have H:=ah (IW x h0 h1);go_enter Tryz.func218,Tryz.ntmps218;go_wp2_with fail;go_ret;exact ⟨OH H.out,rfl⟩
theorem Gj (x:Int) (W:World) (h0: -9223372036854775808<=x) (h1:x<=9223372036854775807):Calls Tryz.prog 202 #[.int .i64 x] W (pX W 5 1 (aB (zig x)).length (bl (aB (zig x)))):=by
 have hz:=zu h0 h1;go_enter Tryz.func202,Tryz.ntmps202;go_wp2_with fail;with_reducible refine (J_ x _ h0 h1).mono ?_
 rintro e w1 ⟨rfl,rfl⟩;go_wp2_with fail;with_reducible refine (z10 _ _ hz).mono ?_
 rintro e w1 ⟨k,cap,rfl,h⟩;go_wp2_with fail;go_ret;exact ⟨k,cap,rfl,h⟩
end Go.Proofs.YtdbfejfhpkakhaaGreat
namespace Go.Proofs.YtdbfejfhpkakhaaGreat
def o_ (x:Int):Prop:= -1152921504606846976<=x/\x<=1152921504606846976
instance (x:Int):Decidable (o_ x):=by unfold o_;exact inferInstance
def jf (l:List Int) (fr k:Nat):List Int:=(List.range l.length).map fun j=>if k<j/\fr<=j then l.getD j 0-l.getD (j-1) 0 else l.getD j 0
def Nq (l:List Int) (fr:Nat):List Int:=(List.range l.length).map fun j=>if fr<=j then l.getD j 0-l.getD (j-1) 0 else l.getD j 0
def eH (l:List Int):Nat->List Int
 |0=>l
 |k+1=>Nq (eH l k) (k+1)
theorem z2p (l:List Int) (fr k:Nat):(jf l fr k).length=l.length:=by simp[jf]
theorem oO (l:List Int) (fr:Nat):(Nq l fr).length=l.length:=by simp[Nq]
theorem z1H (l:List Int):∀k,(eH l k).length=l.length:=by
 intro k;induction k with
 |zero=>rfl
 |succ k ih=>rw[eH,oO,ih]
theorem sV (l:List Int) (fr k:Nat) (h:l.length<=k+1):jf l fr k=l:=by
 apply List.ext_getElem
 ·simp[jf]
 ·intro i h1 h2
  simp only[jf,List.getElem_map,List.getElem_range];rw[if_neg (by omega)];simp[List.getD,h2]
theorem zV (l:List Int) (fr k:Nat) (h:k<fr):jf l fr k=Nq l fr:=by
 unfold jf Nq;refine List.map_congr_left fun j _=>?_;by_cases hj:fr<=j
 ·rw[if_pos ⟨by omega,hj⟩,if_pos hj]
 ·rw[if_neg (by omega),if_neg hj]
theorem z21 (l:List Int) (fr k j:Nat) (hj:j<l.length):(jf l fr k).getD j 0=if k<j/\fr<=j then l.getD j 0-l.getD (j-1) 0 else l.getD j 0:=by
 simp[jf,List.getD,hj]
theorem zU (l:List Int) (fr k:Nat) (hk:k+1<l.length) (hf:fr<=k+1):(jf l fr (k+1)).set (k+1) ((jf l fr (k+1)).getD (k+1) 0-(jf l fr (k+1)).getD k 0)=jf l fr k:=by
 rw[z21 l fr (k+1) (k+1) hk,z21 l fr (k+1) k (by omega),if_neg (by omega),if_neg (by omega)];apply List.ext_getElem
 ·simp[jf]
 ·intro i h1 h2
  rw[List.getElem_set];simp only[jf,List.getElem_map,List.getElem_range];by_cases e:k+1=i
  ·subst e
   rw[if_pos rfl,if_pos ⟨by omega,hf⟩];simp
  ·rw[if_neg e]
   by_cases h:k+1<i/\fr<=i
   ·rw[if_pos h,if_pos (by omega)]
   ·rw[if_neg h,if_neg (by omega)]
def jK (B:Int) (l:List Int):Prop:=∀x∈l, -B<=x/\x<=B
theorem z19 {B:Int} {l:List Int} (h:jK B l) (hB:0<=B) (i:Nat): -B<=l.getD i 0/\l.getD i 0<=B:=by
 by_cases hi:i<l.length
 ·have e:l.getD i 0=l[i]:=by simp[List.getD,hi]
  rw[e];exact h _ (List.getElem_mem hi)
 ·rw[List.getD_eq_getElem?_getD,List.getElem?_eq_none (by omega)]
  simp only[Option.getD_none];omega
theorem zW {B:Int} {l:List Int} (h:jK B l) (hB:0<=B) (fr k:Nat):jK (2 * B) (jf l fr k):=by
 intro x hx;simp only[jf,List.mem_map]at hx;obtain ⟨j,_,rfl⟩:=hx;have h1:=z19 h hB j;have h2:=z19 h hB (j-1);split<;>omega
theorem z2F {B:Int} {l:List Int} (h:jK B l) (hB:0<=B) (fr:Nat):jK (2 * B) (Nq l fr):=by
 intro x hx;simp only[Nq,List.mem_map]at hx;obtain ⟨j,_,rfl⟩:=hx;have h1:=z19 h hB j;have h2:=z19 h hB (j-1);split<;>omega
theorem z2D {l:List Int} (h:∀x∈l,o_ x):∀k,k<=2->jK 4611686018427387904 (eH l k):=by
 have h0:jK 1152921504606846976 l:=fun x hx=>h x hx;have h1:=z2F h0 (by omega) 1;have h2:=z2F h1 (by omega) 2;intro k hk;match k,hk with
 |0,_=>intro x hx;have:=h0 x hx;omega
 |1,_=>intro x hx;have:=h1 x hx;omega
 |2,_=>intro x hx;have:=h2 x hx;omega
def oH (l:List Int):List Nat:=l.flatMap fun x=>aB (zig x)
def gZ (l:List Int) (w:Nat):List Nat:=aB l.length++oH (eH l w)
theorem z1E {l:List Int} {k:Nat} (h:k<l.length):oH (l.take (k+1))=oH (l.take k)++aB (zig (l.getD k 0)):=by
 have e:l.getD k 0=l[k]:=by simp[List.getD,h]
 rw[e,List.take_succ_eq_append_getElem h];unfold oH;rw[List.flatMap_append];simp
theorem C_ {B:Int} {l:List Int} (h:jK B l) (hB:B<=4611686018427387904) {x:Int} (hx:x∈l):zig x<18446744073709551616:=by
 have:=h x hx;exact zu (by omega) (by omega)
theorem BO {l:List Int} (h:jK 4611686018427387904 l):okB (oH l):=by
 intro x hx;simp only[oH,List.mem_flatMap]at hx;obtain ⟨y,hy,hx⟩:=hx;exact iG (C_ h (Int.le_refl _) hy) x hx
theorem xU {l:List Int} (h:jK 4611686018427387904 l):(oH l).length<=10 * l.length:=by
 induction l with
 |nil=>simp[oH]
 |cons x l ih=>
  have h1:=(z08 (C_ h (Int.le_refl _) (x:=x) (by simp))).2;have h2:=ih (fun y hy=>h y (by simp[hy]));have e:oH (x::l)=aB (zig x)++oH l:=rfl;rw[e,List.length_append,List.length_cons];omega
theorem Qd {l:List Int} (h:∀x∈l,o_ x) (hl:l.length<18446744073709551616) {k:Nat} (hk:k<=2):okB (gZ l k):=fun x hx=>by
 rcases List.mem_append.1 hx with h1|h1
 ·exact iG hl x h1
 ·exact BO (z2D h k hk) x h1
theorem ny {l:List Int} (h:∀x∈l,o_ x) (hl:l.length<18446744073709551616) {k:Nat} (hk:k<=2):1<=(gZ l k).length/\(gZ l k).length<=10+10 * l.length:=by
 have h1:=z08 hl;have h2:=xU (z2D h k hk);rw[z1H]at h2;unfold gZ;rw[List.length_append];omega
def jl (l:List Int):Int:=if 2048<l.length then 5 else if ∀x∈l,o_ x then 0 else 2
def bst (l:List Int):Nat->Nat×Int
 |0=>(0, -1)
 |k+1=>if (bst l k).2<0∨((gZ l k).length:Int)<(bst l k).2 then (k,((gZ l k).length:Int)) else bst l k
theorem UO (l:List Int):∀k,(bst l k).1<=k-1:=by
 intro k;induction k with
 |zero=>exact Nat.le_refl _
 |succ k ih=>
  simp only[bst];split
  ·exact Nat.le_refl _
  ·omega
def fO (l:List Int):Nat:=if jl l≠0 then 0 else (bst l 3).1
theorem VK (l:List Int):fO l<=2:=by
 unfold fO;split
 ·omega
 ·exact UO l 3
theorem VL {l:List Int} (h:jl l=0):l.length<=2048/\∀x∈l,o_ x:=by
 unfold jl at h;split at h
 ·cases h
 ·split at h
  ·exact ⟨by omega,by assumption⟩
  ·cases h
end Go.Proofs.YtdbfejfhpkakhaaGreat
