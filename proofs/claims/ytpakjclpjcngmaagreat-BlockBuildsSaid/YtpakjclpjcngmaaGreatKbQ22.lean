/- Contracts and plain laws that the last text rests on. Conditions: each theorem states its own. -/
import Derived.Test.YtpakjclpjcngmaaGreatKbQ13
import Derived.Test.YtpakjclpjcngmaaGreatKbQ3
import Derived.Test.YtpakjclpjcngmaaGreatKbPcLaw
import Derived.BigRegion
import Derived.Deep.RegionLaw
import Derived.Test.YtpakjclpjcngmaaGreatKbQ17
import Derived.Test.YtpakjclpjcngmaaGreatKbQ21
import Derived.Test.YtpakjclpjcngmaaGreatKbQ19
import Derived.Test.YtpakjclpjcngmaaGreatKbQ16
import Derived.Test.YtpakjclpjcngmaaGreatKbQ15
import Derived.Test.YtpakjclpjcngmaaGreatKbQ20
import Derived.Test.YtpakjclpjcngmaaGreatKbQ14
set_option maxRecDepth 100000
set_option maxHeartbeats 8000000
set_option linter.unusedVariables false
namespace Go.Proofs.YtpakjclpjcngmaaGreat
open Go.RowKit
theorem Tryz.iT:(Tryz.prog.info? 2).map (fun i=>(i.zero,i.size,i.bytes))=some (some (.int .i64 0),1,8):=by kernel_rfl
theorem Oh (zs:List Int):∀u∈il zs,u.oneCell'=true:=by
 intro u hu;simp only[il,List.mem_map]at hu;obtain ⟨x,_,rfl⟩:=hu;rfl
theorem Rh {zs:List Int} {k:Nat} (h:k<zs.length):(il zs)[k]?=some (.int .i64 (zs.getD k 0)):=by simp[il,List.getD,h]
theorem z4X (D:Nat->Prop) (A:Option Addr) (n c:Nat) (zs:List Int) (w:Nat) (W:World) (hr:Rd W D 1 A n (il zs)) (hl:zs.length=n) (hn:n<=9223372036854775807) (hw:w<=2):
 Calls Tryz.prog 257 #[.slice A n c,.int .i64 (w:Int)] W fun e w'=>e=.returned (.int .i64 (aJ zs))/\W=w':=by
 have Hl:=ah hl;clear hl;by_cases hb:2048<n
 ·have hE:Hid (aJ zs=5):=ah (by unfold aJ;rw[if_pos (by rw[Hl.out];exact hb)])
  go_enter Tryz.func257,Tryz.ntmps257;go_wp2_with fail;go_ret;exact ⟨by rw[hE.out];rfl,rfl⟩
 ·have hE:aJ zs=if ∀x∈zs,jO x then 0 else 2:=by unfold aJ;rw[if_neg (by rw[Hl.out];exact hb)]
  have HE:=ah hE;clear hE;go_enter Tryz.func257,Tryz.ntmps257;go_wp2_with fail;go_loopw [20] (fun i wr=>∃k:Nat,k<=n/\i=.int .i64 (k:Int)/\wr=W/\Hid (∀j,j<k->jO (zs.getD j 0))) (fun i _=>n-(intOf i).toNat)
  case atStart=>exact ⟨0,Nat.zero_le _,rfl,rfl,ah (fun j hj=>absurd hj (by omega))⟩
  case round=>
   obtain ⟨k,hk,rfl,jy,H⟩:=hrel;rw[jy];clear jy;by_cases hlt:k<n
   ·obtain ⟨ad,u,rfl,Ht,hu,hcx⟩:=hr.at_ hlt
    have hkl:k<zs.length:=by rw[Hl.out];exact hlt
    rw[Rh hkl]at hu;injection hu with hu;subst hu;have hmem:zs.getD k 0∈zs:=(by simp[List.getD,hkl]);obtain ⟨x,hx⟩:∃x,zs.getD k 0=x:=⟨_,rfl⟩;rw[hx]at hcx hmem;have Hx:=ah hx;clear hx;by_cases h1:x< -1152921504606846976
    ·have hR:Hid (aJ zs=2):=ah (by rw[HE.out,if_neg (fun h=>by have:=h _ hmem;unfold jO at this;omega)])
     clear hmem;go_wp2_with fail;go_ret;exact ⟨by rw[hR.out];rfl,rfl⟩
    ·by_cases h2:1152921504606846976<x
     ·have hR:Hid (aJ zs=2):=ah (by rw[HE.out,if_neg (fun h=>by have:=h _ hmem;unfold jO at this;omega)])
      clear hmem;go_wp2_with fail;go_ret;exact ⟨by rw[hR.out];rfl,rfl⟩
     ·have hi:Hid (∀j,j<k+1->jO (zs.getD j 0)):=ah (fun j hj=>by
       by_cases e:j=k
       ·subst e;rw[Hx.out];unfold jO;omega
       ·exact H.out j (by omega))
      clear hmem;go_wp2_with fail;go_roundw
      case rel=>exact ⟨k+1,by omega,by go_num,trivial,hi⟩
      case measure=>simp[intOf];omega
   ·have hR:Hid (aJ zs=0):=ah (by
     rw[HE.out,if_pos];intro x hx;obtain ⟨i,hi,rfl⟩:=List.mem_iff_getElem.1 hx;have:=H.out i (by have:=Hl.out;omega);simpa [List.getD,hi]using this)
    go_wp2_with fail;go_ret;exact ⟨by rw[hR.out];rfl,rfl⟩
theorem A_ (D:Nat->Prop) (A:Option Addr) (n c:Nat) (zs:List Int) (fr:Nat) (B:Int) (W:World) (hr:Rd W D 1 A n (il zs)) (hl:zs.length=n) (hn:n<=1000000) (hf1:1<=fr) (hf2:fr<=2) (hb:lD B zs) (hB0:0<=B) (hB:B<=2305843009213693952):
 Calls Tryz.prog 258 #[.slice A n c,.int .i64 (fr:Int)] W (gQ W 2 1 n (il (La zs fr))):=by
 obtain ⟨i0,hi0,hz0,hz1,hz2⟩:=info_parts Tryz.iT;have hlit:=ak.lit W W 2 (Ch.refl _ W) 1;have hr1:=hr.nx (by decide) hlit.nx;have hb1:(Value.slice (some ⟨W.heap.size,0,none⟩) 0 0).ownBlock≠none:=by simp[Value.ownBlock]
 have Hl:=ah hl;clear hl hr;go_enter Tryz.func258,Tryz.ntmps258;go_wp2_with (at_builtin;refine z05 rfl (.tmp 7) (.tmp 8) _ rfl 2 i0 _ 1 8 Tryz.underlying114 hi0 hz0 hz1 hz2 rfl (by omega) rfl hlit D A n c (il zs) rfl hr1 (Oh _) (by simp only[maxLen];omega) (by omega) ?_;intro v3 w3 o3 m3;obtain ⟨k3,cap3,hv3,o4,hk3,hk3',hc3,hm3⟩:=gQ.rJ o3 (m3.some_ hb1);injection hv3 with hv3;rw[hv3])
 rw[Nat.zero_add,List.nil_append]at o4;go_loopw [6] (fun i wr=>∃q:Nat,q<=n/\(fr<=q∨q=n)/\i=.int .i64 ((q:Int)-1)/\ak W wr 2 1 (.slice (some ⟨k3,0,none⟩) n cap3) n (il (jR zs fr (q-1)))) (fun i _=>(intOf i+1).toNat)
 case atStart=>exact ⟨n,Nat.le_refl _,.inr rfl,rfl,by rw[vV zs fr (n-1) (by rw[Hl.out];omega)];simpa using o4⟩
 case round=>
  clear o4 o3 m3;obtain ⟨w4,rfl⟩:∃w4:World,w4=wr:=⟨_,rfl⟩;obtain ⟨q,hq,hqf,rfl,o4⟩:=hrel;by_cases hlt:(fr:Int)<=(q:Int)-1
  ·obtain ⟨k,rfl⟩:∃k,q=k+2:=⟨q-2,by omega⟩
   have hk1:k+1<(jR zs fr (k+1)).length:=by rw[z35,Hl.out];omega
   have hst:=DC zs fr k (by rw[Hl.out];omega) (by omega);have hx:=xO (DI hb hB0 fr (k+1)) (by omega) (k+1)
   have hy: -B<=(jR zs fr (k+1)).getD k 0/\(jR zs fr (k+1)).getD k 0<=B:=by
    rw[z2w _ _ _ _ (by rw[Hl.out];omega),if_neg (by omega)];exact xO hb hB0 k
   have hx2: -B<=(jR zs fr (k+1)).getD (k+1) 0/\(jR zs fr (k+1)).getD (k+1) 0<=B:=by
    rw[z2w _ _ _ _ (by rw[Hl.out];omega),if_neg (by omega)];exact xO hb hB0 (k+1)
   have c1:w4.cell? ⟨k3,k+1,none⟩=some (.int .i64 ((jR zs fr (k+1)).getD (k+1) 0)):=(o4.own.cellAt (k+1) (by omega)).trans (Rh hk1);have c0:w4.cell? ⟨k3,k,none⟩=some (.int .i64 ((jR zs fr (k+1)).getD k 0)):=(o4.own.cellAt k (by omega)).trans (Rh (by rw[z35,Hl.out];omega));have hf:=o4.own.frozenAt (k+1);have hset:=o4.own.stored (k+1);have hil:∀v:Int,(il (jR zs fr (k+1))).set (k+1) (.int .i64 v)=il ((jR zs fr (k+1)).set (k+1) v):=fun v=>by simp[il,List.map_set]
   have BR:=ah hst;have Hil:=ah hil;have O4:=ah o4;clear hst hil hset o4 hx;generalize (jR zs fr (k+1)).getD (k+1) 0=x at *;generalize (jR zs fr (k+1)).getD k 0=y at *;have e1:((k+2:Nat):Int)-1=((k+1:Nat):Int):=(by omega);have e2:((k+1:Nat):Int)-1=(k:Int):=(by omega);rw[e1]at hlt ⊢;have kw:IntKind.i64.wrap (x-y)=x-y:=IntWalk.i64_in _ (by omega);have ke:IntKind.i64.wrap (((k+1:Nat):Int)-1)=(k:Int):=by rw[e2];exact IntWalk.i64_in _ (by omega)
   obtain ⟨j,hj⟩:∃j,k+1=j:=⟨_,rfl⟩;rw[hj]at e2 ke c1 hf hlt ⊢;have Hj:=ah hj;have hjn:j<n:=(by omega);clear hj e1;have i1:(j:Int)<(n:Int):=(by omega);have i2:(k:Int)<(n:Int):=(by omega);go_wp2_with fail;go_region
   go_wp2_with fail;go_roundw
   case rel=>
    refine ⟨k+1,by omega,by omega,by go_num,?_⟩
    have o5:ak W (w4.setCell ⟨k3,j,none⟩ (.int .i64 (x-y))) 2 1 (.slice (some ⟨k3,0,none⟩) n cap3) n ((il (jR zs fr (k+1))).set j (.int .i64 (x-y))):=
     ⟨(O4.out.own.stored j (.int .i64 (x-y))).1,O4.out.nx.setCell (fun hlt=>absurd hlt (Nat.not_lt.2 (O4.out.lt k3 rfl).1)) _⟩
    rw[←Hj.out,Hil.out,BR.out,Hj.out]at o5;rw[Nat.add_sub_cancel];exact o5.tr ((Ch.refl _ _).drew)
   case measure=>simp[intOf];omega
  ·have he:jR zs fr (q-1)=La zs fr:=DF zs fr (q-1) (by omega)
   rw[he]at o4;go_wp2_with fail;go_ret;exact gQ.rJ o4 (by simp[Value.ownBlock])
def Qm (W:World) (zs:List Int) (w:Nat) (e:Ending) (w':World):Prop:=∃v,e=.returned (.tuple #[v,.int .i64 0])/\ak W w' 2 1 v zs.length (il (aH zs w))
theorem EU (D:Nat->Prop) (A:Option Addr) (n c:Nat) (zs:List Int) (w:Nat) (W:World) (hr:Rd W D 1 A n (il zs)) (hl:zs.length=n) (hw:w<=2) (he:aJ zs=0):
 Calls Tryz.prog 212 #[.slice A n c,.int .i64 (w:Int)] W (Qm W zs w):=by
 obtain ⟨i0,hi0,hz0,hz1,hz2⟩:=info_parts Tryz.iT;obtain ⟨hn,hin⟩:=xQ he;rw[hl]at hn;have hck:=z4X D A n c zs w W hr hl (by omega) hw;rw[he]at hck;have hlit:=ak.lit W W 2 (Ch.refl _ W) 1;have hr1:=hr.nx (by decide) hlit.nx;have Yd:=ah hck;have Hl:=ah hl;clear hck hl hr he;go_enter Tryz.func212,Tryz.ntmps212;go_wp2_with fail;with_reducible refine Yd.out.mono ?_
 rintro e w1 ⟨rfl,rfl⟩;go_wp2_with (at_builtin;refine z05 rfl (.tmp 15) (.tmp 16) _ rfl 2 i0 _ 1 8 Tryz.underlying114 hi0 hz0 hz1 hz2 rfl (by omega) rfl hlit D A n c (il zs) rfl hr1 (Oh _) (by simp only[maxLen];omega) (by omega) ?_;intro v3 w3 o3 m3)
 rw[Nat.zero_add,List.nil_append]at o3;go_loopw [7,8] (fun v i wr=>∃k:Nat,k<=w/\i=.int .i64 ((k+1:Nat):Int)/\ak W wr 2 1 v n (il (aH zs k))) (fun _ i _=>w+1-(intOf i).toNat)
 case atStart=>exact ⟨0,Nat.zero_le _,rfl,o3⟩
 case round=>
  clear o3 m3 hlit hr1;obtain ⟨w4,rfl⟩:∃w4:World,w4=wr:=⟨_,rfl⟩;obtain ⟨k,hk,rfl,o4⟩:=hrel;by_cases hlt:k<w
  ·obtain ⟨A4,c4,rfl,_,_⟩:=o4.form
   have hb:lD 2305843009213693952 (aH zs k):=by
    have h0:lD 1152921504606846976 zs:=fun x hx=>hin x hx;have h1:=z3w h0 (by omega) 1;match k,(show k<=1 by omega) with
    |0,_=>intro x hx;have:=h0 x hx;omega
    |1,_=>intro x hx;have:=h1 x hx;omega
   have hs:aH zs (k+1)=La (aH zs k) (k+1):=rfl;have Hs:=ah hs;have hst:=A_ _ A4 n c4 (aH zs k) (k+1) 2305843009213693952 w4 o4.rd (by rw[Lu];exact Hl.out) (by omega) (by omega) (by omega) hb (by omega) (by omega);have BR:=ah hst;clear hs hst;generalize aH zs k=tk at *;go_wp2_with fail;refine BR.out.mono ?_;rintro e w5 ⟨k5,cap5,rfl,o5,_,_,_,_⟩;go_wp2_with fail;go_roundw
   case rel=>exact ⟨k+1,by omega,by go_num,by rw[Hs.out];exact ⟨jM o5.own o4.nx.size,o4.nx.tr o5.nx⟩⟩
   case measure=>simp[intOf];omega
  ·obtain rfl:k=w:=by omega
   go_wp2_with fail;go_ret2;exact ⟨_,rfl,by rw[Hl.out];exact o4⟩
theorem qc (D:Nat->Prop) (A:Option Addr) (n c:Nat) (zs:List Int) (w:Nat) (W:World) (hr:Rd W D 1 A n (il zs)) (hl:zs.length=n) (hn:n<=9223372036854775807) (hw:w<=2) (he:aJ zs≠0):
 Calls Tryz.prog 212 #[.slice A n c,.int .i64 (w:Int)] W fun e w'=>e=.returned (.tuple #[.slice none 0 0,.int .i64 (aJ zs)])/\W=w':=by
 have hck:=z4X D A n c zs w W hr hl hn hw;generalize aJ zs=er at *;have hne:(er !=0)=true:=by rw[bne_iff_ne];exact he
 have Yd:=ah hck;clear hck hl hr he;go_enter Tryz.func212,Tryz.ntmps212;go_wp2_with fail;with_reducible refine Yd.out.mono ?_
 rintro e w1 ⟨rfl,rfl⟩;go_wp2_with fail;go_ret2;exact ⟨rfl,rfl⟩
def Ip (W:World) (zs:List Int) (w:Nat) (e:Ending) (w':World):Prop:=
 ∃k cap,e=.returned (.tuple #[.slice (some ⟨k,0,none⟩) (bC zs w).length cap,.int .i64 0])/\ak W w' 5 1 (.slice (some ⟨k,0,none⟩) (bC zs w).length cap) (bC zs w).length (bl (bC zs w))/\(bC zs w).length<=cap
theorem z3T (D:Nat->Prop) (A:Option Addr) (n c:Nat) (zs:List Int) (w:Nat) (W:World) (hr:Rd W D 1 A n (il zs)) (hl:zs.length=n) (hw:w<=2) (he:aJ zs=0):
 Calls Tryz.prog 164 #[.slice A n c,.int .i64 (w:Int)] W (Ip W zs w):=by
 obtain ⟨i0,hi0,hz0,hz1,hz2⟩:=info_parts Tryz.info5;obtain ⟨hn,hin⟩:=xQ he;have htn:=EU D A n c zs w W hr hl hw he;rw[hl]at hn;have hbd:=VW hin w hw;have htl:=Lu zs w;have HE:Hid (bC zs w=aj n++jh (aH zs w)):=ah (by unfold bC;rw[hl]);unfold Qm at htn;rw[hl]at htn htl;unfold Ip;generalize aH zs w=ts at *;have kT:=ah htl;have Htn:=ah htn;have hpu:=fun w=>U_ n w (by omega);have hpl:=z04 (n:=n) (by omega);have mD:=ah hpu;clear htl htn hpu hl hr he;go_enter Tryz.func164,Tryz.ntmps164;go_wp2_with fail;with_reducible refine Htn.out.mono ?_
 rintro e w1 ⟨v1,rfl,o1⟩;obtain ⟨A1,c1,rfl,_,_⟩:=o1.form;have r1:=o1.rd;go_wp2_with fail;with_reducible refine (mD.out _).mono ?_
 rintro e w2 ⟨k2,cap2,rfl,o2,hk2,hk2',hc2,_⟩;have o2':ak w1 w2 5 1 (.slice (some ⟨k2,0,none⟩) (aj n).length cap2) (aj n).length (bl (aj n)):=o2;generalize aj n=pu at *;go_wp2_with fail;go_loopw [8,26] (fun v i wr=>∃k:Nat,k<=n/\i=.int .i64 (k:Int)/\ak w1 wr 5 1 v (pu++jh (ts.take k)).length (bl (pu++jh (ts.take k)))/\v.ownBlock≠none/\(pu++jh (ts.take k)).length<=10+10 * k) (fun _ i _=>n-(intOf i).toNat)
 case atStart=>exact ⟨0,Nat.zero_le _,rfl,by simpa [jh]using o2',by simp[Value.ownBlock],by simp[jh];omega⟩
 case round=>
  clear o2 o2';obtain ⟨w3,rfl⟩:∃w3:World,w3=wr:=⟨_,rfl⟩;obtain ⟨k,hk,rfl,o3,hb3,hlen⟩:=hrel;by_cases hlt:k<n
  ·obtain ⟨ad,u,rfl,Ht,hu,hcx⟩:=(r1.nx (by decide) o3.nx).at_ hlt
   have hkl:k<ts.length:=by rw[kT.out];exact hlt
   rw[Rh hkl]at hu;injection hu with hu;subst hu;have hx:=xO hbd (by omega) k
   have hsucc:bl (pu++jh (ts.take (k+1)))=bl (pu++jh (ts.take k))++bl (aj (zig (ts.getD k 0))):=by
    rw[z23 hkl];simp[bl]
   have hsl:(pu++jh (ts.take (k+1))).length=(pu++jh (ts.take k)).length+(aj (zig (ts.getD k 0))).length:=by
    rw[z23 hkl];simp;omega
   have hz:=VK (x:=ts.getD k 0) (by omega) (by omega);have hzl:=(z04 hz).2;generalize ts.getD k 0=x at *;have hpi:=fun w=>Jw x w (by omega) (by omega);generalize aj (zig x)=pz at *;have Hpi:=ah hpi;have Hs:=ah hsucc;have Hsl:=ah hsl;clear hsucc hsl hpi;generalize pu++jh (ts.take k)=cur at *;go_wp2_with fail;with_reducible refine (Hpi.out _).mono ?_
   rintro e w4 ⟨k4,cap4,rfl,o4,_,_,_,_⟩;have o5:=o3.tr o4.nx;have r4:=o4.iy;go_wp2_with (at_builtin;refine z05 rfl (.tmp 30) (.tmp 32) _ rfl 5 i0 _ 1 1 Tryz.underlying26 hi0 hz0 hz1 hz2 rfl (by omega) rfl o5 _ (some ⟨k4,0,none⟩) pz.length cap4 (bl pz) rfl r4 (iL _) (by simp only[maxLen];omega) (by omega) ?_;intro v5 w5 o6 m5)
   go_roundw
   case rel=>exact ⟨k+1,by omega,by go_num,by rw[Hs.out,Hsl.out];exact o6,m5.some_ hb3,by rw[Hsl.out];omega⟩
   case measure=>simp[intOf];omega
  ·obtain rfl:k=n:=by omega
   rw[List.take_of_length_le (by rw[kT.out];exact Nat.le_refl _),←HE.out]at o3;have o4:ak W w3 5 1 _ _ _:=⟨jM o3.own o1.nx.size,o1.nx.tr o3.nx⟩;obtain ⟨k4,cap4,hv,o5,_,_,hc5,_⟩:=gQ.rJ o4 hb3;injection hv with hv;subst hv;go_wp2_with fail;go_ret2;exact ⟨k4,cap4,rfl,o5,hc5⟩
theorem Kr (D:Nat->Prop) (A:Option Addr) (n c:Nat) (zs:List Int) (w:Nat) (W:World) (hr:Rd W D 1 A n (il zs)) (hl:zs.length=n) (hn:n<=9223372036854775807) (hw:w<=2) (he:aJ zs≠0):
 Calls Tryz.prog 164 #[.slice A n c,.int .i64 (w:Int)] W fun e w'=>e=.returned (.tuple #[.slice none 0 0,.int .i64 (aJ zs)])/\W=w':=by
 have hck:=qc D A n c zs w W hr hl hn hw he;generalize aJ zs=er at *;have hne:(er !=0)=true:=by rw[bne_iff_ne];exact he
 have Yd:=ah hck;clear hck hl hr he;go_enter Tryz.func164,Tryz.ntmps164;go_wp2_with fail;with_reducible refine Yd.out.mono ?_
 rintro e w1 ⟨rfl,rfl⟩;go_wp2_with fail;go_ret2;exact ⟨rfl,rfl⟩
theorem EW (D:Nat->Prop) (A:Option Addr) (n c:Nat) (zs:List Int) (W:World) (hr:Rd W D 1 A n (il zs)) (hl:zs.length=n) (he:aJ zs=0):
 Calls Tryz.prog 163 #[.slice A n c] W fun e w'=>e=.returned (.int .i64 (bD zs:Int))/\Nx W w':=by
 have henc:=fun (w:World) (nx:Nx W w) (k:Nat) (hk:k<=2)=>z3T D A n c zs k w (hr.nx (by decide) nx) hl hk he
 have hlen:∀k,k<=2->(bC zs k).length<=100000:=fun k hk=>by
  obtain ⟨h1,h2⟩:=xQ he;have:=(Vb h2 (by omega) hk).2;omega
 have Hd:Hid (bD zs=(bst zs 3).1):=ah (by unfold bD;rw[if_neg (by simpa using he)]);have Yc:=ah henc;have Hlen:=ah hlen;clear henc hlen hr he;go_enter Tryz.func163,Tryz.ntmps163;go_wp2_with fail;go_loopw [3,4,5] (fun s3 s4 i wr=>∃k:Nat,k<=3/\i=.int .i64 (k:Int)/\s3=.int .i64 ((bst zs k).1:Int)/\s4=.int .i64 (bst zs k).2/\Nx W wr) (fun _ _ i _=>3-(intOf i).toNat)
 case atStart=>exact ⟨0,by omega,rfl,rfl,rfl,Ch.refl _ _⟩
 case round=>
  obtain ⟨w1,rfl⟩:∃w1:World,w1=wr:=⟨_,rfl⟩;obtain ⟨k,hk,rfl,rfl,rfl,nx⟩:=hrel;by_cases hlt:k<3
  ·have hs:bst zs (k+1)=if (bst zs k).2<0∨((bC zs k).length:Int)<(bst zs k).2 then (k,((bC zs k).length:Int)) else bst zs k:=rfl
   have hen:=Yc.out w1 nx k (by omega);have hll:=Hlen.out k (by omega);unfold Ip at hen;generalize bC zs k=ec at *;generalize bst zs k=t at *;obtain ⟨tb,tl⟩:=t;simp only at hs ⊢;have lS:=ah hen;clear hen;by_cases h1:tl<0∨(ec.length:Int)<tl
   ·rw[if_pos h1]at hs
    have Hs:=ah hs;clear hs;go_wp2_with fail;with_reducible refine lS.out.mono ?_
    rintro e w2 ⟨k2,cap2,rfl,o2,_⟩;have nx2:=nx.tr o2.nx;rcases Classical.em (tl<0) with h2|h2
    ·go_wp2_with fail
     go_roundw
     case rel=>exact ⟨k+1,by omega,by go_num,by rw[Hs.out],by rw[Hs.out],nx2⟩
     case measure=>simp[intOf];omega
    ·have h3:=h1.resolve_left h2
     go_wp2_with fail;go_roundw
     case rel=>exact ⟨k+1,by omega,by go_num,by rw[Hs.out],by rw[Hs.out],nx2⟩
     case measure=>simp[intOf];omega
   ·rw[if_neg h1]at hs
    have Hs:=ah hs;have h2:¬tl<0:=fun h=>h1 (.inl h);have h3:¬(ec.length:Int)<tl:=fun h=>h1 (.inr h);clear hs h1;go_wp2_with fail;with_reducible refine lS.out.mono ?_
    rintro e w2 ⟨k2,cap2,rfl,o2,_⟩;have nx2:=nx.tr o2.nx;go_wp2_with fail;go_roundw
    case rel=>exact ⟨k+1,by omega,by go_num,by rw[Hs.out],by rw[Hs.out],nx2⟩
    case measure=>simp[intOf];omega
  ·obtain rfl:k=3:=by omega
   go_wp2_with fail;go_ret;exact ⟨by rw[Hd.out];rfl,nx⟩
def aX (l:List Int):List Nat:=[bD l]++bC l (bD l)
theorem YH {l:List Int} (he:aJ l=0):okB (aX l):=fun x hx=>by
 obtain ⟨h1,h2⟩:=xQ he;rcases List.mem_append.1 hx with h|h
 ·have:=UZ l
  simp at h;omega
 ·exact m_ h2 (by omega) (UZ l) x h
theorem z14 {l:List Int} (he:aJ l=0):2<=(aX l).length/\(aX l).length<=11+10 * l.length:=by
 obtain ⟨h1,h2⟩:=xQ he;have:=Vb h2 (by omega) (UZ l);unfold aX;rw[List.length_append];simp only[List.length_cons,List.length_nil];omega
theorem z57 (D:Nat->Prop) (A:Option Addr) (n c:Nat) (zs:List Int) (W:World) (hr:Rd W D 1 A n (il zs)) (hl:zs.length=n) (he:aJ zs=0):
 Calls Tryz.prog 97 #[.slice A n c] W (UW W (ay 1 (aX zs))):=by
 obtain ⟨i0,hi0,hz0,hz1,hz2⟩:=info_parts Tryz.info5;obtain ⟨hle,hin⟩:=xQ he;have zZ:=EW D A n c zs W hr hl he;have henc:=fun (w:World) (nx:Nx W w)=>z3T D A n c zs (bD zs) w (hr.nx (by decide) nx) hl (UZ zs) he;have hok:=YH he;have hcl:=z14 he;have hb2:=UZ zs;have HC:Hid (aX zs=[bD zs]++bC zs (bD zs)):=ah rfl;have hel:=(Vb hin (by omega) (UZ zs)).2;unfold Ip at henc;generalize aX zs=ic at *;generalize bC zs (bD zs)=ec at *;generalize bD zs=d at *;have BZ:=ah zZ;have Yc:=ah henc;clear zZ henc hr he hin
 have ku:IntKind.u8.wrap (d:Int)=(d:Int):=by
  have:IntKind.u8.wrap (d:Int)=(d:Int) % 256:=by simp[IntKind.wrap,IntKind.bits,IntKind.signed]
  omega
 go_enter Tryz.func97,Tryz.ntmps97;go_wp2_with fail;with_reducible refine BZ.out.mono ?_
 rintro e w1 ⟨rfl,n1⟩;go_wp2_with fail;with_reducible refine (Yc.out _ n1).mono ?_
 rintro e w2 ⟨k2,cap2,rfl,o2,hc2⟩;have n2:=n1.tr o2.nx
 have fin:∀(w5:World) (v5:Value),ak W w5 5 1 v5 ic.length (bl ic)->v5.ownBlock≠none->∃k cap,v5=.slice (some ⟨k,0,none⟩) ic.length cap/\
  Calls Tryz.prog 165 #[.int .u8 1,.slice (some ⟨k,0,none⟩) ic.length cap] w5 (UW W (ay 1 ic)):=fun w5 v5 o hb=>by
  obtain ⟨k,cap,hv,o4,hk1,hk2,hcp,_⟩:=gQ.rJ o hb;injection hv with hv;subst hv;refine ⟨k,cap,rfl,(z56 (fun j=>j=k) (some ⟨k,0,none⟩) _ cap 1 ic w5 o4.iy (fun j e=>by omega) hok rfl hcp (by omega) (by omega)).mono ?_⟩;rintro e w6 ⟨k6,cap6,rfl,o6,h6⟩;exact ⟨k6,cap6,rfl,⟨jM o6.own o4.nx.size,o4.nx.tr o6.nx⟩,h6⟩
 have Fin:=ah fin;have o3:ak W (w2.alloc (.cells #[.int .u8 (d:Int)] 5)) 5 1 (.slice (some ⟨w2.heap.size,0,none⟩) 1 1) 1 (bl [d]):=⟨YS w2 _ _ 1 _ 1 n2.size (by simp[maxLen]) (by simp),n2.alloc _⟩;have r2:=o2.iy.nx (by decide) ((Ch.refl (fun _=>False) w2).alloc (.cells #[.int .u8 (d:Int)] 5));clear fin o2;go_wp2_with (at_builtin;refine z05 rfl (.tmp 20) (.tmp 21) _ rfl 5 i0 _ 1 1 Tryz.underlying26 hi0 hz0 hz1 hz2 rfl (by omega) rfl o3 _ (some ⟨k2,0,none⟩) ec.length cap2 (bl ec) rfl r2 (iL _) (by simp only[maxLen];omega) (by omega) ?_;intro v5 w5 o5 m5;obtain ⟨k5,cap5,hv5,hcall⟩:=Fin.out w5 v5 (by rw[HC.out,List.length_append,show bl ([d]++ec)=bl [d]++bl ec by simp[bl]];exact o5) (Moved.some_ (v:=.slice (some ⟨w2.heap.size,0,none⟩) 1 1) m5 (by simp[Value.ownBlock]));rw[hv5])
 with_reducible refine hcall.mono ?_
 rintro e w6 ⟨k6,cap6,rfl,o6,h6⟩;go_wp2_with fail;go_ret2;exact ⟨k6,cap6,rfl,o6,h6⟩
end Go.Proofs.YtpakjclpjcngmaaGreat
namespace Go.Proofs.YtpakjclpjcngmaaGreat.Fix
theorem take_snoc {xs:List Nat} {p:Nat} (h:p<xs.length):xs.take p++[xs.getD p 0]=xs.take (p+1):=by
 rw[List.take_succ_eq_append_getElem h];simp[List.getD,List.getElem?_eq_getElem h]
end Go.Proofs.YtpakjclpjcngmaaGreat.Fix
namespace Go.Proofs.YtpakjclpjcngmaaGreat
open Go.RowKit
end Go.Proofs.YtpakjclpjcngmaaGreat
namespace Go.Proofs.YtpakjclpjcngmaaGreat
open Go.RowKit R2
def Ri (k:Nat):List Int:=(List.range k).map jP
theorem AB (k:Nat):Ri (k+1)=Ri k++[jP k]:=by simp[Ri,List.range_succ]
def Yx (W:World) (e:Ending) (w':World):Prop:=
 ∃A1 c1 A2 c2 D,e=.returned (.tuple #[.slice A1 288 c1,.slice A2 32 c2])/\Rd w' D 1 A1 288 (il EN)/\Rd w' D 1 A2 32 (il AV)/\Nx W w'
theorem Ea (W:World):Calls Tryz.prog 250 #[] W (Yx W):=by
 obtain ⟨i0,hi0,hz0,hz1,hz2⟩:=info_parts Tryz.info3;have h0:=ak.lit W W 3 (Ch.refl _ W) 1;have h1:=ak.lit W (W.alloc (.cells #[] 3)) 3 ((Ch.refl _ W).alloc _) 1;have h0:=h0.alloc (.cells #[] 3);simp only[World.size_alloc]at h1;go_enter Tryz.func250,Tryz.ntmps250;go_wp2_with fail;go_loopw [2,4] (fun v i wr=>∃k:Nat,k<=288/\i=.int .i64 k/\ak W wr 3 1 v k (il (Ri k))/\ak W wr 3 1 (.slice (some ⟨W.heap.size+1,0,none⟩) 0 0) 0 []/\v.ownBlock≠some (W.heap.size+1)) (fun _ i _=>288-(intOf i).toNat)
 case atStart=>exact ⟨0,by omega,rfl,by simpa [Ri,il]using h0,h1,by simp[Value.ownBlock]⟩
 case round=>
  clear h0 h1;obtain ⟨w1,rfl⟩:∃w1:World,w1=wr:=⟨_,rfl⟩;obtain ⟨k,hk,rfl,ho,hd,hne⟩:=hrel;have hdl:W.heap.size+1<w1.heap.size:=(hd.lt _ rfl).2;by_cases hlt:k<288
  ·have hs:=AB k
   have e:∀v:Int,jP k=v->il (Ri (k+1))=il (Ri k)++[.int .i64 v]:=fun v hv=>by rw[hs,hv];simp[il]
   have hmv:∀(v':Value) (w':World),Moved w1 w' u2 v'->ak W w' 3 1 (.slice (some ⟨W.heap.size+1,0,none⟩) 0 0) 0 []/\v'.ownBlock≠some (W.heap.size+1):=fun v' w' m=>
    ⟨hd.ch m.ch (fun k hk e=>hne (by rw[e];exact congrArg some (by simpa [Value.ownBlock]using hk.symm))) (fun i hi e=>by have:=(ho.lt _ e).1;omega),by
      rcases m.at_ with e|⟨j,e,hj⟩
      ·rw[e];exact hne
      ·rw[e];intro h;injection h;omega⟩
   have He:=ah e;have Qs:=ah hmv;clear e hs hmv;by_cases h8:144<=k/\k<=255
   ·have hv:jP k=9:=by unfold jP;rw[if_pos h8]
    have Hv:=ah (He.out 9 hv);obtain ⟨a1,a2⟩:=h8;have a3:¬256<=k:=(by omega);clear hv He;go_wp2_with (at_builtin;refine z06 rfl (.tmp 25) (.tmp 27) _ rfl 3 i0 _ 8 Tryz.underlying88 hi0 hz0 hz1 hz2 rfl _ rfl rfl ho rfl (by simp only[maxLen];omega) (by omega) ?_;intro v' w' ho2 hm)
    go_roundw
    case rel=>exact ⟨k+1,by omega,by go_num,by rw[Hv.out];exact ho2,(Qs.out _ _ hm).1,(Qs.out _ _ hm).2⟩
    case measure=>simp[intOf];omega
   ·by_cases h9:256<=k/\k<=279
    ·have hv:jP k=7:=by unfold jP;rw[if_neg h8,if_pos h9]
     have Hv:=ah (He.out 7 hv);obtain ⟨a1,a2⟩:=h9;have a3:144<=k:=(by omega);have a4:¬k<=255:=(by omega);clear hv He h8;go_wp2_with (at_builtin;refine z06 rfl (.tmp 25) (.tmp 27) _ rfl 3 i0 _ 8 Tryz.underlying88 hi0 hz0 hz1 hz2 rfl _ rfl rfl ho rfl (by simp only[maxLen];omega) (by omega) ?_;intro v' w' ho2 hm)
     go_roundw
     case rel=>exact ⟨k+1,by omega,by go_num,by rw[Hv.out];exact ho2,(Qs.out _ _ hm).1,(Qs.out _ _ hm).2⟩
     case measure=>simp[intOf];omega
    ·have hv:jP k=8:=by unfold jP;rw[if_neg h8,if_neg h9]
     have Hv:=ah (He.out 8 hv);clear hv He;by_cases h10:k<144
     ·have a3:¬144<=k:=by omega
      have a4:¬256<=k:=(by omega);clear h8 h9;go_wp2_with (at_builtin;refine z06 rfl (.tmp 25) (.tmp 27) _ rfl 3 i0 _ 8 Tryz.underlying88 hi0 hz0 hz1 hz2 rfl _ rfl rfl ho rfl (by simp only[maxLen];omega) (by omega) ?_;intro v' w' ho2 hm)
      go_roundw
      case rel=>exact ⟨k+1,by omega,by go_num,by rw[Hv.out];exact ho2,(Qs.out _ _ hm).1,(Qs.out _ _ hm).2⟩
      case measure=>simp[intOf];omega
     ·have a3:279<k:=by omega
      have a5:¬k<=279:=(by omega);have a4:256<=k:=(by omega);have a6:144<=k:=(by omega);have a7:¬k<=255:=(by omega);clear h8 h9;go_wp2_with (at_builtin;refine z06 rfl (.tmp 25) (.tmp 27) _ rfl 3 i0 _ 8 Tryz.underlying88 hi0 hz0 hz1 hz2 rfl _ rfl rfl ho rfl (by simp only[maxLen];omega) (by omega) ?_;intro v' w' ho2 hm)
      go_roundw
      case rel=>exact ⟨k+1,by omega,by go_num,by rw[Hv.out];exact ho2,(Qs.out _ _ hm).1,(Qs.out _ _ hm).2⟩
      case measure=>simp[intOf];omega
  ·have hk8:k=288:=by omega
   have Hk8:=ah hk8;clear hk8;obtain ⟨A1,c1,rfl,_,_⟩:=ho.form;have hro:=ho.rd;have hb1:∀v:Value,(∀j,v.ownBlock=some j->(Value.slice A1 k c1).ownBlock≠some j)->True:=fun _ _=>trivial;clear hb1;go_wp2_with fail;go_loopw [3,6] (fun v i wr=>∃j:Nat,j<=32/\i=.int .i64 j/\ak W wr 3 1 v j (il (List.replicate j 5))/\ak W wr 3 1 (.slice A1 k c1) k (il (Ri k))/\(∀q,v.ownBlock=some q->(Value.slice A1 k c1).ownBlock≠some q)) (fun _ i _=>32-(intOf i).toNat)
   case atStart=>exact ⟨0,by omega,rfl,by simpa [il]using hd,ho,fun q hq e=>hne (by rw[e];simpa [Value.ownBlock]using hq.symm)⟩
   case round=>
    clear hd ho hro hdl hne;obtain ⟨w2,rfl⟩:∃w2:World,w2=wr:=⟨_,rfl⟩;obtain ⟨j,hj,rfl,ho1,ho,hne⟩:=hrel;by_cases hlt:j<32
    ·have e:il (List.replicate (j+1) 5)=il (List.replicate j 5)++[.int .i64 5]:=by simp[il,List.replicate_succ']
     have He:=ah e
     have hmv:∀(v':Value) (w':World),Moved w2 w' u3 v'->ak W w' 3 1 (.slice A1 k c1) k (il (Ri k))/\(∀q,v'.ownBlock=some q->(Value.slice A1 k c1).ownBlock≠some q):=fun v' w' m=>
      ⟨ho.ch m.ch (fun q hq e=>hne q e hq) (fun i hi e=>by have:=(ho1.lt _ e).1;omega),fun q hq h=>by
        have hql:=(ho.lt q h).2;rcases m.at_ with e|⟨j,e,hj⟩
        ·rw[e]at hq;exact hne q hq h
        ·rw[e]at hq;injection hq;omega⟩
     have Qs:=ah hmv;clear e hmv;go_wp2_with (at_builtin;refine z06 rfl (.tmp 33) (.tmp 34) _ rfl 3 i0 _ 8 Tryz.underlying88 hi0 hz0 hz1 hz2 rfl _ rfl rfl ho1 rfl (by simp only[maxLen];omega) (by omega) ?_;intro v' w' ho2 hm)
     go_roundw
     case rel=>exact ⟨j+1,by omega,by go_num,by rw[He.out];exact ho2,(Qs.out _ _ hm).1,(Qs.out _ _ hm).2⟩
     case measure=>simp[intOf];omega
    ·have hj8:j=32:=by omega
     have Hj8:=ah hj8;clear hj8;obtain ⟨A2,c2,rfl,_,_⟩:=ho1.form;go_wp2_with fail;go_ret2;rw[Hk8.out]at ho;rw[Hj8.out]at ho1;refine ⟨A1,c1,A2,c2,fun _=>True,by rw[Hk8.out,Hj8.out];rfl,?_,?_,ho1.nx⟩
     ·exact ho.rd.more fun k hk=>trivial
     ·have e:AV=List.replicate 32 5:=by decide
      rw[e];exact ho1.rd.more fun k hk=>trivial
theorem Moved.rfl7 (w:World) (v:Value):Moved w w v v:=⟨Ch.refl _ _,.inl rfl⟩
theorem Moved.trans {a b c:World} {u v x:Value} (h:Moved a b u v) (k:Moved b c v x):Moved a c u x:=by
 refine ⟨h.ch.trans k.ch fun i hi e=>?_,?_⟩
 ·rcases h.at_ with e2|⟨j,e2,hj⟩
  ·rw[←e2];exact e
  ·rw[e2]at e;injection e;omega
 ·rcases k.at_ with e|⟨j,e,hj⟩
  ·rcases h.at_ with e2|⟨j,e2,hj⟩
   ·exact .inl (e.trans e2)
   ·exact .inr ⟨j,e.trans e2,hj⟩
  ·exact .inr ⟨j,e,Nat.le_trans h.ch.size hj⟩
theorem z4a (W w:World) (v0:Value) (n:Nat) (l u:List Bool) (ho:ak W w 4 1 v0 n (kQ l)) (hv:v0.ownBlock≠none) (hn:n<=1000000000) (hu:u.length<=1000):
 Calls Tryz.prog 273 #[v0,.string (txt u)] w fun e w'=>∃v',e=.returned v'/\ak W w' 4 1 v' (n+u.length) (kQ (l++u))/\v'.ownBlock≠none/\Moved w w' v0 v':=by
 obtain ⟨i0,hi0,hz0,hz1,hz2⟩:=info_parts Tryz.Vm;have hs:=z29 u
 have hgt:∀k (h:k<(txt u).size),(txt u)[k].toNat=48+kJ (u.getD k false):=fun k h=>by
  have hkl:k<u.length:=by rw[←hs];exact h
  rw[RG u k h,Uc];simp[List.getD,hkl]
 generalize hT:txt u=s at *;have Hs:=ah hs;have Hg:=ah hgt;have hs15:s.size<=1000:=by omega
 clear hs hgt hT;go_enter Tryz.func273,Tryz.ntmps273;go_wp2_with fail;go_loopw [0,5] (fun v i wr=>∃k:Nat,k<=s.size/\i=.int .i64 k/\ak W wr 4 1 v (n+k) (kQ (l++u.take k))/\v.ownBlock≠none/\Moved w wr v0 v) (fun _ i _=>s.size-(intOf i).toNat)
 case atStart=>exact ⟨0,by omega,rfl,by simpa using ho,hv,Moved.rfl7 _ _⟩
 case round=>
  clear ho hv;obtain ⟨w1,rfl⟩:∃w1:World,w1=wr:=⟨_,rfl⟩;obtain ⟨k,hk,rfl,ho,hv,hm0⟩:=hrel;by_cases hlt:k<s.size
  ·have hkl:k<u.length:=by have:=Hs.out;omega
   have hg:=Hg.out k hlt
   have e:((s[k].toNat:Int)==49)=u.getD k false:=by
    rw[hg];cases u.getD k false<;>rfl
   have e2:kQ (l++u.take (k+1))=kQ (l++u.take k)++[.bool (u.getD k false)]:=by
    have e3:u.getD k false=u[k]:=(by simp[List.getD,hkl]);rw[List.take_succ_eq_append_getElem hkl,e3];unfold kQ;rw[←List.append_assoc,List.map_append (l₂:=[u[k]])];rfl
   clear hg;generalize u.getD k false=b at *;have He2:=ah e2;clear e2;go_wp2_with (at_builtin;refine z06 rfl (.tmp 12) (.tmp 17) _ rfl 4 i0 _ 1 Tryz.underlying120 hi0 hz0 hz1 hz2 rfl _ rfl rfl ho rfl (by simp only[maxLen];omega) (by omega) ?_;intro v' w' ho2 hm)
   go_roundw
   case rel=>exact ⟨k+1,by omega,by go_num,by rw[He2.out];exact ho2,hm.some_ hv,hm0.trans hm⟩
   case measure=>simp[intOf];omega
  ·have hk8:k=u.length:=by have:=Hs.out;omega
   go_wp2_with fail;go_ret;subst hk8;rw[List.take_length]at ho;exact ⟨_,rfl,ho,hv,hm0⟩
def iV (W:World) (tv:Value) (l:List Tok) (B nt:Nat) (w:World) (v:Value) (bits:List Bool):Prop:=
 ak W w 4 1 v bits.length (kQ bits)/\v.ownBlock≠none/\w.ownsRow B 316 3 tv nt (lI l)/\∀q,tv.ownBlock=some q->v.ownBlock≠some q
theorem iV.code {W w w':World} {tv v v':Value} {l:List Tok} {B nt:Nat} {bits u:List Bool} (h:iV W tv l B nt w v bits) (o:ak W w' 4 1 v' (bits.length+u.length) (kQ (bits++u))) (hn:v'.ownBlock≠none) (m:Moved w w' v v'):iV W tv l B nt w' v' (bits++u):=by
 obtain ⟨h1,h2,h3,h4⟩:=h;refine ⟨by rw[List.length_append];exact o,hn,iq h3 m.ch fun k hk e=>h4 k hk e,fun q hq e=>?_⟩;rcases m.at_ with e2|⟨j,e2,hj⟩
 ·rw[e2]at e;exact h4 q hq e
 ·rw[e2]at e;injection e with e;have:=(h3.lt q hq).2;omega
theorem iV.nx {W w w':World} {tv v:Value} {l:List Tok} {B nt:Nat} {bits:List Bool} (h:iV W tv l B nt w v bits) (n:Nx w w'):iV W tv l B nt w' v bits:=by
 obtain ⟨h1,h2,h3,h4⟩:=h;exact ⟨h1.tr n,h2,iq h3 n (fun _ _ hf=>hf),h4⟩
theorem iV.put {W w w':World} {tv v v':Value} {l:List Tok} {B nt:Nat} {bits u:List Bool} {n:Nat} (h:iV W tv l B nt w v bits) (hu:u.length=n) (g:gQ w 4 1 (bits.length+n) (kQ (bits++u)) (.returned v') w'):iV W tv l B nt w' v' (bits++u):=by
 obtain ⟨h1,h2,h3,h4⟩:=h;obtain ⟨k,cap,e,o,hk,hk2,_,_⟩:=g;injection e with e;subst e;have nx:=o.nx;refine ⟨⟨jM (by rw[List.length_append,hu];exact o.own) h1.nx.size,h1.nx.tr nx⟩,by simp[Value.ownBlock],iq h3 nx (fun _ _ hf=>hf),fun q hq e=>?_⟩;have e2:k=q:=by simpa [Value.ownBlock]using e
 have:=(h3.lt q hq).2;omega
theorem iV.rd {W w:World} {tv:Value} {l:List Tok} {B nt:Nat} {bits:List Bool} {A:Option Addr} {n c:Nat} (h:iV W tv l B nt w (.slice A n c) bits):n=bits.length/\Rd w (fun _=>True) 1 A bits.length (kQ bits)/\n<=c/\c<=maxLen:=by
 obtain ⟨h1, -⟩:=h;obtain ⟨A',c',e,k1,k2⟩:=h1.form;injection e with e1 e2 e3;subst e1 e2 e3;exact ⟨rfl,h1.rd.more fun _ _=>trivial,k1,k2⟩
theorem iV.form {W w:World} {tv v:Value} {l:List Tok} {B nt:Nat} {bits:List Bool} (h:iV W tv l B nt w v bits):∃A c,v=.slice A bits.length c:=by
 obtain ⟨A,c,e,_⟩:=h.1.form;exact ⟨A,c,e⟩
theorem iV.own {W w:World} {tv v:Value} {l:List Tok} {B nt:Nat} {bits:List Bool} (h:iV W tv l B nt w v bits):ak W w 4 1 v bits.length (kQ bits):=h.1
theorem iV.some_ {W w:World} {tv v:Value} {l:List Tok} {B nt:Nat} {bits:List Bool} (h:iV W tv l B nt w v bits):v.ownBlock≠none:=h.2.1
theorem iV.toks {W w:World} {tv v:Value} {l:List Tok} {B nt:Nat} {bits:List Bool} (h:iV W tv l B nt w v bits):w.ownsRow B 316 3 tv nt (lI l):=h.2.2.1
theorem mM {W w:World} {D:Nat->Prop} {k n:Nat} {ls:List (List Bool)} (h:Rd W D 1 (some ⟨k,0,none⟩) n (sl ls)) (nx:Nx W w) {i:Nat} {u:List Bool} (hu:ls[i]?=some u):w.cell? ⟨k,i,none⟩=some (.string (txt u)):=by
 have hi:i<ls.length:=(List.getElem?_eq_some_iff.1 hu).1;have hn:ls.length=n:=by have:=h.1;rw[IX]at this;omega
 obtain ⟨ad,e,_,hc⟩:=(h.nx (by decide) nx).2 (by omega);injection e with e;subst e;have e2:(sl ls)[i]?=some (.string (txt u)):=by simp[sl,hu]
 have:=hc i _ e2
 have ea:(Addr.mk k 0 none).add i=⟨k,i,none⟩:=by
  unfold Addr.add;split
  ·next e=>rw[e]
  ·simp
 rwa [ea]at this
theorem oO (v m:Nat):UR false v m m=numBits v m:=by simp[UR]
theorem wrap_u32 {v:Nat} (h:v<4294967296):IntKind.u32.wrap (v:Int)=(v:Int):=by
 have:IntKind.u32.wrap (v:Int)=(v:Int) % 4294967296:=by simp[IntKind.wrap,IntKind.bits,IntKind.signed]
 omega
def Ir (W:World) (xs:List Nat) (e:Ending) (w':World):Prop:=∃A c,e=.returned (.slice A xs.length c)/\(∃D,Rd w' D 1 A xs.length (bl xs))/\Nx W w'
theorem D_ (D:Nat->Prop) (A:Option Addr) (c:Nat) (xs:List Nat) (W:World) (hr:Rd W D 1 A xs.length (bl xs)) (ok:okB xs) (hl:xs.length<=65535):
 Calls Tryz.prog 234 #[.slice A xs.length c] W (Ir W (pack (aV (aI xs xs.length 0)))):=by
 go_enter Tryz.func234,Tryz.ntmps234;go_wp2_with fail;refine (Ea W).mono ?_;rintro e w1 ⟨A1,c1,A2,c2,D2,rfl,hf1,hf2,n1⟩;go_wp2_with fail;refine (tN _ A1 288 c1 EN w1 hf1 AA OJ).mono ?_;rintro e w2 ⟨k1,cap1,rfl,o1,hk1,hk1',_,_⟩;have r1:=o1.iy;have n2:=n1.tr o1.nx;have hf2:=hf2.nx (by decide) o1.nx;clear hf1 o1;go_wp2_with fail;refine (tN _ A2 32 c2 AV w2 hf2 AU OT).mono ?_;rintro e w3 ⟨k2,cap2,rfl,o2,hk2,hk2',_,_⟩;have r2:=o2.iy;have r1:=r1.nx (by decide) o2.nx;have n3:=n2.tr o2.nx;have hr3:=hr.nx (by decide) n3
 have hrow:ak w3 (w3.alloc (.cells #[.bool true,.bool true,.bool false] 4)) 4 1 (.slice (some ⟨w3.heap.size,0,none⟩) 3 3) 3 (kQ (bP [])):=
  ⟨World.ownsRow_lit w3 _ 3 (Nat.le_refl _) (by simp[maxLen]) (by simp),(Ch.refl _ w3).alloc _⟩
 have n3a:Nx w3 (w3.alloc (.cells #[.bool true,.bool true,.bool false] 4)):=hrow.nx;clear hf2 o2 n1 n2 hr;have hr4:=hr3.nx (by decide) n3a;have hlt4:w3.heap.size<(w3.alloc (.cells #[.bool true,.bool true,.bool false] 4)).heap.size:=by simp
 generalize hW4:w3.alloc (.cells #[.bool true,.bool true,.bool false] 4)=w4 at *;have HW4:=ah hW4;obtain ⟨kr,hkr⟩:∃kr,w3.heap.size=kr:=⟨_,rfl⟩;have Hkr:=ah hkr;clear hW4;go_upto_region 4 with fail
 simp only[HW4.out];rw[hkr]at hrow;clear hkr;go_wp2_with fail;refine (DY D A c xs w4 hr4 ok (by omega)).mono ?_;rintro e w5 ⟨tv,rfl,ho⟩;have htl:=z2a (b:=xs) xs.length 0;have htok:=z2u ok xs.length 0;generalize aI xs xs.length 0=l at *;obtain ⟨nt,hnt⟩:∃nt,l.length=nt:=⟨_,rfl⟩;rw[hnt]at ho htl;have Vq:=hrow.tr ho.nx
 have hfr:iV w3 tv l w4.heap.size nt w5 (.slice (some ⟨kr,0,none⟩) 3 3) (bP []):=⟨Vq,by simp[Value.ownBlock],ho.own,fun q hq e=>by
  have h1:=(ho.lt q hq).1;have h2:=Hkr.out;have e2:kr=q:=by simpa [Value.ownBlock]using e
  omega⟩
 obtain ⟨At,ct,rfl,_,_⟩:=ho.form;have Qr:=ah hnt;have xI:=ah htok;clear hnt htok ho hrow Vq hr4 hr3 n3a
 have hk1w:k1<w3.heap.size:=by
  have:=r1.lt_ (by decide) (by decide);obtain ⟨ad,e,_,h⟩:=this;injection e with e;subst e;exact h
 go_wp2_with fail;go_loopw [7,25] (fun v i wr=>∃k:Nat,k<=nt/\i=.int .i64 (k:Int)/\iV w3 (.slice At nt ct) l w4.heap.size nt wr v (bP (l.take k))) (fun _ i _=>nt-(intOf i).toNat)
 case atStart=>exact ⟨0,Nat.zero_le _,rfl,by simpa using hfr⟩
 case round=>
  clear hfr;obtain ⟨w6,rfl⟩:∃w6:World,w6=wr:=⟨_,rfl⟩;obtain ⟨k,hk,rfl,hf⟩:=hrel
  have hl6:(bP (l.take k)).length<=10000000:=by
   have h1:=z2f (l.take k);have h2:(l.take k).length<=k:=by simp;omega
   omega
  by_cases hlt:k<nt
  ·have hkl:k<l.length:=by rw[Qr.out];exact hlt
   obtain ⟨gt,cap,hv,_,_⟩:=hf.toks.form (by omega);injection hv with hA hlq hcc;clear hlq;subst hA;subst hcc;obtain ⟨q,hq⟩:∃q,3 * k=q:=⟨_,rfl⟩;obtain ⟨a0,a1,a2⟩:=z33 hf.toks hkl hq;have hq':k * 3=q:=(by omega);have hlt2:(k:Int)<(nt:Int):=(by omega);have hk0:(0:Int)<=(k:Int):=(by omega);have iP:=ah (z1w hkl);have htk:=xI.out _ (List.getElem_mem hkl);clear hq;generalize l[k]=tk at *;obtain ⟨tb,htb⟩:∃tb,w6.heap.size=tb:=⟨_,rfl⟩;obtain ⟨w7,hw7⟩:∃w7,w6.alloc (.cells #[.int .i64 (tk.len:Int),.int .i64 (tk.dist:Int),.int .u8 (tk.byte:Int)] 316)=w7:=⟨_,rfl⟩;have n7:Nx w6 (w6.alloc (.cells #[.int .i64 (tk.len:Int),.int .i64 (tk.dist:Int),.int .u8 (tk.byte:Int)] 316)):=(Ch.refl _ w6).alloc _;have hB7:=aG.new w6 316 #[.int .i64 (tk.len:Int),.int .i64 (tk.dist:Int),.int .u8 (tk.byte:Int)];rw[hw7]at n7 hB7;rw[htb]at hB7;have HW:=ah hw7;have HT:=ah htb;have hf7:=hf.nx n7;have htbu:u7.ownBlock≠some tb:=fun e=>by have:=(hf.own.lt tb e).2;omega
   have Hbits:Hid (bP (l.take k)=bP (l.take k)):=ah rfl;clear htb hw7 hf;go_upto_region 7 with fail
   try simp only[HT.out,HW.out]
   clear HT HW a0 a1 a2 n7;have d0:w7.cell? ⟨tb,0,none⟩=some (.int .i64 (tk.len:Int)):=hB7.cell 0;have d1:w7.cell? ⟨tb,1,none⟩=some (.int .i64 (tk.dist:Int)):=hB7.cell 1;have d2:w7.cell? ⟨tb,2,none⟩=some (.int .u8 (tk.byte:Int)):=hB7.cell 2;generalize bP (l.take k)=bits at *;by_cases hz:tk.len=0
   ·have hb:qU tk=bG tk.byte:=by unfold qU;rw[if_pos hz]
    have Hb:=ah hb;have hby:tk.byte<256:=by rcases htk with h|h;exact h.2;omega
    have Xn:((tk.len:Int)==0)=true:=by rw[beq_iff_eq];omega
    have hc1:=mM r1 hf7.own.nx (xq (s:=tk.byte) (by omega));have hll:=LC tk.byte;clear hb htk hz;generalize tk.byte=by_ at *;generalize bG by_=ub at *;go_wp2_with fail;with_reducible refine (z4a w3 w7 _ _ _ ub hf7.own hf7.some_ (by omega) (by omega)).mono ?_
    rintro e w8 ⟨v8,rfl,o8,h8,m8⟩;have hf8:=hf7.code o8 h8 m8;go_wp2_with fail;go_roundw
    case rel=>exact ⟨k+1,by omega,by go_num,by rw[iP.out,Hb.out];exact hf8⟩
    case measure=>simp[intOf];omega
   ·have hb:qU tk=yh tk.len++CY (tk.dist-1):=by unfold qU;rw[if_neg hz]
    have hok:3<=tk.len/\tk.len<=258/\1<=tk.dist/\tk.dist<=32768:=by rcases htk with h|h;exact absurd h.1 hz;exact h
    have Xn:((tk.len:Int)==0)=false:=by rw[beq_eq_false_iff_ne];omega
    obtain ⟨e1,p1,p2,p3,_⟩:=oJ (tk.len-3) (by omega);rw[show tk.len-3+3=tk.len by omega]at e1 p1 p2 p3;obtain ⟨e2,p4,_⟩:=yU hok.2.2.1 hok.2.2.2;have p5:tk.dist-dJ (bQ tk.dist 29)<=32768:=(by omega);have p6:=(z2o (bQ tk.dist 29) (by omega)).2;have hcl:=fun w=>yQ tk.len w hok.1 hok.2.1;have hcd:=fun w=>rE tk.dist w hok.2.2.1 hok.2.2.2;rw[e1,e2]at hb;have Hb:=ah hb;clear e1 e2 hb htk hz;generalize gV tk.len=rl at *;obtain ⟨s1,v1,m1⟩:=rl;simp only at p1 p2 p3 hcl Hb;generalize tk.dist-dJ (bQ tk.dist 29)=v2 at *;generalize extra (bQ tk.dist 29)=m2 at *;generalize bQ tk.dist 29=s2 at *;have Ll:=ah hcl;have Hcd:=ah hcd;clear hcl hcd;have hll:=LC (257+s1);have hl1:=YU v1 m1;have hl2:=YU v2 m2;have hl3:=Ld s2 5;have hs1:=xq (s:=257+s1) (by omega);have hs2:=TR (s:=s2) (by omega);have hpv1:=oO v1 m1;have hpv2:=oO v2 m2;generalize bG (257+s1)=ub1 at *;generalize numBits v1 m1=ub2 at *;generalize aC s2 5=ub3 at *;generalize numBits v2 m2=ub4 at *;have Hs1:=ah hs1;have Hs2:=ah hs2;have t1:((257:Int)+(s1:Int)).toNat=257+s1:=(by omega);have k1:IntKind.u32.wrap (v1:Int)=(v1:Int):=wrap_u32 (by omega);have k2:IntKind.u32.wrap (v2:Int)=(v2:Int):=wrap_u32 (by omega);clear hs1 hs2;go_wp2_with fail;with_reducible refine (Ll.out _).mono ?_
    rintro e w8 ⟨rfl,rfl⟩;have hc1:=mM r1 hf7.own.nx Hs1.out;go_wp2_with fail;with_reducible refine (z4a w3 w7 _ _ _ ub1 hf7.own hf7.some_ (by omega) (by omega)).mono ?_
    rintro e w8 ⟨v8,rfl,o8,h8,m8⟩;have hf8:=hf7.code o8 h8 m8;have hB8:=hB7.ch m8.ch (fun e=>htbu e);clear o8 h8 m8 hf7 hB7 d0 d1 d2 hc1;have d1:w8.cell? ⟨tb,1,none⟩=some (.int .i64 (tk.dist:Int)):=hB8.cell 1;obtain ⟨b8,e8⟩:∃b,bits++ub1=b:=⟨_,rfl⟩;have z8:b8.length=bits.length+ub1.length:=(by rw[←e8,List.length_append]);have Z8:b8.length<=15000000:=(by omega);rw[e8]at hf8;have E8:=ah e8;clear e8 z8;obtain ⟨A8,c8,rfl⟩:=hf8.form;have q8:=hf8.rd.2.1;go_wp2_with fail;with_reducible refine (Gt _ A8 _ c8 _ v1 m1 false w8 q8 rfl (by omega) (by omega) (by omega)).mono ?_
    rintro e w9 hg9;rw[hpv1]at hg9;obtain ⟨k9,xC,rfl, -⟩:=id hg9;have n9:Nx w8 w9:=by obtain ⟨_,_,_,o,_⟩:=hg9;exact o.nx
    have hf9:=hf8.put hl1 hg9;obtain ⟨b9,e9⟩:∃b,b8++ub2=b:=⟨_,rfl⟩;have z9:b9.length=b8.length+ub2.length:=(by rw[←e9,List.length_append]);have Z9:b9.length<=16000000:=(by omega);have L9:b8.length+m1=b9.length:=(by omega);rw[e9]at hf9;rw[L9]at hf9 ⊢;have E9:=ah e9;clear e9 z9 L9;have hB9:=hB8.nx n9;clear hg9 q8 hf8 hB8 d1 n9;have d1:w9.cell? ⟨tb,1,none⟩=some (.int .i64 (tk.dist:Int)):=hB9.cell 1;go_wp2_with fail;with_reducible refine (Hcd.out _).mono ?_
    rintro e w10 ⟨rfl,rfl⟩;have hc2:=mM r2 hf9.own.nx Hs2.out;go_wp2_with fail;with_reducible refine (z4a w3 w9 _ _ _ ub3 hf9.own hf9.some_ (by omega) (by omega)).mono ?_
    rintro e w10 ⟨v10,rfl,o10,h10,m10⟩;have hf10:=hf9.code o10 h10 m10;clear o10 h10 m10 hf9 hB9 d1 hc2;obtain ⟨b10,e10⟩:∃b,b9++ub3=b:=⟨_,rfl⟩;have z10:b10.length=b9.length+ub3.length:=(by rw[←e10,List.length_append]);have Z10:b10.length<=17000000:=(by omega);rw[e10]at hf10;have E10:=ah e10;clear e10 z10;obtain ⟨A10,c10,rfl⟩:=hf10.form;have q10:=hf10.rd.2.1;go_wp2_with fail;with_reducible refine (Gt _ A10 _ c10 _ v2 m2 false w10 q10 rfl (by omega) (by omega) (by omega)).mono ?_
    rintro e w11 hg11;rw[hpv2]at hg11;obtain ⟨k11,Vw,rfl, -⟩:=id hg11;have hf11:=hf10.put hl2 hg11;clear hg11 q10 hf10;go_wp2_with fail;go_roundw
    case rel=>exact ⟨k+1,by omega,by go_num,by rw[iP.out,Hb.out,show bits++(ub1++ub2++(ub3++ub4))=b10++ub4 by rw[←E10.out,←E9.out,←E8.out];simp only[List.append_assoc]];exact hf11⟩
    case measure=>simp[intOf];omega
  ·have hkn:k=nt:=by omega
   have htake:l.take k=l:=List.take_of_length_le (by rw[Qr.out];omega);rw[htake]at hf hl6;have hlt2:¬((k:Int)<(nt:Int)):=(by omega);have hc1:=mM r1 hf.own.nx (xq (s:=256) (by omega));have hll:=LC 256;have hdb:aV l=bP l++bG 256:=rfl;clear htake;generalize bG 256=ub at *;go_wp2_with fail;with_reducible refine (z4a w3 w6 _ _ _ ub hf.own hf.some_ (by omega) (by omega)).mono ?_
   rintro e w8 ⟨v8,rfl,o8,h8,m8⟩;have hf8:=hf.code o8 h8 m8;rw[←hdb]at hf8;have hl8:(aV l).length<=20000000:=by rw[hdb,List.length_append];omega
   clear o8 h8 m8 hf hc1 hdb;generalize aV l=bits at *;obtain ⟨A8,c8,rfl⟩:=hf8.form;obtain ⟨_,q8,q9,q10⟩:=hf8.rd;go_wp2_with fail;with_reducible refine (tZ _ A8 _ c8 bits w8 q8 rfl (by omega) q9 (by unfold maxLen at q10;omega)).mono ?_
   rintro e w9 ⟨k9,xC,rfl,o9,_,_,_,_⟩;have n9:=o9.nx;go_wp2_with fail;go_ret;exact ⟨_,_,rfl,⟨_,o9.rd⟩,n3.tr (hf8.own.nx.tr n9)⟩
theorem yO (D:Nat->Prop) (A:Option Addr) (c:Nat) (xs:List Nat) (W:World) (hr:Rd W D 1 A xs.length (bl xs)) (hc:xs.length<=c) (hl:xs.length<=65535):
 Calls Tryz.prog 235 #[.slice A xs.length c] W (Ir W (cO xs)):=by
 obtain ⟨i0,hi0,hz0,hz1,hz2⟩:=info_parts Tryz.info5;obtain ⟨len,hlen⟩:∃len,xs.length=len:=⟨_,rfl⟩;rw[hlen]at hc hl hr ⊢;have Hlen:=ah hlen;have hc1:(len:Int)<=(c:Int):=by omega
 obtain ⟨qa,hqa⟩:∃qa,len % 256=qa:=⟨_,rfl⟩;obtain ⟨qb,Xt⟩:∃qb,len / 256=qb:=⟨_,rfl⟩;have ha256:qa<256:=by omega
 have hb256:qb<256:=by omega
 have k1:(len:Int) % 256=(qa:Int):=by omega
 have k2:(len:Int) / 256=(qb:Int):=by omega
 have ku:∀m:Nat,m<256->IntKind.u8.wrap (m:Int)=(m:Int):=fun m hm=>by
  have:IntKind.u8.wrap (m:Int)=(m:Int) % 256:=by simp[IntKind.wrap,IntKind.bits,IntKind.signed]
  omega
 have k3:IntKind.u8.wrap (qa:Int)=(qa:Int):=ku _ ha256;have k4:IntKind.u8.wrap (qb:Int)=(qb:Int):=ku _ hb256;have k5:(255:Int)-(qa:Int)=((255-qa:Nat):Int):=by omega
 have k6:(255:Int)-(qb:Int)=((255-qb:Nat):Int):=by omega
 have k7:IntKind.u8.wrap ((255-qa:Nat):Int)=((255-qa:Nat):Int):=ku _ (by omega);have k8:IntKind.u8.wrap ((255-qb:Nat):Int)=((255-qb:Nat):Int):=ku _ (by omega);have Hqa:=ah hqa;have Hqb:=ah Xt;have HK:=ah (And.intro k1 (And.intro k2 (And.intro k3 (And.intro k4 (And.intro k5 (And.intro k6 (And.intro k7 k8)))))));have T0:=ak.lit W W 5 (Ch.refl _ W) 1;have aat:Rd W D 1 A len (bl xs):=hr;generalize hW1:W.alloc (.cells #[] 5)=w1 at *;clear hqa Xt hlen k5 k6 k7 k8 hr ku;go_enter Tryz.func235,Tryz.ntmps235;go_upto_region 2 with fail
 have HW1:=ah hW1;clear hW1;go_wp2_with fail;refine wp_loop_rounds 1 ?_;rw[rounds_succ];have T1:=T0.alloc (.cells #[.int .u8 1,.int .u8 (qa:Int),.int .u8 (qb:Int),.int .u8 (255-(qa:Int)),.int .u8 (255-(qb:Int))] 5)
 have iZ:Rd (w1.alloc (.cells #[.int .u8 1,.int .u8 (qa:Int),.int .u8 (qb:Int),.int .u8 (255-(qa:Int)),.int .u8 (255-(qb:Int))] 5)) (fun k=>k=w1.heap.size) 1 (some ⟨w1.heap.size,0,none⟩) 5 (bl [1,qa,qb,255-qa,255-qb]):=
  ⟨rfl,fun _=>⟨_,rfl,rfl,by rw[HK.out.2.2.2.2.1,HK.out.2.2.2.2.2.1];exact World.news_of_block (aG.new w1 5 #[.int .u8 1,.int .u8 (qa:Int),.int .u8 (qb:Int),.int .u8 ((255-qa:Nat):Int),.int .u8 ((255-qb:Nat):Int)])⟩⟩
 have HR5:=ah iZ;have HR:=ah aat;clear iZ aat;by_cases h0:0<len
 all_goals
  go_wp2_with (at_builtin;first
   |(refine z05 rfl (.tmp 29) (.tmp 46) _ rfl 5 i0 _ 1 1 Tryz.underlying26 hi0 hz0 hz1 hz2 rfl (by omega) rfl T1 _ (some ⟨w1.heap.size,0,none⟩) 5 5 (bl [1,qa,qb,255-qa,255-qb]) rfl HR5.out (iL _) (by simp[maxLen]) (by omega) ?_;intro v3 w3 o3 m3)
   |(refine z05 rfl (.tmp 48) (.tmp 54) _ rfl 5 i0 _ 1 1 Tryz.underlying26 hi0 hz0 hz1 hz2 rfl (by omega) rfl o3 _ A len c (bl xs) rfl (HR.out.nx (by decide) o3.nx) (iL _) (by simp only[maxLen];omega) (by omega) ?_;intro v4 w4 o4 m4))
  go_ret;have e1:(cO xs).length=0+5+len:=by simp[cO,QG,Hlen.out];omega
  have e2:bl (cO xs)=[]++bl [1,qa,qb,255-qa,255-qb]++bl xs:=by simp[cO,QG,Hlen.out,Hqa.out,Hqb.out,bl]
  rw[←e1,←e2]at o4;obtain ⟨A4,c4,rfl,_,_⟩:=o4.form;exact ⟨A4,c4,rfl,⟨_,o4.rd⟩,o4.nx⟩
theorem LW (xs:List Nat):(cO xs).length=xs.length+5:=by simp[cO,QG]
theorem wI (D:Nat->Prop) (A:Option Addr) (c:Nat) (xs:List Nat) (W:World) (hr:Rd W D 1 A xs.length (bl xs)) (ok:okB xs) (hc:xs.length<=c) (hl:xs.length<=65535):
 Calls Tryz.prog 188 #[.slice A xs.length c] W (Ir W (cZ xs)):=by
 have HD:Hid (cZ xs=if (pack (aV (aI xs xs.length 0))).length<(cO xs).length then pack (aV (aI xs xs.length 0)) else cO xs):=ah rfl;have hf:=D_ D A c xs W hr ok hl;have hs:=fun w (h:Nx W w)=>yO D A c xs w (hr.nx (by decide) h) hc (by omega);have hsl:(cO xs).length<=70000:=by rw[LW];omega
 generalize pack (aV (aI xs xs.length 0))=pf at *;generalize cO xs=ps at *;go_enter Tryz.func188,Tryz.ntmps188;go_wp2_with fail;with_reducible refine hf.mono ?_
 rintro e w1 ⟨A1,c1,rfl,⟨D1,hr1⟩,n1⟩;go_wp2_with fail;with_reducible refine (hs _ n1).mono ?_
 rintro e w2 ⟨A2,c2,rfl,⟨D2,hr2⟩,n2⟩;have hr1:=hr1.nx (by decide) n2;by_cases hlt:pf.length<ps.length
 ·have Hd:Hid (cZ xs=pf):=ah (by rw[HD.out,if_pos hlt])
  have hlt4:(pf.length:Int)<(ps.length:Int):=by omega
  go_wp2_with fail;with_reducible refine (twin_any D1 A1 pf.length c1 pf w2 hr1 (by omega)).mono ?_
  rintro e w3 ⟨k3,cap3,rfl,hk,hk2,ho,hrd,n3⟩;go_wp2_with fail;go_ret;rw[Hd.out];exact ⟨_,_,rfl,⟨_,hrd⟩,(n1.tr n2).tr n3⟩
 ·have Hd:Hid (cZ xs=ps):=ah (by rw[HD.out,if_neg hlt])
  have hlt4:¬(pf.length:Int)<(ps.length:Int):=by omega
  go_wp2_with fail;with_reducible refine (twin_any D2 A2 ps.length c2 ps w2 hr2 (by omega)).mono ?_
  rintro e w3 ⟨k3,cap3,rfl,hk,hk2,ho,hrd,n3⟩;go_wp2_with fail;go_ret;rw[Hd.out];exact ⟨_,_,rfl,⟨_,hrd⟩,(n1.tr n2).tr n3⟩
end Go.Proofs.YtpakjclpjcngmaaGreat
