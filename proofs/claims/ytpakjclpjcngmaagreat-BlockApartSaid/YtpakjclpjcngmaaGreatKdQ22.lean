/- Contracts and plain laws that the last text rests on. Conditions: each theorem states its own. -/
import Derived.Test.YtpakjclpjcngmaaGreatKdQ6
import Derived.Test.YtpakjclpjcngmaaGreatKdQ5
import Derived.Test.YtpakjclpjcngmaaGreatKdPdLaw
import Derived.BigRegion
import Derived.Deep.RegionLaw
set_option maxRecDepth 100000
set_option maxHeartbeats 8000000
set_option linter.unusedVariables false
namespace Go.Proofs.YtpakjclpjcngmaaGreat
open Go.RowKit
theorem Tryz.kC:(Tryz.prog.info? 2).map (fun i=>(i.zero,i.size,i.bytes))=some (some (.int .i64 0),1,8):=by kernel_rfl
theorem SE (zs:List Int):∀u∈il zs,u.oneCell'=true:=by
 intro u hu;simp only[il,List.mem_map]at hu;obtain ⟨x,_,rfl⟩:=hu;rfl
theorem zD {zs:List Int} {k:Nat} (h:k<zs.length):(il zs)[k]?=some (.int .i64 (zs.getD k 0)):=by simp[il,List.getD,h]
theorem z6c (D:Nat->Prop) (A:Option Addr) (n c:Nat) (zs:List Int) (w:Nat) (W:World) (hr:Rd W D 1 A n (il zs)) (hl:zs.length=n) (hn:n<=9223372036854775807) (hw:w<=2):
 Calls Tryz.prog 257 #[.slice A n c,.int .i64 (w:Int)] W fun e w'=>e=.returned (.int .i64 (aS zs))/\W=w':=by
 have Hl:=ah hl;clear hl;by_cases hb:2048<n
 ·have hE:Hid (aS zs=5):=ah (by unfold aS;rw[if_pos (by rw[Hl.out];exact hb)])
  go_enter Tryz.func257,Tryz.ntmps257;go_wp2_with fail;go_ret;exact ⟨by rw[hE.out];rfl,rfl⟩
 ·have hE:aS zs=if ∀x∈zs,qG x then 0 else 2:=by unfold aS;rw[if_neg (by rw[Hl.out];exact hb)]
  have HE:=ah hE;clear hE;go_enter Tryz.func257,Tryz.ntmps257;go_wp2_with fail;go_loopw [20] (fun i wr=>∃k:Nat,k<=n/\i=.int .i64 (k:Int)/\wr=W/\Hid (∀j,j<k->qG (zs.getD j 0))) (fun i _=>n-(intOf i).toNat)
  case atStart=>exact ⟨0,Nat.zero_le _,rfl,rfl,ah (fun j hj=>absurd hj (by omega))⟩
  case round=>
   obtain ⟨k,hk,rfl,mX,H⟩:=hrel;rw[mX];clear mX;by_cases hlt:k<n
   ·obtain ⟨ad,u,rfl,IB,hu,hcx⟩:=hr.at_ hlt
    have hkl:k<zs.length:=by rw[Hl.out];exact hlt
    rw[zD hkl]at hu;injection hu with hu;subst hu;have hmem:zs.getD k 0∈zs:=(by simp[List.getD,hkl]);obtain ⟨x,hx⟩:∃x,zs.getD k 0=x:=⟨_,rfl⟩;rw[hx]at hcx hmem;have Hx:=ah hx;clear hx;by_cases h1:x< -1152921504606846976
    ·have hR:Hid (aS zs=2):=ah (by rw[HE.out,if_neg (fun h=>by have:=h _ hmem;unfold qG at this;omega)])
     clear hmem;go_wp2_with fail;go_ret;exact ⟨by rw[hR.out];rfl,rfl⟩
    ·by_cases h2:1152921504606846976<x
     ·have hR:Hid (aS zs=2):=ah (by rw[HE.out,if_neg (fun h=>by have:=h _ hmem;unfold qG at this;omega)])
      clear hmem;go_wp2_with fail;go_ret;exact ⟨by rw[hR.out];rfl,rfl⟩
     ·have hi:Hid (∀j,j<k+1->qG (zs.getD j 0)):=ah (fun j hj=>by
       by_cases e:j=k
       ·subst e;rw[Hx.out];unfold qG;omega
       ·exact H.out j (by omega))
      clear hmem;go_wp2_with fail;go_roundw
      case rel=>exact ⟨k+1,by omega,by go_num,trivial,hi⟩
      case measure=>simp[intOf];omega
   ·have hR:Hid (aS zs=0):=ah (by
     rw[HE.out,if_pos];intro x hx;obtain ⟨i,hi,rfl⟩:=List.mem_iff_getElem.1 hx;have:=H.out i (by have:=Hl.out;omega);simpa [List.getD,hi]using this)
    go_wp2_with fail;go_ret;exact ⟨by rw[hR.out];rfl,rfl⟩
theorem Eb (D:Nat->Prop) (A:Option Addr) (n c:Nat) (zs:List Int) (fr:Nat) (B:Int) (W:World) (hr:Rd W D 1 A n (il zs)) (hl:zs.length=n) (hn:n<=1000000) (hf1:1<=fr) (hf2:fr<=2) (hb:mG B zs) (hB0:0<=B) (hB:B<=2305843009213693952):
 Calls Tryz.prog 258 #[.slice A n c,.int .i64 (fr:Int)] W (rQ W 2 1 n (il (uK zs fr))):=by
 obtain ⟨i0,hi0,hz0,hz1,hz2⟩:=info_parts Tryz.kC;have hlit:=ay.lit W W 2 (Ch.refl _ W) 1;have hr1:=hr.nx (by decide) hlit.nx;have hb1:(Value.slice (some ⟨W.heap.size,0,none⟩) 0 0).ownBlock≠none:=by simp[Value.ownBlock]
 have Hl:=ah hl;clear hl hr;go_enter Tryz.func258,Tryz.ntmps258;go_wp2_with (at_builtin;refine z07 rfl (.tmp 7) (.tmp 8) _ rfl 2 i0 _ 1 8 Tryz.underlying114 hi0 hz0 hz1 hz2 rfl (by omega) rfl hlit D A n c (il zs) rfl hr1 (SE _) (by simp only[maxLen];omega) (by omega) ?_;intro v3 w3 o3 m3;obtain ⟨k3,cap3,hv3,o4,hk3,hk3',hc3,hm3⟩:=rQ.CP o3 (m3.some_ hb1);injection hv3 with hv3;rw[hv3])
 rw[Nat.zero_add,List.nil_append]at o4;go_loopw [6] (fun i wr=>∃q:Nat,q<=n/\(fr<=q∨q=n)/\i=.int .i64 ((q:Int)-1)/\ay W wr 2 1 (.slice (some ⟨k3,0,none⟩) n cap3) n (il (kY zs fr (q-1)))) (fun i _=>(intOf i+1).toNat)
 case atStart=>exact ⟨n,Nat.le_refl _,.inr rfl,rfl,by rw[yc zs fr (n-1) (by rw[Hl.out];omega)];simpa using o4⟩
 case round=>
  clear o4 o3 m3;obtain ⟨w4,rfl⟩:∃w4:World,w4=wr:=⟨_,rfl⟩;obtain ⟨q,hq,hqf,rfl,o4⟩:=hrel;by_cases hlt:(fr:Int)<=(q:Int)-1
  ·obtain ⟨k,rfl⟩:∃k,q=k+2:=⟨q-2,by omega⟩
   have hk1:k+1<(kY zs fr (k+1)).length:=by rw[z47,Hl.out];omega
   have hst:=Gj zs fr k (by rw[Hl.out];omega) (by omega);have hx:=JV (Gm hb hB0 fr (k+1)) (by omega) (k+1)
   have hy: -B<=(kY zs fr (k+1)).getD k 0/\(kY zs fr (k+1)).getD k 0<=B:=by
    rw[z3o _ _ _ _ (by rw[Hl.out];omega),if_neg (by omega)];exact JV hb hB0 k
   have hx2: -B<=(kY zs fr (k+1)).getD (k+1) 0/\(kY zs fr (k+1)).getD (k+1) 0<=B:=by
    rw[z3o _ _ _ _ (by rw[Hl.out];omega),if_neg (by omega)];exact JV hb hB0 (k+1)
   have c1:w4.cell? ⟨k3,k+1,none⟩=some (.int .i64 ((kY zs fr (k+1)).getD (k+1) 0)):=(o4.own.cellAt (k+1) (by omega)).trans (zD hk1);have c0:w4.cell? ⟨k3,k,none⟩=some (.int .i64 ((kY zs fr (k+1)).getD k 0)):=(o4.own.cellAt k (by omega)).trans (zD (by rw[z47,Hl.out];omega));have hf:=o4.own.frozenAt (k+1);have hset:=o4.own.stored (k+1);have hil:∀v:Int,(il (kY zs fr (k+1))).set (k+1) (.int .i64 v)=il ((kY zs fr (k+1)).set (k+1) v):=fun v=>by simp[il,List.map_set]
   have jv:=ah hst;have Hil:=ah hil;have O4:=ah o4;clear hst hil hset o4 hx;generalize (kY zs fr (k+1)).getD (k+1) 0=x at *;generalize (kY zs fr (k+1)).getD k 0=y at *;have e1:((k+2:Nat):Int)-1=((k+1:Nat):Int):=(by omega);have e2:((k+1:Nat):Int)-1=(k:Int):=(by omega);rw[e1]at hlt ⊢;have kw:IntKind.i64.wrap (x-y)=x-y:=IntWalk.i64_in _ (by omega);have ke:IntKind.i64.wrap (((k+1:Nat):Int)-1)=(k:Int):=by rw[e2];exact IntWalk.i64_in _ (by omega)
   obtain ⟨j,hj⟩:∃j,k+1=j:=⟨_,rfl⟩;rw[hj]at e2 ke c1 hf hlt ⊢;have Hj:=ah hj;have hjn:j<n:=(by omega);clear hj e1;have i1:(j:Int)<(n:Int):=(by omega);have i2:(k:Int)<(n:Int):=(by omega);go_wp2_with fail;go_region
   go_wp2_with fail;go_roundw
   case rel=>
    refine ⟨k+1,by omega,by omega,by go_num,?_⟩
    have o5:ay W (w4.setCell ⟨k3,j,none⟩ (.int .i64 (x-y))) 2 1 (.slice (some ⟨k3,0,none⟩) n cap3) n ((il (kY zs fr (k+1))).set j (.int .i64 (x-y))):=
     ⟨(O4.out.own.stored j (.int .i64 (x-y))).1,O4.out.nx.setCell (fun hlt=>absurd hlt (Nat.not_lt.2 (O4.out.lt k3 rfl).1)) _⟩
    rw[←Hj.out,Hil.out,jv.out,Hj.out]at o5;rw[Nat.add_sub_cancel];exact o5.tr ((Ch.refl _ _).drew)
   case measure=>simp[intOf];omega
  ·have he:kY zs fr (q-1)=uK zs fr:=Gl zs fr (q-1) (by omega)
   rw[he]at o4;go_wp2_with fail;go_ret;exact rQ.CP o4 (by simp[Value.ownBlock])
def UL (W:World) (zs:List Int) (w:Nat) (e:Ending) (w':World):Prop:=∃v,e=.returned (.tuple #[v,.int .i64 0])/\ay W w' 2 1 v zs.length (il (aQ zs w))
theorem IZ (D:Nat->Prop) (A:Option Addr) (n c:Nat) (zs:List Int) (w:Nat) (W:World) (hr:Rd W D 1 A n (il zs)) (hl:zs.length=n) (hw:w<=2) (he:aS zs=0):
 Calls Tryz.prog 212 #[.slice A n c,.int .i64 (w:Int)] W (UL W zs w):=by
 obtain ⟨i0,hi0,hz0,hz1,hz2⟩:=info_parts Tryz.kC;obtain ⟨hn,hin⟩:=JX he;rw[hl]at hn;have hck:=z6c D A n c zs w W hr hl (by omega) hw;rw[he]at hck;have hlit:=ay.lit W W 2 (Ch.refl _ W) 1;have hr1:=hr.nx (by decide) hlit.nx;have Hck:=ah hck;have Hl:=ah hl;clear hck hl hr he;go_enter Tryz.func212,Tryz.ntmps212;go_wp2_with fail;with_reducible refine Hck.out.mono ?_
 rintro e w1 ⟨rfl,rfl⟩;go_wp2_with (at_builtin;refine z07 rfl (.tmp 15) (.tmp 16) _ rfl 2 i0 _ 1 8 Tryz.underlying114 hi0 hz0 hz1 hz2 rfl (by omega) rfl hlit D A n c (il zs) rfl hr1 (SE _) (by simp only[maxLen];omega) (by omega) ?_;intro v3 w3 o3 m3)
 rw[Nat.zero_add,List.nil_append]at o3;go_loopw [7,8] (fun v i wr=>∃k:Nat,k<=w/\i=.int .i64 ((k+1:Nat):Int)/\ay W wr 2 1 v n (il (aQ zs k))) (fun _ i _=>w+1-(intOf i).toNat)
 case atStart=>exact ⟨0,Nat.zero_le _,rfl,o3⟩
 case round=>
  clear o3 m3 hlit hr1;obtain ⟨w4,rfl⟩:∃w4:World,w4=wr:=⟨_,rfl⟩;obtain ⟨k,hk,rfl,o4⟩:=hrel;by_cases hlt:k<w
  ·obtain ⟨A4,c4,rfl,_,_⟩:=o4.form
   have hb:mG 2305843009213693952 (aQ zs k):=by
    have h0:mG 1152921504606846976 zs:=fun x hx=>hin x hx;have h1:=z4u h0 (by omega) 1;match k,(show k<=1 by omega) with
    |0,_=>intro x hx;have:=h0 x hx;omega
    |1,_=>intro x hx;have:=h1 x hx;omega
   have hs:aQ zs (k+1)=uK (aQ zs k) (k+1):=rfl;have Hs:=ah hs;have hst:=Eb _ A4 n c4 (aQ zs k) (k+1) 2305843009213693952 w4 o4.rd (by rw[Qa];exact Hl.out) (by omega) (by omega) (by omega) hb (by omega) (by omega);have jv:=ah hst;clear hs hst;generalize aQ zs k=tk at *;go_wp2_with fail;refine jv.out.mono ?_;rintro e w5 ⟨k5,cap5,rfl,o5,_,_,_,_⟩;go_wp2_with fail;go_roundw
   case rel=>exact ⟨k+1,by omega,by go_num,by rw[Hs.out];exact ⟨kX o5.own o4.nx.size,o4.nx.tr o5.nx⟩⟩
   case measure=>simp[intOf];omega
  ·obtain rfl:k=w:=by omega
   go_wp2_with fail;go_ret2;exact ⟨_,rfl,by rw[Hl.out];exact o4⟩
theorem qM (D:Nat->Prop) (A:Option Addr) (n c:Nat) (zs:List Int) (w:Nat) (W:World) (hr:Rd W D 1 A n (il zs)) (hl:zs.length=n) (hn:n<=9223372036854775807) (hw:w<=2) (he:aS zs≠0):
 Calls Tryz.prog 212 #[.slice A n c,.int .i64 (w:Int)] W fun e w'=>e=.returned (.tuple #[.slice none 0 0,.int .i64 (aS zs)])/\W=w':=by
 have hck:=z6c D A n c zs w W hr hl hn hw;generalize aS zs=er at *;have hne:(er !=0)=true:=by rw[bne_iff_ne];exact he
 have Hck:=ah hck;clear hck hl hr he;go_enter Tryz.func212,Tryz.ntmps212;go_wp2_with fail;with_reducible refine Hck.out.mono ?_
 rintro e w1 ⟨rfl,rfl⟩;go_wp2_with fail;go_ret2;exact ⟨rfl,rfl⟩
def LM (W:World) (zs:List Int) (w:Nat) (e:Ending) (w':World):Prop:=
 ∃k cap,e=.returned (.tuple #[.slice (some ⟨k,0,none⟩) (bP zs w).length cap,.int .i64 0])/\ay W w' 5 1 (.slice (some ⟨k,0,none⟩) (bP zs w).length cap) (bP zs w).length (bl (bP zs w))/\(bP zs w).length<=cap
theorem z4W (D:Nat->Prop) (A:Option Addr) (n c:Nat) (zs:List Int) (w:Nat) (W:World) (hr:Rd W D 1 A n (il zs)) (hl:zs.length=n) (hw:w<=2) (he:aS zs=0):
 Calls Tryz.prog 164 #[.slice A n c,.int .i64 (w:Int)] W (LM W zs w):=by
 obtain ⟨i0,hi0,hz0,hz1,hz2⟩:=info_parts Tryz.info5;obtain ⟨hn,hin⟩:=JX he;have htn:=IZ D A n c zs w W hr hl hw he;rw[hl]at hn;have hbd:=Yq hin w hw;have htl:=Qa zs w;have HE:Hid (bP zs w=ak n++jR (aQ zs w)):=ah (by unfold bP;rw[hl]);unfold UL at htn;rw[hl]at htn htl;unfold LM;generalize aQ zs w=ts at *;have zY:=ah htl;have Htn:=ah htn;have hpu:=fun w=>Yv n w (by omega);have hpl:=z05 (n:=n) (by omega);have EY:=ah hpu;clear htl htn hpu hl hr he;go_enter Tryz.func164,Tryz.ntmps164;go_wp2_with fail;with_reducible refine Htn.out.mono ?_
 rintro e w1 ⟨v1,rfl,o1⟩;obtain ⟨A1,c1,rfl,_,_⟩:=o1.form;have r1:=o1.rd;go_wp2_with fail;with_reducible refine (EY.out _).mono ?_
 rintro e w2 ⟨k2,cap2,rfl,o2,hk2,hk2',hc2,_⟩;have o2':ay w1 w2 5 1 (.slice (some ⟨k2,0,none⟩) (ak n).length cap2) (ak n).length (bl (ak n)):=o2;generalize ak n=pu at *;go_wp2_with fail;go_loopw [8,26] (fun v i wr=>∃k:Nat,k<=n/\i=.int .i64 (k:Int)/\ay w1 wr 5 1 v (pu++jR (ts.take k)).length (bl (pu++jR (ts.take k)))/\v.ownBlock≠none/\(pu++jR (ts.take k)).length<=10+10 * k) (fun _ i _=>n-(intOf i).toNat)
 case atStart=>exact ⟨0,Nat.zero_le _,rfl,by simpa [jR]using o2',by simp[Value.ownBlock],by simp[jR];omega⟩
 case round=>
  clear o2 o2';obtain ⟨w3,rfl⟩:∃w3:World,w3=wr:=⟨_,rfl⟩;obtain ⟨k,hk,rfl,o3,hb3,hlen⟩:=hrel;by_cases hlt:k<n
  ·obtain ⟨ad,u,rfl,IB,hu,hcx⟩:=(r1.nx (by decide) o3.nx).at_ hlt
   have hkl:k<ts.length:=by rw[zY.out];exact hlt
   rw[zD hkl]at hu;injection hu with hu;subst hu;have hx:=JV hbd (by omega) k
   have hsucc:bl (pu++jR (ts.take (k+1)))=bl (pu++jR (ts.take k))++bl (ak (zig (ts.getD k 0))):=by
    rw[z2B hkl];simp[bl]
   have hsl:(pu++jR (ts.take (k+1))).length=(pu++jR (ts.take k)).length+(ak (zig (ts.getD k 0))).length:=by
    rw[z2B hkl];simp;omega
   have hz:=Ym (x:=ts.getD k 0) (by omega) (by omega);have hzl:=(z05 hz).2;generalize ts.getD k 0=x at *;have hpi:=fun w=>Nr x w (by omega) (by omega);generalize ak (zig x)=pz at *;have Hpi:=ah hpi;have Hs:=ah hsucc;have Hsl:=ah hsl;clear hsucc hsl hpi;generalize pu++jR (ts.take k)=cur at *;go_wp2_with fail;with_reducible refine (Hpi.out _).mono ?_
   rintro e w4 ⟨k4,cap4,rfl,o4,_,_,_,_⟩;have o5:=o3.tr o4.nx;have r4:=o4.jZ;go_wp2_with (at_builtin;refine z07 rfl (.tmp 30) (.tmp 32) _ rfl 5 i0 _ 1 1 Tryz.underlying26 hi0 hz0 hz1 hz2 rfl (by omega) rfl o5 _ (some ⟨k4,0,none⟩) pz.length cap4 (bl pz) rfl r4 (kR _) (by simp only[maxLen];omega) (by omega) ?_;intro v5 w5 o6 m5)
   go_roundw
   case rel=>exact ⟨k+1,by omega,by go_num,by rw[Hs.out,Hsl.out];exact o6,m5.some_ hb3,by rw[Hsl.out];omega⟩
   case measure=>simp[intOf];omega
  ·obtain rfl:k=n:=by omega
   rw[List.take_of_length_le (by rw[zY.out];exact Nat.le_refl _),←HE.out]at o3;have o4:ay W w3 5 1 _ _ _:=⟨kX o3.own o1.nx.size,o1.nx.tr o3.nx⟩;obtain ⟨k4,cap4,hv,o5,_,_,hc5,_⟩:=rQ.CP o4 hb3;injection hv with hv;subst hv;go_wp2_with fail;go_ret2;exact ⟨k4,cap4,rfl,o5,hc5⟩
end Go.Proofs.YtpakjclpjcngmaaGreat
