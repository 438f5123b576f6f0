/- Contracts and plain laws that the last text rests on. Conditions: each theorem states its own. -/
import Derived.Test.YtdbfejfhpkakhaaGreatKKd2Q13
import Derived.Test.YtdbfejfhpkakhaaGreatKKd2PbLaw
import Derived.BigRegion
import Derived.Deep.RegionLaw
set_option maxRecDepth 100000
set_option maxHeartbeats 8000000
set_option linter.unusedVariables false
set_option linter.unusedSimpArgs false
namespace Go.Proofs.YtdbfejfhpkakhaaGreat
open Go.RowKit
theorem Tryz.uy:(Tryz.prog.info? 2).map (fun i=>(i.zero,i.size,i.bytes))=some (some (.int .i64 0),1,8):=by kernel_rfl
theorem KQ (zs:List Int):∀u∈il zs,u.oneCell'=true:=by
 intro u hu;simp only[il,List.mem_map]at hu;obtain ⟨x,_,rfl⟩:=hu;rfl
theorem uI {zs:List Int} {k:Nat} (h:k<zs.length):(il zs)[k]?=some (.int .i64 (zs.getD k 0)):=by simp[il,List.getD,h]
theorem xY (D:Nat->Prop) (A:Option Addr) (n c:Nat) (zs:List Int) (w:Nat) (W:World) (hr:Rd W D 1 A n (il zs)) (hl:zs.length=n) (hn:n<=9223372036854775807) (hw:w<=2):
 Calls Tryz.prog 216 #[.slice A n c,.int .i64 (w:Int)] W fun e w'=>e=.returned (.int .i64 (jl zs))/\W=w':=by
 have Hl:=ah hl;clear hl;by_cases hb:2048<n
 ·have hE:Hid (jl zs=5):=ah (by unfold jl;rw[if_pos (by rw[Hl.out];exact hb)])
  go_enter Tryz.func216,Tryz.ntmps216;go_wp2_with fail;go_ret;exact ⟨by rw[hE.out];rfl,rfl⟩
 ·have hE:jl zs=if ∀x∈zs,o_ x then 0 else 2:=by unfold jl;rw[if_neg (by rw[Hl.out];exact hb)]
  have HE:=ah hE;clear hE;go_enter Tryz.func216,Tryz.ntmps216;go_wp2_with fail;go_loopw [20] (fun i wr=>∃k:Nat,k<=n/\i=.int .i64 (k:Int)/\wr=W/\Hid (∀j,j<k->o_ (zs.getD j 0))) (fun i _=>n-(intOf i).toNat)
  case atStart=>exact ⟨0,Nat.zero_le _,rfl,rfl,ah (fun j hj=>absurd hj (by omega))⟩
  case round=>
   obtain ⟨k,hk,rfl,KX,H⟩:=hrel;rw[KX];clear KX;by_cases hlt:k<n
   ·obtain ⟨ad,u,rfl,UF,hu,hcx⟩:=hr.at_ hlt
    have hkl:k<zs.length:=by rw[Hl.out];exact hlt
    rw[uI hkl]at hu;injection hu with hu;subst hu;have hmem:zs.getD k 0∈zs:=(by simp[List.getD,hkl]);obtain ⟨x,hx⟩:∃x,zs.getD k 0=x:=⟨_,rfl⟩;rw[hx]at hcx hmem;have Hx:=ah hx;clear hx;by_cases h1:x< -1152921504606846976
    ·have hR:Hid (jl zs=2):=ah (by rw[HE.out,if_neg (fun h=>by have:=h _ hmem;unfold o_ at this;omega)])
     clear hmem;go_wp2_with fail;go_ret;exact ⟨by rw[hR.out];rfl,rfl⟩
    ·by_cases h2:1152921504606846976<x
     ·have hR:Hid (jl zs=2):=ah (by rw[HE.out,if_neg (fun h=>by have:=h _ hmem;unfold o_ at this;omega)])
      clear hmem;go_wp2_with fail;go_ret;exact ⟨by rw[hR.out];rfl,rfl⟩
     ·have hi:Hid (∀j,j<k+1->o_ (zs.getD j 0)):=ah (fun j hj=>by
       by_cases e:j=k
       ·subst e;rw[Hx.out];unfold o_;omega
       ·exact H.out j (by omega))
      clear hmem;go_wp2_with fail;go_roundw
      case rel=>exact ⟨k+1,by omega,by go_num,trivial,hi⟩
      case measure=>simp[intOf];omega
   ·have hR:Hid (jl zs=0):=ah (by
     rw[HE.out,if_pos];intro x hx;obtain ⟨i,hi,rfl⟩:=List.mem_iff_getElem.1 hx;have:=H.out i (by have:=Hl.out;omega);simpa [List.getD,hi]using this)
    go_wp2_with fail;go_ret;exact ⟨by rw[hR.out];rfl,rfl⟩
theorem xX (D:Nat->Prop) (A:Option Addr) (n c:Nat) (zs:List Int) (fr:Nat) (B:Int) (W:World) (hr:Rd W D 1 A n (il zs)) (hl:zs.length=n) (hn:n<=1000000) (hf1:1<=fr) (hf2:fr<=2) (hb:jK B zs) (hB0:0<=B) (hB:B<=2305843009213693952):
 Calls Tryz.prog 217 #[.slice A n c,.int .i64 (fr:Int)] W (pX W 2 1 n (il (Nq zs fr))):=by
 obtain ⟨i0,hi0,hz0,hz1,hz2⟩:=info_parts Tryz.uy;have hlit:=aF.lit W W 2 (Ch.refl _ W) 1;have hr1:=hr.nx (by decide) hlit.nx;have hb1:(Value.slice (some ⟨W.heap.size,0,none⟩) 0 0).ownBlock≠none:=by simp[Value.ownBlock]
 have Hl:=ah hl;clear hl hr;go_enter Tryz.func217,Tryz.ntmps217;go_wp2_with (at_builtin;refine z05 rfl (.tmp 7) (.tmp 8) _ rfl 2 i0 _ 1 8 Tryz.underlying219 hi0 hz0 hz1 hz2 rfl (by omega) rfl hlit D A n c (il zs) rfl hr1 (KQ _) (by simp only[maxLen];omega) (by omega) ?_;intro v3 w3 o3 m3;obtain ⟨k3,cap3,hv3,o4,hk3,hk3',hc3,hm3⟩:=pX.A_ o3 (m3.some_ hb1);injection hv3 with hv3;rw[hv3])
 rw[Nat.zero_add,List.nil_append]at o4;go_loopw [6] (fun i wr=>∃q:Nat,q<=n/\(fr<=q∨q=n)/\i=.int .i64 ((q:Int)-1)/\aF W wr 2 1 (.slice (some ⟨k3,0,none⟩) n cap3) n (il (jf zs fr (q-1)))) (fun i _=>(intOf i+1).toNat)
 case atStart=>exact ⟨n,Nat.le_refl _,.inr rfl,rfl,by rw[sV zs fr (n-1) (by rw[Hl.out];omega)];simpa using o4⟩
 case round=>
  clear o4 o3 m3;obtain ⟨w4,rfl⟩:∃w4:World,w4=wr:=⟨_,rfl⟩;obtain ⟨q,hq,hqf,rfl,o4⟩:=hrel;by_cases hlt:(fr:Int)<=(q:Int)-1
  ·obtain ⟨k,rfl⟩:∃k,q=k+2:=⟨q-2,by omega⟩
   have hk1:k+1<(jf zs fr (k+1)).length:=by rw[z2p,Hl.out];omega
   have hst:=zU zs fr k (by rw[Hl.out];omega) (by omega);have hx:=z19 (zW hb hB0 fr (k+1)) (by omega) (k+1)
   have hy: -B<=(jf zs fr (k+1)).getD k 0/\(jf zs fr (k+1)).getD k 0<=B:=by
    rw[z21 _ _ _ _ (by rw[Hl.out];omega),if_neg (by omega)];exact z19 hb hB0 k
   have hx2: -B<=(jf zs fr (k+1)).getD (k+1) 0/\(jf zs fr (k+1)).getD (k+1) 0<=B:=by
    rw[z21 _ _ _ _ (by rw[Hl.out];omega),if_neg (by omega)];exact z19 hb hB0 (k+1)
   have c1:w4.cell? ⟨k3,k+1,none⟩=some (.int .i64 ((jf zs fr (k+1)).getD (k+1) 0)):=(o4.own.cellAt (k+1) (by omega)).trans (uI hk1);have c0:w4.cell? ⟨k3,k,none⟩=some (.int .i64 ((jf zs fr (k+1)).getD k 0)):=(o4.own.cellAt k (by omega)).trans (uI (by rw[z2p,Hl.out];omega));have hf:=o4.own.frozenAt (k+1);have hset:=o4.own.stored (k+1);have hil:∀v:Int,(il (jf zs fr (k+1))).set (k+1) (.int .i64 v)=il ((jf zs fr (k+1)).set (k+1) v):=fun v=>by simp[il,List.map_set]
   have Hst:=ah hst;have Hil:=ah hil;have O4:=ah o4;clear hst hil hset o4 hx;generalize (jf zs fr (k+1)).getD (k+1) 0=x at *;generalize (jf zs fr (k+1)).getD k 0=y at *;have e1:((k+2:Nat):Int)-1=((k+1:Nat):Int):=(by omega);have e2:((k+1:Nat):Int)-1=(k:Int):=(by omega);rw[e1]at hlt ⊢;have kw:IntKind.i64.wrap (x-y)=x-y:=IntWalk.i64_in _ (by omega);have ke:IntKind.i64.wrap (((k+1:Nat):Int)-1)=(k:Int):=by rw[e2];exact IntWalk.i64_in _ (by omega)
   obtain ⟨j,hj⟩:∃j,k+1=j:=⟨_,rfl⟩;rw[hj]at e2 ke c1 hf hlt ⊢;have Hj:=ah hj;have hjn:j<n:=(by omega);clear hj e1;have i1:(j:Int)<(n:Int):=(by omega);have i2:(k:Int)<(n:Int):=(by omega);go_wp2_with fail;go_region
   go_wp2_with fail;go_roundw
   case rel=>
    refine ⟨k+1,by omega,by omega,by go_num,?_⟩
    have o5:aF W (w4.setCell ⟨k3,j,none⟩ (.int .i64 (x-y))) 2 1 (.slice (some ⟨k3,0,none⟩) n cap3) n ((il (jf zs fr (k+1))).set j (.int .i64 (x-y))):=
     ⟨(O4.out.own.stored j (.int .i64 (x-y))).1,O4.out.nx.setCell (fun hlt=>absurd hlt (Nat.not_lt.2 (O4.out.lt k3 rfl).1)) _⟩
    rw[←Hj.out,Hil.out,Hst.out,Hj.out]at o5;rw[Nat.add_sub_cancel];exact o5.tr ((Ch.refl _ _).drew)
   case measure=>simp[intOf];omega
  ·have he:jf zs fr (q-1)=Nq zs fr:=zV zs fr (q-1) (by omega)
   rw[he]at o4;go_wp2_with fail;go_ret;exact pX.A_ o4 (by simp[Value.ownBlock])
def MP (W:World) (zs:List Int) (w:Nat) (e:Ending) (w':World):Prop:=∃v,e=.returned (.tuple #[v,.int .i64 0])/\aF W w' 2 1 v zs.length (il (eH zs w))
theorem BR (D:Nat->Prop) (A:Option Addr) (n c:Nat) (zs:List Int) (w:Nat) (W:World) (hr:Rd W D 1 A n (il zs)) (hl:zs.length=n) (hw:w<=2) (he:jl zs=0):
 Calls Tryz.prog 201 #[.slice A n c,.int .i64 (w:Int)] W (MP W zs w):=by
 obtain ⟨i0,hi0,hz0,hz1,hz2⟩:=info_parts Tryz.uy;obtain ⟨hn,hin⟩:=VL he;rw[hl]at hn;have hck:=xY D A n c zs w W hr hl (by omega) hw;rw[he]at hck;have hlit:=aF.lit W W 2 (Ch.refl _ W) 1;have hr1:=hr.nx (by decide) hlit.nx;have Hck:=ah hck;have Hl:=ah hl;clear hck hl hr he;go_enter Tryz.func201,Tryz.ntmps201;go_wp2_with fail;with_reducible refine Hck.out.mono ?_
 rintro e w1 ⟨rfl,rfl⟩;go_wp2_with (at_builtin;refine z05 rfl (.tmp 15) (.tmp 16) _ rfl 2 i0 _ 1 8 Tryz.underlying219 hi0 hz0 hz1 hz2 rfl (by omega) rfl hlit D A n c (il zs) rfl hr1 (KQ _) (by simp only[maxLen];omega) (by omega) ?_;intro v3 w3 o3 m3)
 rw[Nat.zero_add,List.nil_append]at o3;go_loopw [7,8] (fun v i wr=>∃k:Nat,k<=w/\i=.int .i64 ((k+1:Nat):Int)/\aF W wr 2 1 v n (il (eH zs k))) (fun _ i _=>w+1-(intOf i).toNat)
 case atStart=>exact ⟨0,Nat.zero_le _,rfl,o3⟩
 case round=>
  clear o3 m3 hlit hr1;obtain ⟨w4,rfl⟩:∃w4:World,w4=wr:=⟨_,rfl⟩;obtain ⟨k,hk,rfl,o4⟩:=hrel;by_cases hlt:k<w
  ·obtain ⟨A4,c4,rfl,_,_⟩:=o4.form
   have hb:jK 2305843009213693952 (eH zs k):=by
    have h0:jK 1152921504606846976 zs:=fun x hx=>hin x hx;have h1:=z2F h0 (by omega) 1;match k,(show k<=1 by omega) with
    |0,_=>intro x hx;have:=h0 x hx;omega
    |1,_=>intro x hx;have:=h1 x hx;omega
   have hs:eH zs (k+1)=Nq (eH zs k) (k+1):=rfl;have Hs:=ah hs;have hst:=xX _ A4 n c4 (eH zs k) (k+1) 2305843009213693952 w4 o4.rd (by rw[z1H];exact Hl.out) (by omega) (by omega) (by omega) hb (by omega) (by omega);have Hst:=ah hst;clear hs hst;generalize eH zs k=tk at *;go_wp2_with fail;refine Hst.out.mono ?_;rintro e w5 ⟨k5,cap5,rfl,o5,_,_,_,_⟩;go_wp2_with fail;go_roundw
   case rel=>exact ⟨k+1,by omega,by go_num,by rw[Hs.out];exact ⟨su o5.own o4.nx.size,o4.nx.tr o5.nx⟩⟩
   case measure=>simp[intOf];omega
  ·obtain rfl:k=w:=by omega
   go_wp2_with fail;go_ret2;exact ⟨_,rfl,by rw[Hl.out];exact o4⟩
def EN (W:World) (zs:List Int) (w:Nat) (e:Ending) (w':World):Prop:=
 ∃k cap,e=.returned (.tuple #[.slice (some ⟨k,0,none⟩) (gZ zs w).length cap,.int .i64 0])/\aF W w' 5 1 (.slice (some ⟨k,0,none⟩) (gZ zs w).length cap) (gZ zs w).length (bl (gZ zs w))/\(gZ zs w).length<=cap
theorem z2X (D:Nat->Prop) (A:Option Addr) (n c:Nat) (zs:List Int) (w:Nat) (W:World) (hr:Rd W D 1 A n (il zs)) (hl:zs.length=n) (hw:w<=2) (he:jl zs=0):
 Calls Tryz.prog 172 #[.slice A n c,.int .i64 (w:Int)] W (EN W zs w):=by
 obtain ⟨i0,hi0,hz0,hz1,hz2⟩:=info_parts Tryz.info5;obtain ⟨hn,hin⟩:=VL he;have htn:=BR D A n c zs w W hr hl hw he;rw[hl]at hn;have hbd:=z2D hin w hw;have htl:=z1H zs w;have HE:Hid (gZ zs w=aB n++oH (eH zs w)):=ah (by unfold gZ;rw[hl]);unfold MP at htn;rw[hl]at htn htl;unfold EN;generalize eH zs w=ts at *;have Wu:=ah htl;have Htn:=ah htn;have hpu:=fun w=>z10 n w (by omega);have hpl:=z08 (n:=n) (by omega);have zo:=ah hpu;clear htl htn hpu hl hr he;go_enter Tryz.func172,Tryz.ntmps172;go_wp2_with fail;with_reducible refine Htn.out.mono ?_
 rintro e w1 ⟨v1,rfl,o1⟩;obtain ⟨A1,c1,rfl,_,_⟩:=o1.form;have r1:=o1.rd;go_wp2_with fail;with_reducible refine (zo.out _).mono ?_
 rintro e w2 ⟨k2,cap2,rfl,o2,hk2,hk2',hc2,_⟩;have o2':aF w1 w2 5 1 (.slice (some ⟨k2,0,none⟩) (aB n).length cap2) (aB n).length (bl (aB n)):=o2;generalize aB n=pu at *;go_wp2_with fail;go_loopw [8,26] (fun v i wr=>∃k:Nat,k<=n/\i=.int .i64 (k:Int)/\aF w1 wr 5 1 v (pu++oH (ts.take k)).length (bl (pu++oH (ts.take k)))/\v.ownBlock≠none/\(pu++oH (ts.take k)).length<=10+10 * k) (fun _ i _=>n-(intOf i).toNat)
 case atStart=>exact ⟨0,Nat.zero_le _,rfl,by simpa [oH]using o2',by simp[Value.ownBlock],by simp[oH];omega⟩
 case round=>
  clear o2 o2';obtain ⟨w3,rfl⟩:∃w3:World,w3=wr:=⟨_,rfl⟩;obtain ⟨k,hk,rfl,o3,hb3,hlen⟩:=hrel;by_cases hlt:k<n
  ·obtain ⟨ad,u,rfl,UF,hu,hcx⟩:=(r1.nx (by decide) o3.nx).at_ hlt
   have hkl:k<ts.length:=by rw[Wu.out];exact hlt
   rw[uI hkl]at hu;injection hu with hu;subst hu;have hx:=z19 hbd (by omega) k
   have hsucc:bl (pu++oH (ts.take (k+1)))=bl (pu++oH (ts.take k))++bl (aB (zig (ts.getD k 0))):=by
    rw[z1E hkl];simp[bl]
   have hsl:(pu++oH (ts.take (k+1))).length=(pu++oH (ts.take k)).length+(aB (zig (ts.getD k 0))).length:=by
    rw[z1E hkl];simp;omega
   have hz:=zu (x:=ts.getD k 0) (by omega) (by omega);have hzl:=(z08 hz).2;generalize ts.getD k 0=x at *;have hpi:=fun w=>Gj x w (by omega) (by omega);generalize aB (zig x)=pz at *;have Hpi:=ah hpi;have Hs:=ah hsucc;have Hsl:=ah hsl;clear hsucc hsl hpi;generalize pu++oH (ts.take k)=cur at *;go_wp2_with fail;with_reducible refine (Hpi.out _).mono ?_
   rintro e w4 ⟨k4,cap4,rfl,o4,_,_,_,_⟩;have o5:=o3.tr o4.nx;have r4:=o4.tZ;go_wp2_with (at_builtin;refine z05 rfl (.tmp 30) (.tmp 32) _ rfl 5 i0 _ 1 1 Tryz.underlying47 hi0 hz0 hz1 hz2 rfl (by omega) rfl o5 _ (some ⟨k4,0,none⟩) pz.length cap4 (bl pz) rfl r4 (jk _) (by simp only[maxLen];omega) (by omega) ?_;intro v5 w5 o6 m5)
   go_roundw
   case rel=>exact ⟨k+1,by omega,by go_num,by rw[Hs.out,Hsl.out];exact o6,m5.some_ hb3,by rw[Hsl.out];omega⟩
   case measure=>simp[intOf];omega
  ·obtain rfl:k=n:=by omega
   rw[List.take_of_length_le (by rw[Wu.out];exact Nat.le_refl _),←HE.out]at o3;have o4:aF W w3 5 1 _ _ _:=⟨su o3.own o1.nx.size,o1.nx.tr o3.nx⟩;obtain ⟨k4,cap4,hv,o5,_,_,hc5,_⟩:=pX.A_ o4 hb3;injection hv with hv;subst hv;go_wp2_with fail;go_ret2;exact ⟨k4,cap4,rfl,o5,hc5⟩
end Go.Proofs.YtdbfejfhpkakhaaGreat
