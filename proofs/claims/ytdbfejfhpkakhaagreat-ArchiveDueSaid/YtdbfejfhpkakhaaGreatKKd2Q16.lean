/- Contracts and plain laws that the last text rests on. Conditions: each theorem states its own. -/
import Derived.Test.YtdbfejfhpkakhaaGreatKKd2Q1
import Derived.Test.YtdbfejfhpkakhaaGreatKKd2Q2
import Derived.Deep.QuietTactic
import Derived.BigQuiet
import Derived.Laws.BitsAllLaws
import Derived.StillTailTactics
import Derived.BigRegion
import Derived.IntWalk
import Derived.Deep.CutBlock
import Derived.Deep.DeepCutAuto
import Derived.Test.YtdbfejfhpkakhaaGreatKKd2Q3
import Derived.Laws.MakeOwn
set_option maxRecDepth 100000
set_option maxHeartbeats 4000000
set_option linter.unusedVariables false
set_option linter.unusedSimpArgs false
namespace Go.Proofs.YtdbfejfhpkakhaaGreat
open Go.RowKit
def gY (w:World) (g:Nat) (h:Option Nat) (l:List Bool):Prop:=
 ∃v,aG w g 268 #[v,.int .i64 (l.length:Int)]/\w.ownsRow 0 5 1 v (pack l).length (bl (pack l))/\v.ownBlock=h
theorem gY.ch {w w':World} {g:Nat} {h:Option Nat} {l:List Bool} {S:Nat->Prop} (r:gY w g h l) (hc:Ch S w w') (hg:¬S g) (hh:∀k,h=some k->¬S k):gY w' g h l:=by
 obtain ⟨v,b,o,x⟩:=r;exact ⟨v,b.ch hc hg,z06 o hc (fun k e=>hh k (x▸e)),x⟩
theorem gY.new (w:World):gY (w.alloc (.cells #[.slice none 0 0,.int .i64 0] 268)) w.heap.size none []:=
 ⟨.slice none 0 0,aG.new _ _ _,World.ownsRow_nil _ _ _ _,rfl⟩
def f_ (w:World) (g:Nat) (h:Option Nat) (l':List Bool) (w':World):Prop:=
 ∃h',gY w' g h' l'/\(h'=h∨∃k,h'=some k/\w.heap.size<=k)/\Ch (fun k=>k=g∨h=some k) w w'
theorem Xk {W w w':World} {g:Nat} {h:Option Nat} (n:Nx W w) (c:Ch (fun k=>k=g∨h=some k) w w') (hg:W.heap.size<=g) (hh:∀k,h=some k->W.heap.size<=k):Nx W w':=
 n.trans c fun i hi hc=>by
  rcases hc with e|e
  ·omega
  ·have:=hh _ e;omega
theorem TR {W w:World} {h h1:Option Nat} (hs:W.heap.size<=w.heap.size) (hh:∀k,h=some k->W.heap.size<=k) (q:h1=h∨∃k,h1=some k/\w.heap.size<=k):∀k,h1=some k->W.heap.size<=k:=by
 rcases q with rfl|⟨k,rfl,hk⟩
 ·exact hh
 ·intro j e
  injection e with e;omega
theorem wQ (y x r:Nat) (hy:y<2 ^ r) (hx:x<4294967296) (hr:r<8):
 bits .or .u8 (y:Int) (bits .and .u32 (x:Int) 1 % 256 * 2 ^ r % 256)=((y+Ir (decide (x % 2=1)) * 2 ^ r:Nat):Int):=by
 rw[QF];have hp:(2:Nat) ^ r<=2 ^ 7:=Nat.pow_le_pow_right (by omega) (by omega)
 have h2:bits .and .u32 (x:Int) 1=((x % 2:Nat):Int):=by
  have:=u32_and_nat x 1 (by omega) (by omega);rw[Nat.and_one_is_mod]at this;exact this
 rw[h2];have hb2:x % 2<2:=Nat.mod_lt _ (by omega);generalize x % 2=b at *;have hbk:b * 2 ^ r<=1 * 2 ^ r:=Nat.mul_le_mul_right _ (by omega);have e1:((b:Nat):Int) % 256=(b:Int):=Int.emod_eq_of_lt (by omega) (by omega);have e2:((b * 2 ^ r:Nat):Int)=(b:Int) * 2 ^ r:=by simp
 rw[e1,←e2,Int.emod_eq_of_lt (by omega) (by omega)];rw[u8_or_nat y (b * 2 ^ r) (by omega) (by omega),or_bit y b r hy]
theorem IZ {w:World} {g k cap:Nat} {l:List Bool} {b:Bool} {bs:List Nat} (hb:aG w g 268 #[.slice (some ⟨k,0,none⟩) bs.length cap,.int .i64 (l.length:Int)])
 (ho:w.ownsRow 0 5 1 (.slice (some ⟨k,0,none⟩) bs.length cap) bs.length (bl bs)) (V:Nat) (hV:bs.set (l.length / 8) V=pack (l++[b])):
 gY ((w.setCell ⟨k,l.length / 8,none⟩ (.int .u8 (V:Int))).setCell ⟨g,1,none⟩ (.int .i64 ((l.length:Int)+1))) g (some k) (l++[b]):=by
 have hne:k≠g:=fun e=>z07 ho hb (by decide) (by rw[e];rfl);have hb1:=(hb.far (p:=⟨k,l.length / 8,none⟩) (Ne.symm hne) (.int .u8 (V:Int))).aS 1 (.int .i64 ((l.length:Int)+1));have ho1:=(ho.stored (l.length / 8) (.int .u8 (V:Int))).1;have e:(bl bs).set (l.length / 8) (.int .u8 (V:Int))=bl (pack (l++[b])):=by rw[←hV];simp[bl,List.map_set]
 have e':bs.length=(pack (l++[b])).length:=by rw[←hV];simp
 rw[e]at ho1;rw[e']at ho1 hb1;refine ⟨_,?_,z06 ho1 (S:=fun j=>j=g) (Ch.setCell (S:=fun j=>j=g) (Ch.refl _ _) (p:=⟨g,1,none⟩) (fun _=>rfl) _) ?_,rfl⟩
 ·simpa using hb1
 ·rintro j hj rfl
  simp[Value.ownBlock]at hj;exact hne hj
theorem TA (g:Nat) (h:Option Nat) (l:List Bool) (x:Nat) (w:World) (r:gY w g h l) (hl:l.length<=1000000000000) (hx:x<4294967296):
 Calls Tryz.prog 207 #[.pointer (some ⟨g,0,none⟩),.int .u32 (x:Int)] w fun e w'=>e=.returned (.tuple #[])/\f_ w g h (l++[decide (x % 2=1)]) w':=by
 obtain ⟨i0,hi0,hz0,hz1,hz2⟩:=info_parts Tryz.info5;obtain ⟨v,b,o,hv⟩:=r;have d1:w.cell? ⟨g,1,none⟩=some (.int .i64 (l.length:Int)):=b.cell 1;have f0:=b.frozen 0;have f1:=b.frozen 1;by_cases h8:l.length % 8=0
 ·have h8':((l.length:Int) % 8==0)=true:=by rw[beq_iff_eq];omega
  obtain ⟨A,c,rfl,_,_⟩:=h_ o;have d0:w.cell? ⟨g,0,none⟩=some (.slice A (pack l).length c):=b.cell 0;have hpl:=Ro l;have hsn:=FY l (decide (x % 2=1));rw[if_pos h8]at hsn;have hsm:=Zf l;have hos:=wQ (z18 l (l.length / 8)) x (l.length % 8) hsm hx (by omega);have hz:z18 l (l.length / 8)=0:=by rw[h8]at hsm;simpa using hsm
  rw[hz]at hos hsn;have Hos:=ah hos;have Hsn:=ah hsn;clear hz hos hsn hsm;have o':=o.alloc (.cells #[.int .u8 0] 5);have b':=b.alloc (.cells #[.int .u8 0] 5);have pq:Nx w (w.alloc (.cells #[.int .u8 0] 5)):=(Ch.refl _ w).alloc _;generalize hpn:(pack l).length=pl at *;have QL:=ah hpn;clear hpn;have Hpl:=ah hpl;have hpl2:pl<=125000000001:=by omega
  clear hpl o b;have Hb:=ah b';have Ho:=ah o';have Yj:=ah pq;clear b' o' pq;go_enter Tryz.func207,Tryz.ntmps207;go_wp2_with (at_builtin;refine z04 _ rfl (.tmp 14) (.tmp 15) _ rfl 0 5 i0 _ 1 1 Tryz.underlying47 hi0 hz0 hz1 hz2 rfl (by omega) (.slice A pl c) pl _ rfl Ho.out (fun _=>True) _ 1 1 [.int .u8 0] rfl ⟨rfl,fun _=>⟨⟨w.heap.size,0,none⟩,rfl,trivial,cell_one_new _ _ _⟩⟩ (by simp[Value.oneCell']) (by simp only[maxLen];omega) (by omega) (by simp) ?_;intro v' w1 hown hg hat;obtain ⟨k,cap,hv',_,hk⟩:=hown.form (by omega);rw[hv']at hown hat ⊢;clear hv';have f0:=(Hb.out.grown hg (fun e=>z07 Ho.out Hb.out (by decide) e.symm)).frozen 0;have d0:=(Hb.out.grown hg (fun e=>z07 Ho.out Hb.out (by decide) e.symm)).cell 0;simp at d0)
  have b1:=Hb.out.grown hg (fun e=>z07 Ho.out Hb.out (by decide) e.symm);have b2:=b1.aS 0 (.slice (some ⟨k,0,none⟩) (pl+1) cap);have hne:k≠g:=fun e=>z07 hown b1 (by decide) (by rw[e];rfl);have hne':g≠k:=Ne.symm hne
  have hch:Ch (fun j=>j=g∨h=some j) w (w1.setCell ⟨g,0,none⟩ (.slice (some ⟨k,0,none⟩) (pl+1) cap)):=
   ((Yj.out.mono (fun _ _ hf=>hf.elim)).grown hg (fun j hj _=>.inr (by rw[←hv];exact hj))).setCell (p:=⟨g,0,none⟩) (fun _=>.inl rfl) _
  have o2:=z06 hown (S:=fun j=>j=g) (Ch.setCell (S:=fun j=>j=g) (Ch.refl _ w1) (p:=⟨g,0,none⟩) (fun _=>rfl) (.slice (some ⟨k,0,none⟩) (pl+1) cap)) (fun j hj e=>hne (by simp[Value.ownBlock]at hj;omega))
  have hk':some k=h∨∃j,some k=some j/\w.heap.size<=j:=by
   rw[←hv];rcases hat with e|e
   ·exact .inl e
   ·exact .inr ⟨_,e,by simp⟩
  clear hown hg hat b1 d0 d1 f0 f1 hv;generalize w1.setCell ⟨g,0,none⟩ (.slice (some ⟨k,0,none⟩) (pl+1) cap)=w2 at *;have d0:w2.cell? ⟨g,0,none⟩=some (.slice (some ⟨k,0,none⟩) (pl+1) cap):=b2.cell 0;have d1:w2.cell? ⟨g,1,none⟩=some (.int .i64 (l.length:Int)):=b2.cell 1;have f1:=b2.frozen 1;have hpl:=Hpl.out;have XC:l.length / 8=pl:=by omega
  have hpl4:l.length / 8<pl+1:=by omega
  have c1:w2.cell? ⟨k,l.length / 8,none⟩=some (.int .u8 (((0:Nat)):Int)):=by
   rw[o2.cellAt _ (by omega),XC,←QL.out,List.getElem?_append_right (by rw[Rh];exact Nat.le_refl _)];simp[Rh]
  have f2:=o2.frozenAt (l.length / 8);have hbs:pl+1=(pack l++[0]).length:=by rw[←QL.out];simp
  have e3:bl (pack l)++[.int .u8 0]=bl (pack l++[0]):=by simp[bl]
  rw[e3]at o2;have Hb2:=ah b2;have Ho2:=ah o2;have SG:=ah hbs;clear b2 o2 hpl XC hbs e3;generalize hn:l.length=n at *;have Hn:=ah hn;clear hn;have q1:(0:Int)<=(n:Int) / 8:=by omega
  have q2:(n:Int) / 8<(pl:Int)+1:=by omega
  go_region
  go_wp2
  go_end0
  refine ⟨rfl,some k,?_,hk',?_⟩
  ·have:=IZ (l:=l) (b:=decide (x % 2=1)) (bs:=pack l++[0]) (cap:=cap) (w:=w2) (k:=k) (g:=g) (by rw[←SG.out,Hn.out];exact Hb2.out) (by rw[←SG.out];exact Ho2.out) _ (by rw[Hn.out];exact Hsn.out.symm)
   rw[Hn.out]at this
   have ho:bits .or .u8 ((0:Nat):Int) (bits .and .u32 (x:Int) 1 % 256)=((0+Ir (decide (x % 2=1)) * 2 ^ (n % 8):Nat):Int):=by
    have:=Hos.out;rw[h8]at this ⊢;simpa using this
   rw[show (0:Int)=((0:Nat):Int) from rfl,ho];exact this
  ·exact ((hch.setCell (p:=⟨k,n / 8,none⟩) (fun hlt=>by rcases hk' with e|⟨j,e,hj⟩;exact .inr e.symm;injection e with e;subst e;exact absurd hlt (by simpa using hj)) _).setCell (p:=⟨g,1,none⟩) (fun _=>.inl rfl) _).drew
 ·have h8':((l.length:Int) % 8==0)=false:=by rw[beq_eq_false_iff_ne];omega
  have hpl:=Ro l;obtain ⟨k,cap,rfl,_,hk⟩:=o.form (by omega);have d0:w.cell? ⟨g,0,none⟩=some (.slice (some ⟨k,0,none⟩) (pack l).length cap):=b.cell 0
  have c1:w.cell? ⟨k,l.length / 8,none⟩=some (.int .u8 (z18 l (l.length / 8):Int)):=by
   rw[o.cellAt _ (by omega),nU (by omega),FZ _ _ (by omega)]
  have hb1:=rG l (l.length / 8);have f2:=o.frozenAt (l.length / 8);have hos:=wQ (z18 l (l.length / 8)) x (l.length % 8) (Zf l) hx (by omega);have hsn:=z2r l (decide (x % 2=1)) h8;have Hos:=ah hos;have Hsn:=ah hsn;have Hb:=ah b;have Ho:=ah o;clear hos hsn;have hne:k≠g:=fun e=>z07 o b (by decide) (by rw[e];rfl);have hne':g≠k:=Ne.symm hne;generalize hpn:(pack l).length=pl at *;have QL:=ah hpn;clear hpn;generalize hy:z18 l (l.length / 8)=y at *;have Hy:=ah hy;clear hy;generalize hn:l.length=n at *;have Hn:=ah hn;have Hpl:=ah hpl;clear hn;have hpl2:n / 8<pl:=by omega
  clear hpl;clear b o;go_enter Tryz.func207,Tryz.ntmps207;go_wp2
  have q1:(0:Int)<=(n:Int) / 8:=by omega
  have q2:(n:Int) / 8<(pl:Int):=by omega
  go_region
  go_wp2
  go_end0
  refine ⟨rfl,some k,?_,.inl ?_,?_⟩
  ·have:=IZ (l:=l) (b:=decide (x % 2=1)) (bs:=pack l) (cap:=cap) (w:=w) (k:=k) (g:=g) (by rw[QL.out,Hn.out];exact Hb.out) (by rw[QL.out];exact Ho.out) _ (by rw[Hn.out];exact Hsn.out.symm)
   rw[Hn.out]at this;rw[Hos.out];exact this
  ·rw[←hv];rfl
  ·have hc:Ch (fun j=>j=g∨h=some j) w w:=Ch.refl _ _
   exact ((hc.setCell (p:=⟨k,n / 8,none⟩) (fun _=>.inr (by rw[←hv];rfl)) _).setCell (p:=⟨g,1,none⟩) (fun _=>.inl rfl) _).drew
theorem f_.start {w w1:World} {g:Nat} {h:Option Nat} {l:List Bool} (r:gY w g h l) (c:Nx w w1):f_ w g h l w1:=
 ⟨h,r.ch c (fun hf=>hf) (fun _ _ hf=>hf),.inl rfl,c.mono fun _ _ hf=>hf.elim⟩
theorem f_.next {w w1 w2:World} {g:Nat} {h h1:Option Nat} {l2:List Bool} (q:h1=h∨∃k,h1=some k/\w.heap.size<=k) (c:Ch (fun k=>k=g∨h=some k) w w1) (t:f_ w1 g h1 l2 w2):f_ w g h l2 w2:=by
 obtain ⟨h2,r2,q2,c2⟩:=t;refine ⟨h2,r2,?_,c.trans c2 fun i hi ht=>?_⟩
 ·rcases q2 with rfl|⟨k,e,hk⟩
  ·exact q
  ·exact .inr ⟨k,e,Nat.le_trans c.size hk⟩
 ·rcases ht with e|e
  ·exact .inl e
  ·rcases q with rfl|⟨k,e',hk⟩
   ·exact .inr e
   ·rw[e']at e
    injection e with e;omega
theorem kY (g:Nat) (h:Option Nat) (l:List Bool) (X:Int) (w:World) (r:gY w g h l) (hl:l.length<=1000000000000) (h0:0<=X) (hX:X<4294967296):
 Calls Tryz.prog 207 #[.pointer (some ⟨g,0,none⟩),.int .u32 X] w fun e w'=>e=.returned (.tuple #[])/\f_ w g h (l++[decide (X.toNat % 2=1)]) w':=by
 obtain ⟨x,rfl⟩:=Int.eq_ofNat_of_zero_le h0;exact TA g h l x w r hl (by omega)
theorem Jy (v k:Nat) (hv:v<4294967296):(0:Int)<=(v:Int) / 2 ^ k/\(v:Int) / 2 ^ k<4294967296/\((v:Int) / 2 ^ k).toNat=v / 2 ^ k:=by
 have h1:((v:Int) / 2 ^ k)=((v / 2 ^ k:Nat):Int):=by simp
 have hd:v / 2 ^ k<=v:=Nat.div_le_self _ _;rw[h1];generalize v / 2 ^ k=q at *;omega
theorem Tf (g:Nat) (h:Option Nat) (l:List Bool) (v n:Nat) (w:World) (r:gY w g h l) (hl:l.length<=999999999000) (hv:v<4294967296) (hn:n<=32):
 Calls Tryz.prog 177 #[.pointer (some ⟨g,0,none⟩),.int .u32 (v:Int),.int .i64 (n:Int)] w fun e w'=>e=.returned (.int .i64 0)/\f_ w g h (l++zB v n) w':=by
 have hd3:¬((32:Int)<(n:Int)):=by omega
 go_enter Tryz.func177,Tryz.ntmps177;go_wp2_with fail;go_loopw [19] (fun i wr=>∃k:Nat,k<=n/\i=.int .i64 k/\f_ w g h (l++zB v k) wr) (fun i _=>n-(intOf i).toNat)
 case atStart=>exact ⟨0,by omega,rfl,by simpa [zB]using f_.start r (Ch.refl _ w)⟩
 case round=>
  obtain ⟨k,hk,rfl,hr⟩:=hrel;have hr':=hr;obtain ⟨h1,r1,q1,c1⟩:=hr;by_cases hlt:k<n
  ·obtain ⟨s0,s1,s2⟩:=Jy v k hv
   have S2:=ah s2;clear s2 r;go_wp2_with (go_at_call 207;refine (kY g h1 _ _ _ r1 (by simp[z17];omega) s0 s1).mono ?_;rintro e w' ⟨rfl,ht⟩)
   rw[S2.out]at ht;go_roundw
   case rel=>exact ⟨k+1,by omega,by go_num,by rw[ug,←List.append_assoc];exact f_.next q1 c1 ht⟩
   case measure=>simp[intOf];omega
  ·obtain rfl:k=n:=by omega
   go_wp2_with fail;go_ret;exact ⟨rfl,hr'⟩
theorem sG (g:Nat) (h:Option Nat) (l:List Bool) (v n:Nat) (w:World) (r:gY w g h l) (hl:l.length<=999999999000) (hv:v<4294967296) (hn:n<=16):
 Calls Tryz.prog 230 #[.pointer (some ⟨g,0,none⟩),.int .u32 (v:Int),.int .i64 (n:Int)] w fun e w'=>e=.returned (.int .i64 0)/\f_ w g h (l++EU v n) w':=by
 have hd3:¬((16:Int)<(n:Int)):=by omega
 go_enter Tryz.func230,Tryz.ntmps230;go_wp2_with fail;go_loopw [19] (fun i wr=>∃k:Nat,k<=n/\i=.int .i64 k/\f_ w g h (l++Td v n k) wr) (fun i _=>n-(intOf i).toNat)
 case atStart=>exact ⟨0,by omega,rfl,by simpa [Td]using f_.start r (Ch.refl _ w)⟩
 case round=>
  obtain ⟨k,hk,rfl,hr⟩:=hrel;have hr':=hr;obtain ⟨h1,r1,q1,c1⟩:=hr;by_cases hlt:k<n
  ·obtain ⟨s0,s1,s2⟩:=Jy v (n-1-k) hv
   have S2:=ah s2;clear s2 r;have t0:(0:Int)<=(n:Int)-1-(k:Int):=(by omega);have t1:(n:Int)-1-(k:Int)<64:=(by omega);go_wp2_with (go_at_call 207;refine (kY g h1 _ _ _ r1 (by simp[pJ];omega) s0 s1).mono ?_;rintro e w' ⟨rfl,ht⟩)
   rw[S2.out]at ht;go_roundw
   case rel=>exact ⟨k+1,by omega,by go_num,by rw[yu,←List.append_assoc];exact f_.next q1 c1 ht⟩
   case measure=>simp[intOf];omega
  ·obtain rfl:k=n:=by omega
   go_wp2_with fail;go_ret;exact ⟨rfl,hr'⟩
theorem z30 (g:Nat) (h:Option Nat) (l:List Bool) (w:World) (r:gY w g h l) (hl:l.length<=1000000000000):
 Calls Tryz.prog 178 #[.pointer (some ⟨g,0,none⟩)] w (VA w (pack l)):=by
 obtain ⟨i0,hi0,hz0,hz1,hz2⟩:=info_parts Tryz.info5;obtain ⟨v,b,o,hv⟩:=r;obtain ⟨A,c,rfl,_,_⟩:=h_ o;have hr:=Rd.bW o;have h':=hr.nx (by omega) ((Ch.refl _ w).alloc (.cells #[] 5));have d0:(w.alloc (.cells #[] 5)).cell? ⟨g,0,none⟩=some (.slice A (pack l).length c):=(b.alloc _).cell 0;have hpl:=Ro l;have hpl2:(pack l).length<=125000000001:=by omega
 clear hr o b hpl;generalize hpn:(pack l).length=pl at *;have QL:=ah hpn;clear hpn;go_enter Tryz.func178,Tryz.ntmps178;go_wp2_with (at_builtin;refine z04 _ rfl (.tmp 5) (.tmp 9) _ rfl w.heap.size 5 i0 _ 1 1 Tryz.underlying47 hi0 hz0 hz1 hz2 rfl (by omega) (.slice (some ⟨w.heap.size,0,none⟩) 0 0) 0 [] rfl (World.ownsRow_made w #[] 0 (Nat.le_refl _) (by simp[maxLen]) rfl) _ A pl c _ rfl h' (jk _) (by simp only[maxLen];omega) (by omega) (by simp) ?_;intro v' w1 hown hg hat;obtain ⟨k,cap,hv,hk,hk1,hrd,hnx,ho⟩:=Y_ hown hg hat;clear hown hg hat;rw[hv];clear hv)
 go_ret;exact ⟨k,cap,by simp[QL.out],hk,hk1,by rw[QL.out];exact ho,by rw[QL.out];exact hrd,hnx⟩
theorem Zc (g:Nat) (h:Option Nat) (l:List Bool) (X:Int) (v n:Nat) (w:World) (r:gY w g h l) (hl:l.length<=999999999000) (hX:X=(v:Int)) (hv:v<4294967296) (hn:n<=16):
 Calls Tryz.prog 230 #[.pointer (some ⟨g,0,none⟩),.int .u32 X,.int .i64 (n:Int)] w fun e w'=>e=.returned (.int .i64 0)/\f_ w g h (l++EU v n) w':=by
 subst hX;exact sG g h l v n w r hl hv hn
set_option maxRecDepth 100000 in
theorem Oa (g:Nat) (h:Option Nat) (l:List Bool) (s:Nat) (w:World) (r:gY w g h l) (hl:l.length<=999999999000) (hs:s<288):
 Calls Tryz.prog 220 #[.pointer (some ⟨g,0,none⟩),.int .i64 (s:Int)] w fun e w'=>e=.returned (.tuple #[])/\f_ w g h (l++jV s) w':=by
 by_cases h1:s<144
 ·have hb:jV s=EU (48+s) 8:=by unfold jV Ky Gy;rw[if_pos h1,if_pos h1]
  have Hb:=ah hb;clear hb;go_enter Tryz.func220,Tryz.ntmps220;go_wp2_with fail;refine (Zc g h l _ (48+s) 8 w r hl (by omega) (by omega) (by omega)).mono ?_;rintro e w1 ⟨rfl,t1⟩;go_wp2_with fail;go_end0
  rw[Hb.out];exact ⟨rfl,t1⟩
 ·by_cases h2:s<256
  ·have hb:jV s=EU (256+s) 9:=by unfold jV Ky Gy;rw[if_neg h1,if_neg h1,if_pos h2,if_pos h2]
   have Hb:=ah hb;clear hb;go_enter Tryz.func220,Tryz.ntmps220;go_wp2_with fail;refine (Zc g h l _ (256+s) 9 w r hl (by omega) (by omega) (by omega)).mono ?_;rintro e w1 ⟨rfl,t1⟩;go_wp2_with fail;go_end0
   rw[Hb.out];exact ⟨rfl,t1⟩
  ·by_cases h3:s<280
   ·have hb:jV s=EU (s-256) 7:=by unfold jV Ky Gy;rw[if_neg h1,if_neg h1,if_neg h2,if_neg h2,if_pos h3,if_pos h3]
    have Hb:=ah hb;clear hb;go_enter Tryz.func220,Tryz.ntmps220;go_wp2_with fail;refine (Zc g h l _ (s-256) 7 w r hl (by omega) (by omega) (by omega)).mono ?_;rintro e w1 ⟨rfl,t1⟩;go_wp2_with fail;go_end0
    rw[Hb.out];exact ⟨rfl,t1⟩
   ·have hb:jV s=EU (s-88) 8:=by unfold jV Ky Gy;rw[if_neg h1,if_neg h1,if_neg h2,if_neg h2,if_neg h3,if_neg h3]
    have Hb:=ah hb;clear hb;go_enter Tryz.func220,Tryz.ntmps220;go_wp2_with fail;refine (Zc g h l _ (s-88) 8 w r hl (by omega) (by omega) (by omega)).mono ?_;rintro e w1 ⟨rfl,t1⟩;go_wp2_with fail;go_end0
    rw[Hb.out];exact ⟨rfl,t1⟩
theorem Rl (s:Nat):(jV s).length<=9:=by
 unfold jV Gy;rw[z12];split
 ·omega
 ·split
  ·omega
  ·split<;>omega
theorem mY (n:Nat):(zA n).length<=30:=by
 unfold zA;split
 ·exact Nat.le_trans (Rl _) (by omega)
 ·split
  ·exact Nat.le_trans (Rl _) (by omega)
  ·rw[List.length_append,z17]
   have h1:=Rl (257+4 * mX (n-3)+(n-3) / 2 ^ mX (n-3));have h2:=(Jb (b:=8) (m:=n-3) 9 1).2;unfold mX at *;omega
def UpL (w:World) (b m x0 f0 xm:Nat) (s:Value) (wr:World):Prop:=∃(x f:Nat),s=.int .i64 (x:Int)/\x+f=x0+f0/\x<=xm/\wr=w/\Hid (zi b m f0 x0=zi b m f x)
set_option maxRecDepth 100000 in
theorem z2G (g:Nat) (h:Option Nat) (l:List Bool) (n d:Nat) (w:World) (r:gY w g h l) (hl:l.length<=999999990000) (hn3:3<=n) (hn:n<=258) (hd1:1<=d) (hd:d<=32768):
 Calls Tryz.prog 221 #[.pointer (some ⟨g,0,none⟩),.int .i64 (n:Int),.int .i64 (d:Int)] w fun e w'=>e=.returned (.tuple #[])/\f_ w g h (l++(zA n++z11 (d-1))) w':=by
 go_enter Tryz.func221,Tryz.ntmps221;go_upto_block 0 with fail
 go_cut [] (fun wx=>f_ w g h (l++zA n) wx)
 case first=>
  by_cases h258:n=258
  ·subst h258
   have hb:zA 258=jV 285:=rfl;have Hb:=ah hb;clear hb;go_wp2_with fail;refine (Oa g h l 285 w r (by omega) (by omega)).mono ?_;rintro e w1 ⟨rfl,t1⟩;go_wp2_with fail;go_meet
   rw[Hb.out];exact t1
  ·have hq:((n:Int)==258)=false:=by rw[beq_eq_false_iff_ne];omega
   by_cases h11:n<11
   ·have hb:zA n=jV (254+n):=by unfold zA;rw[if_neg h258,if_pos h11]
    have Hb:=ah hb;have hc:(254:Int)+(n:Int)=((254+n:Nat):Int):=(by omega);clear hb;obtain ⟨s,hs⟩:∃s,254+n=s:=⟨_,rfl⟩;rw[hs]at hc Hb;have hs2:s<288:=(by omega);clear hs;go_wp2_with fail;refine (Oa g h l s w r (by omega) hs2).mono ?_;rintro e w1 ⟨rfl,t1⟩;go_wp2_with fail;go_meet
    rw[Hb.out];exact t1
   ·obtain ⟨m,hm⟩:∃m,n-3=m:=⟨_,rfl⟩
    have hb:zA n=jV (257+4 * mX m+m / 2 ^ mX m)++zB m (mX m):=by unfold zA;rw[if_neg h258,if_neg h11,hm]
    have Hb:=ah hb;have hc:(n:Int)-3=(m:Int):=(by omega);have hm1:m<=254:=(by omega);have kw:IntKind.i64.wrap (m:Int)=(m:Int):=IntWalk.i64_in _ (by omega);clear hb hm;go_wp2_with fail;go_loopw [6] (UpL w 8 m 1 9 5) (fun x _=>10-(intOf x).toNat)
    case atStart=>exact ⟨1,9,rfl,rfl,by omega,rfl,ah rfl⟩
    case round=>
     obtain ⟨x,f,rfl,Zl,hx5,KX,Hu⟩:=hrel;rw[KX];clear KX;obtain ⟨pw,hpw⟩:∃pw,8 * 2 ^ x=pw:=⟨_,rfl⟩;have hp1:2 ^ x<=2 ^ 5:=Nat.pow_le_pow_right (by omega) hx5;have hp2:(8:Int) * 2 ^ x=(pw:Int):=by rw[←hpw];simp
     have kp:IntKind.i64.wrap (pw:Int)=(pw:Int):=IntWalk.i64_in _ (by omega);have hx64:(x:Int)<64:=(by omega);have hx0:(0:Int)<=(x:Int):=(by omega);by_cases hge:pw<=m
     ·have hx4:x<=4:=by
       rcases Nat.lt_or_ge 4 x with h5|h5
       ·have:=Nat.pow_le_pow_right (show 0<2 by omega) h5
        simp only[Nat.succ_eq_add_one]at this;omega
       ·exact h5
      obtain ⟨f,rfl⟩:∃f',f=f'+1:=⟨f-1,by omega⟩;have Hu2:Hid (zi 8 m 9 1=zi 8 m f (x+1)):=ah (by rw[Hu.out,zi,if_pos (by rw[hpw];exact hge)]);have Uw:(pw:Int)<=(m:Int):=(by omega);clear Hu hpw hp1;go_wp2_with fail;go_roundw
      case rel=>exact ⟨x+1,f,by go_num,by omega,by omega,rfl,Hu2⟩
      case measure=>simp[intOf];omega
     ·have hX:mX m=x:=by
       unfold mX;rw[Hu.out];cases f with
       |zero=>rfl
       |succ f=>rw[zi,if_neg (by rw[hpw];exact hge)]
      rw[hX]at Hb;have Uw:¬((pw:Int)<=(m:Int)):=(by omega);obtain ⟨q,hq2⟩:∃q,m / 2 ^ x=q:=⟨_,rfl⟩;have hdv:(m:Int) / 2 ^ x=(q:Int):=by rw[←hq2];simp
      have hq8:q<8:=by rw[←hq2];exact Nat.div_lt_of_lt_mul (by rw[Nat.mul_comm];omega)
      rw[hq2]at Hb;obtain ⟨s,hs⟩:∃s,257+4 * x+q=s:=⟨_,rfl⟩;have hc2:(257:Int)+4 * (x:Int)+(q:Int)=(s:Int):=(by omega);have hs2:s<288:=(by omega);rw[hs]at Hb;clear Hu hpw hp1 hX hq2 hs;go_wp2_with fail;refine (Oa g h l s w r (by omega) hs2).mono ?_;rintro e w1 ⟨rfl,t1⟩;obtain ⟨h1,r1,q1,c1⟩:=t1;go_wp2_with fail;refine (Tf g h1 _ m x w1 r1 (by rw[List.length_append];have:=Rl s;omega) (by omega) (by omega)).mono ?_;rintro e w2 ⟨rfl,t2⟩;have t3:=f_.next q1 c1 t2;go_wp2_with fail;go_meet
      rw[Hb.out,←List.append_assoc];exact t3
 case rest=>
  obtain ⟨h5,r5,q5,c5⟩:=hcut;obtain ⟨w5,rfl⟩:∃w5:World,w5=wc:=⟨_,rfl⟩;have hl5:(l++zA n).length<=999999990030:=by rw[List.length_append];have:=mY n;omega
  obtain ⟨m,hm⟩:∃m,d-1=m:=⟨_,rfl⟩;have hc:(d:Int)-1=(m:Int):=by omega
  have hm1:m<32768:=by omega
  have kw:IntKind.i64.wrap (m:Int)=(m:Int):=IntWalk.i64_in _ (by omega);obtain ⟨l5,hle⟩:∃l5,l++zA n=l5:=⟨_,rfl⟩;rw[hle]at r5 hl5;have Hm:=ah hm;have Hle:=ah hle;clear hm hle;by_cases h2:m<2
  ·have hb:z11 m=EU m 5:=by unfold z11;rw[if_pos h2]
   have Hb:=ah hb;clear hb;go_wp2_with fail;refine (sG g h5 l5 m 5 w5 r5 (by omega) (by omega) (by omega)).mono ?_;rintro e w6 ⟨rfl,t6⟩;have t7:=f_.next q5 c5 t6;go_wp2_with fail;refine bodyPost_ret (results_none rfl _ _ _) rfl ?_;rw[Hm.out,←List.append_assoc,Hle.out,Hb.out];exact ⟨rfl,t7⟩
  ·have hb:z11 m=EU (2 * jy m+m / 2 ^ jy m) 5++zB m (jy m):=by unfold z11;rw[if_neg h2]
   have Hb:=ah hb;clear hb;go_wp2_with fail;go_loopw [7] (UpL w5 4 m 0 20 13) (fun x _=>20-(intOf x).toNat)
   case atStart=>exact ⟨0,20,rfl,rfl,by omega,rfl,ah rfl⟩
   case round=>
    obtain ⟨x,f,rfl,Zl,hx5,KX,Hu⟩:=hrel;rw[KX];clear KX;obtain ⟨pw,hpw⟩:∃pw,4 * 2 ^ x=pw:=⟨_,rfl⟩;have hp1:2 ^ x<=2 ^ 13:=Nat.pow_le_pow_right (by omega) hx5;have hp2:(4:Int) * 2 ^ x=(pw:Int):=by rw[←hpw];simp
    have kp:IntKind.i64.wrap (pw:Int)=(pw:Int):=IntWalk.i64_in _ (by omega);have hx64:(x:Int)<64:=(by omega);have hx0:(0:Int)<=(x:Int):=(by omega);by_cases hge:pw<=m
    ·have hx4:x<=12:=by
      rcases Nat.lt_or_ge 12 x with h5|h5
      ·have:=Nat.pow_le_pow_right (show 0<2 by omega) h5
       simp only[Nat.succ_eq_add_one]at this;omega
      ·exact h5
     obtain ⟨f,rfl⟩:∃f',f=f'+1:=⟨f-1,by omega⟩;have Hu2:Hid (zi 4 m 20 0=zi 4 m f (x+1)):=ah (by rw[Hu.out,zi,if_pos (by rw[hpw];exact hge)]);have Uw:(pw:Int)<=(m:Int):=(by omega);clear Hu hpw hp1;go_wp2_with fail;go_roundw
     case rel=>exact ⟨x+1,f,by go_num,by omega,by omega,rfl,Hu2⟩
     case measure=>simp[intOf];omega
    ·have hX:jy m=x:=by
      unfold jy;rw[Hu.out];cases f with
      |zero=>rfl
      |succ f=>rw[zi,if_neg (by rw[hpw];exact hge)]
     rw[hX]at Hb;have Uw:¬((pw:Int)<=(m:Int)):=(by omega);obtain ⟨q,hq2⟩:∃q,m / 2 ^ x=q:=⟨_,rfl⟩;have hdv:(m:Int) / 2 ^ x=(q:Int):=by rw[←hq2];simp
     have hq8:q<4:=by rw[←hq2];exact Nat.div_lt_of_lt_mul (by rw[Nat.mul_comm];omega)
     rw[hq2]at Hb;obtain ⟨s,hs⟩:∃s,2 * x+q=s:=⟨_,rfl⟩;have hc2:(2:Int) * (x:Int)+(q:Int)=(s:Int):=(by omega);have hs2:s<32:=(by omega);rw[hs]at Hb;clear Hu hpw hp1 hX hq2 hs;go_wp2_with fail;refine (sG g h5 l5 s 5 w5 r5 (by omega) (by omega) (by omega)).mono ?_;rintro e w6 ⟨rfl,t6⟩;have t7:=f_.next q5 c5 t6;obtain ⟨h7,r7,q7,c7⟩:=t7;go_wp2_with fail;refine (Tf g h7 _ m x w6 r7 (by rw[List.length_append,z12];omega) (by omega) (by omega)).mono ?_;rintro e w8 ⟨rfl,t8⟩;have t9:=f_.next q7 c7 t8;go_wp2_with fail;go_end0
     rw[Hm.out,←List.append_assoc,Hle.out,Hb.out,←List.append_assoc];exact ⟨rfl,t9⟩
theorem Ei (x:Nat) (w:World) (h:x<16):Calls Tryz.prog 187 #[.int .u32 (x:Int)] w fun e w'=>e=.returned (.int .u32 (mg x:Int))/\w=w':=by
 have h16:x=0∨x=1∨x=2∨x=3∨x=4∨x=5∨x=6∨x=7∨x=8∨x=9∨x=10∨x=11∨x=12∨x=13∨x=14∨x=15:=by omega
 clear h;rcases h16 with rfl|rfl|rfl|rfl|rfl|rfl|rfl|rfl|rfl|rfl|rfl|rfl|rfl|rfl|rfl|rfl
 all_goals
  go_enter Tryz.func187,Tryz.ntmps187;go_wp2_with fail;go_ret;exact ⟨rfl,rfl⟩
theorem ql (c:Nat) (h:c<4294967296):bits .and .u32 (c:Int) 15=((c % 16:Nat):Int):=by
 have e:=u32_and_nat c 15 h (by decide);have e2:c&&& 15=c % 16:=Nat.and_two_pow_sub_one_eq_mod c 4;rw[e2]at e;exact e
theorem Dp (c:Nat) (h:c<4294967296):bits .xor .u32 (if IntKind.u32.signed=true then -1 else IntKind.u32.max) (c:Int)=((4294967295-c:Nat):Int):=by
 have e:=u32_xor_nat 4294967295 c (by decide) h
 have e2:4294967295 ^^^ c=4294967295-c:=by
  apply Nat.eq_of_testBit_eq
  intro i;rw[show 4294967295=2 ^ 32-1 by decide,Nat.testBit_xor,Nat.testBit_two_pow_sub_one,show 2 ^ 32-1-c=2 ^ 32-(c+1) by omega,Nat.testBit_two_pow_sub_succ h];by_cases hi:i<32
  ·simp[hi]
  ·have:c.testBit i=false:=Nat.testBit_lt_two_pow (Nat.lt_of_lt_of_le (show c<2 ^ 32 by omega) (Nat.pow_le_pow_right (n:=2) (by decide) (by omega)))
   simp[hi,this]
 rw[e2]at e;exact e
theorem Rd.lit (w:World) (cs:Array Value) (t:TypeId) (fr:Nat×Nat):Rd (w.alloc (.cells cs t fr)) (fun k=>k=w.heap.size) 1 (some ⟨w.heap.size,0,none⟩) cs.size cs.toList:=by
 refine ⟨by simp,fun _=>⟨_,rfl,rfl,fun j u hu=>?_⟩⟩
 have ea:(Addr.mk w.heap.size 0 none).add j=⟨w.heap.size,j,none⟩:=by
  unfold Addr.add;split
  ·next e=>rw[e]
  ·simp
 rw[ea,cell_of_row _ w.heap.size j cs t fr (heap_alloc_new w _)];simpa using hu
abbrev Nj (w:World) (g:Nat) (t:Nat):Prop:=aG w g 231 #[.int .u32 (t:Int)]
theorem Ht (D:Nat->Prop) (g t:Nat) (A:Option Addr) (n c:Nat) (xs:List Nat) (w:World) (hd:Nj w g t) (ht:t<4294967296) (hr:Rd w D 1 A n (bl xs)) (ok:okB xs) (hl:xs.length=n) (hn:n<=9223372036854775807):
 Calls Tryz.prog 136 #[.pointer (some ⟨g,0,none⟩),.slice A n c] w fun e w'=>e=.returned (.tuple #[])/\Nj w' g (4294967295-jo (4294967295-t) xs)/\Ch (· =g) w w':=by
 have d0:w.cell? ⟨g,0,none⟩=some (.int .u32 (t:Int)):=hd.cell 0;have hf:=hd.frozen;have hnot:=Dp t ht;obtain ⟨r0,hr0⟩:∃r0,4294967295-t=r0:=⟨_,rfl⟩;rw[hr0]at hnot ⊢;have hr0l:r0<4294967296:=by omega
 have Hd:=ah hd;have Hl:=ah hl;clear hd hl hr0;go_enter Tryz.func136,Tryz.ntmps136;go_wp2_with fail;go_loopw [4,16] (fun v i wr=>∃k:Nat,k<=n/\i=.int .i64 (k:Int)/\v=.int .u32 (jo r0 (xs.take k):Int)/\wr=w) (fun _ i _=>n-(intOf i).toNat)
 case atStart=>exact ⟨0,Nat.zero_le _,rfl,rfl,rfl⟩
 case round=>
  clear hnot;obtain ⟨k,hk,rfl,rfl,KX⟩:=hrel;rw[KX];clear KX;have hcl:jo r0 (xs.take k)<4294967296:=OI hr0l fun y hy=>ok y (List.mem_of_mem_take hy);by_cases hlt:k<n
  ·obtain ⟨ad,u,rfl,UF,hu,hc⟩:=hr.at_ hlt
   have hkl:k<xs.length:=by rw[Hl.out];exact hlt
   rw[nU hkl]at hu;injection hu with hu;subst hu;have hx:=WO ok k
   have hsucc:jo r0 (xs.take (k+1))=Du (jo r0 (xs.take k)) (xs.getD k 0):=by
    have e:xs.getD k 0=xs[k]:=(by simp[List.getD,hkl]);rw[List.take_succ_eq_append_getElem hkl,JE,e];rfl
   generalize xs.getD k 0=x at *;generalize jo r0 (xs.take k)=c0 at *;unfold Du at hsucc;have l1:c0 ^^^ x<4294967296:=Nat.xor_lt_two_pow (n:=32) hcl (by omega);have x1:=u32_xor_nat c0 x hcl (by omega);generalize c0 ^^^ x=c1 at *;have l2:=kG l1;have a1:=ql c1 l1
   have x2:bits .xor .u32 ((c1:Int) / 16) (mg (c1 % 16):Int)=(AQ c1:Int):=by
    have:=u32_xor_nat (c1 / 16) (mg (c1 % 16)) (by omega) (tH _);rw[show ((c1:Int) / 16)=((c1 / 16:Nat):Int) by omega];exact this
   generalize AQ c1=c2 at *;have l3:=kG l2;have a2:=ql c2 l2
   have x3:bits .xor .u32 ((c2:Int) / 16) (mg (c2 % 16):Int)=(AQ c2:Int):=by
    have:=u32_xor_nat (c2 / 16) (mg (c2 % 16)) (by omega) (tH _);rw[show ((c2:Int) / 16)=((c2 / 16:Nat):Int) by omega];exact this
   generalize AQ c2=c3 at *;have m1:c1 % 16<16:=Nat.mod_lt _ (by decide);have m2:c2 % 16<16:=Nat.mod_lt _ (by decide);have hr1:=fun w=>Ei (c1 % 16) w m1;have hr2:=fun w=>Ei (c2 % 16) w m2;generalize mg (c1 % 16)=r1 at *;generalize mg (c2 % 16)=r2 at *;generalize c1 % 16=q1 at *;generalize c2 % 16=q2 at *;have Hs:=ah hsucc;have Hr1:=ah hr1;have Hr2:=ah hr2;clear hsucc hr1 hr2;go_wp2_with fail;with_reducible refine (Hr1.out _).mono ?_
   rintro e w1 ⟨rfl,rfl⟩;go_wp2_with fail;with_reducible refine (Hr2.out _).mono ?_
   rintro e w1 ⟨rfl,rfl⟩;go_wp2_with fail;go_roundw
   case rel=>exact ⟨k+1,by omega,by go_num,by rw[Hs.out],trivial⟩
   case measure=>simp[intOf];omega
  ·have htk:xs.take k=xs:=List.take_of_length_le (by rw[Hl.out];omega)
   rw[htk]at hcl ⊢;have hnot:=Dp _ hcl;have hle:jo r0 xs<=4294967295:=(by omega);clear htk;obtain ⟨c0,hc0⟩:∃c0,jo r0 xs=c0:=⟨_,rfl⟩;rw[hc0]at hcl hnot hle ⊢;have Hc0:=ah hc0;clear hc0;go_wp2_with fail;go_end0
   exact ⟨rfl,by rw[Hc0.out];exact Hd.out.aS 0 (.int .u32 ((4294967295-c0:Nat):Int)),Ch.setCell (S:=fun k=>k=g) (Ch.refl _ w) (p:=⟨g,0,none⟩) (fun _=>rfl) _⟩
theorem LG (g t:Nat) (w:World) (hd:Nj w g t):Calls Tryz.prog 137 #[.pointer (some ⟨g,0,none⟩)] w fun e w'=>e=.returned (.int .u32 (t:Int))/\w=w':=by
 have d0:w.cell? ⟨g,0,none⟩=some (.int .u32 (t:Int)):=hd.cell 0;go_enter Tryz.func137,Tryz.ntmps137;go_wp2_with fail;go_ret;exact ⟨rfl,rfl⟩
def Yd (w:World) (v:Int) (e:Ending) (w':World):Prop:=e=.returned (.int .u32 v)/\Nx w w'
theorem xZ (D:Nat->Prop) (p:Nat) (pc:Nat) (A:Option Addr) (n c:Nat) (xs:List Nat) (w:World) (hp:w.cell? ⟨p,0,none⟩=some (.slice A n c)) (hr:Rd w D 1 A n (bl xs)) (Wq:∀k,D k->k<w.heap.size) (ok:okB xs) (hl:xs.length=n) (hn:n<=9223372036854775807):
 Calls Tryz.prog 100 #[.slice (some ⟨p,0,none⟩) 1 pc] w (Yd w (sumF xs:Int)):=by
 have hplt:p<w.heap.size:=World.block_lt_of_cell? w _ hp;have hd0:Nj (w.alloc (.cells #[.int .u32 0] 231)) w.heap.size 0:=aG.new w _ _;have hn0:Nx w (w.alloc (.cells #[.int .u32 0] 231)):=(Ch.refl _ w).alloc _;have hp1:(w.alloc (.cells #[.int .u32 0] 231)).cell? ⟨p,0,none⟩=some (.slice A n c):=(World.cell?_alloc_lt w _ _ hplt).trans hp;have hr1:=hr.nx (by decide) hn0;obtain ⟨dg,hdg⟩:∃dg,w.heap.size=dg:=⟨_,rfl⟩;have hpd:p<dg:=by omega
 have hDg:∀k,D k->k≠dg:=fun k hk=>by have:=Wq k hk;omega
 rw[hdg]at hd0;obtain ⟨w1,hw1⟩:∃w1,w.alloc (.cells #[.int .u32 0] 231)=w1:=⟨_,rfl⟩;rw[hw1]at hd0 hn0 hp1 hr1;have HW:=ah hw1;have HG:=ah hdg;have Hl:=ah hl;clear hw1 hl hp hr;go_enter Tryz.func100,Tryz.ntmps100;go_upto_region 2 with fail
 simp only[HW.out];have hgx:w.heap.size<=dg:=by rw[HG.out];exact Nat.le_refl _
 clear HW HG hdg;go_wp2_with fail;go_loopw [8] (fun i wr=>∃k:Nat,k<=1/\i=.int .i64 (k:Int)/\Nj wr dg (if k=0 then 0 else sumF xs)/\Ch (· =dg) w1 wr) (fun i _=>1-(intOf i).toNat)
 case atStart=>exact ⟨0,by omega,rfl,hd0,Ch.refl _ _⟩
 case round=>
  clear hd0;obtain ⟨w2,rfl⟩:∃w2:World,w2=wr:=⟨_,rfl⟩;obtain ⟨k,hk,rfl,hd,ch⟩:=hrel;by_cases h0:k=0
  ·subst h0
   rw[if_pos rfl]at hd;have hp2:w2.cell? ⟨p,0,none⟩=some (.slice A n c):=(ch.cell (p:=⟨p,0,none⟩) (World.block_lt_of_cell? w1 _ hp1) (by simp;omega)).trans hp1;have hr2:=hr1.ch (by decide) ch (fun k hk hd e=>hDg k hd e);go_wp2_with fail;with_reducible refine (Ht _ dg 0 A n c xs _ hd (by decide) hr2 ok Hl.out hn).mono ?_
   rintro e w3 ⟨rfl,hd3,ch3⟩;go_wp2_with fail;go_roundw
   case rel=>exact ⟨1,by omega,by go_num,by rw[if_neg (by omega)];exact hd3,ch.trans ch3 fun _ _ e=>e⟩
   case measure=>simp[intOf]
  ·obtain rfl:k=1:=by omega
   rw[if_neg (by omega)]at hd;go_wp2_with fail;with_reducible refine (LG dg _ _ hd).mono ?_
   rintro e w3 ⟨rfl,rfl⟩;go_wp2_with fail;go_ret;exact ⟨rfl,hn0.trans ch fun i hi e=>by omega⟩
theorem Ru (s:Nat):IntKind.u8.wrap (s:Int)=((s % 256:Nat):Int)/\IntKind.u8.wrap ((s:Int) / 256)=((s / 256 % 256:Nat):Int)/\IntKind.u8.wrap ((s:Int) / 65536)=((s / 65536 % 256:Nat):Int)/\IntKind.u8.wrap ((s:Int) / 16777216)=((s / 16777216 % 256:Nat):Int):=by
 have h:∀z:Int,IntKind.u8.wrap z=z % 256:=fun z=>by simp[IntKind.wrap,IntKind.bits,IntKind.signed]
 rw[h,h,h,h];exact ⟨by omega,by omega,by omega,by omega⟩
theorem yc (D:Nat->Prop) (A:Option Addr) (n c:Nat) (xs:List Nat) (W:World) (hr:Rd W D 1 A n (bl xs)) (Wq:∀k,D k->k<W.heap.size) (ok:okB xs) (hl:xs.length=n) (hn:n<=1000000000):
 Calls Tryz.prog 104 #[.slice A n c] W (pX W 5 1 (n+4) (bl (iJ xs))):=by
 obtain ⟨i0,hi0,hz0,hz1,hz2⟩:=info_parts Tryz.info5;have hn0:Nx W (W.alloc (.cells #[.slice A n c] 47)):=(Ch.refl _ W).alloc _;have hb0:=aG.new W 47 #[.slice A n c];have hsum:=xZ D W.heap.size 1 A n c xs _ (hb0.cell 0) (hr.nx (by decide) hn0) (fun k hk=>Nat.lt_of_lt_of_le (Wq k hk) hn0.size) ok hl (by omega);have hsz:sumF xs<4294967296:=Oo xs
 have RQ:bl (iJ xs)=bl xs++[.int .u8 ((sumF xs % 256:Nat):Int),.int .u8 ((sumF xs / 256 % 256:Nat):Int),.int .u8 ((sumF xs / 65536 % 256:Nat):Int),.int .u8 ((sumF xs / 16777216 % 256:Nat):Int)]:=by
  unfold iJ four bl;rw[List.map_append];rfl
 have Yi:=ah RQ;clear RQ;generalize sumF xs=s at *;obtain ⟨k0,k1,k2,k3⟩:=Ru s
 have hmk:∀w:World,(Instr.makeSlice 47 (.int .i64 0) (.int .i64 ((n:Int)+4))).run Tryz.prog w=.ok (.slice (some ⟨w.heap.size,0,none⟩) 0 (n+4)) (w.alloc (.cells (madeCells #[.int .u8 0] (n+4)) 5)):=fun w=>by
  have:=run_make (P:=Tryz.prog) w 47 5 i0 (.int .u8 0) Tryz.underlying47 hi0 hz0 .i64 .i64 0 ((n:Int)+4) (by omega) (by omega) (by rw[hz2];omega) (by omega);rw[hz1,show ((n:Int)+4).toNat=n+4 by omega,Nat.mul_one]at this;exact this
 have Hs:=ah hsum;clear hsum;go_enter Tryz.func104,Tryz.ntmps104;go_wp2_with fail;with_reducible refine Hs.out.mono ?_
 rintro e w1 ⟨rfl,n1⟩;have nx1:Nx W w1:=hn0.tr n1
 have o1:aF W (w1.alloc (.cells (madeCells #[.int .u8 0] (n+4)) 5)) 5 1 (.slice (some ⟨w1.heap.size,0,none⟩) 0 (n+4)) 0 []:=
  ⟨World.ownsRow_made w1 _ (n+4) nx1.size (by simp only[maxLen];omega) (by simp[size_madeCells]),nx1.alloc _⟩
 have hr1:=hr.nx (by decide) o1.nx;have hb1:(Value.slice (some ⟨w1.heap.size,0,none⟩) 0 (n+4)).ownBlock≠none:=by simp[Value.ownBlock]
 generalize hW2:w1.alloc (.cells (madeCells #[.int .u8 0] (n+4)) 5)=w2 at *;clear Hs n1 hb0 hn0
 go_wp2_with (at_builtin;first
  |(refine z05 rfl (.tmp 11) (.tmp 12) _ rfl 5 i0 _ 1 1 Tryz.underlying47 hi0 hz0 hz1 hz2 rfl (by omega) rfl o1 D A n c (bl xs) rfl hr1 (jk _) (by simp only[maxLen];omega) (by omega) ?_;intro v3 w3 o3 m3;have hr3:=Rd.lit w3 #[.int .u8 ((s % 256:Nat):Int),.int .u8 ((s / 256 % 256:Nat):Int),.int .u8 ((s / 65536 % 256:Nat):Int),.int .u8 ((s / 16777216 % 256:Nat):Int)] 5 (0,0);have o3':=o3.alloc (.cells #[.int .u8 ((s % 256:Nat):Int),.int .u8 ((s / 256 % 256:Nat):Int),.int .u8 ((s / 65536 % 256:Nat):Int),.int .u8 ((s / 16777216 % 256:Nat):Int)] 5))
  |(refine z05 rfl (.tmp 14) (.tmp 26) _ rfl 5 i0 _ 1 1 Tryz.underlying47 hi0 hz0 hz1 hz2 rfl (by omega) rfl o3' _ _ 4 4 _ rfl hr3 (by intro u hu;simp at hu;rcases hu with rfl|rfl|rfl|rfl<;>rfl) (by simp only[maxLen];omega) (by omega) ?_;intro v4 w4 o4 m4))
 go_ret;rw[Yi.out];have:=pX.A_ o4 (m4.some_ (m3.some_ hb1));simpa using this
end Go.Proofs.YtdbfejfhpkakhaaGreat
