/- Contracts and plain laws that the last text rests on. Conditions: each theorem states its own. -/
import Derived.Test.YtfljcllpmbnjaaaGreatKdQ3
import Derived.StillTailTactics
import Derived.BigRegion
set_option maxRecDepth 100000
set_option maxHeartbeats 2000000
set_option linter.unusedVariables false
namespace Go.Proofs.YtfljcllpmbnjaaaGreat
open Go.RowKit
def NewR (w:World) (bs:List Nat) (e:Ending) (w':World):Prop:=
 ∃g h,e=.returned (.pointer (some ⟨g,0,none⟩))/\cZ w' g h bs 0/\w.heap.size<=g/\w.heap.size<=h/\g<w'.heap.size/\h<w'.heap.size/\Nx w w'
theorem ZG (D:Nat->Prop) (A:Option Addr) (n c:Nat) (xs:List Nat) (w:World) (h:Rd w D 1 A n (bl xs)) (hn:n<=140737488355328) (hok:okB xs):
 Calls Tryz.prog 69 #[.slice A n c] w (NewR w xs):=by
 obtain ⟨i0,hi0,hz0,hz1,hz2⟩:=info_parts Tryz.info5;have hlen:xs.length=n:=by have:=h.1;rw[z21]at this;omega
 have Hlen:=ah hlen;clear hlen;have h':Rd (w.alloc (.cells #[] 5)) D 1 A n (bl xs):=h.nx (by omega) ((Ch.refl _ w).alloc _);go_enter Tryz.func69,Tryz.ntmps69;go_wp2_with (at_builtin;refine z00 _ rfl (.tmp 3) (.tmp 4) _ rfl w.heap.size 5 i0 _ 1 1 Tryz.underlying27 hi0 hz0 hz1 hz2 rfl (by omega) (.slice (some ⟨w.heap.size,0,none⟩) 0 0) 0 [] rfl (World.ownsRow_made w #[] 0 (Nat.le_refl _) (by simp[maxLen]) rfl) D A n c (bl xs) rfl h' (iP xs) (by simp only[maxLen];omega) (by omega) (by simp) ?_;intro v' w1 hown hg hat;obtain ⟨k,cap,hv,hk,hk1,hrd,hnx,_⟩:=Zi hown hg hat;clear hown hg hat;rw[hv];clear hv)
 have hlen:=Hlen.out;subst hlen;go_ret;exact ⟨w1.heap.size,k,rfl,⟨_,cap,dD.new _ _ _,hrd.nx (by omega) ((Ch.refl _ w1).alloc _),by omega,by simp,hn,hok⟩,hnx.size,hk,by simp,by simp;omega,hnx.alloc _⟩
def ig (w:World) (g:Nat) (h:Option Nat) (l:List Bool):Prop:=
 ∃v,dD w g 69 #[v,.int .i64 (l.length:Int)]/\w.ownsRow 0 5 1 v (pack l).length (bl (pack l))/\v.ownBlock=h
theorem ig.ch {w w':World} {g:Nat} {h:Option Nat} {l:List Bool} {S:Nat->Prop} (r:ig w g h l) (hc:Ch S w w') (hg:¬S g) (hh:∀k,h=some k->¬S k):ig w' g h l:=by
 obtain ⟨v,b,o,x⟩:=r;exact ⟨v,b.ch hc hg,z06 o hc (fun k e=>hh k (x▸e)),x⟩
theorem ig.new (w:World):ig (w.alloc (.cells #[.slice none 0 0,.int .i64 0] 69)) w.heap.size none []:=
 ⟨.slice none 0 0,dD.new _ _ _,World.ownsRow_nil _ _ _ _,rfl⟩
def gI (w:World) (g:Nat) (h:Option Nat) (l':List Bool) (w':World):Prop:=
 ∃h',ig w' g h' l'/\(h'=h∨∃k,h'=some k/\w.heap.size<=k)/\Ch (fun k=>k=g∨h=some k) w w'
theorem Vy {W w w':World} {g:Nat} {h:Option Nat} (n:Nx W w) (c:Ch (fun k=>k=g∨h=some k) w w') (hg:W.heap.size<=g) (hh:∀k,h=some k->W.heap.size<=k):Nx W w':=
 n.trans c fun i hi hc=>by
  rcases hc with e|e
  ·omega
  ·have:=hh _ e;omega
theorem R_ {W w:World} {h h1:Option Nat} (hs:W.heap.size<=w.heap.size) (hh:∀k,h=some k->W.heap.size<=k) (q:h1=h∨∃k,h1=some k/\w.heap.size<=k):∀k,h1=some k->W.heap.size<=k:=by
 rcases q with rfl|⟨k,rfl,hk⟩
 ·exact hh
 ·intro j e
  injection e with e;omega
theorem yR (y x r:Nat) (hy:y<2 ^ r) (hx:x<4294967296) (hr:r<8):
 bits .or .u8 (y:Int) (bits .and .u32 (x:Int) 1 % 256 * 2 ^ r % 256)=((y+iZ (decide (x % 2=1)) * 2 ^ r:Nat):Int):=by
 rw[wS];have hp:(2:Nat) ^ r<=2 ^ 7:=Nat.pow_le_pow_right (by omega) (by omega)
 have h2:bits .and .u32 (x:Int) 1=((x % 2:Nat):Int):=by
  have:=u32_and_nat x 1 (by omega) (by omega);rw[Nat.and_one_is_mod]at this;exact this
 rw[h2];have hb2:x % 2<2:=Nat.mod_lt _ (by omega);generalize x % 2=b at *;have hbk:b * 2 ^ r<=1 * 2 ^ r:=Nat.mul_le_mul_right _ (by omega);have e1:((b:Nat):Int) % 256=(b:Int):=Int.emod_eq_of_lt (by omega) (by omega);have e2:((b * 2 ^ r:Nat):Int)=(b:Int) * 2 ^ r:=by simp
 rw[e1,←e2,Int.emod_eq_of_lt (by omega) (by omega)];rw[u8_or_nat y (b * 2 ^ r) (by omega) (by omega),or_bit y b r hy]
theorem JJ {w:World} {g k cap:Nat} {l:List Bool} {b:Bool} {bs:List Nat} (hb:dD w g 69 #[.slice (some ⟨k,0,none⟩) bs.length cap,.int .i64 (l.length:Int)])
 (ho:w.ownsRow 0 5 1 (.slice (some ⟨k,0,none⟩) bs.length cap) bs.length (bl bs)) (V:Nat) (hV:bs.set (l.length / 8) V=pack (l++[b])):
 ig ((w.setCell ⟨k,l.length / 8,none⟩ (.int .u8 (V:Int))).setCell ⟨g,1,none⟩ (.int .i64 ((l.length:Int)+1))) g (some k) (l++[b]):=by
 have hne:k≠g:=fun e=>EI ho hb (by decide) (by rw[e];rfl);have hb1:=(hb.far (p:=⟨k,l.length / 8,none⟩) (Ne.symm hne) (.int .u8 (V:Int))).dZ 1 (.int .i64 ((l.length:Int)+1));have ho1:=(ho.stored (l.length / 8) (.int .u8 (V:Int))).1;have e:(bl bs).set (l.length / 8) (.int .u8 (V:Int))=bl (pack (l++[b])):=by rw[←hV];simp[bl,List.map_set]
 have e':bs.length=(pack (l++[b])).length:=by rw[←hV];simp
 rw[e]at ho1;rw[e']at ho1 hb1;refine ⟨_,?_,z06 ho1 (S:=fun j=>j=g) (Ch.setCell (S:=fun j=>j=g) (Ch.refl _ _) (p:=⟨g,1,none⟩) (fun _=>rfl) _) ?_,rfl⟩
 ·simpa using hb1
 ·rintro j hj rfl
  simp[Value.ownBlock]at hj;exact hne hj
theorem RS (g:Nat) (h:Option Nat) (l:List Bool) (x:Nat) (w:World) (r:ig w g h l) (hl:l.length<=1000000000000) (hx:x<4294967296):
 Calls Tryz.prog 90 #[.pointer (some ⟨g,0,none⟩),.int .u32 (x:Int)] w fun e w'=>e=.returned (.tuple #[])/\gI w g h (l++[decide (x % 2=1)]) w':=by
 obtain ⟨i0,hi0,hz0,hz1,hz2⟩:=info_parts Tryz.info5;obtain ⟨v,b,o,hv⟩:=r;have d1:w.cell? ⟨g,1,none⟩=some (.int .i64 (l.length:Int)):=b.cell 1;have f0:=b.frozen 0;have f1:=b.frozen 1;by_cases h8:l.length % 8=0
 ·have h8':((l.length:Int) % 8==0)=true:=by rw[beq_iff_eq];omega
  obtain ⟨A,c,rfl,_,_⟩:=z05 o;have d0:w.cell? ⟨g,0,none⟩=some (.slice A (pack l).length c):=b.cell 0;have hpl:=tZ l;have hsn:=GX l (decide (x % 2=1));rw[if_pos h8]at hsn;have hsm:=z28 l;have hos:=yR (byteAt l (l.length / 8)) x (l.length % 8) hsm hx (by omega);have hz:byteAt l (l.length / 8)=0:=by rw[h8]at hsm;simpa using hsm
  rw[hz]at hos hsn;have Hos:=ah hos;have Oz:=ah hsn;clear hz hos hsn hsm;have o':=o.alloc (.cells #[.int .u8 0] 5);have b':=b.alloc (.cells #[.int .u8 0] 5);have VU:Nx w (w.alloc (.cells #[.int .u8 0] 5)):=(Ch.refl _ w).alloc _;generalize hpn:(pack l).length=pl at *;have Qu:=ah hpn;clear hpn;have Hpl:=ah hpl;have hpl2:pl<=125000000001:=by omega
  clear hpl o b;have Hb:=ah b';have Ho:=ah o';have Jq:=ah VU;clear b' o' VU;go_enter Tryz.func90,Tryz.ntmps90;go_wp2_with (at_builtin;refine z00 _ rfl (.tmp 14) (.tmp 15) _ rfl 0 5 i0 _ 1 1 Tryz.underlying27 hi0 hz0 hz1 hz2 rfl (by omega) (.slice A pl c) pl _ rfl Ho.out (fun _=>True) _ 1 1 [.int .u8 0] rfl ⟨rfl,fun _=>⟨⟨w.heap.size,0,none⟩,rfl,trivial,cell_one_new _ _ _⟩⟩ (by simp[Value.oneCell']) (by simp only[maxLen];omega) (by omega) (by simp) ?_;intro v' w1 hown hg hat;obtain ⟨k,cap,hv',_,hk⟩:=hown.form (by omega);rw[hv']at hown hat ⊢;clear hv';have f0:=(Hb.out.grown hg (fun e=>EI Ho.out Hb.out (by decide) e.symm)).frozen 0;have d0:=(Hb.out.grown hg (fun e=>EI Ho.out Hb.out (by decide) e.symm)).cell 0;simp at d0)
  have b1:=Hb.out.grown hg (fun e=>EI Ho.out Hb.out (by decide) e.symm);have b2:=b1.dZ 0 (.slice (some ⟨k,0,none⟩) (pl+1) cap);have hne:k≠g:=fun e=>EI hown b1 (by decide) (by rw[e];rfl);have hne':g≠k:=Ne.symm hne
  have hch:Ch (fun j=>j=g∨h=some j) w (w1.setCell ⟨g,0,none⟩ (.slice (some ⟨k,0,none⟩) (pl+1) cap)):=
   ((Jq.out.mono (fun _ _ hf=>hf.elim)).grown hg (fun j hj _=>.inr (by rw[←hv];exact hj))).setCell (p:=⟨g,0,none⟩) (fun _=>.inl rfl) _
  have o2:=z06 hown (S:=fun j=>j=g) (Ch.setCell (S:=fun j=>j=g) (Ch.refl _ w1) (p:=⟨g,0,none⟩) (fun _=>rfl) (.slice (some ⟨k,0,none⟩) (pl+1) cap)) (fun j hj e=>hne (by simp[Value.ownBlock]at hj;omega))
  have hk':some k=h∨∃j,some k=some j/\w.heap.size<=j:=by
   rw[←hv];rcases hat with e|e
   ·exact .inl e
   ·exact .inr ⟨_,e,by simp⟩
  clear hown hg hat b1 d0 d1 f0 f1 hv;generalize w1.setCell ⟨g,0,none⟩ (.slice (some ⟨k,0,none⟩) (pl+1) cap)=w2 at *;have d0:w2.cell? ⟨g,0,none⟩=some (.slice (some ⟨k,0,none⟩) (pl+1) cap):=b2.cell 0;have d1:w2.cell? ⟨g,1,none⟩=some (.int .i64 (l.length:Int)):=b2.cell 1;have f1:=b2.frozen 1;have hpl:=Hpl.out;have VN:l.length / 8=pl:=by omega
  have hpl4:l.length / 8<pl+1:=by omega
  have c1:w2.cell? ⟨k,l.length / 8,none⟩=some (.int .u8 (((0:Nat)):Int)):=by
   rw[o2.cellAt _ (by omega),VN,←Qu.out,List.getElem?_append_right (by rw[z21];exact Nat.le_refl _)];simp[z21]
  have f2:=o2.frozenAt (l.length / 8);have hbs:pl+1=(pack l++[0]).length:=by rw[←Qu.out];simp
  have e3:bl (pack l)++[.int .u8 0]=bl (pack l++[0]):=by simp[bl]
  rw[e3]at o2;have Hb2:=ah b2;have Ho2:=ah o2;have Rl:=ah hbs;clear b2 o2 hpl VN hbs e3;generalize hn:l.length=n at *;have Hn:=ah hn;clear hn;have q1:(0:Int)<=(n:Int) / 8:=by omega
  have q2:(n:Int) / 8<(pl:Int)+1:=by omega
  go_region
  go_wp2
  go_end0
  refine ⟨rfl,some k,?_,hk',?_⟩
  ·have:=JJ (l:=l) (b:=decide (x % 2=1)) (bs:=pack l++[0]) (cap:=cap) (w:=w2) (k:=k) (g:=g) (by rw[←Rl.out,Hn.out];exact Hb2.out) (by rw[←Rl.out];exact Ho2.out) _ (by rw[Hn.out];exact Oz.out.symm)
   rw[Hn.out]at this
   have ho:bits .or .u8 ((0:Nat):Int) (bits .and .u32 (x:Int) 1 % 256)=((0+iZ (decide (x % 2=1)) * 2 ^ (n % 8):Nat):Int):=by
    have:=Hos.out;rw[h8]at this ⊢;simpa using this
   rw[show (0:Int)=((0:Nat):Int) from rfl,ho];exact this
  ·exact ((hch.setCell (p:=⟨k,n / 8,none⟩) (fun hlt=>by rcases hk' with e|⟨j,e,hj⟩;exact .inr e.symm;injection e with e;subst e;exact absurd hlt (by simpa using hj)) _).setCell (p:=⟨g,1,none⟩) (fun _=>.inl rfl) _).drew
 ·have h8':((l.length:Int) % 8==0)=false:=by rw[beq_eq_false_iff_ne];omega
  have hpl:=tZ l;obtain ⟨k,cap,rfl,_,hk⟩:=o.form (by omega);have d0:w.cell? ⟨g,0,none⟩=some (.slice (some ⟨k,0,none⟩) (pack l).length cap):=b.cell 0
  have c1:w.cell? ⟨k,l.length / 8,none⟩=some (.int .u8 (byteAt l (l.length / 8):Int)):=by
   rw[o.cellAt _ (by omega),tV (by omega),su _ _ (by omega)]
  have hb1:=X_ l (l.length / 8);have f2:=o.frozenAt (l.length / 8);have hos:=yR (byteAt l (l.length / 8)) x (l.length % 8) (z28 l) hx (by omega);have hsn:=z3K l (decide (x % 2=1)) h8;have Hos:=ah hos;have Oz:=ah hsn;have Hb:=ah b;have Ho:=ah o;clear hos hsn;have hne:k≠g:=fun e=>EI o b (by decide) (by rw[e];rfl);have hne':g≠k:=Ne.symm hne;generalize hpn:(pack l).length=pl at *;have Qu:=ah hpn;clear hpn;generalize hy:byteAt l (l.length / 8)=y at *;have Hy:=ah hy;clear hy;generalize hn:l.length=n at *;have Hn:=ah hn;have Hpl:=ah hpl;clear hn;have hpl2:n / 8<pl:=by omega
  clear hpl;clear b o;go_enter Tryz.func90,Tryz.ntmps90;go_wp2
  have q1:(0:Int)<=(n:Int) / 8:=by omega
  have q2:(n:Int) / 8<(pl:Int):=by omega
  go_region
  go_wp2
  go_end0
  refine ⟨rfl,some k,?_,.inl ?_,?_⟩
  ·have:=JJ (l:=l) (b:=decide (x % 2=1)) (bs:=pack l) (cap:=cap) (w:=w) (k:=k) (g:=g) (by rw[Qu.out,Hn.out];exact Hb.out) (by rw[Qu.out];exact Ho.out) _ (by rw[Hn.out];exact Oz.out.symm)
   rw[Hn.out]at this;rw[Hos.out];exact this
  ·rw[←hv];rfl
  ·have hc:Ch (fun j=>j=g∨h=some j) w w:=Ch.refl _ _
   exact ((hc.setCell (p:=⟨k,n / 8,none⟩) (fun _=>.inr (by rw[←hv];rfl)) _).setCell (p:=⟨g,1,none⟩) (fun _=>.inl rfl) _).drew
theorem gI.start {w w1:World} {g:Nat} {h:Option Nat} {l:List Bool} (r:ig w g h l) (c:Nx w w1):gI w g h l w1:=
 ⟨h,r.ch c (fun hf=>hf) (fun _ _ hf=>hf),.inl rfl,c.mono fun _ _ hf=>hf.elim⟩
theorem gI.next {w w1 w2:World} {g:Nat} {h h1:Option Nat} {l2:List Bool} (q:h1=h∨∃k,h1=some k/\w.heap.size<=k) (c:Ch (fun k=>k=g∨h=some k) w w1) (t:gI w1 g h1 l2 w2):gI w g h l2 w2:=by
 obtain ⟨h2,r2,q2,c2⟩:=t;refine ⟨h2,r2,?_,c.trans c2 fun i hi ht=>?_⟩
 ·rcases q2 with rfl|⟨k,e,hk⟩
  ·exact q
  ·exact .inr ⟨k,e,Nat.le_trans c.size hk⟩
 ·rcases ht with e|e
  ·exact .inl e
  ·rcases q with rfl|⟨k,e',hk⟩
   ·exact .inr e
   ·rw[e']at e
    injection e with e;omega
theorem lT (g:Nat) (h:Option Nat) (l:List Bool) (X:Int) (w:World) (r:ig w g h l) (hl:l.length<=1000000000000) (h0:0<=X) (hX:X<4294967296):
 Calls Tryz.prog 90 #[.pointer (some ⟨g,0,none⟩),.int .u32 X] w fun e w'=>e=.returned (.tuple #[])/\gI w g h (l++[decide (X.toNat % 2=1)]) w':=by
 obtain ⟨x,rfl⟩:=Int.eq_ofNat_of_zero_le h0;exact RS g h l x w r hl (by omega)
theorem Kt (v k:Nat) (hv:v<4294967296):(0:Int)<=(v:Int) / 2 ^ k/\(v:Int) / 2 ^ k<4294967296/\((v:Int) / 2 ^ k).toNat=v / 2 ^ k:=by
 have h1:((v:Int) / 2 ^ k)=((v / 2 ^ k:Nat):Int):=by simp
 have hd:v / 2 ^ k<=v:=Nat.div_le_self _ _;rw[h1];generalize v / 2 ^ k=q at *;omega
theorem Rz (g:Nat) (h:Option Nat) (l:List Bool) (v n:Nat) (w:World) (r:ig w g h l) (hl:l.length<=999999999000) (hv:v<4294967296) (hn:n<=32):
 Calls Tryz.prog 46 #[.pointer (some ⟨g,0,none⟩),.int .u32 (v:Int),.int .i64 (n:Int)] w fun e w'=>e=.returned (.int .i64 0)/\gI w g h (l++numBits v n) w':=by
 have hd3:¬((32:Int)<(n:Int)):=by omega
 go_enter Tryz.func46,Tryz.ntmps46;go_wp2_with fail;go_loopw [19] (fun i wr=>∃k:Nat,k<=n/\i=.int .i64 k/\gI w g h (l++numBits v k) wr) (fun i _=>n-(intOf i).toNat)
 case atStart=>exact ⟨0,by omega,rfl,by simpa [numBits]using gI.start r (Ch.refl _ w)⟩
 case round=>
  obtain ⟨k,hk,rfl,hr⟩:=hrel;have hr':=hr;obtain ⟨h1,r1,q1,c1⟩:=hr;by_cases hlt:k<n
  ·obtain ⟨s0,s1,s2⟩:=Kt v k hv
   have S2:=ah s2;clear s2 r;go_wp2_with (go_at_call 90;refine (lT g h1 _ _ _ r1 (by simp[Jo];omega) s0 s1).mono ?_;rintro e w' ⟨rfl,ht⟩)
   rw[S2.out]at ht;go_roundw
   case rel=>exact ⟨k+1,by omega,by go_num,by rw[z4m,←List.append_assoc];exact gI.next q1 c1 ht⟩
   case measure=>simp[intOf];omega
  ·obtain rfl:k=n:=by omega
   go_wp2_with fail;go_ret;exact ⟨rfl,hr'⟩
theorem uh (g:Nat) (h:Option Nat) (l:List Bool) (v n:Nat) (w:World) (r:ig w g h l) (hl:l.length<=999999999000) (hv:v<4294967296) (hn:n<=16):
 Calls Tryz.prog 136 #[.pointer (some ⟨g,0,none⟩),.int .u32 (v:Int),.int .i64 (n:Int)] w fun e w'=>e=.returned (.int .i64 0)/\gI w g h (l++ak v n) w':=by
 have hd3:¬((16:Int)<(n:Int)):=by omega
 go_enter Tryz.func136,Tryz.ntmps136;go_wp2_with fail;go_loopw [19] (fun i wr=>∃k:Nat,k<=n/\i=.int .i64 k/\gI w g h (l++OI v n k) wr) (fun i _=>n-(intOf i).toNat)
 case atStart=>exact ⟨0,by omega,rfl,by simpa [OI]using gI.start r (Ch.refl _ w)⟩
 case round=>
  obtain ⟨k,hk,rfl,hr⟩:=hrel;have hr':=hr;obtain ⟨h1,r1,q1,c1⟩:=hr;by_cases hlt:k<n
  ·obtain ⟨s0,s1,s2⟩:=Kt v (n-1-k) hv
   have S2:=ah s2;clear s2 r;have t0:(0:Int)<=(n:Int)-1-(k:Int):=(by omega);have t1:(n:Int)-1-(k:Int)<64:=(by omega);go_wp2_with (go_at_call 90;refine (lT g h1 _ _ _ r1 (by simp[qV];omega) s0 s1).mono ?_;rintro e w' ⟨rfl,ht⟩)
   rw[S2.out]at ht;go_roundw
   case rel=>exact ⟨k+1,by omega,by go_num,by rw[z5o,←List.append_assoc];exact gI.next q1 c1 ht⟩
   case measure=>simp[intOf];omega
  ·obtain rfl:k=n:=by omega
   go_wp2_with fail;go_ret;exact ⟨rfl,hr'⟩
theorem XH (g:Nat) (h:Option Nat) (l:List Bool) (w:World) (r:ig w g h l) (hl:l.length<=1000000000000):
 Calls Tryz.prog 47 #[.pointer (some ⟨g,0,none⟩)] w (pJ w (pack l)):=by
 obtain ⟨i0,hi0,hz0,hz1,hz2⟩:=info_parts Tryz.info5;obtain ⟨v,b,o,hv⟩:=r;obtain ⟨A,c,rfl,_,_⟩:=z05 o;have hr:=Rd.bY o;have h':=hr.nx (by omega) ((Ch.refl _ w).alloc (.cells #[] 5));have d0:(w.alloc (.cells #[] 5)).cell? ⟨g,0,none⟩=some (.slice A (pack l).length c):=(b.alloc _).cell 0;have hpl:=tZ l;have hpl2:(pack l).length<=125000000001:=by omega
 clear hr o b hpl;generalize hpn:(pack l).length=pl at *;have Qu:=ah hpn;clear hpn;go_enter Tryz.func47,Tryz.ntmps47;go_wp2_with (at_builtin;refine z00 _ rfl (.tmp 5) (.tmp 9) _ rfl w.heap.size 5 i0 _ 1 1 Tryz.underlying27 hi0 hz0 hz1 hz2 rfl (by omega) (.slice (some ⟨w.heap.size,0,none⟩) 0 0) 0 [] rfl (World.ownsRow_made w #[] 0 (Nat.le_refl _) (by simp[maxLen]) rfl) _ A pl c _ rfl h' (iP _) (by simp only[maxLen];omega) (by omega) (by simp) ?_;intro v' w1 hown hg hat;obtain ⟨k,cap,hv,hk,hk1,hrd,hnx,ho⟩:=Zi hown hg hat;clear hown hg hat;rw[hv];clear hv)
 go_ret;exact ⟨k,cap,by simp[Qu.out],hk,hk1,by rw[Qu.out];exact ho,by rw[Qu.out];exact hrd,hnx⟩
end Go.Proofs.YtfljcllpmbnjaaaGreat
namespace Go.Proofs.YtfljcllpmbnjaaaGreat.R2
open Go.RowKit
theorem Tryz.LQ:(Tryz.prog.info? 4).map (fun i=>(i.zero,i.size,i.bytes))=some (some (.bool false),1,1):=by kernel_rfl
def iO (l:List Bool):List Value:=l.map Value.bool
theorem Qn (l:List Bool):∀u∈iO l,u.oneCell'=true:=by
 intro u hu;simp only[iO,List.mem_map]at hu;obtain ⟨x,_,rfl⟩:=hu;rfl
def dW (bs:List Nat) (n:Nat):List Bool:=(List.range n).map fun i=>decide (dO bs i=1)
theorem CB (bs:List Nat) (n:Nat):dW bs (n+1)=dW bs n++[decide (dO bs n=1)]:=by simp[dW,List.range_succ]
theorem eH (bs:List Nat) (n:Nat):(dW bs n).length=n:=by simp[dW]
def numOf:List Bool->Nat
 |[]=>0
 |b::l=>iZ b+2 * numOf l
theorem z4k (l m:List Bool):numOf (l++m)=numOf l+2 ^ l.length * numOf m:=by
 induction l with
 |nil=>simp[numOf]
 |cons b l ih=>
  simp only[List.cons_append,numOf,ih,List.length_cons,Nat.pow_succ,Nat.mul_add];rw[Nat.mul_comm (2 ^ l.length) 2,Nat.mul_assoc];omega
theorem Hw (bs:List Nat) (p m N:Nat) (h:p+m<=N):numOf (((dW bs N).drop p).take m)=aS bs p m:=by
 induction m with
 |zero=>simp[numOf,aS]
 |succ m ih=>
  have hl:p+m<(dW bs N).length:=by rw[eH];omega
  have e:((dW bs N).drop p).take (m+1)=((dW bs N).drop p).take m++[decide (dO bs (p+m)=1)]:=by
   rw[List.take_succ_eq_append_getElem (by simp[eH];omega)];simp[dW]
  rw[e,z4k,ih (by omega)];have hlen:(((dW bs N).drop p).take m).length=m:=by simp[eH];omega
  rw[hlen];simp only[aS,numOf];have:=Ua bs (p+m)
  have e2:iZ (decide (dO bs (p+m)=1))=dO bs (p+m):=by
   unfold iZ;by_cases h:dO bs (p+m)=1<;>simp[h]
   omega
  rw[e2];simp[Nat.mul_comm]
theorem z44 (D:Nat->Prop) (A:Option Addr) (n c:Nat) (l:List Bool) (W:World) (hr:Rd W D 1 A n (iO l)) (hl:l.length=n) (hn:n<=32):
 Calls Tryz.prog 91 #[.slice A n c] W fun e w'=>e=.returned (.int .u32 (numOf l:Int))/\W=w':=by
 have Hl:=ah hl;clear hl;go_enter Tryz.func91,Tryz.ntmps91;go_wp2_with fail;go_loop [3,4] (fun v i=>∃j z:Nat,j<=n/\z<2 ^ j/\i=.int .i64 ((n:Int)-1-j)/\v=.int .u32 (z:Int)/\Hid (z=numOf (l.drop (n-j)))) (fun _ i=>(intOf i+1).toNat)
 case atStart=>exact ⟨0,0,by omega,by simp,by simp,rfl,ah (by rw[List.drop_of_length_le (by rw[Hl.out];omega)];rfl)⟩
 case round=>
  obtain ⟨j,z,hj,hz,rfl,rfl,Hz⟩:=hrel;by_cases hjn:j<n
  ·have hp:(2:Nat) ^ j<=2 ^ 31:=Nat.pow_le_pow_right (by omega) (by omega)
   have hz2:z<2147483648:=(by omega);obtain ⟨ad,u,rfl,kN,hu,hc⟩:=hr.at_ (k:=n-1-j) (by omega);have hlt:n-1-j<l.length:=by rw[Hl.out];omega
   have hu2:u=.bool l[n-1-j]:=by
    simp[iO,List.getElem?_eq_getElem hlt]at hu;exact hu.symm
   subst hu2
   have hstep:numOf (l.drop (n-(j+1)))=iZ l[n-1-j]+2 * numOf (l.drop (n-j)):=by
    rw[show n-(j+1)=n-1-j by omega,List.drop_eq_getElem_cons hlt,show n-1-j+1=n-j by omega];rfl
   generalize l[n-1-j]=b at *;have Hs:=ah hstep;have hz3:iZ b+2 * z<2 ^ (j+1):=by have:=Ep b;rw[Nat.pow_succ];omega
   clear hstep hu hz hp;have hi0:(0:Int)<=(n:Int)-1-(j:Int):=(by omega);have ha:((n:Int)-1-(j:Int)).toNat=n-1-j:=(by omega);cases b
   ·go_wp2_with fail
    go_round
    case rel=>exact ⟨j+1,2 * z,by omega,by simpa [iZ]using hz3,by go_num,by go_num,ah (by rw[Hs.out,Hz.out];simp[iZ])⟩
    case measure=>simp[intOf];omega
   ·go_wp2_with fail
    go_round
    case rel=>exact ⟨j+1,1+2 * z,by omega,by simpa [iZ]using hz3,by go_num,by go_num,ah (by rw[Hs.out,Hz.out];simp[iZ])⟩
    case measure=>simp[intOf];omega
  ·obtain rfl:j=n:=by omega
   go_wp2_with fail;go_ret;exact ⟨by rw[Hz.out];simp,rfl⟩
def QE (code:Bool) (v n k:Nat):List Bool:=if code then OI v n k else numBits v k
theorem yO (code:Bool) (v n k:Nat):QE code v n (k+1)=QE code v n k++[decide (v / 2 ^ (if code then n-1-k else k) % 2=1)]:=by
 unfold QE;cases code
 ·exact z4m v k
 ·exact z5o v n k
theorem EY (D:Nat->Prop) (A:Option Addr) (N c:Nat) (l:List Bool) (v n:Nat) (code:Bool) (W:World) (hr:Rd W D 1 A N (iO l)) (hl:l.length=N) (hN:N<=1000000000) (hv:v<4294967296) (hn:n<=32):
 Calls Tryz.prog 116 #[.slice A N c,.int .u32 (v:Int),.int .i64 (n:Int),.bool code] W (fZ W 4 1 (N+n) (iO (l++QE code v n n))):=by
 obtain ⟨i0,hi0,hz0,hz1,hz2⟩:=info_parts Tryz.LQ;have hlit:=au.lit W W 4 (Ch.refl _ W) 1;have hr':Rd (W.alloc (.cells #[] 4)) D 1 A N (iO l):=hr.nx (by omega) ((Ch.refl _ W).alloc _);have Hl:=ah hl;clear hl hr;go_enter Tryz.func116,Tryz.ntmps116;go_wp2_with (at_builtin;refine z01 rfl (.tmp 14) (.tmp 15) _ rfl 4 i0 _ 1 1 Tryz.underlying24 hi0 hz0 hz1 hz2 rfl (by omega) (v:=.slice (some ⟨W.heap.size,0,none⟩) 0 0) rfl hlit D A N c (iO l) rfl hr' (Qn l) (by simp only[maxLen];omega) (by omega) ?_;intro v' w' ho hm;have hsm:=hm.some_ (by simp[Value.ownBlock]))
 simp only[Nat.zero_add,List.nil_append]at ho;clear hlit hr' hm;go_loopw [9,10] (fun u i wr=>∃k:Nat,k<=n/\i=.int .i64 k/\au W wr 4 1 u (N+k) (iO (l++QE code v n k))/\u.ownBlock≠none) (fun _ i _=>n-(intOf i).toNat)
 case atStart=>exact ⟨0,by omega,rfl,by cases code<;>simpa [QE,OI,numBits]using ho,hsm⟩
 case round=>
  obtain ⟨k,hk,rfl,ho1,hs1⟩:=hrel;clear ho hsm;obtain ⟨wo,rfl⟩:∃wo:World,wo=wr:=⟨_,rfl⟩;by_cases hlt:k<n
  ·have hsucc:=yO code v n k
   have Hs:=ah hsucc;clear hsucc;have k0:(0:Int)<=(n:Int)-1-(k:Int):=(by omega);obtain ⟨K,hK,HK⟩:∃K:Nat,K<=32/\Hid (K=if code=true then n-1-k else k):=⟨if code then n-1-k else k,by split<;>omega,rfl⟩;cases code
   ·have HK2:K=k:=HK.out
    subst HK2;go_wp2_with fail;go_loop [12,13] (fun x j=>∃m z:Nat,m<=K/\z<4294967296/\j=.int .i64 m/\x=.int .u32 (z:Int)/\Hid (z=v / 2 ^ m)) (fun _ j=>K-(intOf j).toNat)
    case atStart=>exact ⟨0,v,by omega,hv,rfl,rfl,ah (by simp)⟩
    case round=>
     obtain ⟨m,z,hm,hz,rfl,rfl,Hz⟩:=hrel;by_cases hmk:m<K
     ·go_wp2_with fail
      go_round
      case rel=>exact ⟨m+1,z / 2,by omega,by omega,by go_num,by go_num,ah (by rw[Hz.out,Nat.pow_succ,Nat.div_div_eq_div_mul])⟩
      case measure=>simp[intOf];omega
     ·obtain rfl:m=K:=by omega
      go_wp2_with (at_builtin;refine z02 rfl (.tmp 36) (.tmp 40) _ rfl 4 i0 _ 1 Tryz.underlying24 hi0 hz0 hz1 hz2 rfl _ rfl rfl ho1 rfl (by simp only[maxLen];omega) (by omega) ?_;intro v' w' ho3 hmv)
      go_roundw
      case rel=>
       refine ⟨m+1,by omega,by go_num,?_,hmv.some_ hs1⟩;have e:((z:Int) % 2==1)=decide (z % 2=1):=by rw[Bool.eq_iff_iff,beq_iff_eq,decide_eq_true_iff];omega
       rw[e]at ho3;have hs2:=Hs.out;simp only[Bool.false_eq_true,if_false]at hs2;rw[hs2,←Hz.out,←List.append_assoc];simpa [iO,Nat.add_assoc]using ho3
      case measure=>simp[intOf];omega
   ·have HK2:K=n-1-k:=HK.out
    have hKi:((n:Int)-1-(k:Int))=(K:Int):=(by omega);have HK3:=ah HK2;clear HK2 HK;go_wp2_with fail;go_loop [12,13] (fun x j=>∃m z:Nat,m<=K/\z<4294967296/\j=.int .i64 m/\x=.int .u32 (z:Int)/\Hid (z=v / 2 ^ m)) (fun _ j=>K-(intOf j).toNat)
    case atStart=>exact ⟨0,v,by omega,hv,rfl,rfl,ah (by simp)⟩
    case round=>
     obtain ⟨m,z,hm,hz,rfl,rfl,Hz⟩:=hrel;by_cases hmk:m<K
     ·go_wp2_with fail
      go_round
      case rel=>exact ⟨m+1,z / 2,by omega,by omega,by go_num,by go_num,ah (by rw[Hz.out,Nat.pow_succ,Nat.div_div_eq_div_mul])⟩
      case measure=>simp[intOf];omega
     ·obtain rfl:m=K:=by omega
      clear hKi;go_wp2_with (at_builtin;refine z02 rfl (.tmp 36) (.tmp 40) _ rfl 4 i0 _ 1 Tryz.underlying24 hi0 hz0 hz1 hz2 rfl _ rfl rfl ho1 rfl (by simp only[maxLen];omega) (by omega) ?_;intro v' w' ho3 hmv)
      go_roundw
      case rel=>
       refine ⟨k+1,by omega,by go_num,?_,hmv.some_ hs1⟩;have e:((z:Int) % 2==1)=decide (z % 2=1):=by rw[Bool.eq_iff_iff,beq_iff_eq,decide_eq_true_iff];omega
       rw[e]at ho3;have hs2:=Hs.out;simp only[if_true]at hs2;rw[hs2,←HK3.out,←Hz.out,←List.append_assoc];simpa [iO,Nat.add_assoc]using ho3
      case measure=>simp[intOf];omega
  ·obtain rfl:k=n:=by omega
   go_wp2_with fail;go_ret;exact fZ.jG ho1 hs1
theorem Dh (l:List Bool) (i k:Nat):numOf ((l.drop (8 * i)).take k)=pW l i k:=by
 induction k with
 |zero=>simp[numOf,pW]
 |succ k ih=>
  simp only[pW];by_cases h:8 * i+k<l.length
  ·have e:(l.drop (8 * i)).take (k+1)=(l.drop (8 * i)).take k++[l[8 * i+k]]:=by
    rw[List.take_succ_eq_append_getElem (by simp;omega)];simp
   have hlen:((l.drop (8 * i)).take k).length=k:=by simp;omega
   rw[e,z4k,ih,hlen];have e3:l.getD (8 * i+k) false=l[8 * i+k]:=(by simp[List.getD,h]);rw[e3];simp[numOf,Nat.mul_comm]
  ·rw[List.take_of_length_le (by simp;omega),←ih,List.take_of_length_le (by simp;omega),U_ l _ false (by omega)]
   simp[iZ]
theorem rW (D:Nat->Prop) (A:Option Addr) (n c:Nat) (l:List Bool) (W:World) (hr:Rd W D 1 A n (iO l)) (hl:l.length=n) (hn:n<=1000000000) (hnc:n<=c) (hc:c<=9223372036854775807):
 Calls Tryz.prog 50 #[.slice A n c] W (fZ W 5 1 (pack l).length (bl (pack l))):=by
 obtain ⟨i0,hi0,hz0,hz1,hz2⟩:=info_parts Tryz.info5;have hlit:=au.lit W W 5 (Ch.refl _ W) 1;have Hl:=ah hl;clear hl;go_enter Tryz.func50,Tryz.ntmps50;go_wp2_with fail;go_loopw [3,4] (fun u i wr=>∃k:Nat,k<=(n+7) / 8/\i=.int .i64 (8 * (k:Int))/\au W wr 5 1 u k (bl ((pack l).take k))/\u.ownBlock≠none) (fun _ i _=>(n+8)-(intOf i).toNat)
 case atStart=>exact ⟨0,by omega,by simp,by simpa [bl]using hlit,by simp[Value.ownBlock]⟩
 case round=>
  obtain ⟨k,hk,rfl,ho,hs⟩:=hrel;by_cases hlt:8 * k<n
  ·obtain ⟨m,hm,hm8,HM⟩:∃m:Nat,m<=8/\8 * k+m<=n/\Hid (m=min 8 (n-8 * k)):=⟨min 8 (n-8 * k),by omega,by omega,rfl⟩
   have hcut:=((hr.nx (by omega) ho.nx).cut (k:=8 * k) (cap:=c) (by omega) hnc).take (k:=m) (by omega);have WR:((iO l).drop (8 * k * 1)).take (m * 1)=iO ((l.drop (8 * k)).take m):=(by simp[iO,List.map_drop,List.map_take]);rw[WR]at hcut;simp only[Nat.mul_one]at hcut;rw[if_neg (by omega)]at hcut;clear WR
   have hnum:numOf ((l.drop (8 * k)).take m)=byteAt l k:=by
    rw[Dh,HM.out];unfold byteAt;by_cases h8:8<=n-8 * k
    ·rw[show min 8 (n-8 * k)=8 by omega]
    ·rw[show min 8 (n-8 * k)=n-8 * k by omega]
     exact (Yu (l:=l) (i:=k) 8 (by omega) (by rw[Hl.out];omega)).symm
   have aaC:=X_ l k
   have hsucc:bl ((pack l).take (k+1))=bl ((pack l).take k)++[.int .u8 (byteAt l k:Int)]:=by
    have hp:k<(pack l).length:=by rw[tZ,Hl.out];omega
    rw[List.take_succ_eq_append_getElem hp];simp[bl,pack]
   generalize byteAt l k=y at *;have kQ:=ah hnum;have gX:=ah hsucc;clear hnum hsucc;by_cases h8:8 * k+8<=n
   ·obtain rfl:m=8:=by have:=HM.out;omega
    go_wp2_with fail;with_reducible refine (z44 _ _ 8 _ _ _ hcut (by simp[Hl.out];omega) (by omega)).mono ?_
    rintro e w' ⟨rfl,rfl⟩;rw[kQ.out];go_wp2_with (at_builtin;refine z02 rfl (.tmp 12) (.tmp 23) _ rfl 5 i0 _ 1 Tryz.underlying27 hi0 hz0 hz1 hz2 rfl _ rfl rfl ho rfl (by simp only[maxLen];omega) (by omega) ?_;intro v' w' ho3 hmv)
    go_roundw
    case rel=>exact ⟨k+1,by omega,by go_num,by rw[gX.out];exact ho3,hmv.some_ hs⟩
    case measure=>simp[intOf];omega
   ·obtain rfl:m=n-8 * k:=by have:=HM.out;omega
    have hq:¬(8 * (k:Int)+8<=(n:Int)):=(by omega);go_wp2_with fail;with_reducible refine (z44 _ _ _ _ _ _ hcut (by simp[Hl.out]) (by omega)).mono ?_
    rintro e w' ⟨rfl,rfl⟩;rw[kQ.out];go_wp2_with (at_builtin;refine z02 rfl (.tmp 12) (.tmp 23) _ rfl 5 i0 _ 1 Tryz.underlying27 hi0 hz0 hz1 hz2 rfl _ rfl rfl ho rfl (by simp only[maxLen];omega) (by omega) ?_;intro v' w' ho3 hmv)
    go_roundw
    case rel=>exact ⟨k+1,by omega,by go_num,by rw[gX.out];exact ho3,hmv.some_ hs⟩
    case measure=>simp[intOf];omega
  ·obtain rfl:k=(n+7) / 8:=by omega
   go_wp2_with fail;go_ret;rw[List.take_of_length_le (by rw[tZ,Hl.out];omega)]at ho;rw[tZ,Hl.out];exact fZ.jG ho hs
theorem EX (D:Nat->Prop) (A:Option Addr) (n c:Nat) (bs:List Nat) (W:World) (hr:Rd W D 1 A n (bl bs)) (hD:∀k,D k->k<W.heap.size) (hb:bs.length=n) (hn:n<=1000000000) (ok:okB bs):
 Calls Tryz.prog 71 #[.slice A n c] W (fZ W 4 1 (8 * n) (iO (dW bs (8 * n)))):=by
 obtain ⟨i0,hi0,hz0,hz1,hz2⟩:=info_parts Tryz.LQ;have hlit:=au.lit W W 4 (Ch.refl _ W) 1;have Hb:=ah hb;clear hb;go_enter Tryz.func71,Tryz.ntmps71;go_wp2_with fail;go_loopw [3,10] (fun v i wr=>∃k:Nat,k<=n/\i=.int .i64 k/\au W wr 4 1 v (8 * k) (iO (dW bs (8 * k)))/\v.ownBlock≠none) (fun _ i _=>n-(intOf i).toNat)
 case atStart=>exact ⟨0,by omega,rfl,by simpa [dW,iO]using hlit,by simp[Value.ownBlock]⟩
 case round=>
  obtain ⟨wo,rfl⟩:∃wo:World,wo=wr:=⟨_,rfl⟩;obtain ⟨k,hk,rfl,ho,hsm⟩:=hrel;by_cases hlt:k<n
  ·obtain ⟨ad,u,rfl,kN,hu,hc⟩:=(hr.ch (by omega) ho.nx (fun _ _ _ hf=>hf)).at_ hlt
   rw[tV (by rw[Hb.out];exact hlt)]at hu;injection hu with hu;subst hu;have hx:=uf ok k;generalize hxx:bs.getD k 0=x at *;have Hx:=ah hxx;clear hxx hlit;go_wp2_with fail;go_loopw [3,5,6] (fun v y j wr=>∃m z:Nat,m<=8/\z<256/\j=.int .i64 m/\y=.int .u8 (z:Int)/\Hid (z=x / 2 ^ m)/\au W wr 4 1 v (8 * k+m) (iO (dW bs (8 * k+m)))/\v.ownBlock≠none) (fun _ _ j _=>8-(intOf j).toNat)
   case atStart=>exact ⟨0,x,by omega,hx,rfl,rfl,ah (by simp),ho,hsm⟩
   case round=>
    obtain ⟨m,z,hm,hz,rfl,rfl,Hz,ho2,VH⟩:=hrel;by_cases hm8:m<8
    ·go_wp2_with (at_builtin;refine z02 rfl (.tmp 18) (.tmp 22) _ rfl 4 i0 _ 1 Tryz.underlying24 hi0 hz0 hz1 hz2 rfl _ rfl rfl ho2 rfl (by simp only[maxLen];omega) (by omega) ?_;intro v' w' ho3 hmv)
     go_roundw
     case rel=>
      refine ⟨m+1,z / 2,by omega,by omega,by go_num,by go_num,ah (by rw[Hz.out,Nat.pow_succ,Nat.div_div_eq_div_mul]),?_,hmv.some_ VH⟩
      have hbit:dO bs (8 * k+m)=z % 2:=by
       unfold dO;rw[show (8 * k+m) / 8=k by omega,show (8 * k+m) % 8=m by omega,Hx.out,Hz.out]
      rw[←Nat.add_assoc,CB,hbit]
      have e:((z:Int) % 2==1)=decide (z % 2=1):=by
       rw[Bool.eq_iff_iff,beq_iff_eq,decide_eq_true_iff];omega
      rw[e]at ho3;simpa [iO]using ho3
     case measure=>simp[intOf];omega
    ·obtain rfl:m=8:=by omega
     go_wp2_with fail;go_roundw
     case rel=>exact ⟨k+1,by omega,by go_num,by rw[show 8 * (k+1)=8 * k+8 by omega];exact ho2,VH⟩
     case measure=>simp[intOf];omega
  ·obtain rfl:k=n:=by omega
   go_wp2_with fail;go_ret;exact fZ.jG ho hsm
def fE (w:World) (g h:Nat) (bs:List Nat) (N p:Nat):Prop:=
 ∃A c,dD w g 152 #[.slice A N c,.int .i64 (p:Int)]/\Rd w (· =h) 1 A N (iO (dW bs N))/\h≠g/\p<=N/\N<=1000000000000/\N<=c/\c<=9223372036854775807
theorem fE.ch {w w':World} {g h:Nat} {bs:List Nat} {N p:Nat} {S:Nat->Prop} (r:fE w g h bs N p) (hc:Ch S w w') (hg:¬S g) (hh:¬S h):fE w' g h bs N p:=by
 obtain ⟨A,c,b,rd,x⟩:=r;exact ⟨A,c,b.ch hc hg,rd.ch (by omega) hc (fun k _ e=>by rw[e];exact hh),x⟩
theorem fE.nx {w w':World} {g h:Nat} {bs:List Nat} {N p:Nat} (r:fE w g h bs N p) (hc:Nx w w'):fE w' g h bs N p:=r.ch hc (fun hf=>hf) (fun hf=>hf)
theorem fE.le {w:World} {g h:Nat} {bs:List Nat} {N p:Nat} (r:fE w g h bs N p):p<=N/\N<=1000000000000:=by
 obtain ⟨A,c,b,rd,x,y,z,_⟩:=r;exact ⟨y,z⟩
theorem fE.cells {w:World} {g h:Nat} {bs:List Nat} {N p:Nat} (r:fE w g h bs N p):∃A c,w.cell? ⟨g,0,none⟩=some (.slice A N c)/\w.cell? ⟨g,1,none⟩=some (.int .i64 (p:Int)):=by
 obtain ⟨A,c,b,_⟩:=r;exact ⟨A,c,b.cell 0,b.cell 1⟩
theorem fE.at_ {w:World} {g h:Nat} {bs:List Nat} {N p:Nat} (r:fE w g h bs N p):Jv w g 1=(p:Int):=by
 obtain ⟨A,c,b,_⟩:=r;exact oN b rfl
theorem fE.dZ {w:World} {g h:Nat} {bs:List Nat} {N p q:Nat} (r:fE w g h bs N p) (hq:q<=N) (n:Nat):fE ((w.drewN n).setCell ⟨g,1,none⟩ (.int .i64 (q:Int))) g h bs N q:=by
 obtain ⟨A,c,b,rd,x,y,z,u⟩:=r;refine ⟨A,c,?_,?_,x,hq,z,u⟩
 ·have:=(b.drewN n).dZ 1 (.int .i64 (q:Int))
  simpa using this
 ·exact rd.keep fun k e=>by
   rw[Below.heap_setCell _ _ _ _ (by rw[e];exact x)];rfl
theorem Oo (g h:Nat) (bs:List Nat) (N p:Nat) (m:Int) (w:World) (r:fE w g h bs N p) (h0:0<=m) (hm:m<=32) (hs:(N:Int)<p+m):
 Calls Tryz.prog 129 #[.pointer (some ⟨g,0,none⟩),.int .i64 m] w fun e w'=>e=.returned (.tuple #[.int .u32 0,.int .i64 3])/\Dr w w':=by
 have hle:=r.le;obtain ⟨A,c,c0,c1⟩:=r.cells;have h1:¬m<0:=by omega
 have h2:¬32<m:=by omega
 have h3:(N:Int)-(p:Int)<m:=by omega
 go_enter Tryz.func129,Tryz.ntmps129;go_wp2_with fail;go_quiet (fail)
 go_wp2_with fail;go_ret2;exact ⟨rfl,_,rfl⟩
theorem Ol (g h:Nat) (bs:List Nat) (N p:Nat) (m:Nat) (w:World) (r:fE w g h bs N p) (hm:m<=32) (hs:p+m<=N):
 Calls Tryz.prog 129 #[.pointer (some ⟨g,0,none⟩),.int .i64 (m:Int)] w fun e w'=>e=.returned (.tuple #[.int .u32 (aS bs p m:Int),.int .i64 0])/\
  fE w' g h bs N (p+m)/\Ch (· =g) w w':=by
 have r':=r;obtain ⟨A,c,b,rd,x,hp,hN,hNc,hc⟩:=r;have c0:w.cell? ⟨g,0,none⟩=some (.slice A N c):=b.cell 0;have c1:w.cell? ⟨g,1,none⟩=some (.int .i64 (p:Int)):=b.cell 1;have f1:=b.frozen 1;have h2:¬32<(m:Int):=by omega
 have h3:¬((N:Int)-(p:Int)<m):=by omega
 have hcut:=(rd.cut (k:=p) (cap:=c) hp hNc).take (k:=m) (by omega);have hnum:=Hw bs p m N hs;have kQ:=ah hnum;have Hb:=ah b;clear hnum b rd;have hpm:(p:Int)+(m:Int)<=(N:Int):=by omega
 have hpm2:(p:Int)+(m:Int)<=(c:Int):=by omega
 have WR:((iO (dW bs N)).drop (p * 1)).take (m * 1)=iO (((dW bs N).drop p).take m):=by simp[iO,List.map_drop,List.map_take]
 rw[WR]at hcut;simp only[Nat.mul_one]at hcut;clear WR;go_enter Tryz.func129,Tryz.ntmps129;go_wp2_with fail;go_quiet (fail)
 go_wp2_with fail;go_quiet ((go_at_call 91;exact z3f (z44 _ _ m _ _ _ (hcut.drewN _) (by simp[eH];omega) hm)))
 go_wp2_with fail
 all_goals
  go_ret2;refine ⟨by simp[kQ.out],r'.dZ (q:=p+m) (by omega) _,Ch.setCell (S:=(· =g)) ((Ch.refl _ _).drewN _) (p:=⟨g,1,none⟩) (fun _=>rfl) _⟩
theorem z43 (g h:Nat) (bs:List Nat) (N p:Nat) (w:World) (r:fE w g h bs N p) (hN8:N % 8=0):
 Calls Tryz.prog 133 #[.pointer (some ⟨g,0,none⟩)] w fun e w'=>e=.returned (.tuple #[])/\
  fE w' g h bs N ((p+7) / 8 * 8)/\Ch (· =g) w w':=by
 have hle:=r.le;go_enter Tryz.func133,Tryz.ntmps133;go_wp2_with fail;go_loopw [7] (fun _ wr=>∃q:Nat,p<=q/\q<=(p+7) / 8 * 8/\fE wr g h bs N q/\Ch (· =g) w wr) (fun _ wr=>(((p+7) / 8 * 8:Nat)-Jv wr g 1).toNat)
 case atStart=>exact ⟨p,by omega,by omega,r,Ch.refl _ _⟩
 case round=>
  obtain ⟨q,hq1,hq2,hr,hc⟩:=hrel;have hr':=hr;obtain ⟨A,c,b,rd,x,hp,hN,hNc,hcm⟩:=hr;have c1:wr.cell? ⟨g,1,none⟩=some (.int .i64 (q:Int)):=b.cell 1;have f1:=b.frozen 1;clear b rd r;by_cases h8:q % 8=0
  ·have h8':((q:Int) % 8==0)=true:=by rw[beq_iff_eq];omega
   have h8n:((q:Int) % 8 !=0)=false:=by rw[bne_eq_false_iff_eq];omega
   go_wp2_with fail;go_end0
   obtain rfl:q=(p+7) / 8 * 8:=(by omega);exact ⟨rfl,hr',hc⟩
  ·have h8':((q:Int) % 8==0)=false:=by rw[beq_eq_false_iff_ne];omega
   have h8n:((q:Int) % 8 !=0)=true:=by rw[bne_iff_ne];omega
   go_wp2_with fail;have hr2:=hr'.dZ (q:=q+1) (by omega) 0;have e1:=hr'.at_;have e2:=hr2.at_;refine ⟨⟨q+1,by omega,by omega,hr2,hc.setCell (p:=⟨g,1,none⟩) (fun _=>rfl) _⟩,?_⟩;have e3:Jv (wr.setCell ⟨g,1,none⟩ (.int .i64 ((q:Int)+1))) g 1=((q+1:Nat):Int):=e2;rw[e1,e3];omega
end Go.Proofs.YtfljcllpmbnjaaaGreat.R2
