/- Contracts and plain laws that the last text rests on. Conditions: each theorem states its own. -/
import Derived.Test.YtpakjclpjcngmaaGreatKbQ3
import Derived.StillTailTactics
import Derived.BigRegion
set_option maxRecDepth 100000
set_option maxHeartbeats 2000000
set_option linter.unusedVariables false
namespace Go.Proofs.YtpakjclpjcngmaaGreat
open Go.RowKit
def NewR (w:World) (bs:List Nat) (e:Ending) (w':World):Prop:=
 ∃g h,e=.returned (.pointer (some ⟨g,0,none⟩))/\h_ w' g h bs 0/\w.heap.size<=g/\w.heap.size<=h/\g<w'.heap.size/\h<w'.heap.size/\Nx w w'
theorem rH (D:Nat->Prop) (A:Option Addr) (n c:Nat) (xs:List Nat) (w:World) (h:Rd w D 1 A n (bl xs)) (hn:n<=140737488355328) (hok:okB xs):
 Calls Tryz.prog 141 #[.slice A n c] w (NewR w xs):=by
 obtain ⟨i0,hi0,hz0,hz1,hz2⟩:=info_parts Tryz.info5;have hlen:xs.length=n:=by have:=h.1;rw[Rn]at this;omega
 have Hlen:=ah hlen;clear hlen;have h':Rd (w.alloc (.cells #[] 5)) D 1 A n (bl xs):=h.nx (by omega) ((Ch.refl _ w).alloc _);go_enter Tryz.func141,Tryz.ntmps141;go_wp2_with (at_builtin;refine z07 _ rfl (.tmp 3) (.tmp 4) _ rfl w.heap.size 5 i0 _ 1 1 Tryz.underlying26 hi0 hz0 hz1 hz2 rfl (by omega) (.slice (some ⟨w.heap.size,0,none⟩) 0 0) 0 [] rfl (World.ownsRow_made w #[] 0 (Nat.le_refl _) (by simp[maxLen]) rfl) D A n c (bl xs) rfl h' (iL xs) (by simp only[maxLen];omega) (by omega) (by simp) ?_;intro v' w1 hown hg hat;obtain ⟨k,cap,hv,hk,hk1,hrd,hnx,_⟩:=z2n hown hg hat;clear hown hg hat;rw[hv];clear hv)
 have hlen:=Hlen.out;subst hlen;go_ret;exact ⟨w1.heap.size,k,rfl,⟨_,cap,aG.new _ _ _,hrd.nx (by omega) ((Ch.refl _ w1).alloc _),by omega,by simp,hn,hok⟩,hnx.size,hk,by simp,by simp;omega,hnx.alloc _⟩
def iU (w:World) (g:Nat) (h:Option Nat) (l:List Bool):Prop:=
 ∃v,aG w g 215 #[v,.int .i64 (l.length:Int)]/\w.ownsRow 0 5 1 v (pack l).length (bl (pack l))/\v.ownBlock=h
theorem iU.ch {w w':World} {g:Nat} {h:Option Nat} {l:List Bool} {S:Nat->Prop} (r:iU w g h l) (hc:Ch S w w') (hg:¬S g) (hh:∀k,h=some k->¬S k):iU w' g h l:=by
 obtain ⟨v,b,o,x⟩:=r;exact ⟨v,b.ch hc hg,iq o hc (fun k e=>hh k (x▸e)),x⟩
theorem iU.new (w:World):iU (w.alloc (.cells #[.slice none 0 0,.int .i64 0] 215)) w.heap.size none []:=
 ⟨.slice none 0 0,aG.new _ _ _,World.ownsRow_nil _ _ _ _,rfl⟩
def ig (w:World) (g:Nat) (h:Option Nat) (l':List Bool) (w':World):Prop:=
 ∃h',iU w' g h' l'/\(h'=h∨∃k,h'=some k/\w.heap.size<=k)/\Ch (fun k=>k=g∨h=some k) w w'
theorem aah {W w w':World} {g:Nat} {h:Option Nat} (n:Nx W w) (c:Ch (fun k=>k=g∨h=some k) w w') (hg:W.heap.size<=g) (hh:∀k,h=some k->W.heap.size<=k):Nx W w':=
 n.trans c fun i hi hc=>by
  rcases hc with e|e
  ·omega
  ·have:=hh _ e;omega
theorem WS {W w:World} {h h1:Option Nat} (hs:W.heap.size<=w.heap.size) (hh:∀k,h=some k->W.heap.size<=k) (q:h1=h∨∃k,h1=some k/\w.heap.size<=k):∀k,h1=some k->W.heap.size<=k:=by
 rcases q with rfl|⟨k,rfl,hk⟩
 ·exact hh
 ·intro j e
  injection e with e;omega
theorem zq (y x r:Nat) (hy:y<2 ^ r) (hx:x<4294967296) (hr:r<8):
 bits .or .u8 (y:Int) (bits .and .u32 (x:Int) 1 % 256 * 2 ^ r % 256)=((y+kJ (decide (x % 2=1)) * 2 ^ r:Nat):Int):=by
 rw[Ux];have hp:(2:Nat) ^ r<=2 ^ 7:=Nat.pow_le_pow_right (by omega) (by omega)
 have h2:bits .and .u32 (x:Int) 1=((x % 2:Nat):Int):=by
  have:=u32_and_nat x 1 (by omega) (by omega);rw[Nat.and_one_is_mod]at this;exact this
 rw[h2];have hb2:x % 2<2:=Nat.mod_lt _ (by omega);generalize x % 2=b at *;have hbk:b * 2 ^ r<=1 * 2 ^ r:=Nat.mul_le_mul_right _ (by omega);have e1:((b:Nat):Int) % 256=(b:Int):=Int.emod_eq_of_lt (by omega) (by omega);have e2:((b * 2 ^ r:Nat):Int)=(b:Int) * 2 ^ r:=by simp
 rw[e1,←e2,Int.emod_eq_of_lt (by omega) (by omega)];rw[u8_or_nat y (b * 2 ^ r) (by omega) (by omega),or_bit y b r hy]
theorem LD {w:World} {g k cap:Nat} {l:List Bool} {b:Bool} {bs:List Nat} (hb:aG w g 215 #[.slice (some ⟨k,0,none⟩) bs.length cap,.int .i64 (l.length:Int)])
 (ho:w.ownsRow 0 5 1 (.slice (some ⟨k,0,none⟩) bs.length cap) bs.length (bl bs)) (V:Nat) (hV:bs.set (l.length / 8) V=pack (l++[b])):
 iU ((w.setCell ⟨k,l.length / 8,none⟩ (.int .u8 (V:Int))).setCell ⟨g,1,none⟩ (.int .i64 ((l.length:Int)+1))) g (some k) (l++[b]):=by
 have hne:k≠g:=fun e=>z03 ho hb (by decide) (by rw[e];rfl);have hb1:=(hb.far (p:=⟨k,l.length / 8,none⟩) (Ne.symm hne) (.int .u8 (V:Int))).dK 1 (.int .i64 ((l.length:Int)+1));have ho1:=(ho.stored (l.length / 8) (.int .u8 (V:Int))).1;have e:(bl bs).set (l.length / 8) (.int .u8 (V:Int))=bl (pack (l++[b])):=by rw[←hV];simp[bl,List.map_set]
 have e':bs.length=(pack (l++[b])).length:=by rw[←hV];simp
 rw[e]at ho1;rw[e']at ho1 hb1;refine ⟨_,?_,iq ho1 (S:=fun j=>j=g) (Ch.setCell (S:=fun j=>j=g) (Ch.refl _ _) (p:=⟨g,1,none⟩) (fun _=>rfl) _) ?_,rfl⟩
 ·simpa using hb1
 ·rintro j hj rfl
  simp[Value.ownBlock]at hj;exact hne hj
theorem Wh (g:Nat) (h:Option Nat) (l:List Bool) (x:Nat) (w:World) (r:iU w g h l) (hl:l.length<=1000000000000) (hx:x<4294967296):
 Calls Tryz.prog 219 #[.pointer (some ⟨g,0,none⟩),.int .u32 (x:Int)] w fun e w'=>e=.returned (.tuple #[])/\ig w g h (l++[decide (x % 2=1)]) w':=by
 obtain ⟨i0,hi0,hz0,hz1,hz2⟩:=info_parts Tryz.info5;obtain ⟨v,b,o,hv⟩:=r;have d1:w.cell? ⟨g,1,none⟩=some (.int .i64 (l.length:Int)):=b.cell 1;have f0:=b.frozen 0;have f1:=b.frozen 1;by_cases h8:l.length % 8=0
 ·have h8':((l.length:Int) % 8==0)=true:=by rw[beq_iff_eq];omega
  obtain ⟨A,c,rfl,_,_⟩:=z08 o;have d0:w.cell? ⟨g,0,none⟩=some (.slice A (pack l).length c):=b.cell 0;have hpl:=Iy l;have hsn:=Jv l (decide (x % 2=1));rw[if_pos h8]at hsn;have hsm:=z1R l;have hos:=zq (byteAt l (l.length / 8)) x (l.length % 8) hsm hx (by omega);have hz:byteAt l (l.length / 8)=0:=by rw[h8]at hsm;simpa using hsm
  rw[hz]at hos hsn;have Hos:=ah hos;have Hsn:=ah hsn;clear hz hos hsn hsm;have o':=o.alloc (.cells #[.int .u8 0] 5);have b':=b.alloc (.cells #[.int .u8 0] 5);have JO:Nx w (w.alloc (.cells #[.int .u8 0] 5)):=(Ch.refl _ w).alloc _;generalize hpn:(pack l).length=pl at *;have UE:=ah hpn;clear hpn;have Hpl:=ah hpl;have hpl2:pl<=125000000001:=by omega
  clear hpl o b;have Hb:=ah b';have Ho:=ah o';have Ya:=ah JO;clear b' o' JO;go_enter Tryz.func219,Tryz.ntmps219;go_wp2_with (at_builtin;refine z07 _ rfl (.tmp 14) (.tmp 15) _ rfl 0 5 i0 _ 1 1 Tryz.underlying26 hi0 hz0 hz1 hz2 rfl (by omega) (.slice A pl c) pl _ rfl Ho.out (fun _=>True) _ 1 1 [.int .u8 0] rfl ⟨rfl,fun _=>⟨⟨w.heap.size,0,none⟩,rfl,trivial,cell_one_new _ _ _⟩⟩ (by simp[Value.oneCell']) (by simp only[maxLen];omega) (by omega) (by simp) ?_;intro v' w1 hown hg hat;obtain ⟨k,cap,hv',_,hk⟩:=hown.form (by omega);rw[hv']at hown hat ⊢;clear hv';have f0:=(Hb.out.grown hg (fun e=>z03 Ho.out Hb.out (by decide) e.symm)).frozen 0;have d0:=(Hb.out.grown hg (fun e=>z03 Ho.out Hb.out (by decide) e.symm)).cell 0;simp at d0)
  have b1:=Hb.out.grown hg (fun e=>z03 Ho.out Hb.out (by decide) e.symm);have b2:=b1.dK 0 (.slice (some ⟨k,0,none⟩) (pl+1) cap);have hne:k≠g:=fun e=>z03 hown b1 (by decide) (by rw[e];rfl);have hne':g≠k:=Ne.symm hne
  have hch:Ch (fun j=>j=g∨h=some j) w (w1.setCell ⟨g,0,none⟩ (.slice (some ⟨k,0,none⟩) (pl+1) cap)):=
   ((Ya.out.mono (fun _ _ hf=>hf.elim)).grown hg (fun j hj _=>.inr (by rw[←hv];exact hj))).setCell (p:=⟨g,0,none⟩) (fun _=>.inl rfl) _
  have o2:=iq hown (S:=fun j=>j=g) (Ch.setCell (S:=fun j=>j=g) (Ch.refl _ w1) (p:=⟨g,0,none⟩) (fun _=>rfl) (.slice (some ⟨k,0,none⟩) (pl+1) cap)) (fun j hj e=>hne (by simp[Value.ownBlock]at hj;omega))
  have hk':some k=h∨∃j,some k=some j/\w.heap.size<=j:=by
   rw[←hv];rcases hat with e|e
   ·exact .inl e
   ·exact .inr ⟨_,e,by simp⟩
  clear hown hg hat b1 d0 d1 f0 f1 hv;generalize w1.setCell ⟨g,0,none⟩ (.slice (some ⟨k,0,none⟩) (pl+1) cap)=w2 at *;have d0:w2.cell? ⟨g,0,none⟩=some (.slice (some ⟨k,0,none⟩) (pl+1) cap):=b2.cell 0;have d1:w2.cell? ⟨g,1,none⟩=some (.int .i64 (l.length:Int)):=b2.cell 1;have f1:=b2.frozen 1;have hpl:=Hpl.out;have aau:l.length / 8=pl:=by omega
  have hpl4:l.length / 8<pl+1:=by omega
  have c1:w2.cell? ⟨k,l.length / 8,none⟩=some (.int .u8 (((0:Nat)):Int)):=by
   rw[o2.cellAt _ (by omega),aau,←UE.out,List.getElem?_append_right (by rw[Rn];exact Nat.le_refl _)];simp[Rn]
  have f2:=o2.frozenAt (l.length / 8);have hbs:pl+1=(pack l++[0]).length:=by rw[←UE.out];simp
  have e3:bl (pack l)++[.int .u8 0]=bl (pack l++[0]):=by simp[bl]
  rw[e3]at o2;have Hb2:=ah b2;have Ho2:=ah o2;have VE:=ah hbs;clear b2 o2 hpl aau hbs e3;generalize hn:l.length=n at *;have Hn:=ah hn;clear hn;have q1:(0:Int)<=(n:Int) / 8:=by omega
  have q2:(n:Int) / 8<(pl:Int)+1:=by omega
  go_region
  go_wp2
  go_end0
  refine ⟨rfl,some k,?_,hk',?_⟩
  ·have:=LD (l:=l) (b:=decide (x % 2=1)) (bs:=pack l++[0]) (cap:=cap) (w:=w2) (k:=k) (g:=g) (by rw[←VE.out,Hn.out];exact Hb2.out) (by rw[←VE.out];exact Ho2.out) _ (by rw[Hn.out];exact Hsn.out.symm)
   rw[Hn.out]at this
   have ho:bits .or .u8 ((0:Nat):Int) (bits .and .u32 (x:Int) 1 % 256)=((0+kJ (decide (x % 2=1)) * 2 ^ (n % 8):Nat):Int):=by
    have:=Hos.out;rw[h8]at this ⊢;simpa using this
   rw[show (0:Int)=((0:Nat):Int) from rfl,ho];exact this
  ·exact ((hch.setCell (p:=⟨k,n / 8,none⟩) (fun hlt=>by rcases hk' with e|⟨j,e,hj⟩;exact .inr e.symm;injection e with e;subst e;exact absurd hlt (by simpa using hj)) _).setCell (p:=⟨g,1,none⟩) (fun _=>.inl rfl) _).drew
 ·have h8':((l.length:Int) % 8==0)=false:=by rw[beq_eq_false_iff_ne];omega
  have hpl:=Iy l;obtain ⟨k,cap,rfl,_,hk⟩:=o.form (by omega);have d0:w.cell? ⟨g,0,none⟩=some (.slice (some ⟨k,0,none⟩) (pack l).length cap):=b.cell 0
  have c1:w.cell? ⟨k,l.length / 8,none⟩=some (.int .u8 (byteAt l (l.length / 8):Int)):=by
   rw[o.cellAt _ (by omega),K_ (by omega),uj _ _ (by omega)]
  have hb1:=z5e l (l.length / 8);have f2:=o.frozenAt (l.length / 8);have hos:=zq (byteAt l (l.length / 8)) x (l.length % 8) (z1R l) hx (by omega);have hsn:=z3d l (decide (x % 2=1)) h8;have Hos:=ah hos;have Hsn:=ah hsn;have Hb:=ah b;have Ho:=ah o;clear hos hsn;have hne:k≠g:=fun e=>z03 o b (by decide) (by rw[e];rfl);have hne':g≠k:=Ne.symm hne;generalize hpn:(pack l).length=pl at *;have UE:=ah hpn;clear hpn;generalize hy:byteAt l (l.length / 8)=y at *;have Hy:=ah hy;clear hy;generalize hn:l.length=n at *;have Hn:=ah hn;have Hpl:=ah hpl;clear hn;have hpl2:n / 8<pl:=by omega
  clear hpl;clear b o;go_enter Tryz.func219,Tryz.ntmps219;go_wp2
  have q1:(0:Int)<=(n:Int) / 8:=by omega
  have q2:(n:Int) / 8<(pl:Int):=by omega
  go_region
  go_wp2
  go_end0
  refine ⟨rfl,some k,?_,.inl ?_,?_⟩
  ·have:=LD (l:=l) (b:=decide (x % 2=1)) (bs:=pack l) (cap:=cap) (w:=w) (k:=k) (g:=g) (by rw[UE.out,Hn.out];exact Hb.out) (by rw[UE.out];exact Ho.out) _ (by rw[Hn.out];exact Hsn.out.symm)
   rw[Hn.out]at this;rw[Hos.out];exact this
  ·rw[←hv];rfl
  ·have hc:Ch (fun j=>j=g∨h=some j) w w:=Ch.refl _ _
   exact ((hc.setCell (p:=⟨k,n / 8,none⟩) (fun _=>.inr (by rw[←hv];rfl)) _).setCell (p:=⟨g,1,none⟩) (fun _=>.inl rfl) _).drew
theorem ig.start {w w1:World} {g:Nat} {h:Option Nat} {l:List Bool} (r:iU w g h l) (c:Nx w w1):ig w g h l w1:=
 ⟨h,r.ch c (fun hf=>hf) (fun _ _ hf=>hf),.inl rfl,c.mono fun _ _ hf=>hf.elim⟩
theorem ig.next {w w1 w2:World} {g:Nat} {h h1:Option Nat} {l2:List Bool} (q:h1=h∨∃k,h1=some k/\w.heap.size<=k) (c:Ch (fun k=>k=g∨h=some k) w w1) (t:ig w1 g h1 l2 w2):ig w g h l2 w2:=by
 obtain ⟨h2,r2,q2,c2⟩:=t;refine ⟨h2,r2,?_,c.trans c2 fun i hi ht=>?_⟩
 ·rcases q2 with rfl|⟨k,e,hk⟩
  ·exact q
  ·exact .inr ⟨k,e,Nat.le_trans c.size hk⟩
 ·rcases ht with e|e
  ·exact .inl e
  ·rcases q with rfl|⟨k,e',hk⟩
   ·exact .inr e
   ·rw[e']at e
    injection e with e;omega
theorem nG (g:Nat) (h:Option Nat) (l:List Bool) (X:Int) (w:World) (r:iU w g h l) (hl:l.length<=1000000000000) (h0:0<=X) (hX:X<4294967296):
 Calls Tryz.prog 219 #[.pointer (some ⟨g,0,none⟩),.int .u32 X] w fun e w'=>e=.returned (.tuple #[])/\ig w g h (l++[decide (X.toNat % 2=1)]) w':=by
 obtain ⟨x,rfl⟩:=Int.eq_ofNat_of_zero_le h0;exact Wh g h l x w r hl (by omega)
theorem MB (v k:Nat) (hv:v<4294967296):(0:Int)<=(v:Int) / 2 ^ k/\(v:Int) / 2 ^ k<4294967296/\((v:Int) / 2 ^ k).toNat=v / 2 ^ k:=by
 have h1:((v:Int) / 2 ^ k)=((v / 2 ^ k:Nat):Int):=by simp
 have hd:v / 2 ^ k<=v:=Nat.div_le_self _ _;rw[h1];generalize v / 2 ^ k=q at *;omega
theorem VR (g:Nat) (h:Option Nat) (l:List Bool) (v n:Nat) (w:World) (r:iU w g h l) (hl:l.length<=999999999000) (hv:v<4294967296) (hn:n<=32):
 Calls Tryz.prog 169 #[.pointer (some ⟨g,0,none⟩),.int .u32 (v:Int),.int .i64 (n:Int)] w fun e w'=>e=.returned (.int .i64 0)/\ig w g h (l++numBits v n) w':=by
 have hd3:¬((32:Int)<(n:Int)):=by omega
 go_enter Tryz.func169,Tryz.ntmps169;go_wp2_with fail;go_loopw [19] (fun i wr=>∃k:Nat,k<=n/\i=.int .i64 k/\ig w g h (l++numBits v k) wr) (fun i _=>n-(intOf i).toNat)
 case atStart=>exact ⟨0,by omega,rfl,by simpa [numBits]using ig.start r (Ch.refl _ w)⟩
 case round=>
  obtain ⟨k,hk,rfl,hr⟩:=hrel;have hr':=hr;obtain ⟨h1,r1,q1,c1⟩:=hr;by_cases hlt:k<n
  ·obtain ⟨s0,s1,s2⟩:=MB v k hv
   have S2:=ah s2;clear s2 r;go_wp2_with (go_at_call 219;refine (nG g h1 _ _ _ r1 (by simp[YU];omega) s0 s1).mono ?_;rintro e w' ⟨rfl,ht⟩)
   rw[S2.out]at ht;go_roundw
   case rel=>exact ⟨k+1,by omega,by go_num,by rw[z3S,←List.append_assoc];exact ig.next q1 c1 ht⟩
   case measure=>simp[intOf];omega
  ·obtain rfl:k=n:=by omega
   go_wp2_with fail;go_ret;exact ⟨rfl,hr'⟩
theorem vM (g:Nat) (h:Option Nat) (l:List Bool) (v n:Nat) (w:World) (r:iU w g h l) (hl:l.length<=999999999000) (hv:v<4294967296) (hn:n<=16):
 Calls Tryz.prog 296 #[.pointer (some ⟨g,0,none⟩),.int .u32 (v:Int),.int .i64 (n:Int)] w fun e w'=>e=.returned (.int .i64 0)/\ig w g h (l++aC v n) w':=by
 have hd3:¬((16:Int)<(n:Int)):=by omega
 go_enter Tryz.func296,Tryz.ntmps296;go_wp2_with fail;go_loopw [19] (fun i wr=>∃k:Nat,k<=n/\i=.int .i64 k/\ig w g h (l++Rf v n k) wr) (fun i _=>n-(intOf i).toNat)
 case atStart=>exact ⟨0,by omega,rfl,by simpa [Rf]using ig.start r (Ch.refl _ w)⟩
 case round=>
  obtain ⟨k,hk,rfl,hr⟩:=hrel;have hr':=hr;obtain ⟨h1,r1,q1,c1⟩:=hr;by_cases hlt:k<n
  ·obtain ⟨s0,s1,s2⟩:=MB v (n-1-k) hv
   have S2:=ah s2;clear s2 r;have t0:(0:Int)<=(n:Int)-1-(k:Int):=(by omega);have t1:(n:Int)-1-(k:Int)<64:=(by omega);go_wp2_with (go_at_call 219;refine (nG g h1 _ _ _ r1 (by simp[rX];omega) s0 s1).mono ?_;rintro e w' ⟨rfl,ht⟩)
   rw[S2.out]at ht;go_roundw
   case rel=>exact ⟨k+1,by omega,by go_num,by rw[z58,←List.append_assoc];exact ig.next q1 c1 ht⟩
   case measure=>simp[intOf];omega
  ·obtain rfl:k=n:=by omega
   go_wp2_with fail;go_ret;exact ⟨rfl,hr'⟩
theorem z42 (g:Nat) (h:Option Nat) (l:List Bool) (w:World) (r:iU w g h l) (hl:l.length<=1000000000000):
 Calls Tryz.prog 170 #[.pointer (some ⟨g,0,none⟩)] w (Qz w (pack l)):=by
 obtain ⟨i0,hi0,hz0,hz1,hz2⟩:=info_parts Tryz.info5;obtain ⟨v,b,o,hv⟩:=r;obtain ⟨A,c,rfl,_,_⟩:=z08 o;have hr:=Rd.fH o;have h':=hr.nx (by omega) ((Ch.refl _ w).alloc (.cells #[] 5));have d0:(w.alloc (.cells #[] 5)).cell? ⟨g,0,none⟩=some (.slice A (pack l).length c):=(b.alloc _).cell 0;have hpl:=Iy l;have hpl2:(pack l).length<=125000000001:=by omega
 clear hr o b hpl;generalize hpn:(pack l).length=pl at *;have UE:=ah hpn;clear hpn;go_enter Tryz.func170,Tryz.ntmps170;go_wp2_with (at_builtin;refine z07 _ rfl (.tmp 5) (.tmp 9) _ rfl w.heap.size 5 i0 _ 1 1 Tryz.underlying26 hi0 hz0 hz1 hz2 rfl (by omega) (.slice (some ⟨w.heap.size,0,none⟩) 0 0) 0 [] rfl (World.ownsRow_made w #[] 0 (Nat.le_refl _) (by simp[maxLen]) rfl) _ A pl c _ rfl h' (iL _) (by simp only[maxLen];omega) (by omega) (by simp) ?_;intro v' w1 hown hg hat;obtain ⟨k,cap,hv,hk,hk1,hrd,hnx,ho⟩:=z2n hown hg hat;clear hown hg hat;rw[hv];clear hv)
 go_ret;exact ⟨k,cap,by simp[UE.out],hk,hk1,by rw[UE.out];exact ho,by rw[UE.out];exact hrd,hnx⟩
end Go.Proofs.YtpakjclpjcngmaaGreat
namespace Go.Proofs.YtpakjclpjcngmaaGreat.R2
open Go.RowKit
theorem Tryz.Vm:(Tryz.prog.info? 4).map (fun i=>(i.zero,i.size,i.bytes))=some (some (.bool false),1,1):=by kernel_rfl
def kQ (l:List Bool):List Value:=l.map Value.bool
theorem Uu (l:List Bool):∀u∈kQ l,u.oneCell'=true:=by
 intro u hu;simp only[kQ,List.mem_map]at hu;obtain ⟨x,_,rfl⟩:=hu;rfl
def numOf:List Bool->Nat
 |[]=>0
 |b::l=>kJ b+2 * numOf l
theorem wR (l m:List Bool):numOf (l++m)=numOf l+2 ^ l.length * numOf m:=by
 induction l with
 |nil=>simp[numOf]
 |cons b l ih=>
  simp only[List.cons_append,numOf,ih,List.length_cons,Nat.pow_succ,Nat.mul_add];rw[Nat.mul_comm (2 ^ l.length) 2,Nat.mul_assoc];omega
theorem oG (D:Nat->Prop) (A:Option Addr) (n c:Nat) (l:List Bool) (W:World) (hr:Rd W D 1 A n (kQ l)) (hl:l.length=n) (hn:n<=32):
 Calls Tryz.prog 239 #[.slice A n c] W fun e w'=>e=.returned (.int .u32 (numOf l:Int))/\W=w':=by
 have Hl:=ah hl;clear hl;go_enter Tryz.func239,Tryz.ntmps239;go_wp2_with fail;go_loop [3,4] (fun v i=>∃j z:Nat,j<=n/\z<2 ^ j/\i=.int .i64 ((n:Int)-1-j)/\v=.int .u32 (z:Int)/\Hid (z=numOf (l.drop (n-j)))) (fun _ i=>(intOf i+1).toNat)
 case atStart=>exact ⟨0,0,by omega,by simp,by simp,rfl,ah (by rw[List.drop_of_length_le (by rw[Hl.out];omega)];rfl)⟩
 case round=>
  obtain ⟨j,z,hj,hz,rfl,rfl,Hz⟩:=hrel;by_cases hjn:j<n
  ·have hp:(2:Nat) ^ j<=2 ^ 31:=Nat.pow_le_pow_right (by omega) (by omega)
   have hz2:z<2147483648:=(by omega);obtain ⟨ad,u,rfl,Ht,hu,hc⟩:=hr.at_ (k:=n-1-j) (by omega);have hlt:n-1-j<l.length:=by rw[Hl.out];omega
   have hu2:u=.bool l[n-1-j]:=by
    simp[kQ,List.getElem?_eq_getElem hlt]at hu;exact hu.symm
   subst hu2
   have hstep:numOf (l.drop (n-(j+1)))=kJ l[n-1-j]+2 * numOf (l.drop (n-j)):=by
    rw[show n-(j+1)=n-1-j by omega,List.drop_eq_getElem_cons hlt,show n-1-j+1=n-j by omega];rfl
   generalize l[n-1-j]=b at *;have Hs:=ah hstep;have hz3:kJ b+2 * z<2 ^ (j+1):=by have:=Fv b;rw[Nat.pow_succ];omega
   clear hstep hu hz hp;have hi0:(0:Int)<=(n:Int)-1-(j:Int):=(by omega);have ha:((n:Int)-1-(j:Int)).toNat=n-1-j:=(by omega);cases b
   ·go_wp2_with fail
    go_round
    case rel=>exact ⟨j+1,2 * z,by omega,by simpa [kJ]using hz3,by go_num,by go_num,ah (by rw[Hs.out,Hz.out];simp[kJ])⟩
    case measure=>simp[intOf];omega
   ·go_wp2_with fail
    go_round
    case rel=>exact ⟨j+1,1+2 * z,by omega,by simpa [kJ]using hz3,by go_num,by go_num,ah (by rw[Hs.out,Hz.out];simp[kJ])⟩
    case measure=>simp[intOf];omega
  ·obtain rfl:j=n:=by omega
   go_wp2_with fail;go_ret;exact ⟨by rw[Hz.out];simp,rfl⟩
def UR (code:Bool) (v n k:Nat):List Bool:=if code then Rf v n k else numBits v k
theorem zh (code:Bool) (v n k:Nat):UR code v n (k+1)=UR code v n k++[decide (v / 2 ^ (if code then n-1-k else k) % 2=1)]:=by
 unfold UR;cases code
 ·exact z3S v k
 ·exact z58 v n k
theorem Gt (D:Nat->Prop) (A:Option Addr) (N c:Nat) (l:List Bool) (v n:Nat) (code:Bool) (W:World) (hr:Rd W D 1 A N (kQ l)) (hl:l.length=N) (hN:N<=1000000000) (hv:v<4294967296) (hn:n<=32):
 Calls Tryz.prog 275 #[.slice A N c,.int .u32 (v:Int),.int .i64 (n:Int),.bool code] W (gQ W 4 1 (N+n) (kQ (l++UR code v n n))):=by
 obtain ⟨i0,hi0,hz0,hz1,hz2⟩:=info_parts Tryz.Vm;have hlit:=ak.lit W W 4 (Ch.refl _ W) 1;have hr':Rd (W.alloc (.cells #[] 4)) D 1 A N (kQ l):=hr.nx (by omega) ((Ch.refl _ W).alloc _);have Hl:=ah hl;clear hl hr;go_enter Tryz.func275,Tryz.ntmps275;go_wp2_with (at_builtin;refine z05 rfl (.tmp 14) (.tmp 15) _ rfl 4 i0 _ 1 1 Tryz.underlying120 hi0 hz0 hz1 hz2 rfl (by omega) (v:=.slice (some ⟨W.heap.size,0,none⟩) 0 0) rfl hlit D A N c (kQ l) rfl hr' (Uu l) (by simp only[maxLen];omega) (by omega) ?_;intro v' w' ho hm;have hsm:=hm.some_ (by simp[Value.ownBlock]))
 simp only[Nat.zero_add,List.nil_append]at ho;clear hlit hr' hm;go_loopw [9,10] (fun u i wr=>∃k:Nat,k<=n/\i=.int .i64 k/\ak W wr 4 1 u (N+k) (kQ (l++UR code v n k))/\u.ownBlock≠none) (fun _ i _=>n-(intOf i).toNat)
 case atStart=>exact ⟨0,by omega,rfl,by cases code<;>simpa [UR,Rf,numBits]using ho,hsm⟩
 case round=>
  obtain ⟨k,hk,rfl,ho1,hs1⟩:=hrel;clear ho hsm;obtain ⟨wo,rfl⟩:∃wo:World,wo=wr:=⟨_,rfl⟩;by_cases hlt:k<n
  ·have hsucc:=zh code v n k
   have Hs:=ah hsucc;clear hsucc;have k0:(0:Int)<=(n:Int)-1-(k:Int):=(by omega);obtain ⟨K,hK,HK⟩:∃K:Nat,K<=32/\Hid (K=if code=true then n-1-k else k):=⟨if code then n-1-k else k,by split<;>omega,rfl⟩;cases code
   ·have HK2:K=k:=HK.out
    subst HK2;go_wp2_with fail;go_loop [12,13] (fun x j=>∃m z:Nat,m<=K/\z<4294967296/\j=.int .i64 m/\x=.int .u32 (z:Int)/\Hid (z=v / 2 ^ m)) (fun _ j=>K-(intOf j).toNat)
    case atStart=>exact ⟨0,v,by omega,hv,rfl,rfl,ah (by simp)⟩
    case round=>
     obtain ⟨m,z,hm,hz,rfl,rfl,Hz⟩:=hrel;by_cases hmk:m<K
     ·go_wp2_with fail
      go_round
      case rel=>exact ⟨m+1,z / 2,by omega,by omega,by go_num,by go_num,ah (by rw[Hz.out,Nat.pow_succ,Nat.div_div_eq_div_mul])⟩
      case measure=>simp[intOf];omega
     ·obtain rfl:m=K:=by omega
      go_wp2_with (at_builtin;refine z06 rfl (.tmp 36) (.tmp 40) _ rfl 4 i0 _ 1 Tryz.underlying120 hi0 hz0 hz1 hz2 rfl _ rfl rfl ho1 rfl (by simp only[maxLen];omega) (by omega) ?_;intro v' w' ho3 hmv)
      go_roundw
      case rel=>
       refine ⟨m+1,by omega,by go_num,?_,hmv.some_ hs1⟩;have e:((z:Int) % 2==1)=decide (z % 2=1):=by rw[Bool.eq_iff_iff,beq_iff_eq,decide_eq_true_iff];omega
       rw[e]at ho3;have hs2:=Hs.out;simp only[Bool.false_eq_true,if_false]at hs2;rw[hs2,←Hz.out,←List.append_assoc];simpa [kQ,Nat.add_assoc]using ho3
      case measure=>simp[intOf];omega
   ·have HK2:K=n-1-k:=HK.out
    have hKi:((n:Int)-1-(k:Int))=(K:Int):=(by omega);have HK3:=ah HK2;clear HK2 HK;go_wp2_with fail;go_loop [12,13] (fun x j=>∃m z:Nat,m<=K/\z<4294967296/\j=.int .i64 m/\x=.int .u32 (z:Int)/\Hid (z=v / 2 ^ m)) (fun _ j=>K-(intOf j).toNat)
    case atStart=>exact ⟨0,v,by omega,hv,rfl,rfl,ah (by simp)⟩
    case round=>
     obtain ⟨m,z,hm,hz,rfl,rfl,Hz⟩:=hrel;by_cases hmk:m<K
     ·go_wp2_with fail
      go_round
      case rel=>exact ⟨m+1,z / 2,by omega,by omega,by go_num,by go_num,ah (by rw[Hz.out,Nat.pow_succ,Nat.div_div_eq_div_mul])⟩
      case measure=>simp[intOf];omega
     ·obtain rfl:m=K:=by omega
      clear hKi;go_wp2_with (at_builtin;refine z06 rfl (.tmp 36) (.tmp 40) _ rfl 4 i0 _ 1 Tryz.underlying120 hi0 hz0 hz1 hz2 rfl _ rfl rfl ho1 rfl (by simp only[maxLen];omega) (by omega) ?_;intro v' w' ho3 hmv)
      go_roundw
      case rel=>
       refine ⟨k+1,by omega,by go_num,?_,hmv.some_ hs1⟩;have e:((z:Int) % 2==1)=decide (z % 2=1):=by rw[Bool.eq_iff_iff,beq_iff_eq,decide_eq_true_iff];omega
       rw[e]at ho3;have hs2:=Hs.out;simp only[if_true]at hs2;rw[hs2,←HK3.out,←Hz.out,←List.append_assoc];simpa [kQ,Nat.add_assoc]using ho3
      case measure=>simp[intOf];omega
  ·obtain rfl:k=n:=by omega
   go_wp2_with fail;go_ret;exact gQ.rJ ho1 hs1
theorem Em (l:List Bool) (i k:Nat):numOf ((l.drop (8 * i)).take k)=z15 l i k:=by
 induction k with
 |zero=>simp[numOf,z15]
 |succ k ih=>
  simp only[z15];by_cases h:8 * i+k<l.length
  ·have e:(l.drop (8 * i)).take (k+1)=(l.drop (8 * i)).take k++[l[8 * i+k]]:=by
    rw[List.take_succ_eq_append_getElem (by simp;omega)];simp
   have hlen:((l.drop (8 * i)).take k).length=k:=by simp;omega
   rw[e,wR,ih,hlen];have e3:l.getD (8 * i+k) false=l[8 * i+k]:=(by simp[List.getD,h]);rw[e3];simp[numOf,Nat.mul_comm]
  ·rw[List.take_of_length_le (by simp;omega),←ih,List.take_of_length_le (by simp;omega),ZF l _ false (by omega)]
   simp[kJ]
theorem tZ (D:Nat->Prop) (A:Option Addr) (n c:Nat) (l:List Bool) (W:World) (hr:Rd W D 1 A n (kQ l)) (hl:l.length=n) (hn:n<=1000000000) (hnc:n<=c) (hc:c<=9223372036854775807):
 Calls Tryz.prog 193 #[.slice A n c] W (gQ W 5 1 (pack l).length (bl (pack l))):=by
 obtain ⟨i0,hi0,hz0,hz1,hz2⟩:=info_parts Tryz.info5;have hlit:=ak.lit W W 5 (Ch.refl _ W) 1;have Hl:=ah hl;clear hl;go_enter Tryz.func193,Tryz.ntmps193;go_wp2_with fail;go_loopw [3,4] (fun u i wr=>∃k:Nat,k<=(n+7) / 8/\i=.int .i64 (8 * (k:Int))/\ak W wr 5 1 u k (bl ((pack l).take k))/\u.ownBlock≠none) (fun _ i _=>(n+8)-(intOf i).toNat)
 case atStart=>exact ⟨0,by omega,by simp,by simpa [bl]using hlit,by simp[Value.ownBlock]⟩
 case round=>
  obtain ⟨k,hk,rfl,ho,hs⟩:=hrel;by_cases hlt:8 * k<n
  ·obtain ⟨m,hm,hm8,HM⟩:∃m:Nat,m<=8/\8 * k+m<=n/\Hid (m=min 8 (n-8 * k)):=⟨min 8 (n-8 * k),by omega,by omega,rfl⟩
   have hcut:=((hr.nx (by omega) ho.nx).cut (k:=8 * k) (cap:=c) (by omega) hnc).take (k:=m) (by omega);have ebl:((kQ l).drop (8 * k * 1)).take (m * 1)=kQ ((l.drop (8 * k)).take m):=(by simp[kQ,List.map_drop,List.map_take]);rw[ebl]at hcut;simp only[Nat.mul_one]at hcut;rw[if_neg (by omega)]at hcut;clear ebl
   have hnum:numOf ((l.drop (8 * k)).take m)=byteAt l k:=by
    rw[Em,HM.out];unfold byteAt;by_cases h8:8<=n-8 * k
    ·rw[show min 8 (n-8 * k)=8 by omega]
    ·rw[show min 8 (n-8 * k)=n-8 * k by omega]
     exact (z2g (l:=l) (i:=k) 8 (by omega) (by rw[Hl.out];omega)).symm
   have aev:=z5e l k
   have hsucc:bl ((pack l).take (k+1))=bl ((pack l).take k)++[.int .u8 (byteAt l k:Int)]:=by
    have hp:k<(pack l).length:=by rw[Iy,Hl.out];omega
    rw[List.take_succ_eq_append_getElem hp];simp[bl,pack]
   generalize byteAt l k=y at *;have FH:=ah hnum;have iP:=ah hsucc;clear hnum hsucc;by_cases h8:8 * k+8<=n
   ·obtain rfl:m=8:=by have:=HM.out;omega
    go_wp2_with fail;with_reducible refine (oG _ _ 8 _ _ _ hcut (by simp[Hl.out];omega) (by omega)).mono ?_
    rintro e w' ⟨rfl,rfl⟩;rw[FH.out];go_wp2_with (at_builtin;refine z06 rfl (.tmp 12) (.tmp 23) _ rfl 5 i0 _ 1 Tryz.underlying26 hi0 hz0 hz1 hz2 rfl _ rfl rfl ho rfl (by simp only[maxLen];omega) (by omega) ?_;intro v' w' ho3 hmv)
    go_roundw
    case rel=>exact ⟨k+1,by omega,by go_num,by rw[iP.out];exact ho3,hmv.some_ hs⟩
    case measure=>simp[intOf];omega
   ·obtain rfl:m=n-8 * k:=by have:=HM.out;omega
    have hq:¬(8 * (k:Int)+8<=(n:Int)):=(by omega);go_wp2_with fail;with_reducible refine (oG _ _ _ _ _ _ hcut (by simp[Hl.out]) (by omega)).mono ?_
    rintro e w' ⟨rfl,rfl⟩;rw[FH.out];go_wp2_with (at_builtin;refine z06 rfl (.tmp 12) (.tmp 23) _ rfl 5 i0 _ 1 Tryz.underlying26 hi0 hz0 hz1 hz2 rfl _ rfl rfl ho rfl (by simp only[maxLen];omega) (by omega) ?_;intro v' w' ho3 hmv)
    go_roundw
    case rel=>exact ⟨k+1,by omega,by go_num,by rw[iP.out];exact ho3,hmv.some_ hs⟩
    case measure=>simp[intOf];omega
  ·obtain rfl:k=(n+7) / 8:=by omega
   go_wp2_with fail;go_ret;rw[List.take_of_length_le (by rw[Iy,Hl.out];omega)]at ho;rw[Iy,Hl.out];exact gQ.rJ ho hs
end Go.Proofs.YtpakjclpjcngmaaGreat.R2
