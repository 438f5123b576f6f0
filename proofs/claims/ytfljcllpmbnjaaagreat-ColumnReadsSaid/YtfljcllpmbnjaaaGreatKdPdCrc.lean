/- Contracts and plain laws that the last text rests on. Conditions: each theorem states its own. -/
import Derived.Test.YtfljcllpmbnjaaaGreatKdQ3
import Derived.Test.YtfljcllpmbnjaaaGreatKdQ2
import Derived.IntWalk
import Derived.Laws.MakeOwn
import Derived.Deep.CutBlock
import Derived.Deep.DeepCutAuto
set_option maxRecDepth 100000
set_option maxHeartbeats 8000000
set_option linter.unusedVariables false
namespace Go.Proofs.YtfljcllpmbnjaaaGreat
open Go.RowKit
theorem FB (x:Nat) (w:World) (h:x<16):Calls Tryz.prog 164 #[.int .u32 (x:Int)] w fun e w'=>e=.returned (.int .u32 (kK x:Int))/\w=w':=by
 have h16:x=0∨x=1∨x=2∨x=3∨x=4∨x=5∨x=6∨x=7∨x=8∨x=9∨x=10∨x=11∨x=12∨x=13∨x=14∨x=15:=by omega
 clear h;rcases h16 with rfl|rfl|rfl|rfl|rfl|rfl|rfl|rfl|rfl|rfl|rfl|rfl|rfl|rfl|rfl|rfl
 all_goals
  go_enter Tryz.func164,Tryz.ntmps164;go_wp2_with fail;go_ret;exact ⟨rfl,rfl⟩
theorem rF (c:Nat) (h:c<4294967296):bits .and .u32 (c:Int) 15=((c % 16:Nat):Int):=by
 have e:=u32_and_nat c 15 h (by decide);have e2:c&&& 15=c % 16:=Nat.and_two_pow_sub_one_eq_mod c 4;rw[e2]at e;exact e
theorem uz (c:Nat) (h:c<4294967296):bits .xor .u32 (if IntKind.u32.signed=true then -1 else IntKind.u32.max) (c:Int)=((4294967295-c:Nat):Int):=by
 have e:=u32_xor_nat 4294967295 c (by decide) h
 have e2:4294967295 ^^^ c=4294967295-c:=by
  apply Nat.eq_of_testBit_eq
  intro i;rw[show 4294967295=2 ^ 32-1 by decide,Nat.testBit_xor,Nat.testBit_two_pow_sub_one,show 2 ^ 32-1-c=2 ^ 32-(c+1) by omega,Nat.testBit_two_pow_sub_succ h];by_cases hi:i<32
  ·simp[hi]
  ·have:c.testBit i=false:=Nat.testBit_lt_two_pow (Nat.lt_of_lt_of_le (show c<2 ^ 32 by omega) (Nat.pow_le_pow_right (n:=2) (by decide) (by omega)))
   simp[hi,this]
 rw[e2]at e;exact e
theorem Rd.lit (w:World) (cs:Array Value) (t:TypeId) (fr:Nat×Nat):Rd (w.alloc (.cells cs t fr)) (fun k=>k=w.heap.size) 1 (some ⟨w.heap.size,0,none⟩) cs.size cs.toList:=by
 refine ⟨by simp,fun _=>⟨_,rfl,rfl,fun j u hu=>?_⟩⟩
 have ea:(Addr.mk w.heap.size 0 none).add j=⟨w.heap.size,j,none⟩:=by
  unfold Addr.add;split
  ·next e=>rw[e]
  ·simp
 rw[ea,cell_of_row _ w.heap.size j cs t fr (heap_alloc_new w _)];simpa using hu
abbrev NY (w:World) (g:Nat) (t:Nat):Prop:=dD w g 164 #[.int .u32 (t:Int)]
theorem IE (D:Nat->Prop) (g t:Nat) (A:Option Addr) (n c:Nat) (xs:List Nat) (w:World) (hd:NY w g t) (ht:t<4294967296) (hr:Rd w D 1 A n (bl xs)) (ok:okB xs) (hl:xs.length=n) (hn:n<=9223372036854775807):
 Calls Tryz.prog 137 #[.pointer (some ⟨g,0,none⟩),.slice A n c] w fun e w'=>e=.returned (.tuple #[])/\NY w' g (4294967295-gZ (4294967295-t) xs)/\Ch (· =g) w w':=by
 have d0:w.cell? ⟨g,0,none⟩=some (.int .u32 (t:Int)):=hd.cell 0;have hf:=hd.frozen;have hnot:=uz t ht;obtain ⟨r0,hr0⟩:∃r0,4294967295-t=r0:=⟨_,rfl⟩;rw[hr0]at hnot ⊢;have hr0l:r0<4294967296:=by omega
 have Hd:=ah hd;have Hl:=ah hl;clear hd hl hr0;go_enter Tryz.func137,Tryz.ntmps137;go_wp2_with fail;go_loopw [4,16] (fun v i wr=>∃k:Nat,k<=n/\i=.int .i64 (k:Int)/\v=.int .u32 (gZ r0 (xs.take k):Int)/\wr=w) (fun _ i _=>n-(intOf i).toNat)
 case atStart=>exact ⟨0,Nat.zero_le _,rfl,rfl,rfl⟩
 case round=>
  clear hnot;obtain ⟨k,hk,rfl,rfl,iC⟩:=hrel;rw[iC];clear iC;have hcl:gZ r0 (xs.take k)<4294967296:=EW hr0l fun y hy=>ok y (List.mem_of_mem_take hy);by_cases hlt:k<n
  ·obtain ⟨ad,u,rfl,kN,hu,hc⟩:=hr.at_ hlt
   have hkl:k<xs.length:=by rw[Hl.out];exact hlt
   rw[tV hkl]at hu;injection hu with hu;subst hu;have hx:=uf ok k
   have hsucc:gZ r0 (xs.take (k+1))=jA (gZ r0 (xs.take k)) (xs.getD k 0):=by
    have e:xs.getD k 0=xs[k]:=(by simp[List.getD,hkl]);rw[List.take_succ_eq_append_getElem hkl,yB,e];rfl
   generalize xs.getD k 0=x at *;generalize gZ r0 (xs.take k)=c0 at *;unfold jA at hsucc;have l1:c0 ^^^ x<4294967296:=Nat.xor_lt_two_pow (n:=32) hcl (by omega);have x1:=u32_xor_nat c0 x hcl (by omega);generalize c0 ^^^ x=c1 at *;have l2:=lC l1;have a1:=rF c1 l1
   have x2:bits .xor .u32 ((c1:Int) / 16) (kK (c1 % 16):Int)=(vM c1:Int):=by
    have:=u32_xor_nat (c1 / 16) (kK (c1 % 16)) (by omega) (uQ _);rw[show ((c1:Int) / 16)=((c1 / 16:Nat):Int) by omega];exact this
   generalize vM c1=c2 at *;have l3:=lC l2;have a2:=rF c2 l2
   have x3:bits .xor .u32 ((c2:Int) / 16) (kK (c2 % 16):Int)=(vM c2:Int):=by
    have:=u32_xor_nat (c2 / 16) (kK (c2 % 16)) (by omega) (uQ _);rw[show ((c2:Int) / 16)=((c2 / 16:Nat):Int) by omega];exact this
   generalize vM c2=c3 at *;have m1:c1 % 16<16:=Nat.mod_lt _ (by decide);have m2:c2 % 16<16:=Nat.mod_lt _ (by decide);have hr1:=fun w=>FB (c1 % 16) w m1;have hr2:=fun w=>FB (c2 % 16) w m2;generalize kK (c1 % 16)=r1 at *;generalize kK (c2 % 16)=r2 at *;generalize c1 % 16=q1 at *;generalize c2 % 16=q2 at *;have Hs:=ah hsucc;have Hr1:=ah hr1;have Hr2:=ah hr2;clear hsucc hr1 hr2;go_wp2_with fail;with_reducible refine (Hr1.out _).mono ?_
   rintro e w1 ⟨rfl,rfl⟩;go_wp2_with fail;with_reducible refine (Hr2.out _).mono ?_
   rintro e w1 ⟨rfl,rfl⟩;go_wp2_with fail;go_roundw
   case rel=>exact ⟨k+1,by omega,by go_num,by rw[Hs.out],trivial⟩
   case measure=>simp[intOf];omega
  ·have htk:xs.take k=xs:=List.take_of_length_le (by rw[Hl.out];omega)
   rw[htk]at hcl ⊢;have hnot:=uz _ hcl;have hle:gZ r0 xs<=4294967295:=(by omega);clear htk;obtain ⟨c0,hc0⟩:∃c0,gZ r0 xs=c0:=⟨_,rfl⟩;rw[hc0]at hcl hnot hle ⊢;have Hc0:=ah hc0;clear hc0;go_wp2_with fail;go_end0
   exact ⟨rfl,by rw[Hc0.out];exact Hd.out.dZ 0 (.int .u32 ((4294967295-c0:Nat):Int)),Ch.setCell (S:=fun k=>k=g) (Ch.refl _ w) (p:=⟨g,0,none⟩) (fun _=>rfl) _⟩
theorem Np (g t:Nat) (w:World) (hd:NY w g t):Calls Tryz.prog 138 #[.pointer (some ⟨g,0,none⟩)] w fun e w'=>e=.returned (.int .u32 (t:Int))/\w=w':=by
 have d0:w.cell? ⟨g,0,none⟩=some (.int .u32 (t:Int)):=hd.cell 0;go_enter Tryz.func138,Tryz.ntmps138;go_wp2_with fail;go_ret;exact ⟨rfl,rfl⟩
def WY (w:World) (v:Int) (e:Ending) (w':World):Prop:=e=.returned (.int .u32 v)/\Nx w w'
theorem zO (D:Nat->Prop) (p:Nat) (pc:Nat) (A:Option Addr) (n c:Nat) (xs:List Nat) (w:World) (hp:w.cell? ⟨p,0,none⟩=some (.slice A n c)) (hr:Rd w D 1 A n (bl xs)) (dX:∀k,D k->k<w.heap.size) (ok:okB xs) (hl:xs.length=n) (hn:n<=9223372036854775807):
 Calls Tryz.prog 110 #[.slice (some ⟨p,0,none⟩) 1 pc] w (WY w (sumF xs:Int)):=by
 have hplt:p<w.heap.size:=World.block_lt_of_cell? w _ hp;have hd0:NY (w.alloc (.cells #[.int .u32 0] 164)) w.heap.size 0:=dD.new w _ _;have hn0:Nx w (w.alloc (.cells #[.int .u32 0] 164)):=(Ch.refl _ w).alloc _;have hp1:(w.alloc (.cells #[.int .u32 0] 164)).cell? ⟨p,0,none⟩=some (.slice A n c):=(World.cell?_alloc_lt w _ _ hplt).trans hp;have hr1:=hr.nx (by decide) hn0;obtain ⟨dg,hdg⟩:∃dg,w.heap.size=dg:=⟨_,rfl⟩;have hpd:p<dg:=by omega
 have hDg:∀k,D k->k≠dg:=fun k hk=>by have:=dX k hk;omega
 rw[hdg]at hd0;obtain ⟨w1,hw1⟩:∃w1,w.alloc (.cells #[.int .u32 0] 164)=w1:=⟨_,rfl⟩;rw[hw1]at hd0 hn0 hp1 hr1;have HW:=ah hw1;have HG:=ah hdg;have Hl:=ah hl;clear hw1 hl hp hr;go_enter Tryz.func110,Tryz.ntmps110;go_upto_region 2 with fail
 simp only[HW.out];have hgx:w.heap.size<=dg:=by rw[HG.out];exact Nat.le_refl _
 clear HW HG hdg;go_wp2_with fail;go_loopw [8] (fun i wr=>∃k:Nat,k<=1/\i=.int .i64 (k:Int)/\NY wr dg (if k=0 then 0 else sumF xs)/\Ch (· =dg) w1 wr) (fun i _=>1-(intOf i).toNat)
 case atStart=>exact ⟨0,by omega,rfl,hd0,Ch.refl _ _⟩
 case round=>
  clear hd0;obtain ⟨w2,rfl⟩:∃w2:World,w2=wr:=⟨_,rfl⟩;obtain ⟨k,hk,rfl,hd,ch⟩:=hrel;by_cases h0:k=0
  ·subst h0
   rw[if_pos rfl]at hd;have hp2:w2.cell? ⟨p,0,none⟩=some (.slice A n c):=(ch.cell (p:=⟨p,0,none⟩) (World.block_lt_of_cell? w1 _ hp1) (by simp;omega)).trans hp1;have hr2:=hr1.ch (by decide) ch (fun k hk hd e=>hDg k hd e);go_wp2_with fail;with_reducible refine (IE _ dg 0 A n c xs _ hd (by decide) hr2 ok Hl.out hn).mono ?_
   rintro e w3 ⟨rfl,hd3,ch3⟩;go_wp2_with fail;go_roundw
   case rel=>exact ⟨1,by omega,by go_num,by rw[if_neg (by omega)];exact hd3,ch.trans ch3 fun _ _ e=>e⟩
   case measure=>simp[intOf]
  ·obtain rfl:k=1:=by omega
   rw[if_neg (by omega)]at hd;go_wp2_with fail;with_reducible refine (Np dg _ _ hd).mono ?_
   rintro e w3 ⟨rfl,rfl⟩;go_wp2_with fail;go_ret;exact ⟨rfl,hn0.trans ch fun i hi e=>by omega⟩
theorem JQ (s:Nat):IntKind.u8.wrap (s:Int)=((s % 256:Nat):Int)/\IntKind.u8.wrap ((s:Int) / 256)=((s / 256 % 256:Nat):Int)/\IntKind.u8.wrap ((s:Int) / 65536)=((s / 65536 % 256:Nat):Int)/\IntKind.u8.wrap ((s:Int) / 16777216)=((s / 16777216 % 256:Nat):Int):=by
 have h:∀z:Int,IntKind.u8.wrap z=z % 256:=fun z=>by simp[IntKind.wrap,IntKind.bits,IntKind.signed]
 rw[h,h,h,h];exact ⟨by omega,by omega,by omega,by omega⟩
theorem Nl (D:Nat->Prop) (A:Option Addr) (n c:Nat) (xs:List Nat) (W:World) (hr:Rd W D 1 A n (bl xs)) (dX:∀k,D k->k<W.heap.size) (ok:okB xs) (hl:xs.length=n) (hn:n<=1000000000):
 Calls Tryz.prog 75 #[.slice A n c] W (fZ W 5 1 (n+4) (bl (dL xs))):=by
 obtain ⟨i0,hi0,hz0,hz1,hz2⟩:=info_parts Tryz.info5;have hn0:Nx W (W.alloc (.cells #[.slice A n c] 27)):=(Ch.refl _ W).alloc _;have hb0:=dD.new W 27 #[.slice A n c];have hsum:=zO D W.heap.size 1 A n c xs _ (hb0.cell 0) (hr.nx (by decide) hn0) (fun k hk=>Nat.lt_of_lt_of_le (dX k hk) hn0.size) ok hl (by omega);have hsz:sumF xs<4294967296:=uH xs
 have jg:bl (dL xs)=bl xs++[.int .u8 ((sumF xs % 256:Nat):Int),.int .u8 ((sumF xs / 256 % 256:Nat):Int),.int .u8 ((sumF xs / 65536 % 256:Nat):Int),.int .u8 ((sumF xs / 16777216 % 256:Nat):Int)]:=by
  unfold dL four bl;rw[List.map_append];rfl
 have pF:=ah jg;clear jg;generalize sumF xs=s at *;obtain ⟨k0,k1,k2,k3⟩:=JQ s
 have hmk:∀w:World,(Instr.makeSlice 27 (.int .i64 0) (.int .i64 ((n:Int)+4))).run Tryz.prog w=.ok (.slice (some ⟨w.heap.size,0,none⟩) 0 (n+4)) (w.alloc (.cells (madeCells #[.int .u8 0] (n+4)) 5)):=fun w=>by
  have:=run_make (P:=Tryz.prog) w 27 5 i0 (.int .u8 0) Tryz.underlying27 hi0 hz0 .i64 .i64 0 ((n:Int)+4) (by omega) (by omega) (by rw[hz2];omega) (by omega);rw[hz1,show ((n:Int)+4).toNat=n+4 by omega,Nat.mul_one]at this;exact this
 have Hs:=ah hsum;clear hsum;go_enter Tryz.func75,Tryz.ntmps75;go_wp2_with fail;with_reducible refine Hs.out.mono ?_
 rintro e w1 ⟨rfl,n1⟩;have nx1:Nx W w1:=hn0.tr n1
 have o1:au W (w1.alloc (.cells (madeCells #[.int .u8 0] (n+4)) 5)) 5 1 (.slice (some ⟨w1.heap.size,0,none⟩) 0 (n+4)) 0 []:=
  ⟨World.ownsRow_made w1 _ (n+4) nx1.size (by simp only[maxLen];omega) (by simp[size_madeCells]),nx1.alloc _⟩
 have hr1:=hr.nx (by decide) o1.nx;have hb1:(Value.slice (some ⟨w1.heap.size,0,none⟩) 0 (n+4)).ownBlock≠none:=by simp[Value.ownBlock]
 generalize hW2:w1.alloc (.cells (madeCells #[.int .u8 0] (n+4)) 5)=w2 at *;clear Hs n1 hb0 hn0
 go_wp2_with (at_builtin;first
  |(refine z01 rfl (.tmp 11) (.tmp 12) _ rfl 5 i0 _ 1 1 Tryz.underlying27 hi0 hz0 hz1 hz2 rfl (by omega) rfl o1 D A n c (bl xs) rfl hr1 (iP _) (by simp only[maxLen];omega) (by omega) ?_;intro v3 w3 o3 m3;have hr3:=Rd.lit w3 #[.int .u8 ((s % 256:Nat):Int),.int .u8 ((s / 256 % 256:Nat):Int),.int .u8 ((s / 65536 % 256:Nat):Int),.int .u8 ((s / 16777216 % 256:Nat):Int)] 5 (0,0);have o3':=o3.alloc (.cells #[.int .u8 ((s % 256:Nat):Int),.int .u8 ((s / 256 % 256:Nat):Int),.int .u8 ((s / 65536 % 256:Nat):Int),.int .u8 ((s / 16777216 % 256:Nat):Int)] 5))
  |(refine z01 rfl (.tmp 14) (.tmp 26) _ rfl 5 i0 _ 1 1 Tryz.underlying27 hi0 hz0 hz1 hz2 rfl (by omega) rfl o3' _ _ 4 4 _ rfl hr3 (by intro u hu;simp at hu;rcases hu with rfl|rfl|rfl|rfl<;>rfl) (by simp only[maxLen];omega) (by omega) ?_;intro v4 w4 o4 m4))
 go_ret;rw[pF.out];have:=fZ.jG o4 (m4.some_ (m3.some_ hb1));simpa using this
def OH (W:World) (b:List Nat) (e:Ending) (w':World):Prop:=
 (z15 b->∃k cap,e=.returned (.tuple #[.slice (some ⟨k,0,none⟩) (b.length-4) cap,.int .i64 0])/\au W w' 5 1 (.slice (some ⟨k,0,none⟩) (b.length-4) cap) (b.length-4) (bl (b.take (b.length-4)))/\b.length-4<=cap)/\
 (¬z15 b->e=.returned (.tuple #[.slice none 0 0,.int .i64 (if b.length<4 then 3 else 6)])/\Nx W w')
theorem XO (D:Nat->Prop) (A:Option Addr) (n c:Nat) (b:List Nat) (W:World) (hr:Rd W D 1 A n (bl b)) (dX:∀k,D k->k<W.heap.size) (ok:okB b) (hl:b.length=n) (hn:n<=1000000000) (hc:n<=c):
 Calls Tryz.prog 124 #[.slice A n c] W (OH W b):=by
 by_cases h4:n<4
 ·have hno:¬z15 b:=fun h=>by have:=h.1;omega
  go_enter Tryz.func124,Tryz.ntmps124;go_wp2_with fail;go_ret2;exact ⟨fun h=>absurd h hno,fun _=>⟨by rw[if_pos (by omega)];rfl,Ch.refl _ _⟩⟩
 ·obtain ⟨m,hm⟩:∃m,n=m+4:=⟨n-4,by omega⟩
  subst hm;obtain ⟨i0,hi0,hz0,hz1,hz2⟩:=info_parts Tryz.info5;have htk:=hr.take (k:=m) (by omega);rw[Nat.mul_one,show (bl b).take m=bl (b.take m) by simp[bl,List.map_take]]at htk;have hct:=hr.cut (k:=m) (cap:=c) (by omega) hc;rw[Nat.mul_one,show (bl b).drop m=bl (b.drop m) by simp[bl,List.map_drop],if_neg (by omega),Nat.add_sub_cancel_left]at hct;have hn0:Nx W (W.alloc (.cells #[.slice A m c] 27)):=(Ch.refl _ W).alloc _;have hb0:=dD.new W 27 #[.slice A m c];have hsum:=zO D W.heap.size 1 A m c (b.take m) _ (hb0.cell 0) (htk.nx (by decide) hn0) (fun k hk=>Nat.lt_of_lt_of_le (dX k hk) hn0.size) (fun x hx=>ok x (List.mem_of_mem_take hx)) (by simp;omega) (by omega);have hsz:=uH (b.take m)
  have hopen:z15 b↔∀k,k<4->(b.drop m).getD k 0=(four (sumF (b.take m))).getD k 0:=by
   have e4:b.length-4=m:=(by omega);have e5:(b.drop m).length=4:=by rw[List.length_drop];omega
   unfold z15;rw[e4];constructor
   ·rintro ⟨_,h⟩ k _
    rw[h]
   ·intro h
    refine ⟨by omega,List.ext_getElem (by rw[e5];rfl) fun i h1 h2=>?_⟩;have:=h i (by omega);rw[List.getD_eq_getElem?_getD,List.getD_eq_getElem?_getD,List.getElem?_eq_getElem h1,List.getElem?_eq_getElem h2]at this;exact this
  have hlen:b.length-4=m:=by omega
  have hnl:¬b.length<4:=by omega
  have AO:okB (b.drop m):=fun x hx=>ok x (List.mem_of_mem_drop hx);have hdl:(b.drop m).length=4:=by rw[List.length_drop];omega
  have fU:=ah hopen;clear hopen;generalize b.drop m=tl at *;have FH:Hid (four (sumF (b.take m))=[sumF (b.take m) % 256,sumF (b.take m) / 256 % 256,sumF (b.take m) / 65536 % 256,sumF (b.take m) / 16777216 % 256]):=ah rfl;generalize sumF (b.take m)=s at *;obtain ⟨k0,k1,k2,k3⟩:=JQ s;have l0:s % 256<256:=by omega
  have l1:s / 256 % 256<256:=by omega
  have l2:s / 65536 % 256<256:=by omega
  have l3:s / 16777216 % 256<256:=by omega
  generalize s % 256=f0 at *;generalize s / 256 % 256=f1 at *;generalize s / 65536 % 256=f2 at *;generalize s / 16777216 % 256=f3 at *;have Hs:=ah hsum;have Hlen:=ah hlen;have Hnl:=ah hnl;have Htk:=ah htk;clear hsum hlen hnl hl htk hr;unfold OH;go_enter Tryz.func124,Tryz.ntmps124;go_wp2_with fail;with_reducible refine Hs.out.mono ?_
  rintro e w1 ⟨rfl,n1⟩;have nx1:Nx W w1:=hn0.tr n1;clear Hs n1 hb0 hn0;go_wp2_with fail;go_loopw [22] (fun i wr=>∃k:Nat,k<=4/\i=.int .i64 (k:Int)/\wr=w1/\Hid (∀j,j<k->tl.getD j 0=(four s).getD j 0)) (fun i _=>4-(intOf i).toNat)
  case atStart=>exact ⟨0,by omega,rfl,rfl,ah (fun j hj=>absurd hj (by omega))⟩
  case round=>
   obtain ⟨k,hk,rfl,iC,H⟩:=hrel;rw[iC];clear iC;by_cases hlt:k<4
   ·obtain ⟨ad,u,hA,kN,hu,hcx⟩:=(hct.nx (by decide) nx1).at_ (k:=k) (by omega)
    have hkl:k<tl.length:=(by omega);rw[tV hkl]at hu;injection hu with hu;subst hu;have hxx:=uf AO k;obtain ⟨x,hx⟩:∃x,tl.getD k 0=x:=⟨_,rfl⟩;rw[hx]at hcx hxx;have Hx:=ah hx;have hcm:¬c=m:=(by omega);clear hx;have hk4:k=0∨k=1∨k=2∨k=3:=(by omega);have ha0:ad.add 0=ad:=(by simp[Addr.add]);rcases hk4 with rfl|rfl|rfl|rfl
    all_goals
     clear ha0;simp[Addr.add]at hcx
    ·have Hf:Hid ((four s).getD 0 0=f0):=ah (by rw[FH.out];rfl)
     by_cases he:x=f0
     ·subst he
      go_wp2_with fail;go_roundw
      case rel=>exact ⟨1,by omega,by go_num,trivial,ah (fun j hj=>by
       by_cases e:j=0
       ·subst e;rw[Hx.out,Hf.out]
       ·exact H.out j (by omega))⟩
      case measure=>simp[intOf]
     ·have he2:((x:Int) !=(f0:Int))=true:=by rw[bne_iff_ne];omega
      have hno:¬z15 b:=fun h=>he (by rw[←Hx.out,←Hf.out];exact fU.out.1 h 0 (by omega));have Hno:=ah hno;clear hno he;go_wp2_with fail;go_ret2;exact ⟨fun h=>absurd h Hno.out,fun _=>⟨by first|rfl|(rw[if_neg Hnl.out];rfl),nx1⟩⟩
    ·have Hf:Hid ((four s).getD 1 0=f1):=ah (by rw[FH.out];rfl)
     by_cases he:x=f1
     ·subst he
      go_wp2_with fail;go_roundw
      case rel=>exact ⟨2,by omega,by go_num,trivial,ah (fun j hj=>by
       by_cases e:j=1
       ·subst e;rw[Hx.out,Hf.out]
       ·exact H.out j (by omega))⟩
      case measure=>simp[intOf]
     ·have he2:((x:Int) !=(f1:Int))=true:=by rw[bne_iff_ne];omega
      have hno:¬z15 b:=fun h=>he (by rw[←Hx.out,←Hf.out];exact fU.out.1 h 1 (by omega));have Hno:=ah hno;clear hno he;go_wp2_with fail;go_ret2;exact ⟨fun h=>absurd h Hno.out,fun _=>⟨by first|rfl|(rw[if_neg Hnl.out];rfl),nx1⟩⟩
    ·have Hf:Hid ((four s).getD 2 0=f2):=ah (by rw[FH.out];rfl)
     by_cases he:x=f2
     ·subst he
      go_wp2_with fail;go_roundw
      case rel=>exact ⟨3,by omega,by go_num,trivial,ah (fun j hj=>by
       by_cases e:j=2
       ·subst e;rw[Hx.out,Hf.out]
       ·exact H.out j (by omega))⟩
      case measure=>simp[intOf]
     ·have he2:((x:Int) !=(f2:Int))=true:=by rw[bne_iff_ne];omega
      have hno:¬z15 b:=fun h=>he (by rw[←Hx.out,←Hf.out];exact fU.out.1 h 2 (by omega));have Hno:=ah hno;clear hno he;go_wp2_with fail;go_ret2;exact ⟨fun h=>absurd h Hno.out,fun _=>⟨by first|rfl|(rw[if_neg Hnl.out];rfl),nx1⟩⟩
    ·have Hf:Hid ((four s).getD 3 0=f3):=ah (by rw[FH.out];rfl)
     by_cases he:x=f3
     ·subst he
      go_wp2_with fail;go_roundw
      case rel=>exact ⟨4,by omega,by go_num,trivial,ah (fun j hj=>by
       by_cases e:j=3
       ·subst e;rw[Hx.out,Hf.out]
       ·exact H.out j (by omega))⟩
      case measure=>simp[intOf]
     ·have he2:((x:Int) !=(f3:Int))=true:=by rw[bne_iff_ne];omega
      have hno:¬z15 b:=fun h=>he (by rw[←Hx.out,←Hf.out];exact fU.out.1 h 3 (by omega));have Hno:=ah hno;clear hno he;go_wp2_with fail;go_ret2;exact ⟨fun h=>absurd h Hno.out,fun _=>⟨by first|rfl|(rw[if_neg Hnl.out];rfl),nx1⟩⟩
   ·obtain rfl:k=4:=by omega
    have hyes:z15 b:=fU.out.2 H.out;have Hyes:=ah hyes;have hlit:=au.lit W w1 5 nx1 1;have htk1:=Htk.out.nx (by decide) hlit.nx;have hb1:(Value.slice (some ⟨w1.heap.size,0,none⟩) 0 0).ownBlock≠none:=(by simp[Value.ownBlock]);clear hyes;go_wp2_with (at_builtin;refine z01 rfl (.tmp 35) (.tmp 38) _ rfl 5 i0 _ 1 1 Tryz.underlying27 hi0 hz0 hz1 hz2 rfl (by omega) rfl hlit D A m c (bl (b.take m)) rfl htk1 (iP _) (by simp only[maxLen];omega) (by omega) ?_;intro v3 w3 o3 m3)
    obtain ⟨q,cap,hv,o4,_,_,hcap,_⟩:=fZ.jG o3 (m3.some_ hb1);injection hv with hv;subst hv;go_ret2;rw[Hlen.out];refine ⟨fun _=>⟨q,cap,by simp,by simpa using o4,by have:=Hlen.out;omega⟩,fun h=>absurd Hyes.out h⟩
end Go.Proofs.YtfljcllpmbnjaaaGreat
