/- Contracts and plain laws that the last text rests on. Conditions: each theorem states its own. -/
import Derived.Test.YtpakjclpjcngmaaGreatKdQ19
import Derived.Test.YtpakjclpjcngmaaGreatKdQ29
import Derived.Laws.MakeOwn
import Derived.Test.YtpakjclpjcngmaaGreatKdQ6
import Derived.Test.YtpakjclpjcngmaaGreatKdQ10
import Derived.IntWalk
import Derived.Test.YtpakjclpjcngmaaGreatKdQ3
import Derived.Test.YtpakjclpjcngmaaGreatKdQ15
import Derived.Laws.BitsAllLaws
import Derived.Deep.RegionHeld3
import Derived.Test.YtpakjclpjcngmaaGreatKdPdOrdR
import Derived.RangeFuncBox
import Derived.RangeFuncLeaves
import Derived.Shelf.Abstract
import Derived.WalkKit
import Derived.OwnWalkIn
import Derived.TacticsInMore
import Derived.LoopNIn
import Derived.LoopIn
set_option maxRecDepth 100000
set_option maxHeartbeats 16000000
set_option linter.unusedVariables false
namespace Go.Proofs.YtpakjclpjcngmaaGreat
open Go.RowKit
theorem XQ (x:RV) (w:World):Calls Tryz.prog 92 #[bV x] w fun e w'=>e=.returned (.int .i64 x.row.time)/\Nx w w':=by
 obtain ⟨⟨kind,time,aB,text,value,null,maker,seq,place⟩,A1,c1⟩:=x;unfold bV;go_enter Tryz.func92,Tryz.ntmps92;go_wp2_with fail;go_ret;exact ⟨rfl,(Ch.refl _ w).alloc _⟩
theorem XP (x:RV) (w:World):Calls Tryz.prog 93 #[bV x] w fun e w'=>e=.returned (.int .i64 x.row.maker)/\Nx w w':=by
 obtain ⟨⟨kind,time,aB,text,value,null,maker,seq,place⟩,A1,c1⟩:=x;unfold bV;go_enter Tryz.func93,Tryz.ntmps93;go_wp2_with fail;go_ret;exact ⟨rfl,(Ch.refl _ w).alloc _⟩
theorem XO (x:RV) (w:World):Calls Tryz.prog 94 #[bV x] w fun e w'=>e=.returned (.int .i64 x.row.seq)/\Nx w w':=by
 obtain ⟨⟨kind,time,aB,text,value,null,maker,seq,place⟩,A1,c1⟩:=x;unfold bV;go_enter Tryz.func94,Tryz.ntmps94;go_wp2_with fail;go_ret;exact ⟨rfl,(Ch.refl _ w).alloc _⟩
theorem XM (x:RV) (w:World):Calls Tryz.prog 95 #[bV x] w fun e w'=>e=.returned (.int .i64 x.row.place)/\Nx w w':=by
 obtain ⟨⟨kind,time,aB,text,value,null,maker,seq,place⟩,A1,c1⟩:=x;unfold bV;go_enter Tryz.func95,Tryz.ntmps95;go_wp2_with fail;go_ret;exact ⟨rfl,(Ch.refl _ w).alloc _⟩
theorem XL (x:RV) (w:World):Calls Tryz.prog 96 #[bV x] w fun e w'=>e=.returned (.int .i64 x.row.kind)/\Nx w w':=by
 obtain ⟨⟨kind,time,aB,text,value,null,maker,seq,place⟩,A1,c1⟩:=x;unfold bV;go_enter Tryz.func96,Tryz.ntmps96;go_wp2_with fail;go_ret;exact ⟨rfl,(Ch.refl _ w).alloc _⟩
theorem XJ (x:RV) (w:World):Calls Tryz.prog 103 #[bV x] w fun e w'=>e=.returned (.int .i64 x.row.value)/\Nx w w':=by
 obtain ⟨⟨kind,time,aB,text,value,null,maker,seq,place⟩,A1,c1⟩:=x;unfold bV;go_enter Tryz.func103,Tryz.ntmps103;go_wp2_with fail;go_ret;exact ⟨rfl,(Ch.refl _ w).alloc _⟩
theorem XK (x:RV) (w:World):Calls Tryz.prog 102 #[bV x] w fun e w'=>e=.returned (.string x.row.text)/\Nx w w':=by
 obtain ⟨⟨kind,time,aB,text,value,null,maker,seq,place⟩,A1,c1⟩:=x;unfold bV;go_enter Tryz.func102,Tryz.ntmps102;go_wp2_with fail;go_ret;exact ⟨rfl,(Ch.refl _ w).alloc _⟩
theorem XI (x:RV) (w:World):Calls Tryz.prog 106 #[bV x] w fun e w'=>e=.returned (.bool x.row.null)/\Nx w w':=by
 obtain ⟨⟨kind,time,aB,text,value,null,maker,seq,place⟩,A1,c1⟩:=x;unfold bV;go_enter Tryz.func106,Tryz.ntmps106;go_wp2_with fail;go_ret;exact ⟨rfl,(Ch.refl _ w).alloc _⟩
def Xh (k:Nat):Value:=([.func (.func 92) #[] #[],.func (.func 93) #[] #[],.func (.func 94) #[] #[],.func (.func 95) #[] #[],.func (.func 96) #[] #[]]:List Value).getD k undef
def jK (k:Nat) (x:au):Int:=match k with
 |0=>x.time
 |1=>x.maker
 |2=>x.seq
 |3=>x.place
 |_=>x.kind
theorem aai (x:RV) (w:World) (b:Nat) (hb:w.cell? ⟨b,0,none⟩=some (.func (.func 92) #[] #[])):Calls Tryz.prog 166 #[bV x,.pointer (some ⟨b,0,none⟩)] w fun e w'=>e=.returned (.int .i64 (jK 0 x.row))/\Nx w w':=by
 have HC:=ah (fun w=>XQ x w);obtain ⟨⟨kind,time,aB,text,value,null,maker,seq,place⟩,A1,c1⟩:=x;unfold bV at *;have hlt:b<w.heap.size:=World.block_lt_of_cell? w _ hb;go_enter Tryz.func166,Tryz.ntmps166;go_wp2_with fail;refine (HC.out _).mono ?_;rintro e w2 ⟨rfl,n2⟩;go_wp2_with fail;go_ret;exact ⟨rfl,((Ch.refl _ w).alloc _).tr n2⟩
theorem aah (x:RV) (w:World) (b:Nat) (hb:w.cell? ⟨b,0,none⟩=some (.func (.func 93) #[] #[])):Calls Tryz.prog 166 #[bV x,.pointer (some ⟨b,0,none⟩)] w fun e w'=>e=.returned (.int .i64 (jK 1 x.row))/\Nx w w':=by
 have HC:=ah (fun w=>XP x w);obtain ⟨⟨kind,time,aB,text,value,null,maker,seq,place⟩,A1,c1⟩:=x;unfold bV at *;have hlt:b<w.heap.size:=World.block_lt_of_cell? w _ hb;go_enter Tryz.func166,Tryz.ntmps166;go_wp2_with fail;refine (HC.out _).mono ?_;rintro e w2 ⟨rfl,n2⟩;go_wp2_with fail;go_ret;exact ⟨rfl,((Ch.refl _ w).alloc _).tr n2⟩
theorem aag (x:RV) (w:World) (b:Nat) (hb:w.cell? ⟨b,0,none⟩=some (.func (.func 94) #[] #[])):Calls Tryz.prog 166 #[bV x,.pointer (some ⟨b,0,none⟩)] w fun e w'=>e=.returned (.int .i64 (jK 2 x.row))/\Nx w w':=by
 have HC:=ah (fun w=>XO x w);obtain ⟨⟨kind,time,aB,text,value,null,maker,seq,place⟩,A1,c1⟩:=x;unfold bV at *;have hlt:b<w.heap.size:=World.block_lt_of_cell? w _ hb;go_enter Tryz.func166,Tryz.ntmps166;go_wp2_with fail;refine (HC.out _).mono ?_;rintro e w2 ⟨rfl,n2⟩;go_wp2_with fail;go_ret;exact ⟨rfl,((Ch.refl _ w).alloc _).tr n2⟩
theorem aaf (x:RV) (w:World) (b:Nat) (hb:w.cell? ⟨b,0,none⟩=some (.func (.func 95) #[] #[])):Calls Tryz.prog 166 #[bV x,.pointer (some ⟨b,0,none⟩)] w fun e w'=>e=.returned (.int .i64 (jK 3 x.row))/\Nx w w':=by
 have HC:=ah (fun w=>XM x w);obtain ⟨⟨kind,time,aB,text,value,null,maker,seq,place⟩,A1,c1⟩:=x;unfold bV at *;have hlt:b<w.heap.size:=World.block_lt_of_cell? w _ hb;go_enter Tryz.func166,Tryz.ntmps166;go_wp2_with fail;refine (HC.out _).mono ?_;rintro e w2 ⟨rfl,n2⟩;go_wp2_with fail;go_ret;exact ⟨rfl,((Ch.refl _ w).alloc _).tr n2⟩
theorem aae (x:RV) (w:World) (b:Nat) (hb:w.cell? ⟨b,0,none⟩=some (.func (.func 96) #[] #[])):Calls Tryz.prog 166 #[bV x,.pointer (some ⟨b,0,none⟩)] w fun e w'=>e=.returned (.int .i64 (jK 4 x.row))/\Nx w w':=by
 have HC:=ah (fun w=>XL x w);obtain ⟨⟨kind,time,aB,text,value,null,maker,seq,place⟩,A1,c1⟩:=x;unfold bV at *;have hlt:b<w.heap.size:=World.block_lt_of_cell? w _ hb;go_enter Tryz.func166,Tryz.ntmps166;go_wp2_with fail;refine (HC.out _).mono ?_;rintro e w2 ⟨rfl,n2⟩;go_wp2_with fail;go_ret;exact ⟨rfl,((Ch.refl _ w).alloc _).tr n2⟩
theorem Sv {k:Nat} (hk:k<5) (x:RV) (w:World) (b:Nat) (hb:w.cell? ⟨b,0,none⟩=some (Xh k)):Calls Tryz.prog 166 #[bV x,.pointer (some ⟨b,0,none⟩)] w fun e w'=>e=.returned (.int .i64 (jK k x.row))/\Nx w w':=
 match k,hk,hb with
 |0,_,hb=>aai x w b hb
 |1,_,hb=>aah x w b hb
 |2,_,hb=>aag x w b hb
 |3,_,hb=>aaf x w b hb
 |4,_,hb=>aae x w b hb
theorem Df (v:Value) (F:Fn) (hv:v=.func F #[] #[]) (w:World):Calls Tryz.prog 99 #[v] w fun e w'=>e=.returned (.func (.func 166) #[] #[.pointer (some ⟨w.heap.size,0,none⟩)])/\w'=w.alloc (.cells #[v] 149):=by
 subst hv;go_enter Tryz.func99,Tryz.ntmps99;go_wp2_with fail;go_ret;exact ⟨rfl,rfl⟩
theorem xk {w:World} {D:Nat->Prop} (x:RV) (hx:x.ok w D) (hf:x.row.few):Calls Tryz.prog 45 #[bV x] w fun e w'=>e=.returned (.string (dG x.row))/\Nx w w':=by
 have HT:=ah (fun w' (c':Nx w w')=>Qp (c:=x.c) (hx.1.nx (by decide) c') (by have:=hf.2;omega) hf.1.1);obtain ⟨⟨kind,time,aB,text,value,null,maker,seq,place⟩,A1,c1⟩:=x;unfold bV;unfold dG;simp only at HT ⊢;generalize (if jU aB=true then (0:Int) else 4)=er at HT;clear hx hf;go_enter Tryz.func45,Tryz.ntmps45;go_wp2_with fail;refine (HT.out _ ((Ch.refl _ w).alloc _)).mono ?_;rintro e w2 ⟨rfl,n2⟩;go_wp2_with fail;go_ret;exact ⟨rfl,((Ch.refl _ w).alloc _).tr n2⟩
theorem RG {w:World} {D:Nat->Prop} {A:Option Addr} {n c:Nat} {l:List RV} {b:Nat} (f:au->Int) (h:Rd w D 9 A n (ji l)) (hl:l.length=n) (hn:n<=1000000)
 (hg:∀w',Nx w w'->∀x∈l,Calls Tryz.prog 166 #[bV x,.pointer (some ⟨b,0,none⟩)] w' fun e w''=>e=.returned (Value.int .i64 (f x.row))/\Nx w' w''):
 Calls Tryz.prog 98 #[.slice A n c,.func (.func 166) #[] #[.pointer (some ⟨b,0,none⟩)]] w (Gives w 2 1 n (l.map fun x=>Value.int .i64 (f x.row))):=by
 obtain ⟨i0,hi0,hz0,hz1,hz2⟩:=info_parts Tryz.kC
 have hmk:∀w:World,(Instr.makeSlice 114 (.int .i64 0) (.int .i64 (n:Int))).run Tryz.prog w=.ok (.slice (some ⟨w.heap.size,0,none⟩) 0 n) (w.alloc (.cells (madeCells #[.int .i64 0] n) 2)):=fun w=>by
  have:=run_make (P:=Tryz.prog) w 114 2 i0 (.int .i64 0) Tryz.underlying114 hi0 hz0 .i64 .i64 0 (n:Int) (by omega) (by omega) (by rw[hz2];omega) (by omega);rw[hz1,show (n:Int).toNat=n by omega,Nat.mul_one]at this;exact this
 have o1:ay w (w.alloc (.cells (madeCells #[.int .i64 0] n) 2)) 2 1 (.slice (some ⟨w.heap.size,0,none⟩) 0 n) 0 []:=
  ⟨World.ownsRow_made w _ n (Nat.le_refl _) (by simp only[maxLen];omega) (by simp[size_madeCells]),(Ch.refl _ w).alloc _⟩
 have O1:=ah o1;have HL:=ah hl;have m_:=ah h;have HG:=ah hg;have HV:Hid (∀k (hk:k<l.length),(l.map fun x=>Value.int .i64 (f x.row)).take (k+1)=(l.map fun x=>Value.int .i64 (f x.row)).take k++[Value.int .i64 (f l[k].row)]):=ah (fun k hk=>by rw[List.take_succ_eq_append_getElem (by simpa using hk)];simp);have HE:Hid ((l.map fun x=>Value.int .i64 (f x.row)).length=n):=ah (by rw[List.length_map];exact hl);clear hl h hg o1;generalize (l.map fun x=>Value.int .i64 (f x.row))=G at *;go_enter Tryz.func98,Tryz.ntmps98;go_wp2_with fail;generalize (w.alloc (.cells (madeCells #[.int .i64 0] n) 2))=w1 at *;clear hmk;go_loopw [5,13] (fun v i wr=>∃k:Nat,k<=n/\i=.int .i64 (k:Int)/\Hid (ay w wr 2 1 v k (G.take k))) (fun _ i _=>n-(intOf i).toNat)
 case atStart=>exact ⟨0,Nat.zero_le _,rfl,O1⟩
 case round=>
  obtain ⟨w4,rfl⟩:∃w4:World,w4=wr:=⟨_,rfl⟩;obtain ⟨k,hkn,rfl,HO⟩:=hrel;by_cases hlt:k<n
  ·have hkl:k<l.length:=by rw[HL.out];exact hlt
   obtain ⟨ad,rfl, -,p0,p1,p2,p3,p4,p5,p6,p7,p8⟩:=z2n (m_.out.nx (by decide) HO.out.nx) hkl;have HC:=ah (fun w' (c':Nx w4 w')=>HG.out w' (HO.out.nx.tr c') _ (List.getElem_mem hkl));have HV1:=ah (HV.out k hkl);generalize l[k]=x at *;obtain ⟨⟨kind,time,aB,text,value,null,maker,seq,place⟩,A1,c1⟩:=x;unfold bV at HC;simp only at p0 p1 p2 p3 p4 p5 p6 p7 p8 HC HV1;generalize f ⟨kind,time,aB,text,value,null,maker,seq,place⟩=y at *;go_wp2_with fail;refine (HC.out _ ((Ch.refl _ w4).alloc _)).mono ?_;rintro e w5 ⟨rfl,n5⟩;have o5:=HO.out.tr (((Ch.refl _ w4).alloc _).tr n5);clear n5 p0 p1 p2 p3 p4 p5 p6 p7 p8;go_wp2_with (at_builtin;refine z08 rfl (.tmp 17) (.tmp 21) _ rfl 2 i0 _ 8 Tryz.underlying114 hi0 hz0 hz1 hz2 rfl (Value.int .i64 y) rfl rfl o5 rfl (by simp only[maxLen];omega) (by omega) ?_;intro v7 w7 o7 m7;have O7:=ah o7;clear o7 m7 o5)
   go_roundw
   case rel=>exact ⟨k+1,by omega,by go_num,by rw[HV1.out];exact O7⟩
   case measure=>simp[intOf];omega
  ·have hkn2:n=k:=by omega
   have hr:Hid (G.take k=G):=ah (List.take_of_length_le (by rw[HE.out];omega));go_wp2_with fail;go_ret;refine ⟨_,rfl,?_⟩;have:=HO.out;rw[hr.out,←hkn2]at this;exact this
theorem Rz {w:World} {D:Nat->Prop} {A:Option Addr} {n c:Nat} {l:List RV} (f:au->Int) (h:Rd w D 9 A n (ji l)) (hl:l.length=n) (hn:n<=1000000)
 (hg:∀w',Nx w w'->∀x∈l,Calls Tryz.prog 103 #[bV x] w' fun e w''=>e=.returned (Value.int .i64 (f x.row))/\Nx w' w''):
 Calls Tryz.prog 98 #[.slice A n c,.func (.func 103) #[] #[]] w (Gives w 2 1 n (l.map fun x=>Value.int .i64 (f x.row))):=by
 obtain ⟨i0,hi0,hz0,hz1,hz2⟩:=info_parts Tryz.kC
 have hmk:∀w:World,(Instr.makeSlice 114 (.int .i64 0) (.int .i64 (n:Int))).run Tryz.prog w=.ok (.slice (some ⟨w.heap.size,0,none⟩) 0 n) (w.alloc (.cells (madeCells #[.int .i64 0] n) 2)):=fun w=>by
  have:=run_make (P:=Tryz.prog) w 114 2 i0 (.int .i64 0) Tryz.underlying114 hi0 hz0 .i64 .i64 0 (n:Int) (by omega) (by omega) (by rw[hz2];omega) (by omega);rw[hz1,show (n:Int).toNat=n by omega,Nat.mul_one]at this;exact this
 have o1:ay w (w.alloc (.cells (madeCells #[.int .i64 0] n) 2)) 2 1 (.slice (some ⟨w.heap.size,0,none⟩) 0 n) 0 []:=
  ⟨World.ownsRow_made w _ n (Nat.le_refl _) (by simp only[maxLen];omega) (by simp[size_madeCells]),(Ch.refl _ w).alloc _⟩
 have O1:=ah o1;have HL:=ah hl;have m_:=ah h;have HG:=ah hg;have HV:Hid (∀k (hk:k<l.length),(l.map fun x=>Value.int .i64 (f x.row)).take (k+1)=(l.map fun x=>Value.int .i64 (f x.row)).take k++[Value.int .i64 (f l[k].row)]):=ah (fun k hk=>by rw[List.take_succ_eq_append_getElem (by simpa using hk)];simp);have HE:Hid ((l.map fun x=>Value.int .i64 (f x.row)).length=n):=ah (by rw[List.length_map];exact hl);clear hl h hg o1;generalize (l.map fun x=>Value.int .i64 (f x.row))=G at *;go_enter Tryz.func98,Tryz.ntmps98;go_wp2_with fail;generalize (w.alloc (.cells (madeCells #[.int .i64 0] n) 2))=w1 at *;clear hmk;go_loopw [5,13] (fun v i wr=>∃k:Nat,k<=n/\i=.int .i64 (k:Int)/\Hid (ay w wr 2 1 v k (G.take k))) (fun _ i _=>n-(intOf i).toNat)
 case atStart=>exact ⟨0,Nat.zero_le _,rfl,O1⟩
 case round=>
  obtain ⟨w4,rfl⟩:∃w4:World,w4=wr:=⟨_,rfl⟩;obtain ⟨k,hkn,rfl,HO⟩:=hrel;by_cases hlt:k<n
  ·have hkl:k<l.length:=by rw[HL.out];exact hlt
   obtain ⟨ad,rfl, -,p0,p1,p2,p3,p4,p5,p6,p7,p8⟩:=z2n (m_.out.nx (by decide) HO.out.nx) hkl;have HC:=ah (fun w' (c':Nx w4 w')=>HG.out w' (HO.out.nx.tr c') _ (List.getElem_mem hkl));have HV1:=ah (HV.out k hkl);generalize l[k]=x at *;obtain ⟨⟨kind,time,aB,text,value,null,maker,seq,place⟩,A1,c1⟩:=x;unfold bV at HC;simp only at p0 p1 p2 p3 p4 p5 p6 p7 p8 HC HV1;generalize f ⟨kind,time,aB,text,value,null,maker,seq,place⟩=y at *;go_wp2_with fail;refine (HC.out _ ((Ch.refl _ w4).alloc _)).mono ?_;rintro e w5 ⟨rfl,n5⟩;have o5:=HO.out.tr (((Ch.refl _ w4).alloc _).tr n5);clear n5 p0 p1 p2 p3 p4 p5 p6 p7 p8;go_wp2_with (at_builtin;refine z08 rfl (.tmp 17) (.tmp 21) _ rfl 2 i0 _ 8 Tryz.underlying114 hi0 hz0 hz1 hz2 rfl (Value.int .i64 y) rfl rfl o5 rfl (by simp only[maxLen];omega) (by omega) ?_;intro v7 w7 o7 m7;have O7:=ah o7;clear o7 m7 o5)
   go_roundw
   case rel=>exact ⟨k+1,by omega,by go_num,by rw[HV1.out];exact O7⟩
   case measure=>simp[intOf];omega
  ·have hkn2:n=k:=by omega
   have hr:Hid (G.take k=G):=ah (List.take_of_length_le (by rw[HE.out];omega));go_wp2_with fail;go_ret;refine ⟨_,rfl,?_⟩;have:=HO.out;rw[hr.out,←hkn2]at this;exact this
theorem KN {w:World} {D:Nat->Prop} {A:Option Addr} {n c:Nat} {l:List RV} (f:au->ByteArray) (h:Rd w D 9 A n (ji l)) (hl:l.length=n) (hn:n<=1000000)
 (hg:∀w',Nx w w'->∀x∈l,Calls Tryz.prog 45 #[bV x] w' fun e w''=>e=.returned (Value.string (f x.row))/\Nx w' w''):
 Calls Tryz.prog 44 #[.slice A n c,.func (.func 45) #[] #[]] w (Gives w 9 1 n (l.map fun x=>Value.string (f x.row))):=by
 obtain ⟨i0,hi0,hz0,hz1,hz2⟩:=info_parts Tryz.jH
 have hmk:∀w:World,(Instr.makeSlice 80 (.int .i64 0) (.int .i64 (n:Int))).run Tryz.prog w=.ok (.slice (some ⟨w.heap.size,0,none⟩) 0 n) (w.alloc (.cells (madeCells #[.string ⟨#[]⟩] n) 9)):=fun w=>by
  have:=run_make (P:=Tryz.prog) w 80 9 i0 (.string ⟨#[]⟩) Tryz.underlying80 hi0 hz0 .i64 .i64 0 (n:Int) (by omega) (by omega) (by rw[hz2];omega) (by omega);rw[hz1,show (n:Int).toNat=n by omega,Nat.mul_one]at this;exact this
 have o1:ay w (w.alloc (.cells (madeCells #[.string ⟨#[]⟩] n) 9)) 9 1 (.slice (some ⟨w.heap.size,0,none⟩) 0 n) 0 []:=
  ⟨World.ownsRow_made w _ n (Nat.le_refl _) (by simp only[maxLen];omega) (by simp[size_madeCells]),(Ch.refl _ w).alloc _⟩
 have O1:=ah o1;have HL:=ah hl;have m_:=ah h;have HG:=ah hg;have HV:Hid (∀k (hk:k<l.length),(l.map fun x=>Value.string (f x.row)).take (k+1)=(l.map fun x=>Value.string (f x.row)).take k++[Value.string (f l[k].row)]):=ah (fun k hk=>by rw[List.take_succ_eq_append_getElem (by simpa using hk)];simp);have HE:Hid ((l.map fun x=>Value.string (f x.row)).length=n):=ah (by rw[List.length_map];exact hl);clear hl h hg o1;generalize (l.map fun x=>Value.string (f x.row))=G at *;go_enter Tryz.func44,Tryz.ntmps44;go_wp2_with fail;generalize (w.alloc (.cells (madeCells #[.string ⟨#[]⟩] n) 9))=w1 at *;clear hmk;go_loopw [5,13] (fun v i wr=>∃k:Nat,k<=n/\i=.int .i64 (k:Int)/\Hid (ay w wr 9 1 v k (G.take k))) (fun _ i _=>n-(intOf i).toNat)
 case atStart=>exact ⟨0,Nat.zero_le _,rfl,O1⟩
 case round=>
  obtain ⟨w4,rfl⟩:∃w4:World,w4=wr:=⟨_,rfl⟩;obtain ⟨k,hkn,rfl,HO⟩:=hrel;by_cases hlt:k<n
  ·have hkl:k<l.length:=by rw[HL.out];exact hlt
   obtain ⟨ad,rfl, -,p0,p1,p2,p3,p4,p5,p6,p7,p8⟩:=z2n (m_.out.nx (by decide) HO.out.nx) hkl;have HC:=ah (fun w' (c':Nx w4 w')=>HG.out w' (HO.out.nx.tr c') _ (List.getElem_mem hkl));have HV1:=ah (HV.out k hkl);generalize l[k]=x at *;obtain ⟨⟨kind,time,aB,text,value,null,maker,seq,place⟩,A1,c1⟩:=x;unfold bV at HC;simp only at p0 p1 p2 p3 p4 p5 p6 p7 p8 HC HV1;generalize f ⟨kind,time,aB,text,value,null,maker,seq,place⟩=y at *;go_wp2_with fail;refine (HC.out _ ((Ch.refl _ w4).alloc _)).mono ?_;rintro e w5 ⟨rfl,n5⟩;have o5:=HO.out.tr (((Ch.refl _ w4).alloc _).tr n5);clear n5 p0 p1 p2 p3 p4 p5 p6 p7 p8;go_wp2_with (at_builtin;refine z08 rfl (.tmp 17) (.tmp 21) _ rfl 9 i0 _ 16 Tryz.underlying80 hi0 hz0 hz1 hz2 rfl (Value.string y) rfl rfl o5 rfl (by simp only[maxLen];omega) (by omega) ?_;intro v7 w7 o7 m7;have O7:=ah o7;clear o7 m7 o5)
   go_roundw
   case rel=>exact ⟨k+1,by omega,by go_num,by rw[HV1.out];exact O7⟩
   case measure=>simp[intOf];omega
  ·have hkn2:n=k:=by omega
   have hr:Hid (G.take k=G):=ah (List.take_of_length_le (by rw[HE.out];omega));go_wp2_with fail;go_ret;refine ⟨_,rfl,?_⟩;have:=HO.out;rw[hr.out,←hkn2]at this;exact this
theorem Ry {w:World} {D:Nat->Prop} {A:Option Addr} {n c:Nat} {l:List RV} (f:au->ByteArray) (h:Rd w D 9 A n (ji l)) (hl:l.length=n) (hn:n<=1000000)
 (hg:∀w',Nx w w'->∀x∈l,Calls Tryz.prog 102 #[bV x] w' fun e w''=>e=.returned (Value.string (f x.row))/\Nx w' w''):
 Calls Tryz.prog 44 #[.slice A n c,.func (.func 102) #[] #[]] w (Gives w 9 1 n (l.map fun x=>Value.string (f x.row))):=by
 obtain ⟨i0,hi0,hz0,hz1,hz2⟩:=info_parts Tryz.jH
 have hmk:∀w:World,(Instr.makeSlice 80 (.int .i64 0) (.int .i64 (n:Int))).run Tryz.prog w=.ok (.slice (some ⟨w.heap.size,0,none⟩) 0 n) (w.alloc (.cells (madeCells #[.string ⟨#[]⟩] n) 9)):=fun w=>by
  have:=run_make (P:=Tryz.prog) w 80 9 i0 (.string ⟨#[]⟩) Tryz.underlying80 hi0 hz0 .i64 .i64 0 (n:Int) (by omega) (by omega) (by rw[hz2];omega) (by omega);rw[hz1,show (n:Int).toNat=n by omega,Nat.mul_one]at this;exact this
 have o1:ay w (w.alloc (.cells (madeCells #[.string ⟨#[]⟩] n) 9)) 9 1 (.slice (some ⟨w.heap.size,0,none⟩) 0 n) 0 []:=
  ⟨World.ownsRow_made w _ n (Nat.le_refl _) (by simp only[maxLen];omega) (by simp[size_madeCells]),(Ch.refl _ w).alloc _⟩
 have O1:=ah o1;have HL:=ah hl;have m_:=ah h;have HG:=ah hg;have HV:Hid (∀k (hk:k<l.length),(l.map fun x=>Value.string (f x.row)).take (k+1)=(l.map fun x=>Value.string (f x.row)).take k++[Value.string (f l[k].row)]):=ah (fun k hk=>by rw[List.take_succ_eq_append_getElem (by simpa using hk)];simp);have HE:Hid ((l.map fun x=>Value.string (f x.row)).length=n):=ah (by rw[List.length_map];exact hl);clear hl h hg o1;generalize (l.map fun x=>Value.string (f x.row))=G at *;go_enter Tryz.func44,Tryz.ntmps44;go_wp2_with fail;generalize (w.alloc (.cells (madeCells #[.string ⟨#[]⟩] n) 9))=w1 at *;clear hmk;go_loopw [5,13] (fun v i wr=>∃k:Nat,k<=n/\i=.int .i64 (k:Int)/\Hid (ay w wr 9 1 v k (G.take k))) (fun _ i _=>n-(intOf i).toNat)
 case atStart=>exact ⟨0,Nat.zero_le _,rfl,O1⟩
 case round=>
  obtain ⟨w4,rfl⟩:∃w4:World,w4=wr:=⟨_,rfl⟩;obtain ⟨k,hkn,rfl,HO⟩:=hrel;by_cases hlt:k<n
  ·have hkl:k<l.length:=by rw[HL.out];exact hlt
   obtain ⟨ad,rfl, -,p0,p1,p2,p3,p4,p5,p6,p7,p8⟩:=z2n (m_.out.nx (by decide) HO.out.nx) hkl;have HC:=ah (fun w' (c':Nx w4 w')=>HG.out w' (HO.out.nx.tr c') _ (List.getElem_mem hkl));have HV1:=ah (HV.out k hkl);generalize l[k]=x at *;obtain ⟨⟨kind,time,aB,text,value,null,maker,seq,place⟩,A1,c1⟩:=x;unfold bV at HC;simp only at p0 p1 p2 p3 p4 p5 p6 p7 p8 HC HV1;generalize f ⟨kind,time,aB,text,value,null,maker,seq,place⟩=y at *;go_wp2_with fail;refine (HC.out _ ((Ch.refl _ w4).alloc _)).mono ?_;rintro e w5 ⟨rfl,n5⟩;have o5:=HO.out.tr (((Ch.refl _ w4).alloc _).tr n5);clear n5 p0 p1 p2 p3 p4 p5 p6 p7 p8;go_wp2_with (at_builtin;refine z08 rfl (.tmp 17) (.tmp 21) _ rfl 9 i0 _ 16 Tryz.underlying80 hi0 hz0 hz1 hz2 rfl (Value.string y) rfl rfl o5 rfl (by simp only[maxLen];omega) (by omega) ?_;intro v7 w7 o7 m7;have O7:=ah o7;clear o7 m7 o5)
   go_roundw
   case rel=>exact ⟨k+1,by omega,by go_num,by rw[HV1.out];exact O7⟩
   case measure=>simp[intOf];omega
  ·have hkn2:n=k:=by omega
   have hr:Hid (G.take k=G):=ah (List.take_of_length_le (by rw[HE.out];omega));go_wp2_with fail;go_ret;refine ⟨_,rfl,?_⟩;have:=HO.out;rw[hr.out,←hkn2]at this;exact this
theorem RH {w:World} {D:Nat->Prop} {A:Option Addr} {n c:Nat} {l:List RV} (f:au->Bool) (h:Rd w D 9 A n (ji l)) (hl:l.length=n) (hn:n<=1000000)
 (hg:∀w',Nx w w'->∀x∈l,Calls Tryz.prog 106 #[bV x] w' fun e w''=>e=.returned (Value.bool (f x.row))/\Nx w' w''):
 Calls Tryz.prog 105 #[.slice A n c,.func (.func 106) #[] #[]] w (Gives w 4 1 n (l.map fun x=>Value.bool (f x.row))):=by
 obtain ⟨i0,hi0,hz0,hz1,hz2⟩:=info_parts Tryz.Il
 have hmk:∀w:World,(Instr.makeSlice 120 (.int .i64 0) (.int .i64 (n:Int))).run Tryz.prog w=.ok (.slice (some ⟨w.heap.size,0,none⟩) 0 n) (w.alloc (.cells (madeCells #[.bool false] n) 4)):=fun w=>by
  have:=run_make (P:=Tryz.prog) w 120 4 i0 (.bool false) Tryz.underlying120 hi0 hz0 .i64 .i64 0 (n:Int) (by omega) (by omega) (by rw[hz2];omega) (by omega);rw[hz1,show (n:Int).toNat=n by omega,Nat.mul_one]at this;exact this
 have o1:ay w (w.alloc (.cells (madeCells #[.bool false] n) 4)) 4 1 (.slice (some ⟨w.heap.size,0,none⟩) 0 n) 0 []:=
  ⟨World.ownsRow_made w _ n (Nat.le_refl _) (by simp only[maxLen];omega) (by simp[size_madeCells]),(Ch.refl _ w).alloc _⟩
 have O1:=ah o1;have HL:=ah hl;have m_:=ah h;have HG:=ah hg;have HV:Hid (∀k (hk:k<l.length),(l.map fun x=>Value.bool (f x.row)).take (k+1)=(l.map fun x=>Value.bool (f x.row)).take k++[Value.bool (f l[k].row)]):=ah (fun k hk=>by rw[List.take_succ_eq_append_getElem (by simpa using hk)];simp);have HE:Hid ((l.map fun x=>Value.bool (f x.row)).length=n):=ah (by rw[List.length_map];exact hl);clear hl h hg o1;generalize (l.map fun x=>Value.bool (f x.row))=G at *;go_enter Tryz.func105,Tryz.ntmps105;go_wp2_with fail;generalize (w.alloc (.cells (madeCells #[.bool false] n) 4))=w1 at *;clear hmk;go_loopw [5,13] (fun v i wr=>∃k:Nat,k<=n/\i=.int .i64 (k:Int)/\Hid (ay w wr 4 1 v k (G.take k))) (fun _ i _=>n-(intOf i).toNat)
 case atStart=>exact ⟨0,Nat.zero_le _,rfl,O1⟩
 case round=>
  obtain ⟨w4,rfl⟩:∃w4:World,w4=wr:=⟨_,rfl⟩;obtain ⟨k,hkn,rfl,HO⟩:=hrel;by_cases hlt:k<n
  ·have hkl:k<l.length:=by rw[HL.out];exact hlt
   obtain ⟨ad,rfl, -,p0,p1,p2,p3,p4,p5,p6,p7,p8⟩:=z2n (m_.out.nx (by decide) HO.out.nx) hkl;have HC:=ah (fun w' (c':Nx w4 w')=>HG.out w' (HO.out.nx.tr c') _ (List.getElem_mem hkl));have HV1:=ah (HV.out k hkl);generalize l[k]=x at *;obtain ⟨⟨kind,time,aB,text,value,null,maker,seq,place⟩,A1,c1⟩:=x;unfold bV at HC;simp only at p0 p1 p2 p3 p4 p5 p6 p7 p8 HC HV1;generalize f ⟨kind,time,aB,text,value,null,maker,seq,place⟩=y at *;go_wp2_with fail;refine (HC.out _ ((Ch.refl _ w4).alloc _)).mono ?_;rintro e w5 ⟨rfl,n5⟩;have o5:=HO.out.tr (((Ch.refl _ w4).alloc _).tr n5);clear n5 p0 p1 p2 p3 p4 p5 p6 p7 p8;go_wp2_with (at_builtin;refine z08 rfl (.tmp 17) (.tmp 21) _ rfl 4 i0 _ 1 Tryz.underlying120 hi0 hz0 hz1 hz2 rfl (Value.bool y) rfl rfl o5 rfl (by simp only[maxLen];omega) (by omega) ?_;intro v7 w7 o7 m7;have O7:=ah o7;clear o7 m7 o5)
   go_roundw
   case rel=>exact ⟨k+1,by omega,by go_num,by rw[HV1.out];exact O7⟩
   case measure=>simp[intOf];omega
  ·have hkn2:n=k:=by omega
   have hr:Hid (G.take k=G):=ah (List.take_of_length_le (by rw[HE.out];omega));go_wp2_with fail;go_ret;refine ⟨_,rfl,?_⟩;have:=HO.out;rw[hr.out,←hkn2]at this;exact this
def zX (W w:World) (g:Nat) (xs:List Nat):Prop:=∃v,aJ w g 26 #[v]/\ay W w 5 1 v xs.length (bl xs)
def Lu (w w':World):Prop:=∀b t cs,t≠5->t≠26->aJ w b t cs->aJ w' b t cs
theorem Lu.of {w w':World} {g:Nat} {v:Value} {W:World} {n:Nat} {xs:List Value} (hb:aJ w g 26 #[v]) (ho:ay W w 5 1 v n xs) (c:Ch (fun k=>k=g∨v.ownBlock=some k) w w'):Lu w w':=fun b t cs h1 h2 h=>h.ch c (by
 rintro (e|e)
 ·subst e
  exact aJ.RP h hb h2 rfl
 ·exact z06 ho.own h (Ne.symm h1) e)
def UN (W w:World) (g:Nat) (zs:List Nat) (e:Ending) (w':World):Prop:=e=.returned (.tuple #[])/\zX W w' g zs/\Lu w w'
theorem Ut {W w:World} {g:Nat} {v:Value} {xs ys:List Nat} {B:Option Addr} {m c:Nat} {D:Nat->Prop} (hb:aJ w g 26 #[v]) (ho:ay W w 5 1 v xs.length (bl xs)) (hW:W.heap.size<=g) (hy:Rd w D 1 B m (bl ys)) (hl:ys.length=m) (hD:∀k,D k->v.ownBlock≠some k) (er:Int)
 (hs:xs.length+ys.length<=100000000):
 Calls Tryz.prog 90 #[.slice B m c,.int .i64 er,.pointer (some ⟨g,0,none⟩)] w (UN W w g (xs++dA ys)):=by
 obtain ⟨i0,hi0,hz0,hz1,hz2⟩:=info_parts Tryz.info5;have HPU:=ah (fun (w:World)=>Yv m w (by omega));have HW:Hid (xs++dA ys=xs++ak m++ys):=ah (by rw[←hl];simp[dA]);have hpl:=(z05 (n:=m) (by omega)).2;have HB:=ah hb;have HO:=ah ho;have HY:=ah hy;have kw:IntKind.u64.wrap (m:Int)=(m:Int):=by rw[IntKind.wrap_u64];omega
 have hne:=z06 ho.own hb (by decide);have HNE:=ah hne;have c0:w.drew.cell? ⟨g,0,none⟩=some v:=hb.cell 0;clear hb ho hy hne;generalize xs++dA ys=Z at *;go_enter Tryz.func90,Tryz.ntmps90;refine Qc (fun _=>True) (fun _=>false) rfl trivial (fun hS0=>?_)
 try simp only[Act.put,eu,dY,dZ]
 refine z00 (i:=1) (oi:=_) (v:=?_) rfl (fun _ _ _ h=>h) (Or.inl ⟨by rfl,?_⟩) ?_;rotate_left
 ·(intro w hSw;(try dsimp only at hSw);go_split_ands;go_simp;try with_reducible rfl)
 try simp only[Act.put,List.setIfInBounds_toArray]
 refine z00 (i:=2) (oi:=_) (v:=?_) rfl (fun _ _ _ h=>h) (Or.inl ⟨by rfl,?_⟩) ?_;rotate_left
 ·(intro w hSw;(try dsimp only at hSw);go_split_ands;go_simp;try with_reducible rfl)
 try simp only[Act.put]
 refine z00 (i:=3) (oi:=_) (v:=?_) rfl (fun _ _ _ h=>h) (Or.inl ⟨by rfl,?_⟩) ?_;rotate_left
 ·(intro w hSw;(try dsimp only at hSw);go_split_ands;go_simp;try with_reducible rfl)
 try simp only[Act.put]
 refine z00 (i:=6) (oi:=_) (v:=?_) rfl (fun _ _ _ h=>h) (Or.inl ⟨by rfl,?_⟩) ?_;rotate_left
 ·(intro w hSw;(try dsimp only at hSw);go_split_ands;go_simp;try with_reducible rfl)
 try simp only[Act.put]
 refine z2E (fun w'=>w'.cell? ⟨g,0,none⟩=some v) (fun i=>decide (i=5∨i=7∨i=8)) (fun _=>trivial) ?_;have hSS:(fun w'=>w'.cell? ⟨g,0,none⟩=some v) w.drew:=c0;refine z00 (i:=0) (oi:=_) (v:=?_) rfl (fun _ _ _ h=>h) (Or.inl ⟨by rfl,?_⟩) ?_;rotate_left
 ·(intro w hSw;(try dsimp only at hSw);go_split_ands;go_simp;try with_reducible rfl)
 try simp only[Act.put]
 refine z02 (rs:=[4]) (by kernel_rfl) (by simp) (z01.cons (o:=_) rfl (fun K hK=>?_) z01.nil);go_simp;refine (HPU.out _).mono ?_;rintro e w3 ⟨k3,cap3,rfl,o3,hk3,hk3',hc3, -⟩;have N3:=ah (((Ch.refl (fun _=>False) w).drew).tr o3.nx);have OV:=ah (HO.out.tr N3.out);have BV:=ah (HB.out.nx N3.out);have R3:=ah o3.jZ;have c3:w3.cell? ⟨g,0,none⟩=some v:=BV.out.cell 0;have RY:=ah (HY.out.nx (by decide) N3.out);have aaA:w.heap.size<=k3:=hk3;have hlt3:∀k,v.ownBlock=some k->k≠k3:=fun k e=>by have:=(HO.out.lt k e).2;omega
 clear o3;refine hK.out _ _ (fun _=>c3) (fun aj=>?_);have hHeld:=aj (by decide);clear hK K aj
 try simp only[Act.put,eu,dY,dZ]
 refine z02 (rs:=[5]) (by kernel_rfl) (by simp) (z01.cons (o:=_) rfl (fun K hK=>?_) z01.nil);refine PG _ rfl (.tmp 5) (.tmp 9) _ rfl W.heap.size 5 i0 _ 1 1 Tryz.underlying26 hi0 hz0 hz1 hz2 rfl (by omega) v xs.length (bl xs) rfl OV.out.own _ (some ⟨k3,0,none⟩) (ak m).length cap3 (bl (ak m)) rfl R3.out (kR _) (by simp only[maxLen];omega) (by omega) OV.out.nx.size ?_;intro v5 w5 adA gr5 at5;obtain ⟨o5,m5⟩:=VH OV.out (Ch.refl _ _) adA gr5 at5;have O5:=ah o5;have M5:=ah m5;have RY5:=ah (RY.out.ch (by decide) m5.ch (fun k _ hk e=>hD k hk e));clear adA gr5 at5 o5 m5;refine hK.out _ _ (fun h=>absurd h (by decide)) (fun aj=>?_);clear hK K aj
 try simp only[Act.put,List.setIfInBounds_toArray]
 refine z02 (rs:=[7]) (by kernel_rfl) (by simp) (z01.cons (o:=_) rfl (fun K hK=>?_) z01.nil);refine PG _ rfl (.tmp 10) (.tmp 11) _ rfl W.heap.size 5 i0 _ 1 1 Tryz.underlying26 hi0 hz0 hz1 hz2 rfl (by omega) v5 (xs.length+(ak m).length) (bl xs++bl (ak m)) rfl O5.out.own D B m c (bl ys) rfl RY5.out (kR _) (by simp only[maxLen];omega) (by omega) O5.out.nx.size ?_;intro v7 w7 ng gr7 at7;obtain ⟨o7,m7⟩:=VH O5.out (Ch.refl _ _) ng gr7 at7;have O7:=ah o7;have M7:=ah m7;have hv5:v5.ownBlock≠some g:=z06 O5.out.own (BV.out.ch M5.out.ch HNE.out) (by decide);have B7:=ah ((BV.out.ch M5.out.ch HNE.out).ch m7.ch hv5);have f7:w7.frozen? ⟨g,0,none⟩=false:=B7.out.frozen 0;have c7:w7.cell? ⟨g,0,none⟩=some v:=B7.out.cell 0;obtain ⟨A7,cp7,rfl, -, -⟩:=o7.form;clear ng gr7 at7 o7 m7 hv5;refine hK.out _ _ (fun h=>absurd h (by decide)) (fun aj=>?_);clear hK K aj
 try simp only[Act.put]
 refine z02 (rs:=[8]) (by kernel_rfl) (by simp) (z01.cons (o:=_) rfl (fun K hK=>?_) z01.nil);go_simp;refine hK.out _ _ (fun h=>absurd h (by decide)) (fun aj=>?_);clear hK K aj
 try simp only[Act.put,eu,dY,dZ]
 refine JU (by kernel_rfl) ?_ _;go_wp2_with fail;refine bodyPost_ret (results_none rfl _ _ _) rfl ?_;have hv7:(Value.slice A7 (xs.length+(ak m).length+m) cp7).ownBlock≠some g:=z06 O7.out.own B7.out (by decide);have cs:Ch (fun k=>k=g) w7 (w7.setCell ⟨g,0,none⟩ (.slice A7 (xs.length+(ak m).length+m) cp7)):=Ch.setCell (S:=fun k=>k=g) (Ch.refl _ w7) (p:=⟨g,0,none⟩) (fun _=>rfl) _;refine ⟨rfl,⟨_,B7.out.dX 0 _,?_⟩,Lu.of HB.out HO.out ?_⟩
 ·rw[HW.out,←hl]
  have:=O7.out.ch cs (fun k e h=>hv7 (by rw[e,h])) (fun i hi e=>by omega);rw[←hl]at this;simpa [bl,Nat.add_assoc]using this
 ·refine (((N3.out.mono (fun _ _ hf=>hf.elim)).trans M5.out.ch (fun i _ e=>.inr e)).trans M7.out.ch (fun i hi e=>?_)).trans cs (fun i _ e=>.inl e)
  rcases M5.out.at_ with h|⟨j,h,h2⟩
  ·right;rw[←h];exact e
  ·rw[h]at e
   injection e with e;have:=N3.out.size;omega
def BuTo (W w:World) (v:Value) (xs:List Nat) (z:Nat) (e:Ending) (w':World):Prop:=
 ∃v',e=.returned v'/\ay W w' 5 1 v' (xs++ak z).length (bl (xs++ak z))/\Moved w w' v v'
theorem aaU {W w:World} {v:Value} {xs:List Nat} {z:Nat} (ho:ay W w 5 1 v xs.length (bl xs)) (hz:z<9223372036854775808) (hs:xs.length<=100000000):
 Calls Tryz.prog 113 #[v,.int .i64 (z:Int)] w (BuTo W w v xs z):=by
 obtain ⟨i0,hi0,hz0,hz1,hz2⟩:=info_parts Tryz.info5;have HPU:=ah (fun (w:World)=>Yv z w (by omega));have hpl:=(z05 (n:=z) (by omega)).2;have HO:=ah ho;have kw:IntKind.u64.wrap (z:Int)=(z:Int):=by rw[IntKind.wrap_u64];omega
 obtain ⟨A,c,rfl, -, -⟩:=ho.form;clear ho;go_enter Tryz.func113,Tryz.ntmps113;go_wp2_with fail;refine (HPU.out _).mono ?_;rintro e w3 ⟨k3,cap3,rfl,o3,hk3,hk3',hc3, -⟩;have N3:=ah o3.nx;have OV:=ah (HO.out.tr N3.out);have R3:=ah o3.jZ;clear o3;go_wp2_with (at_builtin;refine z07 rfl (.tmp 5) (.tmp 8) _ rfl 5 i0 _ 1 1 Tryz.underlying26 hi0 hz0 hz1 hz2 rfl (by omega) rfl OV.out _ (some ⟨k3,0,none⟩) (ak z).length cap3 (bl (ak z)) rfl R3.out (kR _) (by simp only[maxLen];omega) (by omega) ?_;intro v5 w5 o5 m5;have O5:=ah o5;have M5:=ah m5;clear o5 m5)
 go_ret;refine ⟨_,rfl,?_,⟨(N3.out.mono (fun _ _ hf=>hf.elim)).trans M5.out.ch (fun i _ e=>e),?_⟩⟩
 ·have:=O5.out
  simpa [bl]using this
 ·rcases M5.out.at_ with e|⟨j,e,h⟩
  ·exact .inl e
  ·exact .inr ⟨j,e,Nat.le_trans N3.out.size h⟩
theorem Ir (a b:Nat) (ha:a<4611686018427387904) (hb:b<4611686018427387904):bits .or .i64 (a:Int) (b:Int)=((a|||b:Nat):Int):=by
 have hx:a|||b<2 ^ 62:=Nat.or_lt_two_pow (by omega) (by omega)
 show IntKind.i64.wrap ((BitVec.ofInt 64 (a:Int)|||BitVec.ofInt 64 (b:Int)).toNat:Int)=_
 rw[BitVec.toNat_or,ofInt_u64 a (by omega),ofInt_u64 b (by omega)];exact IntWalk.i64_in _ (by omega)
theorem ZR (a b k:Nat) (ha:a<2 ^ k):a|||b * 2 ^ k=a+b * 2 ^ k:=by
 rw[Nat.or_comm,Nat.mul_comm,←Nat.two_pow_add_eq_or_of_lt ha,Nat.add_comm]
theorem adB (a b k:Nat) (ha:a<2 ^ k) (hk:k<=24) (hb:b<256):bits .or .i64 (a:Int) (IntKind.i64.wrap ((b:Int) * 2 ^ k))=((a+b * 2 ^ k:Nat):Int):=by
 have h1:2 ^ k<=2 ^ 24:=Nat.pow_le_pow_right (by omega) hk;have h2:b * 2 ^ k<=255 * 2 ^ 24:=Nat.mul_le_mul (by omega) h1;have e1:((b:Int) * 2 ^ k)=((b * 2 ^ k:Nat):Int):=by push_cast;rfl
 rw[e1,IntWalk.i64_in _ (by omega),Ir _ _ (by omega) (by omega),ZR _ _ _ ha]
def R_ (b:List Nat):Nat->Nat
 |0=>0
 |k+1=>R_ b k+b.getD k 0 * 2 ^ (8 * k)
theorem Ie {b:List Nat} (ok:okB b):∀k,R_ b k<2 ^ (8 * k)
 |0=>by simp[R_]
 |k+1=>by
  have h1:=Ie ok k;have h2:=z19 ok k;have h3:b.getD k 0 * 2 ^ (8 * k)<=255 * 2 ^ (8 * k):=Nat.mul_le_mul_right _ (by omega);rw[R_,show 8 * (k+1)=8 * k+8 by omega,Nat.pow_add];omega
def le4 (b:List Nat):Nat:=b.getD 0 0+b.getD 1 0 * 256+b.getD 2 0 * 65536+b.getD 3 0 * 16777216
theorem adG (b:List Nat):R_ b 4=le4 b:=by simp[R_,le4]
theorem Z_ {b:List Nat} (ok:okB b):le4 b<4294967296:=by rw[←adG];exact Ie ok 4
def jO (b:List Nat) (size:Int):Int×Int×Int:=
 if b.length=8/\b.drop 4=[69,78,84,82]/\13<=size then
  if (le4 b:Int)<=size-13 then (size-8-le4 b,(le4 b:Int),0) else (0,0,4)
 else (0,0,4)
def abz (w:World) (t:Int×Int×Int) (e:Ending) (w':World):Prop:=e=.returned (.tuple #[.int .i64 t.1,.int .i64 t.2.1,.int .i64 t.2.2])/\Dr w w'
theorem DZ {w:World} {D:Nat->Prop} {A:Option Addr} {n c:Nat} {b:List Nat} (hr:Rd w D 1 A n (bl b)) (ok:okB b) (hl:b.length=n) (hc:n<=c) (size:Int) (hs0: -9223372036854775808<=size) (hs1:size<=9223372036854775807):
 Calls Tryz.prog 23 #[.slice A n c,.int .i64 size] w (abz w (jO b size)):=by
 by_cases h8:n=8
 ·subst h8
  have hstr:=rX (P:=Tryz.prog) w 26 9 5 Tryz.underlying26 Tryz.underlying5 Tryz.underlying9;have hcut:=hr.cut (k:=4) (cap:=c) (by omega) hc;rw[Nat.mul_one,show (bl b).drop 4=bl (b.drop 4) by simp[bl,List.map_drop],if_neg (by omega)]at hcut;obtain ⟨ad,rfl, -, -⟩:=hr.2 (by omega);have hST:=fun (w':World) (c':Dr w w')=>rX (P:=Tryz.prog) w' 26 9 5 Tryz.underlying26 Tryz.underlying5 Tryz.underlying9 D _ _ (c-4) _ (hcut.nx (by decide) c'.nx);have hc4:¬c=4:=by omega
  have aaI:=fun q=>hST (w.drewN q) ⟨q,rfl⟩;have hadd:ad.add 4=⟨ad.block,ad.off+4,none⟩:=by simp[Addr.add]
  simp only[Option.map_some,hadd,show (8:Nat)-4=4 from rfl]at aaI;have KL:okB (b.drop 4):=fun x hx=>ok x (List.mem_of_mem_drop hx);by_cases hm:b.drop 4=[69,78,84,82]/\13<=size
  ·have ht:aX (b.drop 4)=⟨#[69,78,84,82]⟩:=by rw[hm.1];rfl
   rw[ht]at aaI;have hF:jO b size=if (le4 b:Int)<=size-13 then (size-8-le4 b,(le4 b:Int),0) else (0,0,4):=by unfold jO;rw[if_pos ⟨hl,hm⟩]
   have q2:decide (size<13)=false:=by rw[decide_eq_false_iff_not];omega
   have k1:IntKind.i64.wrap (size-8)=size-8:=IntWalk.i64_in _ (by omega);have k2:IntKind.i64.wrap (size-8-5)=size-13:=by rw[IntWalk.i64_in _ (by omega)];omega
   have hlt4:=Z_ ok;have HF:=ah hF;have mO:=ah ok;have HR:=ah hr;have HL:=ah hl;have h13:=hm.2;have qe:(([69,78,84,82]:List UInt8)==((⟨#[69,78,84,82,1]⟩:ByteArray).extract 0 4).toList)=true:=(by decide+kernel);clear hF ok hr hl hcut hST KL ht hm;go_enter Tryz.func23,Tryz.ntmps23;go_wp2_with fail;go_quiet (fail)
   go_wp2_with fail;go_loopw [7,23] (fun v i wr=>∃k:Nat,k<=4/\v=.int .i64 (R_ b k:Int)/\i=.int .i64 (k:Int)/\wr=w.drewN nq) (fun _ i _=>4-(intOf i).toNat)
   case atStart=>exact ⟨0,by omega,rfl,rfl,rfl⟩
   case round=>
    obtain ⟨k,hk,rfl,rfl,mX⟩:=hrel;rw[mX];clear mX;by_cases hlt:k<4
    ·obtain ⟨ad2,u,hA2,IB,hu,hcx⟩:=(HR.out.drewN nq).at_ (k:=k) (by omega)
     injection hA2 with hA2;subst hA2;rw[Pn (by rw[HL.out];omega)]at hu;injection hu with hu;subst hu;have hx:=z19 mO.out k;have hor:=adB (R_ b k) (b.getD k 0) (8 * k) (Ie mO.out k) (by omega) hx;rw[IntWalk.i64_left]at hor;have HS:Hid (R_ b (k+1)=R_ b k+b.getD k 0 * 2 ^ (8 * k)):=ah rfl;have k3:IntKind.i64.wrap (8 * (k:Int))=((8 * k:Nat):Int):=by rw[IntWalk.i64_in _ (by omega)];omega
     generalize R_ b k=a at *;generalize b.getD k 0=x at *;go_wp2_with fail;go_roundw
     case rel=>exact ⟨k+1,by omega,by rw[HS.out];exact congrArg (Value.int IntKind.i64) (by push_cast;rfl),by go_num,by first|rfl|trivial⟩
     case measure=>simp[intOf];omega
    ·have hk4:k=4:=by omega
     subst hk4;rw[adG];generalize le4 b=m at *;by_cases hmm:(m:Int)<=size-13
     ·have q5:decide (size-13<(m:Int))=false:=by rw[decide_eq_false_iff_not];omega
      have k4:IntKind.i64.wrap (size-8-(m:Int))=size-8-(m:Int):=IntWalk.i64_in _ (by omega);rw[if_pos hmm]at HF;clear hmm;go_wp2_with fail;exact bodyPost_ret (v:=.tuple #[.int .i64 (size-8-(m:Int)),.int .i64 (m:Int),.int .i64 0]) (by simp[results,Tryz.results23,go_sem]) rfl ⟨by rw[HF.out],⟨_,rfl⟩⟩
     ·have q5:decide (size-13<(m:Int))=true:=by rw[decide_eq_true_eq];omega
      rw[if_neg hmm]at HF;clear hmm;go_wp2_with fail;exact bodyPost_ret (v:=.tuple #[.int .i64 0,.int .i64 0,.int .i64 4]) (by simp[results,Tryz.results23,go_sem]) rfl ⟨by rw[HF.out],⟨_,rfl⟩⟩
  ·have HF:Hid (jO b size=(0,0,4)):=ah (by unfold jO;rw[if_neg (fun h=>hm h.2)])
   by_cases he:b.drop 4=[69,78,84,82]
   ·have ht:aX (b.drop 4)=⟨#[69,78,84,82]⟩:=by rw[he];rfl
    rw[ht]at aaI;have qe:(([69,78,84,82]:List UInt8)==((⟨#[69,78,84,82,1]⟩:ByteArray).extract 0 4).toList)=true:=(by decide+kernel);have q2:decide (size<13)=true:=by rw[decide_eq_true_eq];exact Int.not_le.1 fun h=>hm ⟨he,h⟩
    clear hr ok hl hcut hST KL ht hm he;go_enter Tryz.func23,Tryz.ntmps23;go_wp2_with fail;go_quiet (fail)
    go_wp2_with fail;exact bodyPost_ret (v:=.tuple #[.int .i64 0,.int .i64 0,.int .i64 4]) (by simp[results,Tryz.results23,go_sem]) rfl ⟨by rw[HF.out],⟨_,rfl⟩⟩
   ·have qn:((aX (b.drop 4)).toList==((⟨#[69,78,84,82,1]⟩:ByteArray).extract 0 4).toList)=false:=by
     rw[nP,decide_eq_false_iff_not,show ((⟨#[69,78,84,82,1]⟩:ByteArray).extract 0 4)=aX [69,78,84,82] from by decide+kernel];exact fun e=>he (z5b KL (fun x hx=>by simp only[List.mem_cons,List.not_mem_nil,or_false]at hx;omega) e)
    clear hr ok hl hcut hST KL hm he;generalize aX (b.drop 4)=T at *;go_enter Tryz.func23,Tryz.ntmps23;go_wp2_with fail;go_quiet (fail)
    go_wp2_with fail;exact bodyPost_ret (v:=.tuple #[.int .i64 0,.int .i64 0,.int .i64 4]) (by simp[results,Tryz.results23,go_sem]) rfl ⟨by rw[HF.out],⟨_,rfl⟩⟩
 ·have hF:jO b size=(0,0,4):=by unfold jO;rw[if_neg (by rw[hl];exact fun h=>h8 h.1)]
  have HF:=ah hF;have q8:((n:Int) !=8)=true:=by rw[bne_iff_ne];omega
  clear hF hr ok hl hc h8;go_enter Tryz.func23,Tryz.ntmps23;go_wp2_with fail;go_quiet (fail)
  go_wp2_with fail;exact bodyPost_ret (v:=.tuple #[.int .i64 0,.int .i64 0,.int .i64 4]) (by simp[results,Tryz.results23,go_sem]) rfl ⟨by rw[HF.out],⟨_,rfl⟩⟩
end Go.Proofs.YtpakjclpjcngmaaGreat
namespace Go.Proofs.YtpakjclpjcngmaaGreat
/-! rows in groups -/
theorem Zm {α:Type} (per:Nat) (l:List α):(bK per l).length=(l.length+per-1) / per:=by simp[bK]
theorem z4i {α:Type} {per:Nat} {l:List α} {i:Nat} (h:i<(bK per l).length):(bK per l)[i]=(l.drop (i * per)).take per:=by simp[bK]
theorem n_ {per n i:Nat} (hp:0<per):i<(n+per-1) / per↔i * per<n:=by
 rw[Nat.lt_div_iff_mul_lt hp];constructor
 ·intro h;omega
 ·intro h;omega
theorem z6d {α:Type} {per:Nat} (hp:0<per):bK per ([]:List α)=[]:=by
 have:(bK per ([]:List α)).length=0:=by rw[Zm];simp;omega
 exact List.eq_nil_of_length_eq_zero this
theorem Zy {α:Type} {per:Nat} {l:List α} (hp:0<per) (hl:0<l.length):bK per l=l.take per::bK per (l.drop per):=by
 apply List.ext_getElem
 ·rw[List.length_cons,Zm,Zm,List.length_drop]
  by_cases h:per<=l.length
  ·rw[show l.length+per-1=(l.length-per+per-1)+per by omega,Nat.add_div_right _ hp]
  ·rw[show l.length-per=0 by omega,Nat.zero_add,Nat.div_eq_of_lt (show per-1<per by omega)]
   exact Nat.div_eq_of_lt_le (by omega) (by omega)
 ·intro i h1 h2
  rw[z4i h1];cases i with
  |zero=>simp
  |succ i=>
   rw[List.getElem_cons_succ,z4i,List.drop_drop];congr 2
   rw[Nat.succ_mul,Nat.add_comm]
theorem qP {α:Type} {per:Nat} (hp:0<per):∀(n:Nat) (l:List α),l.length<=n->(bK per l).flatten=l
 |0,l,h=>by
  have:l=[]:=List.eq_nil_of_length_eq_zero (by omega);subst this;rw[z6d hp];rfl
 |n+1,l,h=>by
  by_cases h0:l.length=0
  ·have:l=[]:=List.eq_nil_of_length_eq_zero h0
   subst this;rw[z6d hp];rfl
  ·rw[Zy hp (by omega),List.flatten_cons,qP hp n (l.drop per) (by rw[List.length_drop];omega),List.take_append_drop]
theorem z4h {α:Type} {per:Nat} (hp:0<per) (l:List α):(bK per l).flatten=l:=qP hp l.length l (Nat.le_refl _)
theorem TV {α:Type} {per:Nat} (hp:0<per) {l g:List α} (hg:g∈bK per l):0<g.length/\g.length<=per/\g.length<=l.length/\(∀x∈g,x∈l)/\g<:+:l:=by
 obtain ⟨i,hi,rfl⟩:=List.mem_iff_getElem.1 hg;have h2:=hi;rw[Zm,n_ hp]at h2;rw[z4i hi];refine ⟨?_,?_,?_,fun x hx=>List.mem_of_mem_drop (List.mem_of_mem_take hx),(List.take_prefix _ _).isInfix.trans (List.drop_suffix _ _).isInfix⟩
 ·rw[List.length_take,List.length_drop];omega
 ·rw[List.length_take];omega
 ·rw[List.length_take,List.length_drop];omega
/-! the spans -/
theorem LQ:∀(gs:List (List au)) (a:Nat),(kS a gs).length=gs.length
 |[],_=>rfl
 |g::gs,a=>by rw[kS,List.length_cons,List.length_cons,LQ gs]
theorem z3p:∀(gs:List (List au)) (a k:Nat) (h:k<gs.length) (h2:k<(kS a gs).length),(kS a gs)[k]=⟨((a+(aP (gs.take k)).length:Nat):Int),(fZ gs[k]).length,gs[k].length,PX gs[k],lastT gs[k]⟩
 |g::gs,a,0,_,_=>by simp[kS,aP]
 |g::gs,a,k+1,h,h2=>by
  have ih:=z3p gs (a+(fZ g).length) k (by simpa using h) (by rw[LQ];simpa using h);simp only[kS,List.getElem_cons_succ,ih,aP,List.take_succ_cons,List.flatMap_cons,List.length_append,Nat.add_assoc]
theorem XD {gs:List (List au)} {k:Nat} (h:k<gs.length):(aP gs).drop (aP (gs.take k)).length=fZ gs[k]++aP (gs.drop (k+1)):=by
 have e:aP gs=aP (gs.take k)++(fZ gs[k]++aP (gs.drop (k+1))):=by
  unfold aP;rw[←List.flatMap_cons,←List.flatMap_append,←List.drop_eq_getElem_cons h,List.take_append_drop]
 conv=>lhs;arg 2;rw[e]
 rw[List.drop_left]
theorem Lp {gs:List (List au)} {k:Nat} (h:k<gs.length):(aP (gs.take k)).length+(fZ gs[k]).length<=(aP gs).length:=by
 have e:aP gs=aP (gs.take k)++(fZ gs[k]++aP (gs.drop (k+1))):=by
  unfold aP;rw[←List.flatMap_cons,←List.flatMap_append,←List.drop_eq_getElem_cons h,List.take_append_drop]
 have:=congrArg List.length e;rw[List.length_append,List.length_append]at this;omega
theorem z3G (gs:List (List au)):iF gs=headB++(aP gs++(fD gs++(four (fD gs).length++[69,78,84,82]))):=by simp[iF]
theorem z4J (gs:List (List au)):(iF gs).length=5+(aP gs).length+(fD gs).length+8:=by
 rw[z3G];simp only[List.length_append,headB,four,List.length_cons,List.length_nil];omega
theorem OY {gs:List (List au)} {k:Nat} (h:k<gs.length):((iF gs).drop (5+(aP (gs.take k)).length)).take (fZ gs[k]).length=fZ gs[k]:=by
 have h2:=Lp h;rw[z3G,←List.drop_drop,show (5:Nat)=headB.length from rfl,List.drop_left,List.drop_append_of_le_length (by omega),XD h,List.append_assoc,List.take_left]
theorem ru (gs:List (List au)):((iF gs).drop (5+(aP gs).length)).take (fD gs).length=fD gs:=by
 rw[z3G,←List.drop_drop,show (5:Nat)=headB.length from rfl,List.drop_left,List.drop_left,List.take_left]
theorem qY (gs:List (List au)):(iF gs).drop (5+(aP gs).length+(fD gs).length)=four (fD gs).length++[69,78,84,82]:=by
 rw[z3G,←List.drop_drop,←List.drop_drop,show (5:Nat)=headB.length from rfl,List.drop_left,List.drop_left,List.drop_left]
theorem Sl {n:Nat} (h:n<4294967296) (r:List Nat):le4 (four n++r)=n:=by
 unfold le4 four;simp only[List.cons_append,List.getD_cons_zero,List.getD_cons_succ];omega
theorem TQ {gs:List (List au)} (h:(iF gs).length<=262144):jO ((iF gs).drop ((iF gs).length-8)) (iF gs).length=(((5+(aP gs).length:Nat):Int),(((fD gs).length:Nat):Int),0):=by
 have hl:=z4J gs;rw[show (iF gs).length-8=5+(aP gs).length+(fD gs).length by omega,qY];unfold jO;rw[if_pos ⟨by simp[four],by simp[four],by omega⟩,Sl (by omega),if_pos (by omega)];congr 1
 omega
end Go.Proofs.YtpakjclpjcngmaaGreat
namespace Go.Proofs.YtpakjclpjcngmaaGreat
open Go.RowKit Go.Shelf
attribute [local go_sem] Oper.semAt_some
def dK (n per k:Nat):Nat:=min per (n-k * per)
def dJ (n per:Nat):Nat:=(n+per-1) / per
def zQ (A:Option Addr) (n per k:Nat):Value:=.slice (A.map fun ad=>ad.add (k * per * 9)) (dK n per k) (dK n per k)
def LP (p q:Nat) (W W':World):Prop:=W.heap.size<=W'.heap.size/\W'.heap[p]?=W.heap[p]?/\W'.heap[q]?=W.heap[q]?
theorem LP.refl (p q:Nat) (W:World):LP p q W W:=⟨Nat.le_refl _,rfl,rfl⟩
theorem LP.trans {p q:Nat} {A B C:World} (h:LP p q A B) (k:LP p q B C):LP p q A C:=⟨Nat.le_trans h.1 k.1,k.2.1.trans h.2.1,k.2.2.trans h.2.2⟩
theorem z6m {W W':World} {p:Nat} (h:W'.heap[p]?=W.heap[p]?) (i:Nat):W'.cell? ⟨p,i,none⟩=W.cell? ⟨p,i,none⟩:=by
 unfold World.cell?;simp only[h]
theorem OL (l p q:Nat) (A:Option Addr) (n c per:Nat) (mF:1<=per) (YL:per<=1000000) (hn:n<=1000000) (hc:n<=c) (hA:0<n->A≠none) (J:Nat->World->Prop) (Jx:World->Prop) (hJd:∀k W q,J k W->J k (W.drewN q))
 (hY:∀k W,J k W->k<dJ n per->YieldAt Fence.wide 8 Tryz.prog l #[zQ A n per k] W fun e W'=>
   (e=.returned (.bool true)/\J (k+1) W'/\LP p q W W')∨(e=.returned (.bool false)/\Jx W'))
 (W:World) (hp:W.cell? ⟨p,0,none⟩=some (.slice A n c)) (hq:W.cell? ⟨q,0,none⟩=some (.int .i64 (per:Int))) (h0:J 0 W):
 CallsIn Fence.wide 9 Tryz.prog 89 #[.func (.yield l) #[] #[],.pointer (some ⟨p,0,none⟩),.pointer (some ⟨q,0,none⟩)] W fun e W'=>(∃v,e=.returned v)/\
  (J (dJ n per) W'∨Jx W'):=by
 refine callsIn_of_wp Tryz.func89 rfl trivial ?_ rfl;simp only[Tryz.ntmps89,List.size_toArray,List.length_cons,List.length_nil,Nat.reduceAdd,Nat.reduceSub,Array.replicate_succ,Array.replicate_zero,List.push_toArray,List.append_toArray,List.nil_append,List.cons_append];gi_wp2
 gi_loopw [4] (fun i wr=>∃k:Nat,k<=dJ n per/\i=.int .i64 ((k * per:Nat):Int)/\J k wr/\LP p q W wr)
  (fun i _=>n+per-(intOf i).toNat)
 case atStart=>exact ⟨0,Nat.zero_le _,by simp,h0,LP.refl _ _ _⟩
 case round=>
  obtain ⟨k,hk,rfl,hJs,hnx⟩:=hrel;have p0:wr.cell? ⟨p,0,none⟩=some (.slice A n c):=(z6m hnx.2.1 0).trans hp;have q0:wr.cell? ⟨q,0,none⟩=some (.int .i64 (per:Int)):=(z6m hnx.2.2 0).trans hq;by_cases hlt:k<dJ n per
  ·have hlt2:k * per<n:=(n_ (by omega)).1 hlt
   obtain ⟨ad,rfl⟩:=Option.ne_none_iff_exists'.1 (hA (by omega));have HY:=ah fun q'=>hY k (wr.drewN q') (hJd _ _ _ hJs) hlt;have hm1:dK n per k=min per (n-k * per):=rfl;have hm2:0<dK n per k:=by rw[hm1];omega
   have hm3:k * per+dK n per k<=n:=by rw[hm1];omega
   have hmul:(k+1) * per=k * per+per:=Nat.succ_mul k per;have HMUL:=ah hmul;unfold zQ at HY;clear hmul hJs;unfold dK at HY hm1 hm2 hm3;clear hm1;generalize k * per=i at *;have e1:IntKind.i64.wrap ((n:Int)-(i:Int))=(n:Int)-i:=IntWalk.i64_in _ (by omega);gi_wp2
   refine wpIn_wide.2 ?_;go_quiet (fail)
   obtain ⟨fn,tmps,assign,body,hy,hR⟩:=HY.out nq;have eT:((i:Int)+min (per:Int) ((n-i:Nat):Int)).toNat-i=min per (n-i):=(by omega);rw[Option.map_some]at hy;gi_wp2
   refine hR.mono ?_;rintro e W3 (⟨rfl,hJ3,hk3⟩|⟨rfl,hJx3⟩)
   ·have hk4:LP p q W W3:=hnx.trans (LP.trans (B:=wr.drewN nq) ⟨Nat.le_refl _,rfl,rfl⟩ hk3)
    have q3:W3.cell? ⟨q,0,none⟩=some (.int .i64 (per:Int)):=(z6m hk4.2.2 0).trans hq;gi_wp2
    go_roundw
    case rel=>exact ⟨k+1,hlt,by rw[HMUL.out];simp,hJ3,hk4⟩
    case measure=>simp[intOf];omega
   ·gi_wp2
    refine bodyPost_ret (results_none rfl _ _ _) rfl ?_;exact ⟨⟨_,rfl⟩,.inr hJx3⟩
  ·obtain rfl:k=dJ n per:=by omega
   have hge:n<=dJ n per * per:=by
    have h1:=(n_ (per:=per) (n:=n) (i:=dJ n per) (by omega)).2;exact Nat.not_lt.1 fun h=>absurd (h1 h) (Nat.lt_irrefl _)
   generalize dJ n per * per=i at *;gi_wp2
   go_end0
   exact ⟨⟨_,rfl⟩,.inl hJs⟩
theorem grown_drewN (W:World) (k:Nat):W.grownBy (W.drewN k) none:=⟨rfl,rfl,rfl,Nat.le_refl _,fun _ _ _=>rfl⟩
theorem Xj {N k:Nat} (h:k<N):(List.finRange N).take (k+1)=(List.finRange N).take k++[⟨k,h⟩]:=by
 rw[List.take_succ_eq_append_getElem (by rw[List.length_finRange];exact h)];simp
theorem aaN {α:Type} {N:Nat} (f:Nat->α):(List.finRange N).map (fun i=>f i.val)=(List.range N).map f:=by
 apply List.ext_getElem
 ·simp
 ·intro i h1 h2
  simp
theorem Et (p q:Nat) (A:Option Addr) (n c per:Nat) (mF:1<=per) (YL:per<=1000000) (hn:n<=1000000) (hc:n<=c) (hA:0<n->A≠none) (w:World) (hp:w.cell? ⟨p,0,none⟩=some (.slice A n c)) (hq:w.cell? ⟨q,0,none⟩=some (.int .i64 (per:Int))):
 SeqStopsK Fence.wide 9 Tryz.prog 89 #[.pointer (some ⟨p,0,none⟩),.pointer (some ⟨q,0,none⟩)] (fun k:Fin (dJ n per)=> #[zQ A n per k.val]) (LP p q) (fun xs=>xs=List.finRange (dJ n per)) (fun _=>True) (dJ n per) w:=fun l J Jx W hW hJ _ hY h0=>by
 have h1:=World.block_lt_of_cell? w _ hp;have h2:=World.block_lt_of_cell? w _ hq;refine (OL l p q A n c per mF YL hn hc hA (fun k W=>J ((List.finRange (dJ n per)).take k) W) (fun W=>∃pre,Jx pre W) (fun k W' q' h=>hJ _ W' _ none h (grown_drewN W' q') (fun r hr=>by cases hr)) (fun k W' h hk=>?_) W ((hW.cell (p:=⟨p,0,none⟩) h1).trans hp) ((hW.cell (p:=⟨q,0,none⟩) h2).trans hq) (by simpa using h0)).mono ?_
 ·obtain ⟨fn,tmps,assign,body,hy,hR⟩:=hY _ ⟨k,hk⟩ W' h (by rw[List.length_take,List.length_finRange];omega)
  refine ⟨fn,tmps,assign,body,hy,hR.mono ?_⟩;rintro e W2 (⟨rfl,hJ2,hk2⟩|⟨rfl,hJ2⟩)
  ·exact .inl ⟨rfl,by rw[Xj hk];exact hJ2,hk2⟩
  ·exact .inr ⟨rfl,_,hJ2⟩
 ·rintro e W2 ⟨he,hJ2|⟨pre,hJ2⟩⟩
  ·exact ⟨he,.inl ⟨_,rfl,by rw[List.take_of_length_le (by simp)]at hJ2;exact hJ2⟩⟩
  ·exact ⟨he,.inr ⟨pre,trivial,hJ2⟩⟩
theorem OJ (A:Option Addr) (n c per:Nat) (mF:1<=per) (hp2:per<=1000000) (w:World):
 Calls Tryz.prog 39 #[.slice A n c,.int .i64 (per:Int)] w fun e w'=>e=.returned (.func (.func 89) #[] #[.pointer (some ⟨w.heap.size,0,none⟩),.pointer (some ⟨w.heap.size+1,0,none⟩)])/\
  w'=(w.alloc (.cells #[.slice A n c] 22)).alloc (.cells #[.int .i64 (per:Int)] 3):=by
 have q1:¬((per:Int)<1):=by omega
 go_enter Tryz.func39,Tryz.ntmps39;go_wp2_with fail;go_ret;exact ⟨rfl,rfl⟩
end Go.Proofs.YtpakjclpjcngmaaGreat
