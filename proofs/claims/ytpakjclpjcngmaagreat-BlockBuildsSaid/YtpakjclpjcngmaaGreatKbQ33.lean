/- Contracts and plain laws that the last text rests on. Conditions: each theorem states its own. -/
import Derived.Test.YtpakjclpjcngmaaGreatKbQ10
import Derived.Test.YtpakjclpjcngmaaGreatKbQ26
import Derived.Laws.MakeOwn
import Derived.Test.YtpakjclpjcngmaaGreatKbQ32
import Derived.Test.YtpakjclpjcngmaaGreatKbQ5
set_option maxRecDepth 100000
set_option maxHeartbeats 64000000
set_option linter.unusedVariables false
namespace Go.Proofs.YtpakjclpjcngmaaGreat
open Go.RowKit
theorem Ut (x:RV) (w:World):Calls Tryz.prog 92 #[dA x] w fun e w'=>e=.returned (.int .i64 x.row.time)/\Nx w w':=by
 obtain ⟨⟨kind,time,aB,text,value,null,maker,seq,place⟩,A1,c1⟩:=x;unfold dA;go_enter Tryz.func92,Tryz.ntmps92;go_wp2_with fail;go_ret;exact ⟨rfl,(Ch.refl _ w).alloc _⟩
theorem Us (x:RV) (w:World):Calls Tryz.prog 93 #[dA x] w fun e w'=>e=.returned (.int .i64 x.row.maker)/\Nx w w':=by
 obtain ⟨⟨kind,time,aB,text,value,null,maker,seq,place⟩,A1,c1⟩:=x;unfold dA;go_enter Tryz.func93,Tryz.ntmps93;go_wp2_with fail;go_ret;exact ⟨rfl,(Ch.refl _ w).alloc _⟩
theorem Ur (x:RV) (w:World):Calls Tryz.prog 94 #[dA x] w fun e w'=>e=.returned (.int .i64 x.row.seq)/\Nx w w':=by
 obtain ⟨⟨kind,time,aB,text,value,null,maker,seq,place⟩,A1,c1⟩:=x;unfold dA;go_enter Tryz.func94,Tryz.ntmps94;go_wp2_with fail;go_ret;exact ⟨rfl,(Ch.refl _ w).alloc _⟩
theorem Uo (x:RV) (w:World):Calls Tryz.prog 95 #[dA x] w fun e w'=>e=.returned (.int .i64 x.row.place)/\Nx w w':=by
 obtain ⟨⟨kind,time,aB,text,value,null,maker,seq,place⟩,A1,c1⟩:=x;unfold dA;go_enter Tryz.func95,Tryz.ntmps95;go_wp2_with fail;go_ret;exact ⟨rfl,(Ch.refl _ w).alloc _⟩
theorem Un (x:RV) (w:World):Calls Tryz.prog 96 #[dA x] w fun e w'=>e=.returned (.int .i64 x.row.kind)/\Nx w w':=by
 obtain ⟨⟨kind,time,aB,text,value,null,maker,seq,place⟩,A1,c1⟩:=x;unfold dA;go_enter Tryz.func96,Tryz.ntmps96;go_wp2_with fail;go_ret;exact ⟨rfl,(Ch.refl _ w).alloc _⟩
theorem Ul (x:RV) (w:World):Calls Tryz.prog 103 #[dA x] w fun e w'=>e=.returned (.int .i64 x.row.value)/\Nx w w':=by
 obtain ⟨⟨kind,time,aB,text,value,null,maker,seq,place⟩,A1,c1⟩:=x;unfold dA;go_enter Tryz.func103,Tryz.ntmps103;go_wp2_with fail;go_ret;exact ⟨rfl,(Ch.refl _ w).alloc _⟩
theorem Um (x:RV) (w:World):Calls Tryz.prog 102 #[dA x] w fun e w'=>e=.returned (.string x.row.text)/\Nx w w':=by
 obtain ⟨⟨kind,time,aB,text,value,null,maker,seq,place⟩,A1,c1⟩:=x;unfold dA;go_enter Tryz.func102,Tryz.ntmps102;go_wp2_with fail;go_ret;exact ⟨rfl,(Ch.refl _ w).alloc _⟩
theorem Uk (x:RV) (w:World):Calls Tryz.prog 106 #[dA x] w fun e w'=>e=.returned (.bool x.row.null)/\Nx w w':=by
 obtain ⟨⟨kind,time,aB,text,value,null,maker,seq,place⟩,A1,c1⟩:=x;unfold dA;go_enter Tryz.func106,Tryz.ntmps106;go_wp2_with fail;go_ret;exact ⟨rfl,(Ch.refl _ w).alloc _⟩
def TK (k:Nat):Value:=([.func (.func 92) #[] #[],.func (.func 93) #[] #[],.func (.func 94) #[] #[],.func (.func 95) #[] #[],.func (.func 96) #[] #[]]:List Value).getD k undef
def jk (k:Nat) (x:aA):Int:=match k with
 |0=>x.time
 |1=>x.maker
 |2=>x.seq
 |3=>x.place
 |_=>x.kind
theorem Xb (x:RV) (w:World) (b:Nat) (hb:w.cell? ⟨b,0,none⟩=some (.func (.func 92) #[] #[])):Calls Tryz.prog 166 #[dA x,.pointer (some ⟨b,0,none⟩)] w fun e w'=>e=.returned (.int .i64 (jk 0 x.row))/\Nx w w':=by
 have HC:=ah (fun w=>Ut x w);obtain ⟨⟨kind,time,aB,text,value,null,maker,seq,place⟩,A1,c1⟩:=x;unfold dA at *;have hlt:b<w.heap.size:=World.block_lt_of_cell? w _ hb;go_enter Tryz.func166,Tryz.ntmps166;go_wp2_with fail;refine (HC.out _).mono ?_;rintro e w2 ⟨rfl,n2⟩;go_wp2_with fail;go_ret;exact ⟨rfl,((Ch.refl _ w).alloc _).tr n2⟩
theorem Xa (x:RV) (w:World) (b:Nat) (hb:w.cell? ⟨b,0,none⟩=some (.func (.func 93) #[] #[])):Calls Tryz.prog 166 #[dA x,.pointer (some ⟨b,0,none⟩)] w fun e w'=>e=.returned (.int .i64 (jk 1 x.row))/\Nx w w':=by
 have HC:=ah (fun w=>Us x w);obtain ⟨⟨kind,time,aB,text,value,null,maker,seq,place⟩,A1,c1⟩:=x;unfold dA at *;have hlt:b<w.heap.size:=World.block_lt_of_cell? w _ hb;go_enter Tryz.func166,Tryz.ntmps166;go_wp2_with fail;refine (HC.out _).mono ?_;rintro e w2 ⟨rfl,n2⟩;go_wp2_with fail;go_ret;exact ⟨rfl,((Ch.refl _ w).alloc _).tr n2⟩
theorem W_ (x:RV) (w:World) (b:Nat) (hb:w.cell? ⟨b,0,none⟩=some (.func (.func 94) #[] #[])):Calls Tryz.prog 166 #[dA x,.pointer (some ⟨b,0,none⟩)] w fun e w'=>e=.returned (.int .i64 (jk 2 x.row))/\Nx w w':=by
 have HC:=ah (fun w=>Ur x w);obtain ⟨⟨kind,time,aB,text,value,null,maker,seq,place⟩,A1,c1⟩:=x;unfold dA at *;have hlt:b<w.heap.size:=World.block_lt_of_cell? w _ hb;go_enter Tryz.func166,Tryz.ntmps166;go_wp2_with fail;refine (HC.out _).mono ?_;rintro e w2 ⟨rfl,n2⟩;go_wp2_with fail;go_ret;exact ⟨rfl,((Ch.refl _ w).alloc _).tr n2⟩
theorem WZ (x:RV) (w:World) (b:Nat) (hb:w.cell? ⟨b,0,none⟩=some (.func (.func 95) #[] #[])):Calls Tryz.prog 166 #[dA x,.pointer (some ⟨b,0,none⟩)] w fun e w'=>e=.returned (.int .i64 (jk 3 x.row))/\Nx w w':=by
 have HC:=ah (fun w=>Uo x w);obtain ⟨⟨kind,time,aB,text,value,null,maker,seq,place⟩,A1,c1⟩:=x;unfold dA at *;have hlt:b<w.heap.size:=World.block_lt_of_cell? w _ hb;go_enter Tryz.func166,Tryz.ntmps166;go_wp2_with fail;refine (HC.out _).mono ?_;rintro e w2 ⟨rfl,n2⟩;go_wp2_with fail;go_ret;exact ⟨rfl,((Ch.refl _ w).alloc _).tr n2⟩
theorem WY (x:RV) (w:World) (b:Nat) (hb:w.cell? ⟨b,0,none⟩=some (.func (.func 96) #[] #[])):Calls Tryz.prog 166 #[dA x,.pointer (some ⟨b,0,none⟩)] w fun e w'=>e=.returned (.int .i64 (jk 4 x.row))/\Nx w w':=by
 have HC:=ah (fun w=>Un x w);obtain ⟨⟨kind,time,aB,text,value,null,maker,seq,place⟩,A1,c1⟩:=x;unfold dA at *;have hlt:b<w.heap.size:=World.block_lt_of_cell? w _ hb;go_enter Tryz.func166,Tryz.ntmps166;go_wp2_with fail;refine (HC.out _).mono ?_;rintro e w2 ⟨rfl,n2⟩;go_wp2_with fail;go_ret;exact ⟨rfl,((Ch.refl _ w).alloc _).tr n2⟩
theorem N_ {k:Nat} (hk:k<5) (x:RV) (w:World) (b:Nat) (hb:w.cell? ⟨b,0,none⟩=some (TK k)):Calls Tryz.prog 166 #[dA x,.pointer (some ⟨b,0,none⟩)] w fun e w'=>e=.returned (.int .i64 (jk k x.row))/\Nx w w':=
 match k,hk,hb with
 |0,_,hb=>Xb x w b hb
 |1,_,hb=>Xa x w b hb
 |2,_,hb=>W_ x w b hb
 |3,_,hb=>WZ x w b hb
 |4,_,hb=>WY x w b hb
theorem zM (v:Value) (F:Fn) (hv:v=.func F #[] #[]) (w:World):Calls Tryz.prog 99 #[v] w fun e w'=>e=.returned (.func (.func 166) #[] #[.pointer (some ⟨w.heap.size,0,none⟩)])/\w'=w.alloc (.cells #[v] 149):=by
 subst hv;go_enter Tryz.func99,Tryz.ntmps99;go_wp2_with fail;go_ret;exact ⟨rfl,rfl⟩
theorem uV {w:World} {D:Nat->Prop} (x:RV) (hx:x.ok w D) (hf:x.row.few):Calls Tryz.prog 45 #[dA x] w fun e w'=>e=.returned (.string (aT x.row))/\Nx w w':=by
 have HT:=ah (fun w' (c':Nx w w')=>LP (c:=x.c) (hx.1.nx (by decide) c') (by have:=hf.2;omega) hf.1.1);obtain ⟨⟨kind,time,aB,text,value,null,maker,seq,place⟩,A1,c1⟩:=x;unfold dA;unfold aT;simp only at HT ⊢;generalize (if aZ aB=true then (0:Int) else 4)=er at HT;clear hx hf;go_enter Tryz.func45,Tryz.ntmps45;go_wp2_with fail;refine (HT.out _ ((Ch.refl _ w).alloc _)).mono ?_;rintro e w2 ⟨rfl,n2⟩;go_wp2_with fail;go_ret;exact ⟨rfl,((Ch.refl _ w).alloc _).tr n2⟩
theorem Nz {w:World} {D:Nat->Prop} {A:Option Addr} {n c:Nat} {l:List RV} {b:Nat} (f:aA->Int) (h:Rd w D 9 A n (iE l)) (hl:l.length=n) (hn:n<=1000000)
 (hg:∀w',Nx w w'->∀x∈l,Calls Tryz.prog 166 #[dA x,.pointer (some ⟨b,0,none⟩)] w' fun e w''=>e=.returned (Value.int .i64 (f x.row))/\Nx w' w''):
 Calls Tryz.prog 98 #[.slice A n c,.func (.func 166) #[] #[.pointer (some ⟨b,0,none⟩)]] w (Gives w 2 1 n (l.map fun x=>Value.int .i64 (f x.row))):=by
 obtain ⟨i0,hi0,hz0,hz1,hz2⟩:=info_parts Tryz.iT
 have hmk:∀w:World,(Instr.makeSlice 114 (.int .i64 0) (.int .i64 (n:Int))).run Tryz.prog w=.ok (.slice (some ⟨w.heap.size,0,none⟩) 0 n) (w.alloc (.cells (madeCells #[.int .i64 0] n) 2)):=fun w=>by
  have:=run_make (P:=Tryz.prog) w 114 2 i0 (.int .i64 0) Tryz.underlying114 hi0 hz0 .i64 .i64 0 (n:Int) (by omega) (by omega) (by rw[hz2];omega) (by omega);rw[hz1,show (n:Int).toNat=n by omega,Nat.mul_one]at this;exact this
 have o1:ak w (w.alloc (.cells (madeCells #[.int .i64 0] n) 2)) 2 1 (.slice (some ⟨w.heap.size,0,none⟩) 0 n) 0 []:=
  ⟨World.ownsRow_made w _ n (Nat.le_refl _) (by simp only[maxLen];omega) (by simp[size_madeCells]),(Ch.refl _ w).alloc _⟩
 have O1:=ah o1;have HL:=ah hl;have jo:=ah h;have HG:=ah hg;have HV:Hid (∀k (hk:k<l.length),(l.map fun x=>Value.int .i64 (f x.row)).take (k+1)=(l.map fun x=>Value.int .i64 (f x.row)).take k++[Value.int .i64 (f l[k].row)]):=ah (fun k hk=>by rw[List.take_succ_eq_append_getElem (by simpa using hk)];simp);have HE:Hid ((l.map fun x=>Value.int .i64 (f x.row)).length=n):=ah (by rw[List.length_map];exact hl);clear hl h hg o1;generalize (l.map fun x=>Value.int .i64 (f x.row))=G at *;go_enter Tryz.func98,Tryz.ntmps98;go_wp2_with fail;generalize (w.alloc (.cells (madeCells #[.int .i64 0] n) 2))=w1 at *;clear hmk;go_loopw [5,13] (fun v i wr=>∃k:Nat,k<=n/\i=.int .i64 (k:Int)/\Hid (ak w wr 2 1 v k (G.take k))) (fun _ i _=>n-(intOf i).toNat)
 case atStart=>exact ⟨0,Nat.zero_le _,rfl,O1⟩
 case round=>
  obtain ⟨w4,rfl⟩:∃w4:World,w4=wr:=⟨_,rfl⟩;obtain ⟨k,hkn,rfl,HO⟩:=hrel;by_cases hlt:k<n
  ·have hkl:k<l.length:=by rw[HL.out];exact hlt
   obtain ⟨ad,rfl, -,p0,p1,p2,p3,p4,p5,p6,p7,p8⟩:=z18 (jo.out.nx (by decide) HO.out.nx) hkl;have HC:=ah (fun w' (c':Nx w4 w')=>HG.out w' (HO.out.nx.tr c') _ (List.getElem_mem hkl));have HV1:=ah (HV.out k hkl);generalize l[k]=x at *;obtain ⟨⟨kind,time,aB,text,value,null,maker,seq,place⟩,A1,c1⟩:=x;unfold dA at HC;simp only at p0 p1 p2 p3 p4 p5 p6 p7 p8 HC HV1;generalize f ⟨kind,time,aB,text,value,null,maker,seq,place⟩=y at *;go_wp2_with fail;refine (HC.out _ ((Ch.refl _ w4).alloc _)).mono ?_;rintro e w5 ⟨rfl,n5⟩;have o5:=HO.out.tr (((Ch.refl _ w4).alloc _).tr n5);clear n5 p0 p1 p2 p3 p4 p5 p6 p7 p8;go_wp2_with (at_builtin;refine z06 rfl (.tmp 17) (.tmp 21) _ rfl 2 i0 _ 8 Tryz.underlying114 hi0 hz0 hz1 hz2 rfl (Value.int .i64 y) rfl rfl o5 rfl (by simp only[maxLen];omega) (by omega) ?_;intro v7 w7 o7 m7;have O7:=ah o7;clear o7 m7 o5)
   go_roundw
   case rel=>exact ⟨k+1,by omega,by go_num,by rw[HV1.out];exact O7⟩
   case measure=>simp[intOf];omega
  ·have hkn2:n=k:=by omega
   have hr:Hid (G.take k=G):=ah (List.take_of_length_le (by rw[HE.out];omega));go_wp2_with fail;go_ret;refine ⟨_,rfl,?_⟩;have:=HO.out;rw[hr.out,←hkn2]at this;exact this
theorem Ny {w:World} {D:Nat->Prop} {A:Option Addr} {n c:Nat} {l:List RV} (f:aA->Int) (h:Rd w D 9 A n (iE l)) (hl:l.length=n) (hn:n<=1000000)
 (hg:∀w',Nx w w'->∀x∈l,Calls Tryz.prog 103 #[dA x] w' fun e w''=>e=.returned (Value.int .i64 (f x.row))/\Nx w' w''):
 Calls Tryz.prog 98 #[.slice A n c,.func (.func 103) #[] #[]] w (Gives w 2 1 n (l.map fun x=>Value.int .i64 (f x.row))):=by
 obtain ⟨i0,hi0,hz0,hz1,hz2⟩:=info_parts Tryz.iT
 have hmk:∀w:World,(Instr.makeSlice 114 (.int .i64 0) (.int .i64 (n:Int))).run Tryz.prog w=.ok (.slice (some ⟨w.heap.size,0,none⟩) 0 n) (w.alloc (.cells (madeCells #[.int .i64 0] n) 2)):=fun w=>by
  have:=run_make (P:=Tryz.prog) w 114 2 i0 (.int .i64 0) Tryz.underlying114 hi0 hz0 .i64 .i64 0 (n:Int) (by omega) (by omega) (by rw[hz2];omega) (by omega);rw[hz1,show (n:Int).toNat=n by omega,Nat.mul_one]at this;exact this
 have o1:ak w (w.alloc (.cells (madeCells #[.int .i64 0] n) 2)) 2 1 (.slice (some ⟨w.heap.size,0,none⟩) 0 n) 0 []:=
  ⟨World.ownsRow_made w _ n (Nat.le_refl _) (by simp only[maxLen];omega) (by simp[size_madeCells]),(Ch.refl _ w).alloc _⟩
 have O1:=ah o1;have HL:=ah hl;have jo:=ah h;have HG:=ah hg;have HV:Hid (∀k (hk:k<l.length),(l.map fun x=>Value.int .i64 (f x.row)).take (k+1)=(l.map fun x=>Value.int .i64 (f x.row)).take k++[Value.int .i64 (f l[k].row)]):=ah (fun k hk=>by rw[List.take_succ_eq_append_getElem (by simpa using hk)];simp);have HE:Hid ((l.map fun x=>Value.int .i64 (f x.row)).length=n):=ah (by rw[List.length_map];exact hl);clear hl h hg o1;generalize (l.map fun x=>Value.int .i64 (f x.row))=G at *;go_enter Tryz.func98,Tryz.ntmps98;go_wp2_with fail;generalize (w.alloc (.cells (madeCells #[.int .i64 0] n) 2))=w1 at *;clear hmk;go_loopw [5,13] (fun v i wr=>∃k:Nat,k<=n/\i=.int .i64 (k:Int)/\Hid (ak w wr 2 1 v k (G.take k))) (fun _ i _=>n-(intOf i).toNat)
 case atStart=>exact ⟨0,Nat.zero_le _,rfl,O1⟩
 case round=>
  obtain ⟨w4,rfl⟩:∃w4:World,w4=wr:=⟨_,rfl⟩;obtain ⟨k,hkn,rfl,HO⟩:=hrel;by_cases hlt:k<n
  ·have hkl:k<l.length:=by rw[HL.out];exact hlt
   obtain ⟨ad,rfl, -,p0,p1,p2,p3,p4,p5,p6,p7,p8⟩:=z18 (jo.out.nx (by decide) HO.out.nx) hkl;have HC:=ah (fun w' (c':Nx w4 w')=>HG.out w' (HO.out.nx.tr c') _ (List.getElem_mem hkl));have HV1:=ah (HV.out k hkl);generalize l[k]=x at *;obtain ⟨⟨kind,time,aB,text,value,null,maker,seq,place⟩,A1,c1⟩:=x;unfold dA at HC;simp only at p0 p1 p2 p3 p4 p5 p6 p7 p8 HC HV1;generalize f ⟨kind,time,aB,text,value,null,maker,seq,place⟩=y at *;go_wp2_with fail;refine (HC.out _ ((Ch.refl _ w4).alloc _)).mono ?_;rintro e w5 ⟨rfl,n5⟩;have o5:=HO.out.tr (((Ch.refl _ w4).alloc _).tr n5);clear n5 p0 p1 p2 p3 p4 p5 p6 p7 p8;go_wp2_with (at_builtin;refine z06 rfl (.tmp 17) (.tmp 21) _ rfl 2 i0 _ 8 Tryz.underlying114 hi0 hz0 hz1 hz2 rfl (Value.int .i64 y) rfl rfl o5 rfl (by simp only[maxLen];omega) (by omega) ?_;intro v7 w7 o7 m7;have O7:=ah o7;clear o7 m7 o5)
   go_roundw
   case rel=>exact ⟨k+1,by omega,by go_num,by rw[HV1.out];exact O7⟩
   case measure=>simp[intOf];omega
  ·have hkn2:n=k:=by omega
   have hr:Hid (G.take k=G):=ah (List.take_of_length_le (by rw[HE.out];omega));go_wp2_with fail;go_ret;refine ⟨_,rfl,?_⟩;have:=HO.out;rw[hr.out,←hkn2]at this;exact this
theorem Gy {w:World} {D:Nat->Prop} {A:Option Addr} {n c:Nat} {l:List RV} (f:aA->ByteArray) (h:Rd w D 9 A n (iE l)) (hl:l.length=n) (hn:n<=1000000)
 (hg:∀w',Nx w w'->∀x∈l,Calls Tryz.prog 45 #[dA x] w' fun e w''=>e=.returned (Value.string (f x.row))/\Nx w' w''):
 Calls Tryz.prog 44 #[.slice A n c,.func (.func 45) #[] #[]] w (Gives w 9 1 n (l.map fun x=>Value.string (f x.row))):=by
 obtain ⟨i0,hi0,hz0,hz1,hz2⟩:=info_parts Tryz.jK
 have hmk:∀w:World,(Instr.makeSlice 80 (.int .i64 0) (.int .i64 (n:Int))).run Tryz.prog w=.ok (.slice (some ⟨w.heap.size,0,none⟩) 0 n) (w.alloc (.cells (madeCells #[.string ⟨#[]⟩] n) 9)):=fun w=>by
  have:=run_make (P:=Tryz.prog) w 80 9 i0 (.string ⟨#[]⟩) Tryz.underlying80 hi0 hz0 .i64 .i64 0 (n:Int) (by omega) (by omega) (by rw[hz2];omega) (by omega);rw[hz1,show (n:Int).toNat=n by omega,Nat.mul_one]at this;exact this
 have o1:ak w (w.alloc (.cells (madeCells #[.string ⟨#[]⟩] n) 9)) 9 1 (.slice (some ⟨w.heap.size,0,none⟩) 0 n) 0 []:=
  ⟨World.ownsRow_made w _ n (Nat.le_refl _) (by simp only[maxLen];omega) (by simp[size_madeCells]),(Ch.refl _ w).alloc _⟩
 have O1:=ah o1;have HL:=ah hl;have jo:=ah h;have HG:=ah hg;have HV:Hid (∀k (hk:k<l.length),(l.map fun x=>Value.string (f x.row)).take (k+1)=(l.map fun x=>Value.string (f x.row)).take k++[Value.string (f l[k].row)]):=ah (fun k hk=>by rw[List.take_succ_eq_append_getElem (by simpa using hk)];simp);have HE:Hid ((l.map fun x=>Value.string (f x.row)).length=n):=ah (by rw[List.length_map];exact hl);clear hl h hg o1;generalize (l.map fun x=>Value.string (f x.row))=G at *;go_enter Tryz.func44,Tryz.ntmps44;go_wp2_with fail;generalize (w.alloc (.cells (madeCells #[.string ⟨#[]⟩] n) 9))=w1 at *;clear hmk;go_loopw [5,13] (fun v i wr=>∃k:Nat,k<=n/\i=.int .i64 (k:Int)/\Hid (ak w wr 9 1 v k (G.take k))) (fun _ i _=>n-(intOf i).toNat)
 case atStart=>exact ⟨0,Nat.zero_le _,rfl,O1⟩
 case round=>
  obtain ⟨w4,rfl⟩:∃w4:World,w4=wr:=⟨_,rfl⟩;obtain ⟨k,hkn,rfl,HO⟩:=hrel;by_cases hlt:k<n
  ·have hkl:k<l.length:=by rw[HL.out];exact hlt
   obtain ⟨ad,rfl, -,p0,p1,p2,p3,p4,p5,p6,p7,p8⟩:=z18 (jo.out.nx (by decide) HO.out.nx) hkl;have HC:=ah (fun w' (c':Nx w4 w')=>HG.out w' (HO.out.nx.tr c') _ (List.getElem_mem hkl));have HV1:=ah (HV.out k hkl);generalize l[k]=x at *;obtain ⟨⟨kind,time,aB,text,value,null,maker,seq,place⟩,A1,c1⟩:=x;unfold dA at HC;simp only at p0 p1 p2 p3 p4 p5 p6 p7 p8 HC HV1;generalize f ⟨kind,time,aB,text,value,null,maker,seq,place⟩=y at *;go_wp2_with fail;refine (HC.out _ ((Ch.refl _ w4).alloc _)).mono ?_;rintro e w5 ⟨rfl,n5⟩;have o5:=HO.out.tr (((Ch.refl _ w4).alloc _).tr n5);clear n5 p0 p1 p2 p3 p4 p5 p6 p7 p8;go_wp2_with (at_builtin;refine z06 rfl (.tmp 17) (.tmp 21) _ rfl 9 i0 _ 16 Tryz.underlying80 hi0 hz0 hz1 hz2 rfl (Value.string y) rfl rfl o5 rfl (by simp only[maxLen];omega) (by omega) ?_;intro v7 w7 o7 m7;have O7:=ah o7;clear o7 m7 o5)
   go_roundw
   case rel=>exact ⟨k+1,by omega,by go_num,by rw[HV1.out];exact O7⟩
   case measure=>simp[intOf];omega
  ·have hkn2:n=k:=by omega
   have hr:Hid (G.take k=G):=ah (List.take_of_length_le (by rw[HE.out];omega));go_wp2_with fail;go_ret;refine ⟨_,rfl,?_⟩;have:=HO.out;rw[hr.out,←hkn2]at this;exact this
theorem Nw {w:World} {D:Nat->Prop} {A:Option Addr} {n c:Nat} {l:List RV} (f:aA->ByteArray) (h:Rd w D 9 A n (iE l)) (hl:l.length=n) (hn:n<=1000000)
 (hg:∀w',Nx w w'->∀x∈l,Calls Tryz.prog 102 #[dA x] w' fun e w''=>e=.returned (Value.string (f x.row))/\Nx w' w''):
 Calls Tryz.prog 44 #[.slice A n c,.func (.func 102) #[] #[]] w (Gives w 9 1 n (l.map fun x=>Value.string (f x.row))):=by
 obtain ⟨i0,hi0,hz0,hz1,hz2⟩:=info_parts Tryz.jK
 have hmk:∀w:World,(Instr.makeSlice 80 (.int .i64 0) (.int .i64 (n:Int))).run Tryz.prog w=.ok (.slice (some ⟨w.heap.size,0,none⟩) 0 n) (w.alloc (.cells (madeCells #[.string ⟨#[]⟩] n) 9)):=fun w=>by
  have:=run_make (P:=Tryz.prog) w 80 9 i0 (.string ⟨#[]⟩) Tryz.underlying80 hi0 hz0 .i64 .i64 0 (n:Int) (by omega) (by omega) (by rw[hz2];omega) (by omega);rw[hz1,show (n:Int).toNat=n by omega,Nat.mul_one]at this;exact this
 have o1:ak w (w.alloc (.cells (madeCells #[.string ⟨#[]⟩] n) 9)) 9 1 (.slice (some ⟨w.heap.size,0,none⟩) 0 n) 0 []:=
  ⟨World.ownsRow_made w _ n (Nat.le_refl _) (by simp only[maxLen];omega) (by simp[size_madeCells]),(Ch.refl _ w).alloc _⟩
 have O1:=ah o1;have HL:=ah hl;have jo:=ah h;have HG:=ah hg;have HV:Hid (∀k (hk:k<l.length),(l.map fun x=>Value.string (f x.row)).take (k+1)=(l.map fun x=>Value.string (f x.row)).take k++[Value.string (f l[k].row)]):=ah (fun k hk=>by rw[List.take_succ_eq_append_getElem (by simpa using hk)];simp);have HE:Hid ((l.map fun x=>Value.string (f x.row)).length=n):=ah (by rw[List.length_map];exact hl);clear hl h hg o1;generalize (l.map fun x=>Value.string (f x.row))=G at *;go_enter Tryz.func44,Tryz.ntmps44;go_wp2_with fail;generalize (w.alloc (.cells (madeCells #[.string ⟨#[]⟩] n) 9))=w1 at *;clear hmk;go_loopw [5,13] (fun v i wr=>∃k:Nat,k<=n/\i=.int .i64 (k:Int)/\Hid (ak w wr 9 1 v k (G.take k))) (fun _ i _=>n-(intOf i).toNat)
 case atStart=>exact ⟨0,Nat.zero_le _,rfl,O1⟩
 case round=>
  obtain ⟨w4,rfl⟩:∃w4:World,w4=wr:=⟨_,rfl⟩;obtain ⟨k,hkn,rfl,HO⟩:=hrel;by_cases hlt:k<n
  ·have hkl:k<l.length:=by rw[HL.out];exact hlt
   obtain ⟨ad,rfl, -,p0,p1,p2,p3,p4,p5,p6,p7,p8⟩:=z18 (jo.out.nx (by decide) HO.out.nx) hkl;have HC:=ah (fun w' (c':Nx w4 w')=>HG.out w' (HO.out.nx.tr c') _ (List.getElem_mem hkl));have HV1:=ah (HV.out k hkl);generalize l[k]=x at *;obtain ⟨⟨kind,time,aB,text,value,null,maker,seq,place⟩,A1,c1⟩:=x;unfold dA at HC;simp only at p0 p1 p2 p3 p4 p5 p6 p7 p8 HC HV1;generalize f ⟨kind,time,aB,text,value,null,maker,seq,place⟩=y at *;go_wp2_with fail;refine (HC.out _ ((Ch.refl _ w4).alloc _)).mono ?_;rintro e w5 ⟨rfl,n5⟩;have o5:=HO.out.tr (((Ch.refl _ w4).alloc _).tr n5);clear n5 p0 p1 p2 p3 p4 p5 p6 p7 p8;go_wp2_with (at_builtin;refine z06 rfl (.tmp 17) (.tmp 21) _ rfl 9 i0 _ 16 Tryz.underlying80 hi0 hz0 hz1 hz2 rfl (Value.string y) rfl rfl o5 rfl (by simp only[maxLen];omega) (by omega) ?_;intro v7 w7 o7 m7;have O7:=ah o7;clear o7 m7 o5)
   go_roundw
   case rel=>exact ⟨k+1,by omega,by go_num,by rw[HV1.out];exact O7⟩
   case measure=>simp[intOf];omega
  ·have hkn2:n=k:=by omega
   have hr:Hid (G.take k=G):=ah (List.take_of_length_le (by rw[HE.out];omega));go_wp2_with fail;go_ret;refine ⟨_,rfl,?_⟩;have:=HO.out;rw[hr.out,←hkn2]at this;exact this
theorem ND {w:World} {D:Nat->Prop} {A:Option Addr} {n c:Nat} {l:List RV} (f:aA->Bool) (h:Rd w D 9 A n (iE l)) (hl:l.length=n) (hn:n<=1000000)
 (hg:∀w',Nx w w'->∀x∈l,Calls Tryz.prog 106 #[dA x] w' fun e w''=>e=.returned (Value.bool (f x.row))/\Nx w' w''):
 Calls Tryz.prog 105 #[.slice A n c,.func (.func 106) #[] #[]] w (Gives w 4 1 n (l.map fun x=>Value.bool (f x.row))):=by
 obtain ⟨i0,hi0,hz0,hz1,hz2⟩:=info_parts Tryz.Og
 have hmk:∀w:World,(Instr.makeSlice 120 (.int .i64 0) (.int .i64 (n:Int))).run Tryz.prog w=.ok (.slice (some ⟨w.heap.size,0,none⟩) 0 n) (w.alloc (.cells (madeCells #[.bool false] n) 4)):=fun w=>by
  have:=run_make (P:=Tryz.prog) w 120 4 i0 (.bool false) Tryz.underlying120 hi0 hz0 .i64 .i64 0 (n:Int) (by omega) (by omega) (by rw[hz2];omega) (by omega);rw[hz1,show (n:Int).toNat=n by omega,Nat.mul_one]at this;exact this
 have o1:ak w (w.alloc (.cells (madeCells #[.bool false] n) 4)) 4 1 (.slice (some ⟨w.heap.size,0,none⟩) 0 n) 0 []:=
  ⟨World.ownsRow_made w _ n (Nat.le_refl _) (by simp only[maxLen];omega) (by simp[size_madeCells]),(Ch.refl _ w).alloc _⟩
 have O1:=ah o1;have HL:=ah hl;have jo:=ah h;have HG:=ah hg;have HV:Hid (∀k (hk:k<l.length),(l.map fun x=>Value.bool (f x.row)).take (k+1)=(l.map fun x=>Value.bool (f x.row)).take k++[Value.bool (f l[k].row)]):=ah (fun k hk=>by rw[List.take_succ_eq_append_getElem (by simpa using hk)];simp);have HE:Hid ((l.map fun x=>Value.bool (f x.row)).length=n):=ah (by rw[List.length_map];exact hl);clear hl h hg o1;generalize (l.map fun x=>Value.bool (f x.row))=G at *;go_enter Tryz.func105,Tryz.ntmps105;go_wp2_with fail;generalize (w.alloc (.cells (madeCells #[.bool false] n) 4))=w1 at *;clear hmk;go_loopw [5,13] (fun v i wr=>∃k:Nat,k<=n/\i=.int .i64 (k:Int)/\Hid (ak w wr 4 1 v k (G.take k))) (fun _ i _=>n-(intOf i).toNat)
 case atStart=>exact ⟨0,Nat.zero_le _,rfl,O1⟩
 case round=>
  obtain ⟨w4,rfl⟩:∃w4:World,w4=wr:=⟨_,rfl⟩;obtain ⟨k,hkn,rfl,HO⟩:=hrel;by_cases hlt:k<n
  ·have hkl:k<l.length:=by rw[HL.out];exact hlt
   obtain ⟨ad,rfl, -,p0,p1,p2,p3,p4,p5,p6,p7,p8⟩:=z18 (jo.out.nx (by decide) HO.out.nx) hkl;have HC:=ah (fun w' (c':Nx w4 w')=>HG.out w' (HO.out.nx.tr c') _ (List.getElem_mem hkl));have HV1:=ah (HV.out k hkl);generalize l[k]=x at *;obtain ⟨⟨kind,time,aB,text,value,null,maker,seq,place⟩,A1,c1⟩:=x;unfold dA at HC;simp only at p0 p1 p2 p3 p4 p5 p6 p7 p8 HC HV1;generalize f ⟨kind,time,aB,text,value,null,maker,seq,place⟩=y at *;go_wp2_with fail;refine (HC.out _ ((Ch.refl _ w4).alloc _)).mono ?_;rintro e w5 ⟨rfl,n5⟩;have o5:=HO.out.tr (((Ch.refl _ w4).alloc _).tr n5);clear n5 p0 p1 p2 p3 p4 p5 p6 p7 p8;go_wp2_with (at_builtin;refine z06 rfl (.tmp 17) (.tmp 21) _ rfl 4 i0 _ 1 Tryz.underlying120 hi0 hz0 hz1 hz2 rfl (Value.bool y) rfl rfl o5 rfl (by simp only[maxLen];omega) (by omega) ?_;intro v7 w7 o7 m7;have O7:=ah o7;clear o7 m7 o5)
   go_roundw
   case rel=>exact ⟨k+1,by omega,by go_num,by rw[HV1.out];exact O7⟩
   case measure=>simp[intOf];omega
  ·have hkn2:n=k:=by omega
   have hr:Hid (G.take k=G):=ah (List.take_of_length_le (by rw[HE.out];omega));go_wp2_with fail;go_ret;refine ⟨_,rfl,?_⟩;have:=HO.out;rw[hr.out,←hkn2]at this;exact this
theorem zC {l:List aA} {k:Nat} (hk:k<l.length) (h:kC l k=false):fP l=false:=by
 unfold fP;rw[Bool.and_eq_false_iff];right
 rw[List.all_eq_false];exact ⟨k,List.mem_range.2 hk,by rw[h];simp⟩
theorem uw {l:List aA} (h:∀i,i<l.length->kC l i=true):fP l=decide (0<l.length):=by
 unfold fP;rw[IC.2 h,Bool.and_true]
theorem pq {l:List aA} (h:0<l.length):kC l 0=(fA l[0]&&EF l[0]):=by rw[YI h];simp
theorem pF {l:List aA} {j:Nat} (h:j+1<l.length):kC l (j+1)=(fA l[j+1]&&EF l[j+1]&&iO (l[j]'(Nat.lt_of_succ_lt h)) l[j+1]):=by
 rw[YI h];simp[List.getD,List.getElem?_eq_getElem (Nat.lt_of_succ_lt h)]
theorem YC (l:List RV) {k:Nat} (h:k<l.length):(l.map fun x=>x.row)[k]'(by rw[List.length_map];exact h)=l[k].row:=by simp
theorem z3z {rc ib:Bool} {maker seq place:Int} (h:ib=decide (1<=maker/\maker<=64/\1<=seq/\seq<1099511627776/\0<=place/\place<64)):
 (rc=false/\Hid ((rc&&ib)=false))∨(rc=true/\decide (maker<1)=true/\Hid ((rc&&ib)=false))∨(rc=true/\decide (maker<1)=false/\decide (64<maker)=true/\Hid ((rc&&ib)=false))∨(rc=true/\decide (maker<1)=false/\decide (64<maker)=false/\decide (seq<1)=true/\Hid ((rc&&ib)=false))∨(rc=true/\decide (maker<1)=false/\decide (64<maker)=false/\decide (seq<1)=false/\decide (1099511627776<=seq)=true/\Hid ((rc&&ib)=false))∨(rc=true/\decide (maker<1)=false/\decide (64<maker)=false/\decide (seq<1)=false/\decide (1099511627776<=seq)=false/\decide (place<0)=true/\Hid ((rc&&ib)=false))∨(rc=true/\decide (maker<1)=false/\decide (64<maker)=false/\decide (seq<1)=false/\decide (1099511627776<=seq)=false/\decide (place<0)=false/\decide (64<=place)=true/\Hid ((rc&&ib)=false))∨(rc=true/\decide (maker<1)=false/\decide (64<maker)=false/\decide (seq<1)=false/\decide (1099511627776<=seq)=false/\decide (place<0)=false/\decide (64<=place)=false/\Hid ((rc&&ib)=true)):=by
 cases rc
 ·exact .inl ⟨rfl,ah rfl⟩
 by_cases t1:1<=maker
 ·by_cases t2:maker<=64
  ·by_cases t3:1<=seq
   ·by_cases t4:seq<1099511627776
    ·by_cases t5:0<=place
     ·by_cases t6:place<64
      ·exact .inr (.inr (.inr (.inr (.inr (.inr (.inr ⟨rfl,decide_eq_false (by omega),decide_eq_false (by omega),decide_eq_false (by omega),decide_eq_false (by omega),decide_eq_false (by omega),decide_eq_false (by omega),ah (by rw[h];simp[t1,t2,t3,t4,t5,t6])⟩))))))
      ·exact .inr (.inr (.inr (.inr (.inr (.inr (.inl ⟨rfl,decide_eq_false (by omega),decide_eq_false (by omega),decide_eq_false (by omega),decide_eq_false (by omega),decide_eq_false (by omega),decide_eq_true (by omega),ah (by rw[h];simp[t6])⟩))))))
     ·exact .inr (.inr (.inr (.inr (.inr (.inl ⟨rfl,decide_eq_false (by omega),decide_eq_false (by omega),decide_eq_false (by omega),decide_eq_false (by omega),decide_eq_true (by omega),ah (by rw[h];simp[t5])⟩)))))
    ·exact .inr (.inr (.inr (.inr (.inl ⟨rfl,decide_eq_false (by omega),decide_eq_false (by omega),decide_eq_false (by omega),decide_eq_true (by omega),ah (by rw[h];simp[t4])⟩))))
   ·exact .inr (.inr (.inr (.inl ⟨rfl,decide_eq_false (by omega),decide_eq_false (by omega),decide_eq_true (by omega),ah (by rw[h];simp[t3])⟩)))
  ·exact .inr (.inr (.inl ⟨rfl,decide_eq_false (by omega),decide_eq_true (by omega),ah (by rw[h];simp[t2])⟩))
 ·exact .inr (.inl ⟨rfl,decide_eq_true (by omega),ah (by rw[h];simp[t1])⟩)
theorem o_ {rc ib kl:Bool} {maker seq place z:Int} (h:ib=decide (1<=maker/\maker<=64/\1<=seq/\seq<1099511627776/\0<=place/\place<64)) (hz:decide (z<0)=kl):
 (rc=false/\Hid ((rc&&ib&&kl)=false))∨(rc=true/\decide (maker<1)=true/\Hid ((rc&&ib&&kl)=false))∨(rc=true/\decide (maker<1)=false/\decide (64<maker)=true/\Hid ((rc&&ib&&kl)=false))∨(rc=true/\decide (maker<1)=false/\decide (64<maker)=false/\decide (seq<1)=true/\Hid ((rc&&ib&&kl)=false))∨(rc=true/\decide (maker<1)=false/\decide (64<maker)=false/\decide (seq<1)=false/\decide (1099511627776<=seq)=true/\Hid ((rc&&ib&&kl)=false))∨(rc=true/\decide (maker<1)=false/\decide (64<maker)=false/\decide (seq<1)=false/\decide (1099511627776<=seq)=false/\decide (place<0)=true/\Hid ((rc&&ib&&kl)=false))∨(rc=true/\decide (maker<1)=false/\decide (64<maker)=false/\decide (seq<1)=false/\decide (1099511627776<=seq)=false/\decide (place<0)=false/\decide (64<=place)=true/\Hid ((rc&&ib&&kl)=false))∨(rc=true/\decide (maker<1)=false/\decide (64<maker)=false/\decide (seq<1)=false/\decide (1099511627776<=seq)=false/\decide (place<0)=false/\decide (64<=place)=false/\decide (0<=z)=true/\Hid ((rc&&ib&&kl)=false))∨(rc=true/\decide (maker<1)=false/\decide (64<maker)=false/\decide (seq<1)=false/\decide (1099511627776<=seq)=false/\decide (place<0)=false/\decide (64<=place)=false/\decide (0<=z)=false/\Hid ((rc&&ib&&kl)=true)):=by
 subst hz;rcases z3z (rc:=rc) h with ⟨q0,H⟩|⟨q0,q1,H⟩|⟨q0,q1,q2,H⟩|⟨q0,q1,q2,q3,H⟩|⟨q0,q1,q2,q3,q4,H⟩|⟨q0,q1,q2,q3,q4,q5,H⟩|⟨q0,q1,q2,q3,q4,q5,q6,H⟩|⟨q0,q1,q2,q3,q4,q5,q6,H⟩
 ·exact .inl ⟨q0,ah (by rw[H.out];rfl)⟩
 ·exact .inr (.inl ⟨q0,q1,ah (by rw[H.out];rfl)⟩)
 ·exact .inr (.inr (.inl ⟨q0,q1,q2,ah (by rw[H.out];rfl)⟩))
 ·exact .inr (.inr (.inr (.inl ⟨q0,q1,q2,q3,ah (by rw[H.out];rfl)⟩)))
 ·exact .inr (.inr (.inr (.inr (.inl ⟨q0,q1,q2,q3,q4,ah (by rw[H.out];rfl)⟩))))
 ·exact .inr (.inr (.inr (.inr (.inr (.inl ⟨q0,q1,q2,q3,q4,q5,ah (by rw[H.out];rfl)⟩)))))
 ·exact .inr (.inr (.inr (.inr (.inr (.inr (.inl ⟨q0,q1,q2,q3,q4,q5,q6,ah (by rw[H.out];rfl)⟩))))))
 ·by_cases hz:z<0
  ·exact .inr (.inr (.inr (.inr (.inr (.inr (.inr (.inr ⟨q0,q1,q2,q3,q4,q5,q6,decide_eq_false (by omega),ah (by rw[H.out,decide_eq_true hz];rfl)⟩)))))))
  ·exact .inr (.inr (.inr (.inr (.inr (.inr (.inr (.inl ⟨q0,q1,q2,q3,q4,q5,q6,decide_eq_true (by omega),ah (by rw[H.out,decide_eq_false hz];rfl)⟩)))))))
theorem GH {w:World} {D:Nat->Prop} {A:Option Addr} {n c:Nat} {l:List RV} (h:Rd w D 9 A n (iE l)) (hl:l.length=n) (hn:n<=1000000) (hk:∀x∈l,x.ok w D/\x.row.mid):
 Calls Tryz.prog 38 #[.slice A n c] w fun e w'=>e=.returned (.bool (fP (l.map fun x=>x.row)))/\Nx w w':=by
 have Hl:=ah hl;have jo:=ah h;have HK:=ah hk;have HBAD:=ah (fun k (h1:k<l.length) h2=>zC (l:=l.map fun x=>x.row) (k:=k) (by rw[List.length_map];exact h1) h2);have Cc:=ah (uw (l:=l.map fun x=>x.row));have HM0:=ah (fun (h1:0<l.length)=>(pq (l:=l.map fun x=>x.row) (by rw[List.length_map];exact h1)).trans (by rw[YC l h1]));have HMS:=ah (fun j (h1:j+1<l.length)=>(pF (l:=l.map fun x=>x.row) (j:=j) (by rw[List.length_map];exact h1)).trans (by rw[YC l h1,YC l (Nat.lt_of_succ_lt h1)]));rw[List.length_map]at Cc;generalize hX:fP (l.map fun x=>x.row)=X at *;generalize hMA:kC (l.map fun x=>x.row)=MA at *;clear hl h hk hX hMA;go_enter Tryz.func38,Tryz.ntmps38;go_wp2_with fail;go_loopw [7] (fun i wr=>∃k:Nat,k<=n/\i=.int .i64 (k:Int)/\Hid (Nx w wr)/\Hid (∀i,i<k->MA i=true)) (fun i _=>n-(intOf i).toNat)
 case atStart=>exact ⟨0,Nat.zero_le _,rfl,ah (Ch.refl _ _),ah (fun i hi=>absurd hi (Nat.not_lt_zero _))⟩
 case round=>
  obtain ⟨w4,rfl⟩:∃w4:World,w4=wr:=⟨_,rfl⟩;obtain ⟨k,hkn,rfl,N4,HG⟩:=hrel;by_cases hlt:k<n
  ·have hkl:k<l.length:=by rw[Hl.out];exact hlt
   obtain ⟨ad,rfl, -,p0,p1,p2,p3,p4,p5,p6,p7,p8⟩:=z18 (jo.out.nx (by decide) N4.out) hkl;have qO:=ah (fun w' (c':Nx w w')=>wJ (w:=w') (x:=l[k]) (D:=fun _=>True) ((HK.out _ (List.getElem_mem hkl)).1.ch c' (fun _ _ _ hf=>hf) fun _ _=>trivial) (HK.out _ (List.getElem_mem hkl)).2);have HB:=ah (HBAD.out k hkl);cases k with
   |zero=>
    have HV:=ah (HM0.out hkl);have e0:ad.add (0 * 9)=ad:=(by simp[Addr.add]);rw[e0]at p0 p1 p2 p3 p4 p5 p6 p7 p8;clear e0;generalize l[0]=x at *;obtain ⟨⟨kind,time,aB,text,value,null,maker,seq,place⟩,A1,c1⟩:=x;unfold Sv at qO;simp only at p0 p1 p2 p3 p4 p5 p6 p7 p8 qO HV;generalize hrc:fA ⟨kind,time,aB,text,value,null,maker,seq,place⟩=rc at *;have Yt:Hid (EF ⟨kind,time,aB,text,value,null,maker,seq,place⟩=decide (1<=maker/\maker<=64/\1<=seq/\seq<1099511627776/\0<=place/\place<64)):=ah rfl;generalize EF ⟨kind,time,aB,text,value,null,maker,seq,place⟩=ib at *;clear hrc;have iC:=ah (aG.new w4 58 #[.int .i64 kind,.int .i64 time,.slice A1 aB.length c1,.string text,.int .i64 value,.bool null,.int .i64 maker,.int .i64 seq,.int .i64 place])
    have FACT:=ah (fun w' (c':Nx (w4.alloc (.cells #[.int .i64 kind,.int .i64 time,.slice A1 aB.length c1,.string text,.int .i64 value,.bool null,.int .i64 maker,.int .i64 seq,.int .i64 place] 58)) w')=>show w'.cell? ⟨w4.heap.size,0,none⟩=some (.int .i64 kind)/\w'.cell? ⟨w4.heap.size,1,none⟩=some (.int .i64 time)/\w'.cell? ⟨w4.heap.size,2,none⟩=some (.slice A1 aB.length c1)/\w'.cell? ⟨w4.heap.size,3,none⟩=some (.string text)/\w'.cell? ⟨w4.heap.size,4,none⟩=some (.int .i64 value)/\w'.cell? ⟨w4.heap.size,5,none⟩=some (.bool null)/\w'.cell? ⟨w4.heap.size,6,none⟩=some (.int .i64 maker)/\w'.cell? ⟨w4.heap.size,7,none⟩=some (.int .i64 seq)/\w'.cell? ⟨w4.heap.size,8,none⟩=some (.int .i64 place) from by
     exact ⟨(iC.out.nx c').cell 0,(iC.out.nx c').cell 1,(iC.out.nx c').cell 2,(iC.out.nx c').cell 3,(iC.out.nx c').cell 4,(iC.out.nx c').cell 5,(iC.out.nx c').cell 6,(iC.out.nx c').cell 7,(iC.out.nx c').cell 8⟩)
    have N5:=ah (N4.out.alloc (.cells #[.int .i64 kind,.int .i64 time,.slice A1 aB.length c1,.string text,.int .i64 value,.bool null,.int .i64 maker,.int .i64 seq,.int .i64 place] 58));rcases z3z (rc:=rc) (ib:=ib) Yt.out with ⟨rfl,HVV⟩|⟨rfl,q0,HVV⟩|⟨rfl,q0,q1,HVV⟩|⟨rfl,q0,q1,q2,HVV⟩|⟨rfl,q0,q1,q2,q3,HVV⟩|⟨rfl,q0,q1,q2,q3,q4,HVV⟩|⟨rfl,q0,q1,q2,q3,q4,q5,HVV⟩|⟨rfl,q0,q1,q2,q3,q4,q5,HVV⟩
    all_goals
     go_wp2_with fail;clear p0 p1 p2 p3 p4 p5 p6 p7 p8;refine z1C (fun w'=>Hid (Nx (w4.alloc (.cells #[.int .i64 kind,.int .i64 time,.slice A1 aB.length c1,.string text,.int .i64 value,.bool null,.int .i64 maker,.int .i64 seq,.int .i64 place] 58)) w')/\w'.cell? ⟨w4.heap.size,0,none⟩=some (.int .i64 kind)/\w'.cell? ⟨w4.heap.size,1,none⟩=some (.int .i64 time)/\w'.cell? ⟨w4.heap.size,2,none⟩=some (.slice A1 aB.length c1)/\w'.cell? ⟨w4.heap.size,3,none⟩=some (.string text)/\w'.cell? ⟨w4.heap.size,4,none⟩=some (.int .i64 value)/\w'.cell? ⟨w4.heap.size,5,none⟩=some (.bool null)/\w'.cell? ⟨w4.heap.size,6,none⟩=some (.int .i64 maker)/\w'.cell? ⟨w4.heap.size,7,none⟩=some (.int .i64 seq)/\w'.cell? ⟨w4.heap.size,8,none⟩=some (.int .i64 place)) (by kernel_rfl) (by kernel_rfl) ⟨ah ((Ch.refl _ _).drew),FACT.out _ ((Ch.refl _ _).drew)⟩ ?_
     repeat (first
      |refine Nc (by rfl) (by simp only[Act.put,dH,dF,dG];rfl) ?_
      |(refine Nb (v:=?_) (a':=?_) (by rfl) (fun w5 hC5=>?_) ?_ ?_;rotate_left 2;(first
         |(focus ((try dsimp only at hC5);go_split_ands;go_simp;done))
         |(focus ((try dsimp only at hC5);go_split_ands;go_simp;with_reducible rfl))
         |(focus ((try dsimp only at hC5);have hC6:=ah hC5;go_split_ands;go_simp;(go_at_call 88;refine (qO.out w5 (N5.out.tr hC6.out.1.out)).mono ?_;rintro e w7 ⟨rfl,n7⟩;refine ⟨?_,ah (hC6.out.1.out.tr n7),FACT.out w7 (hC6.out.1.out.tr n7)⟩;with_reducible rfl)))
         );(simp only[Act.put,dH,dF,dG];rfl)))
     refine WE ?_;intro w6 hC6;have N6:=ah (N5.out.tr hC6.1.out);clear hC6;go_wp2_with fail
     first
      |(have UH:Hid (X=false):=ah (HB.out (HV.out.trans HVV.out));go_ret;exact ⟨by rw[UH.out];first|done|rfl,N6.out⟩)
      |(have Lm:Hid (MA (0)=true):=ah (HV.out.trans HVV.out);go_roundw;(case rel=>exact ⟨0+1,by omega,by go_num,N6,ah (fun i hi=>if e:i=0 then (by rw[e];exact Lm.out) else HG.out i (by omega))⟩);(case measure=>(simp[intOf];omega)))
   |succ j=>
    have HV:=ah (HMS.out j hkl);obtain ⟨ad',had, -,r0,r1,r2,r3,r4,r5,r6,r7,r8⟩:=z18 (jo.out.nx (by decide) N4.out) (Nat.lt_of_succ_lt hkl);injection had with had;subst had;have Yl:=ah (fun w' (c':Nx w4 w')=>z18 (jo.out.nx (by decide) (N4.out.tr c')) (Nat.lt_of_succ_lt hkl));have Ce:=ah (fun w'=>Bq l[j] l[j+1] w');generalize l[j+1]=x at *;generalize l[j]=y at *;obtain ⟨⟨kind,time,aB,text,value,null,maker,seq,place⟩,A1,c1⟩:=x;obtain ⟨⟨kind2,bV,dW,dQ,value2,dS,bI,seq2,bH⟩,A2,c2⟩:=y;unfold dA at Ce;unfold Sv at qO;simp only at p0 p1 p2 p3 p4 p5 p6 p7 p8 qO HV r0 r1 r2 r3 r4 r5 r6 r7 r8 Yl Ce;generalize hrc:fA ⟨kind,time,aB,text,value,null,maker,seq,place⟩=rc at *;have HCN:=ah (BF ⟨kind2,bV,dW,dQ,value2,dS,bI,seq2,bH⟩ ⟨kind,time,aB,text,value,null,maker,seq,place⟩);generalize fQ ⟨kind2,bV,dW,dQ,value2,dS,bI,seq2,bH⟩ ⟨kind,time,aB,text,value,null,maker,seq,place⟩=z at *;generalize iO ⟨kind2,bV,dW,dQ,value2,dS,bI,seq2,bH⟩ ⟨kind,time,aB,text,value,null,maker,seq,place⟩=kl at *;have Yt:Hid (EF ⟨kind,time,aB,text,value,null,maker,seq,place⟩=decide (1<=maker/\maker<=64/\1<=seq/\seq<1099511627776/\0<=place/\place<64)):=ah rfl;generalize EF ⟨kind,time,aB,text,value,null,maker,seq,place⟩=ib at *;clear hrc;have iC:=ah (aG.new w4 58 #[.int .i64 kind,.int .i64 time,.slice A1 aB.length c1,.string text,.int .i64 value,.bool null,.int .i64 maker,.int .i64 seq,.int .i64 place])
    have FACT:=ah (fun w' (c':Nx (w4.alloc (.cells #[.int .i64 kind,.int .i64 time,.slice A1 aB.length c1,.string text,.int .i64 value,.bool null,.int .i64 maker,.int .i64 seq,.int .i64 place] 58)) w')=>show w'.cell? ⟨w4.heap.size,0,none⟩=some (.int .i64 kind)/\w'.cell? ⟨w4.heap.size,1,none⟩=some (.int .i64 time)/\w'.cell? ⟨w4.heap.size,2,none⟩=some (.slice A1 aB.length c1)/\w'.cell? ⟨w4.heap.size,3,none⟩=some (.string text)/\w'.cell? ⟨w4.heap.size,4,none⟩=some (.int .i64 value)/\w'.cell? ⟨w4.heap.size,5,none⟩=some (.bool null)/\w'.cell? ⟨w4.heap.size,6,none⟩=some (.int .i64 maker)/\w'.cell? ⟨w4.heap.size,7,none⟩=some (.int .i64 seq)/\w'.cell? ⟨w4.heap.size,8,none⟩=some (.int .i64 place)/\w'.cell? (ad.add (j * 9))=some (.int .i64 kind2)/\w'.cell? ⟨(ad.add (j * 9)).block,(ad.add (j * 9)).off+1,none⟩=some (.int .i64 bV)/\w'.cell? ⟨(ad.add (j * 9)).block,(ad.add (j * 9)).off+2,none⟩=some (.slice A2 dW.length c2)/\w'.cell? ⟨(ad.add (j * 9)).block,(ad.add (j * 9)).off+3,none⟩=some (.string dQ)/\w'.cell? ⟨(ad.add (j * 9)).block,(ad.add (j * 9)).off+4,none⟩=some (.int .i64 value2)/\w'.cell? ⟨(ad.add (j * 9)).block,(ad.add (j * 9)).off+5,none⟩=some (.bool dS)/\w'.cell? ⟨(ad.add (j * 9)).block,(ad.add (j * 9)).off+6,none⟩=some (.int .i64 bI)/\w'.cell? ⟨(ad.add (j * 9)).block,(ad.add (j * 9)).off+7,none⟩=some (.int .i64 seq2)/\w'.cell? ⟨(ad.add (j * 9)).block,(ad.add (j * 9)).off+8,none⟩=some (.int .i64 bH) from by
     obtain ⟨ad2,had, -,s0,s1,s2,s3,s4,s5,s6,s7,s8⟩:=Yl.out w' (((Ch.refl (fun _=>False) w4).alloc _).tr c');injection had with had;subst had;exact ⟨(iC.out.nx c').cell 0,(iC.out.nx c').cell 1,(iC.out.nx c').cell 2,(iC.out.nx c').cell 3,(iC.out.nx c').cell 4,(iC.out.nx c').cell 5,(iC.out.nx c').cell 6,(iC.out.nx c').cell 7,(iC.out.nx c').cell 8,s0,s1,s2,s3,s4,s5,s6,s7,s8⟩)
    have N5:=ah (N4.out.alloc (.cells #[.int .i64 kind,.int .i64 time,.slice A1 aB.length c1,.string text,.int .i64 value,.bool null,.int .i64 maker,.int .i64 seq,.int .i64 place] 58));have hwj:IntKind.i64.wrap (j:Int)=(j:Int):=IntWalk.i64_in _ (by omega);have hjn:(j:Int)<(n:Int):=(by omega);clear r0 r1 r2 r3 r4 r5 r6 r7 r8 Yl;rcases o_ (rc:=rc) (ib:=ib) (kl:=kl) (z:=z) Yt.out HCN.out with ⟨rfl,HVV⟩|⟨rfl,q0,HVV⟩|⟨rfl,q0,q1,HVV⟩|⟨rfl,q0,q1,q2,HVV⟩|⟨rfl,q0,q1,q2,q3,HVV⟩|⟨rfl,q0,q1,q2,q3,q4,HVV⟩|⟨rfl,q0,q1,q2,q3,q4,q5,HVV⟩|⟨rfl,q0,q1,q2,q3,q4,q5,q6,HVV⟩|⟨rfl,q0,q1,q2,q3,q4,q5,q6,HVV⟩
    all_goals
     go_wp2_with fail;clear p0 p1 p2 p3 p4 p5 p6 p7 p8;refine z1C (fun w'=>Hid (Nx (w4.alloc (.cells #[.int .i64 kind,.int .i64 time,.slice A1 aB.length c1,.string text,.int .i64 value,.bool null,.int .i64 maker,.int .i64 seq,.int .i64 place] 58)) w')/\w'.cell? ⟨w4.heap.size,0,none⟩=some (.int .i64 kind)/\w'.cell? ⟨w4.heap.size,1,none⟩=some (.int .i64 time)/\w'.cell? ⟨w4.heap.size,2,none⟩=some (.slice A1 aB.length c1)/\w'.cell? ⟨w4.heap.size,3,none⟩=some (.string text)/\w'.cell? ⟨w4.heap.size,4,none⟩=some (.int .i64 value)/\w'.cell? ⟨w4.heap.size,5,none⟩=some (.bool null)/\w'.cell? ⟨w4.heap.size,6,none⟩=some (.int .i64 maker)/\w'.cell? ⟨w4.heap.size,7,none⟩=some (.int .i64 seq)/\w'.cell? ⟨w4.heap.size,8,none⟩=some (.int .i64 place)/\w'.cell? (ad.add (j * 9))=some (.int .i64 kind2)/\w'.cell? ⟨(ad.add (j * 9)).block,(ad.add (j * 9)).off+1,none⟩=some (.int .i64 bV)/\w'.cell? ⟨(ad.add (j * 9)).block,(ad.add (j * 9)).off+2,none⟩=some (.slice A2 dW.length c2)/\w'.cell? ⟨(ad.add (j * 9)).block,(ad.add (j * 9)).off+3,none⟩=some (.string dQ)/\w'.cell? ⟨(ad.add (j * 9)).block,(ad.add (j * 9)).off+4,none⟩=some (.int .i64 value2)/\w'.cell? ⟨(ad.add (j * 9)).block,(ad.add (j * 9)).off+5,none⟩=some (.bool dS)/\w'.cell? ⟨(ad.add (j * 9)).block,(ad.add (j * 9)).off+6,none⟩=some (.int .i64 bI)/\w'.cell? ⟨(ad.add (j * 9)).block,(ad.add (j * 9)).off+7,none⟩=some (.int .i64 seq2)/\w'.cell? ⟨(ad.add (j * 9)).block,(ad.add (j * 9)).off+8,none⟩=some (.int .i64 bH)) (by kernel_rfl) (by kernel_rfl) ⟨ah ((Ch.refl _ _).drew),FACT.out _ ((Ch.refl _ _).drew)⟩ ?_
     repeat (first
      |refine Nc (by rfl) (by simp only[Act.put,dH,dF,dG];rfl) ?_
      |(refine Nb (v:=?_) (a':=?_) (by rfl) (fun w5 hC5=>?_) ?_ ?_;rotate_left 2;(first
         |(focus ((try dsimp only at hC5);go_split_ands;go_simp;done))
         |(focus ((try dsimp only at hC5);go_split_ands;go_simp;with_reducible rfl))
         |(focus ((try dsimp only at hC5);have hC6:=ah hC5;go_split_ands;go_simp;(go_at_call 88;refine (qO.out w5 (N5.out.tr hC6.out.1.out)).mono ?_;rintro e w7 ⟨rfl,n7⟩;refine ⟨?_,ah (hC6.out.1.out.tr n7),FACT.out w7 (hC6.out.1.out.tr n7)⟩;with_reducible rfl)))
         |(focus ((try dsimp only at hC5);have hC6:=ah hC5;go_split_ands;go_simp;(go_at_call 81;refine (Ce.out w5).mono ?_;rintro e w7 ⟨rfl,n7⟩;refine ⟨?_,ah (hC6.out.1.out.tr n7),FACT.out w7 (hC6.out.1.out.tr n7)⟩;with_reducible rfl)))
         );(simp only[Act.put,dH,dF,dG];rfl)))
     refine WE ?_;intro w6 hC6;have N6:=ah (N5.out.tr hC6.1.out);clear hC6;go_wp2_with fail
     first
      |(have UH:Hid (X=false):=ah (HB.out (HV.out.trans HVV.out));go_ret;exact ⟨by rw[UH.out];first|done|rfl,N6.out⟩)
      |(have Lm:Hid (MA (j+1)=true):=ah (HV.out.trans HVV.out);go_roundw;(case rel=>exact ⟨j+1+1,by omega,by go_num,N6,ah (fun i hi=>if e:i=j+1 then (by rw[e];exact Lm.out) else HG.out i (by omega))⟩);(case measure=>(simp[intOf];omega)))
  ·have hkn2:n=k:=by omega
   have hX:Hid (X=decide (0<k)):=ah (by rw[Cc.out (fun i hi=>HG.out i (by rw[Hl.out]at hi;omega)),Hl.out,hkn2]);go_wp2_with fail;go_ret;exact ⟨by rw[hX.out];first|done|rfl,N4.out⟩
end Go.Proofs.YtpakjclpjcngmaaGreat
