/- Contracts and plain laws that the last text rests on. Conditions: each theorem states its own. -/
import Derived.Test.YtdbfejfhpkakhaaGreatKKf2Q11
import Derived.Test.YtdbfejfhpkakhaaGreatKKf2Q23
import Derived.Laws.MakeOwn
import Derived.Test.YtdbfejfhpkakhaaGreatKKf2Q14
import Derived.Test.YtdbfejfhpkakhaaGreatKKf2Q6
import Derived.IntWalk
import Derived.Test.YtdbfejfhpkakhaaGreatKKf2PbOrdR
import Derived.RangeFuncBox
import Derived.RangeFuncLeaves
import Derived.Shelf.Abstract
import Derived.WalkKit
import Derived.OwnWalkIn
import Derived.TacticsInMore
import Derived.LoopNIn
import Derived.LoopIn
import Derived.Deep.RegionHeld3
import Derived.Test.YtdbfejfhpkakhaaGreatKKf2Q24
set_option maxRecDepth 100000
set_option maxHeartbeats 16000000
set_option linter.unusedVariables false
namespace Go.Proofs.YtdbfejfhpkakhaaGreat
open Go.RowKit
theorem Qo (x:RV) (w:World):Calls Tryz.prog 118 #[aK x] w fun e w'=>e=.returned (.int .i64 x.row.time)/\Nx w w':=by
 obtain ⟨⟨kind,time,ak,text,value,null,maker,seq,place⟩,A1,c1⟩:=x;unfold aK;go_enter Tryz.func118,Tryz.ntmps118;go_wp2_with fail;go_ret;exact ⟨rfl,(Ch.refl _ w).alloc _⟩
theorem Qn (x:RV) (w:World):Calls Tryz.prog 119 #[aK x] w fun e w'=>e=.returned (.int .i64 x.row.maker)/\Nx w w':=by
 obtain ⟨⟨kind,time,ak,text,value,null,maker,seq,place⟩,A1,c1⟩:=x;unfold aK;go_enter Tryz.func119,Tryz.ntmps119;go_wp2_with fail;go_ret;exact ⟨rfl,(Ch.refl _ w).alloc _⟩
theorem Qm (x:RV) (w:World):Calls Tryz.prog 120 #[aK x] w fun e w'=>e=.returned (.int .i64 x.row.seq)/\Nx w w':=by
 obtain ⟨⟨kind,time,ak,text,value,null,maker,seq,place⟩,A1,c1⟩:=x;unfold aK;go_enter Tryz.func120,Tryz.ntmps120;go_wp2_with fail;go_ret;exact ⟨rfl,(Ch.refl _ w).alloc _⟩
theorem Ql (x:RV) (w:World):Calls Tryz.prog 121 #[aK x] w fun e w'=>e=.returned (.int .i64 x.row.place)/\Nx w w':=by
 obtain ⟨⟨kind,time,ak,text,value,null,maker,seq,place⟩,A1,c1⟩:=x;unfold aK;go_enter Tryz.func121,Tryz.ntmps121;go_wp2_with fail;go_ret;exact ⟨rfl,(Ch.refl _ w).alloc _⟩
theorem Qk (x:RV) (w:World):Calls Tryz.prog 122 #[aK x] w fun e w'=>e=.returned (.int .i64 x.row.kind)/\Nx w w':=by
 obtain ⟨⟨kind,time,ak,text,value,null,maker,seq,place⟩,A1,c1⟩:=x;unfold aK;go_enter Tryz.func122,Tryz.ntmps122;go_wp2_with fail;go_ret;exact ⟨rfl,(Ch.refl _ w).alloc _⟩
theorem Qi (x:RV) (w:World):Calls Tryz.prog 129 #[aK x] w fun e w'=>e=.returned (.int .i64 x.row.value)/\Nx w w':=by
 obtain ⟨⟨kind,time,ak,text,value,null,maker,seq,place⟩,A1,c1⟩:=x;unfold aK;go_enter Tryz.func129,Tryz.ntmps129;go_wp2_with fail;go_ret;exact ⟨rfl,(Ch.refl _ w).alloc _⟩
theorem Qj (x:RV) (w:World):Calls Tryz.prog 128 #[aK x] w fun e w'=>e=.returned (.string x.row.text)/\Nx w w':=by
 obtain ⟨⟨kind,time,ak,text,value,null,maker,seq,place⟩,A1,c1⟩:=x;unfold aK;go_enter Tryz.func128,Tryz.ntmps128;go_wp2_with fail;go_ret;exact ⟨rfl,(Ch.refl _ w).alloc _⟩
theorem Qh (x:RV) (w:World):Calls Tryz.prog 132 #[aK x] w fun e w'=>e=.returned (.bool x.row.null)/\Nx w w':=by
 obtain ⟨⟨kind,time,ak,text,value,null,maker,seq,place⟩,A1,c1⟩:=x;unfold aK;go_enter Tryz.func132,Tryz.ntmps132;go_wp2_with fail;go_ret;exact ⟨rfl,(Ch.refl _ w).alloc _⟩
def PD (k:Nat):Value:=([.func (.func 118) #[] #[],.func (.func 119) #[] #[],.func (.func 120) #[] #[],.func (.func 121) #[] #[],.func (.func 122) #[] #[]]:List Value).getD k undef
def jq (k:Nat) (x:ay):Int:=match k with
 |0=>x.time
 |1=>x.maker
 |2=>x.seq
 |3=>x.place
 |_=>x.kind
theorem TQ (x:RV) (w:World) (b:Nat) (hb:w.cell? ⟨b,0,none⟩=some (.func (.func 118) #[] #[])):Calls Tryz.prog 174 #[aK x,.pointer (some ⟨b,0,none⟩)] w fun e w'=>e=.returned (.int .i64 (jq 0 x.row))/\Nx w w':=by
 have HC:=ah (fun w=>Qo x w);obtain ⟨⟨kind,time,ak,text,value,null,maker,seq,place⟩,A1,c1⟩:=x;unfold aK at *;have hlt:b<w.heap.size:=World.block_lt_of_cell? w _ hb;go_enter Tryz.func174,Tryz.ntmps174;go_wp2_with fail;refine (HC.out _).mono ?_;rintro e w2 ⟨rfl,n2⟩;go_wp2_with fail;go_ret;exact ⟨rfl,((Ch.refl _ w).alloc _).tr n2⟩
theorem TP (x:RV) (w:World) (b:Nat) (hb:w.cell? ⟨b,0,none⟩=some (.func (.func 119) #[] #[])):Calls Tryz.prog 174 #[aK x,.pointer (some ⟨b,0,none⟩)] w fun e w'=>e=.returned (.int .i64 (jq 1 x.row))/\Nx w w':=by
 have HC:=ah (fun w=>Qn x w);obtain ⟨⟨kind,time,ak,text,value,null,maker,seq,place⟩,A1,c1⟩:=x;unfold aK at *;have hlt:b<w.heap.size:=World.block_lt_of_cell? w _ hb;go_enter Tryz.func174,Tryz.ntmps174;go_wp2_with fail;refine (HC.out _).mono ?_;rintro e w2 ⟨rfl,n2⟩;go_wp2_with fail;go_ret;exact ⟨rfl,((Ch.refl _ w).alloc _).tr n2⟩
theorem TN (x:RV) (w:World) (b:Nat) (hb:w.cell? ⟨b,0,none⟩=some (.func (.func 120) #[] #[])):Calls Tryz.prog 174 #[aK x,.pointer (some ⟨b,0,none⟩)] w fun e w'=>e=.returned (.int .i64 (jq 2 x.row))/\Nx w w':=by
 have HC:=ah (fun w=>Qm x w);obtain ⟨⟨kind,time,ak,text,value,null,maker,seq,place⟩,A1,c1⟩:=x;unfold aK at *;have hlt:b<w.heap.size:=World.block_lt_of_cell? w _ hb;go_enter Tryz.func174,Tryz.ntmps174;go_wp2_with fail;refine (HC.out _).mono ?_;rintro e w2 ⟨rfl,n2⟩;go_wp2_with fail;go_ret;exact ⟨rfl,((Ch.refl _ w).alloc _).tr n2⟩
theorem TM (x:RV) (w:World) (b:Nat) (hb:w.cell? ⟨b,0,none⟩=some (.func (.func 121) #[] #[])):Calls Tryz.prog 174 #[aK x,.pointer (some ⟨b,0,none⟩)] w fun e w'=>e=.returned (.int .i64 (jq 3 x.row))/\Nx w w':=by
 have HC:=ah (fun w=>Ql x w);obtain ⟨⟨kind,time,ak,text,value,null,maker,seq,place⟩,A1,c1⟩:=x;unfold aK at *;have hlt:b<w.heap.size:=World.block_lt_of_cell? w _ hb;go_enter Tryz.func174,Tryz.ntmps174;go_wp2_with fail;refine (HC.out _).mono ?_;rintro e w2 ⟨rfl,n2⟩;go_wp2_with fail;go_ret;exact ⟨rfl,((Ch.refl _ w).alloc _).tr n2⟩
theorem TL (x:RV) (w:World) (b:Nat) (hb:w.cell? ⟨b,0,none⟩=some (.func (.func 122) #[] #[])):Calls Tryz.prog 174 #[aK x,.pointer (some ⟨b,0,none⟩)] w fun e w'=>e=.returned (.int .i64 (jq 4 x.row))/\Nx w w':=by
 have HC:=ah (fun w=>Qk x w);obtain ⟨⟨kind,time,ak,text,value,null,maker,seq,place⟩,A1,c1⟩:=x;unfold aK at *;have hlt:b<w.heap.size:=World.block_lt_of_cell? w _ hb;go_enter Tryz.func174,Tryz.ntmps174;go_wp2_with fail;refine (HC.out _).mono ?_;rintro e w2 ⟨rfl,n2⟩;go_wp2_with fail;go_ret;exact ⟨rfl,((Ch.refl _ w).alloc _).tr n2⟩
theorem Kq {k:Nat} (hk:k<5) (x:RV) (w:World) (b:Nat) (hb:w.cell? ⟨b,0,none⟩=some (PD k)):Calls Tryz.prog 174 #[aK x,.pointer (some ⟨b,0,none⟩)] w fun e w'=>e=.returned (.int .i64 (jq k x.row))/\Nx w w':=
 match k,hk,hb with
 |0,_,hb=>TQ x w b hb
 |1,_,hb=>TP x w b hb
 |2,_,hb=>TN x w b hb
 |3,_,hb=>TM x w b hb
 |4,_,hb=>TL x w b hb
theorem wV (v:Value) (F:Fn) (hv:v=.func F #[] #[]) (w:World):Calls Tryz.prog 125 #[v] w fun e w'=>e=.returned (.func (.func 174) #[] #[.pointer (some ⟨w.heap.size,0,none⟩)])/\w'=w.alloc (.cells #[v] 216):=by
 subst hv;go_enter Tryz.func125,Tryz.ntmps125;go_wp2_with fail;go_ret;exact ⟨rfl,rfl⟩
theorem rD {w:World} {D:Nat->Prop} (x:RV) (hx:x.ok w D) (hf:x.row.few):Calls Tryz.prog 95 #[aK x] w fun e w'=>e=.returned (.string (bZ x.row))/\Nx w w':=by
 have HT:=ah (fun w' (c':Nx w w')=>kZ (c:=x.c) (hx.1.nx (by decide) c') (by have:=hf.2;omega) hf.1.1);obtain ⟨⟨kind,time,ak,text,value,null,maker,seq,place⟩,A1,c1⟩:=x;unfold aK;unfold bZ;simp only at HT ⊢;generalize (if gI ak=true then (0:Int) else 4)=er at HT;clear hx hf;go_enter Tryz.func95,Tryz.ntmps95;go_wp2_with fail;refine (HT.out _ ((Ch.refl _ w).alloc _)).mono ?_;rintro e w2 ⟨rfl,n2⟩;go_wp2_with fail;go_ret;exact ⟨rfl,((Ch.refl _ w).alloc _).tr n2⟩
theorem JJ {w:World} {D:Nat->Prop} {A:Option Addr} {n c:Nat} {l:List RV} {b:Nat} (f:ay->Int) (h:Rd w D 9 A n (bC l)) (hl:l.length=n) (hn:n<=1000000)
 (hg:∀w',Nx w w'->∀x∈l,Calls Tryz.prog 174 #[aK x,.pointer (some ⟨b,0,none⟩)] w' fun e w''=>e=.returned (Value.int .i64 (f x.row))/\Nx w' w''):
 Calls Tryz.prog 124 #[.slice A n c,.func (.func 174) #[] #[.pointer (some ⟨b,0,none⟩)]] w (Gives w 2 1 n (l.map fun x=>Value.int .i64 (f x.row))):=by
 obtain ⟨i0,hi0,hz0,hz1,hz2⟩:=info_parts Tryz.uf
 have hmk:∀w:World,(Instr.makeSlice 219 (.int .i64 0) (.int .i64 (n:Int))).run Tryz.prog w=.ok (.slice (some ⟨w.heap.size,0,none⟩) 0 n) (w.alloc (.cells (madeCells #[.int .i64 0] n) 2)):=fun w=>by
  have:=run_make (P:=Tryz.prog) w 219 2 i0 (.int .i64 0) Tryz.underlying219 hi0 hz0 .i64 .i64 0 (n:Int) (by omega) (by omega) (by rw[hz2];omega) (by omega);rw[hz1,show (n:Int).toNat=n by omega,Nat.mul_one]at this;exact this
 have o1:aA w (w.alloc (.cells (madeCells #[.int .i64 0] n) 2)) 2 1 (.slice (some ⟨w.heap.size,0,none⟩) 0 n) 0 []:=
  ⟨World.ownsRow_made w _ n (Nat.le_refl _) (by simp only[maxLen];omega) (by simp[size_madeCells]),(Ch.refl _ w).alloc _⟩
 have O1:=ah o1;have HL:=ah hl;have iZ:=ah h;have HG:=ah hg;have HV:Hid (∀k (hk:k<l.length),(l.map fun x=>Value.int .i64 (f x.row)).take (k+1)=(l.map fun x=>Value.int .i64 (f x.row)).take k++[Value.int .i64 (f l[k].row)]):=ah (fun k hk=>by rw[List.take_succ_eq_append_getElem (by simpa using hk)];simp);have HE:Hid ((l.map fun x=>Value.int .i64 (f x.row)).length=n):=ah (by rw[List.length_map];exact hl);clear hl h hg o1;generalize (l.map fun x=>Value.int .i64 (f x.row))=G at *;go_enter Tryz.func124,Tryz.ntmps124;go_wp2_with fail;generalize (w.alloc (.cells (madeCells #[.int .i64 0] n) 2))=w1 at *;clear hmk;go_loopw [5,13] (fun v i wr=>∃k:Nat,k<=n/\i=.int .i64 (k:Int)/\Hid (aA w wr 2 1 v k (G.take k))) (fun _ i _=>n-(intOf i).toNat)
 case atStart=>exact ⟨0,Nat.zero_le _,rfl,O1⟩
 case round=>
  obtain ⟨w4,rfl⟩:∃w4:World,w4=wr:=⟨_,rfl⟩;obtain ⟨k,hkn,rfl,HO⟩:=hrel;by_cases hlt:k<n
  ·have hkl:k<l.length:=by rw[HL.out];exact hlt
   obtain ⟨ad,rfl, -,p0,p1,p2,p3,p4,p5,p6,p7,p8⟩:=pX (iZ.out.nx (by decide) HO.out.nx) hkl;have HC:=ah (fun w' (c':Nx w4 w')=>HG.out w' (HO.out.nx.tr c') _ (List.getElem_mem hkl));have HV1:=ah (HV.out k hkl);generalize l[k]=x at *;obtain ⟨⟨kind,time,ak,text,value,null,maker,seq,place⟩,A1,c1⟩:=x;unfold aK at HC;simp only at p0 p1 p2 p3 p4 p5 p6 p7 p8 HC HV1;generalize f ⟨kind,time,ak,text,value,null,maker,seq,place⟩=y at *;go_wp2_with fail;refine (HC.out _ ((Ch.refl _ w4).alloc _)).mono ?_;rintro e w5 ⟨rfl,n5⟩;have o5:=HO.out.tr (((Ch.refl _ w4).alloc _).tr n5);clear n5 p0 p1 p2 p3 p4 p5 p6 p7 p8;go_wp2_with (at_builtin;refine QU rfl (.tmp 17) (.tmp 21) _ rfl 2 i0 _ 8 Tryz.underlying219 hi0 hz0 hz1 hz2 rfl (Value.int .i64 y) rfl rfl o5 rfl (by simp only[maxLen];omega) (by omega) ?_;intro v7 w7 o7 m7;have O7:=ah o7;clear o7 m7 o5)
   go_roundw
   case rel=>exact ⟨k+1,by omega,by go_num,by rw[HV1.out];exact O7⟩
   case measure=>simp[intOf];omega
  ·have hkn2:n=k:=by omega
   have hr:Hid (G.take k=G):=ah (List.take_of_length_le (by rw[HE.out];omega));go_wp2_with fail;go_ret;refine ⟨_,rfl,?_⟩;have:=HO.out;rw[hr.out,←hkn2]at this;exact this
theorem JI {w:World} {D:Nat->Prop} {A:Option Addr} {n c:Nat} {l:List RV} (f:ay->Int) (h:Rd w D 9 A n (bC l)) (hl:l.length=n) (hn:n<=1000000)
 (hg:∀w',Nx w w'->∀x∈l,Calls Tryz.prog 129 #[aK x] w' fun e w''=>e=.returned (Value.int .i64 (f x.row))/\Nx w' w''):
 Calls Tryz.prog 124 #[.slice A n c,.func (.func 129) #[] #[]] w (Gives w 2 1 n (l.map fun x=>Value.int .i64 (f x.row))):=by
 obtain ⟨i0,hi0,hz0,hz1,hz2⟩:=info_parts Tryz.uf
 have hmk:∀w:World,(Instr.makeSlice 219 (.int .i64 0) (.int .i64 (n:Int))).run Tryz.prog w=.ok (.slice (some ⟨w.heap.size,0,none⟩) 0 n) (w.alloc (.cells (madeCells #[.int .i64 0] n) 2)):=fun w=>by
  have:=run_make (P:=Tryz.prog) w 219 2 i0 (.int .i64 0) Tryz.underlying219 hi0 hz0 .i64 .i64 0 (n:Int) (by omega) (by omega) (by rw[hz2];omega) (by omega);rw[hz1,show (n:Int).toNat=n by omega,Nat.mul_one]at this;exact this
 have o1:aA w (w.alloc (.cells (madeCells #[.int .i64 0] n) 2)) 2 1 (.slice (some ⟨w.heap.size,0,none⟩) 0 n) 0 []:=
  ⟨World.ownsRow_made w _ n (Nat.le_refl _) (by simp only[maxLen];omega) (by simp[size_madeCells]),(Ch.refl _ w).alloc _⟩
 have O1:=ah o1;have HL:=ah hl;have iZ:=ah h;have HG:=ah hg;have HV:Hid (∀k (hk:k<l.length),(l.map fun x=>Value.int .i64 (f x.row)).take (k+1)=(l.map fun x=>Value.int .i64 (f x.row)).take k++[Value.int .i64 (f l[k].row)]):=ah (fun k hk=>by rw[List.take_succ_eq_append_getElem (by simpa using hk)];simp);have HE:Hid ((l.map fun x=>Value.int .i64 (f x.row)).length=n):=ah (by rw[List.length_map];exact hl);clear hl h hg o1;generalize (l.map fun x=>Value.int .i64 (f x.row))=G at *;go_enter Tryz.func124,Tryz.ntmps124;go_wp2_with fail;generalize (w.alloc (.cells (madeCells #[.int .i64 0] n) 2))=w1 at *;clear hmk;go_loopw [5,13] (fun v i wr=>∃k:Nat,k<=n/\i=.int .i64 (k:Int)/\Hid (aA w wr 2 1 v k (G.take k))) (fun _ i _=>n-(intOf i).toNat)
 case atStart=>exact ⟨0,Nat.zero_le _,rfl,O1⟩
 case round=>
  obtain ⟨w4,rfl⟩:∃w4:World,w4=wr:=⟨_,rfl⟩;obtain ⟨k,hkn,rfl,HO⟩:=hrel;by_cases hlt:k<n
  ·have hkl:k<l.length:=by rw[HL.out];exact hlt
   obtain ⟨ad,rfl, -,p0,p1,p2,p3,p4,p5,p6,p7,p8⟩:=pX (iZ.out.nx (by decide) HO.out.nx) hkl;have HC:=ah (fun w' (c':Nx w4 w')=>HG.out w' (HO.out.nx.tr c') _ (List.getElem_mem hkl));have HV1:=ah (HV.out k hkl);generalize l[k]=x at *;obtain ⟨⟨kind,time,ak,text,value,null,maker,seq,place⟩,A1,c1⟩:=x;unfold aK at HC;simp only at p0 p1 p2 p3 p4 p5 p6 p7 p8 HC HV1;generalize f ⟨kind,time,ak,text,value,null,maker,seq,place⟩=y at *;go_wp2_with fail;refine (HC.out _ ((Ch.refl _ w4).alloc _)).mono ?_;rintro e w5 ⟨rfl,n5⟩;have o5:=HO.out.tr (((Ch.refl _ w4).alloc _).tr n5);clear n5 p0 p1 p2 p3 p4 p5 p6 p7 p8;go_wp2_with (at_builtin;refine QU rfl (.tmp 17) (.tmp 21) _ rfl 2 i0 _ 8 Tryz.underlying219 hi0 hz0 hz1 hz2 rfl (Value.int .i64 y) rfl rfl o5 rfl (by simp only[maxLen];omega) (by omega) ?_;intro v7 w7 o7 m7;have O7:=ah o7;clear o7 m7 o5)
   go_roundw
   case rel=>exact ⟨k+1,by omega,by go_num,by rw[HV1.out];exact O7⟩
   case measure=>simp[intOf];omega
  ·have hkn2:n=k:=by omega
   have hr:Hid (G.take k=G):=ah (List.take_of_length_le (by rw[HE.out];omega));go_wp2_with fail;go_ret;refine ⟨_,rfl,?_⟩;have:=HO.out;rw[hr.out,←hkn2]at this;exact this
theorem Dv {w:World} {D:Nat->Prop} {A:Option Addr} {n c:Nat} {l:List RV} (f:ay->ByteArray) (h:Rd w D 9 A n (bC l)) (hl:l.length=n) (hn:n<=1000000)
 (hg:∀w',Nx w w'->∀x∈l,Calls Tryz.prog 95 #[aK x] w' fun e w''=>e=.returned (Value.string (f x.row))/\Nx w' w''):
 Calls Tryz.prog 94 #[.slice A n c,.func (.func 95) #[] #[]] w (Gives w 9 1 n (l.map fun x=>Value.string (f x.row))):=by
 obtain ⟨i0,hi0,hz0,hz1,hz2⟩:=info_parts Tryz.t_
 have hmk:∀w:World,(Instr.makeSlice 22 (.int .i64 0) (.int .i64 (n:Int))).run Tryz.prog w=.ok (.slice (some ⟨w.heap.size,0,none⟩) 0 n) (w.alloc (.cells (madeCells #[.string ⟨#[]⟩] n) 9)):=fun w=>by
  have:=run_make (P:=Tryz.prog) w 22 9 i0 (.string ⟨#[]⟩) Tryz.underlying22 hi0 hz0 .i64 .i64 0 (n:Int) (by omega) (by omega) (by rw[hz2];omega) (by omega);rw[hz1,show (n:Int).toNat=n by omega,Nat.mul_one]at this;exact this
 have o1:aA w (w.alloc (.cells (madeCells #[.string ⟨#[]⟩] n) 9)) 9 1 (.slice (some ⟨w.heap.size,0,none⟩) 0 n) 0 []:=
  ⟨World.ownsRow_made w _ n (Nat.le_refl _) (by simp only[maxLen];omega) (by simp[size_madeCells]),(Ch.refl _ w).alloc _⟩
 have O1:=ah o1;have HL:=ah hl;have iZ:=ah h;have HG:=ah hg;have HV:Hid (∀k (hk:k<l.length),(l.map fun x=>Value.string (f x.row)).take (k+1)=(l.map fun x=>Value.string (f x.row)).take k++[Value.string (f l[k].row)]):=ah (fun k hk=>by rw[List.take_succ_eq_append_getElem (by simpa using hk)];simp);have HE:Hid ((l.map fun x=>Value.string (f x.row)).length=n):=ah (by rw[List.length_map];exact hl);clear hl h hg o1;generalize (l.map fun x=>Value.string (f x.row))=G at *;go_enter Tryz.func94,Tryz.ntmps94;go_wp2_with fail;generalize (w.alloc (.cells (madeCells #[.string ⟨#[]⟩] n) 9))=w1 at *;clear hmk;go_loopw [5,13] (fun v i wr=>∃k:Nat,k<=n/\i=.int .i64 (k:Int)/\Hid (aA w wr 9 1 v k (G.take k))) (fun _ i _=>n-(intOf i).toNat)
 case atStart=>exact ⟨0,Nat.zero_le _,rfl,O1⟩
 case round=>
  obtain ⟨w4,rfl⟩:∃w4:World,w4=wr:=⟨_,rfl⟩;obtain ⟨k,hkn,rfl,HO⟩:=hrel;by_cases hlt:k<n
  ·have hkl:k<l.length:=by rw[HL.out];exact hlt
   obtain ⟨ad,rfl, -,p0,p1,p2,p3,p4,p5,p6,p7,p8⟩:=pX (iZ.out.nx (by decide) HO.out.nx) hkl;have HC:=ah (fun w' (c':Nx w4 w')=>HG.out w' (HO.out.nx.tr c') _ (List.getElem_mem hkl));have HV1:=ah (HV.out k hkl);generalize l[k]=x at *;obtain ⟨⟨kind,time,ak,text,value,null,maker,seq,place⟩,A1,c1⟩:=x;unfold aK at HC;simp only at p0 p1 p2 p3 p4 p5 p6 p7 p8 HC HV1;generalize f ⟨kind,time,ak,text,value,null,maker,seq,place⟩=y at *;go_wp2_with fail;refine (HC.out _ ((Ch.refl _ w4).alloc _)).mono ?_;rintro e w5 ⟨rfl,n5⟩;have o5:=HO.out.tr (((Ch.refl _ w4).alloc _).tr n5);clear n5 p0 p1 p2 p3 p4 p5 p6 p7 p8;go_wp2_with (at_builtin;refine QU rfl (.tmp 17) (.tmp 21) _ rfl 9 i0 _ 16 Tryz.underlying22 hi0 hz0 hz1 hz2 rfl (Value.string y) rfl rfl o5 rfl (by simp only[maxLen];omega) (by omega) ?_;intro v7 w7 o7 m7;have O7:=ah o7;clear o7 m7 o5)
   go_roundw
   case rel=>exact ⟨k+1,by omega,by go_num,by rw[HV1.out];exact O7⟩
   case measure=>simp[intOf];omega
  ·have hkn2:n=k:=by omega
   have hr:Hid (G.take k=G):=ah (List.take_of_length_le (by rw[HE.out];omega));go_wp2_with fail;go_ret;refine ⟨_,rfl,?_⟩;have:=HO.out;rw[hr.out,←hkn2]at this;exact this
theorem JH {w:World} {D:Nat->Prop} {A:Option Addr} {n c:Nat} {l:List RV} (f:ay->ByteArray) (h:Rd w D 9 A n (bC l)) (hl:l.length=n) (hn:n<=1000000)
 (hg:∀w',Nx w w'->∀x∈l,Calls Tryz.prog 128 #[aK x] w' fun e w''=>e=.returned (Value.string (f x.row))/\Nx w' w''):
 Calls Tryz.prog 94 #[.slice A n c,.func (.func 128) #[] #[]] w (Gives w 9 1 n (l.map fun x=>Value.string (f x.row))):=by
 obtain ⟨i0,hi0,hz0,hz1,hz2⟩:=info_parts Tryz.t_
 have hmk:∀w:World,(Instr.makeSlice 22 (.int .i64 0) (.int .i64 (n:Int))).run Tryz.prog w=.ok (.slice (some ⟨w.heap.size,0,none⟩) 0 n) (w.alloc (.cells (madeCells #[.string ⟨#[]⟩] n) 9)):=fun w=>by
  have:=run_make (P:=Tryz.prog) w 22 9 i0 (.string ⟨#[]⟩) Tryz.underlying22 hi0 hz0 .i64 .i64 0 (n:Int) (by omega) (by omega) (by rw[hz2];omega) (by omega);rw[hz1,show (n:Int).toNat=n by omega,Nat.mul_one]at this;exact this
 have o1:aA w (w.alloc (.cells (madeCells #[.string ⟨#[]⟩] n) 9)) 9 1 (.slice (some ⟨w.heap.size,0,none⟩) 0 n) 0 []:=
  ⟨World.ownsRow_made w _ n (Nat.le_refl _) (by simp only[maxLen];omega) (by simp[size_madeCells]),(Ch.refl _ w).alloc _⟩
 have O1:=ah o1;have HL:=ah hl;have iZ:=ah h;have HG:=ah hg;have HV:Hid (∀k (hk:k<l.length),(l.map fun x=>Value.string (f x.row)).take (k+1)=(l.map fun x=>Value.string (f x.row)).take k++[Value.string (f l[k].row)]):=ah (fun k hk=>by rw[List.take_succ_eq_append_getElem (by simpa using hk)];simp);have HE:Hid ((l.map fun x=>Value.string (f x.row)).length=n):=ah (by rw[List.length_map];exact hl);clear hl h hg o1;generalize (l.map fun x=>Value.string (f x.row))=G at *;go_enter Tryz.func94,Tryz.ntmps94;go_wp2_with fail;generalize (w.alloc (.cells (madeCells #[.string ⟨#[]⟩] n) 9))=w1 at *;clear hmk;go_loopw [5,13] (fun v i wr=>∃k:Nat,k<=n/\i=.int .i64 (k:Int)/\Hid (aA w wr 9 1 v k (G.take k))) (fun _ i _=>n-(intOf i).toNat)
 case atStart=>exact ⟨0,Nat.zero_le _,rfl,O1⟩
 case round=>
  obtain ⟨w4,rfl⟩:∃w4:World,w4=wr:=⟨_,rfl⟩;obtain ⟨k,hkn,rfl,HO⟩:=hrel;by_cases hlt:k<n
  ·have hkl:k<l.length:=by rw[HL.out];exact hlt
   obtain ⟨ad,rfl, -,p0,p1,p2,p3,p4,p5,p6,p7,p8⟩:=pX (iZ.out.nx (by decide) HO.out.nx) hkl;have HC:=ah (fun w' (c':Nx w4 w')=>HG.out w' (HO.out.nx.tr c') _ (List.getElem_mem hkl));have HV1:=ah (HV.out k hkl);generalize l[k]=x at *;obtain ⟨⟨kind,time,ak,text,value,null,maker,seq,place⟩,A1,c1⟩:=x;unfold aK at HC;simp only at p0 p1 p2 p3 p4 p5 p6 p7 p8 HC HV1;generalize f ⟨kind,time,ak,text,value,null,maker,seq,place⟩=y at *;go_wp2_with fail;refine (HC.out _ ((Ch.refl _ w4).alloc _)).mono ?_;rintro e w5 ⟨rfl,n5⟩;have o5:=HO.out.tr (((Ch.refl _ w4).alloc _).tr n5);clear n5 p0 p1 p2 p3 p4 p5 p6 p7 p8;go_wp2_with (at_builtin;refine QU rfl (.tmp 17) (.tmp 21) _ rfl 9 i0 _ 16 Tryz.underlying22 hi0 hz0 hz1 hz2 rfl (Value.string y) rfl rfl o5 rfl (by simp only[maxLen];omega) (by omega) ?_;intro v7 w7 o7 m7;have O7:=ah o7;clear o7 m7 o5)
   go_roundw
   case rel=>exact ⟨k+1,by omega,by go_num,by rw[HV1.out];exact O7⟩
   case measure=>simp[intOf];omega
  ·have hkn2:n=k:=by omega
   have hr:Hid (G.take k=G):=ah (List.take_of_length_le (by rw[HE.out];omega));go_wp2_with fail;go_ret;refine ⟨_,rfl,?_⟩;have:=HO.out;rw[hr.out,←hkn2]at this;exact this
theorem JK {w:World} {D:Nat->Prop} {A:Option Addr} {n c:Nat} {l:List RV} (f:ay->Bool) (h:Rd w D 9 A n (bC l)) (hl:l.length=n) (hn:n<=1000000)
 (hg:∀w',Nx w w'->∀x∈l,Calls Tryz.prog 132 #[aK x] w' fun e w''=>e=.returned (Value.bool (f x.row))/\Nx w' w''):
 Calls Tryz.prog 131 #[.slice A n c,.func (.func 132) #[] #[]] w (Gives w 4 1 n (l.map fun x=>Value.bool (f x.row))):=by
 obtain ⟨i0,hi0,hz0,hz1,hz2⟩:=info_parts Tryz.TT
 have hmk:∀w:World,(Instr.makeSlice 225 (.int .i64 0) (.int .i64 (n:Int))).run Tryz.prog w=.ok (.slice (some ⟨w.heap.size,0,none⟩) 0 n) (w.alloc (.cells (madeCells #[.bool false] n) 4)):=fun w=>by
  have:=run_make (P:=Tryz.prog) w 225 4 i0 (.bool false) Tryz.underlying225 hi0 hz0 .i64 .i64 0 (n:Int) (by omega) (by omega) (by rw[hz2];omega) (by omega);rw[hz1,show (n:Int).toNat=n by omega,Nat.mul_one]at this;exact this
 have o1:aA w (w.alloc (.cells (madeCells #[.bool false] n) 4)) 4 1 (.slice (some ⟨w.heap.size,0,none⟩) 0 n) 0 []:=
  ⟨World.ownsRow_made w _ n (Nat.le_refl _) (by simp only[maxLen];omega) (by simp[size_madeCells]),(Ch.refl _ w).alloc _⟩
 have O1:=ah o1;have HL:=ah hl;have iZ:=ah h;have HG:=ah hg;have HV:Hid (∀k (hk:k<l.length),(l.map fun x=>Value.bool (f x.row)).take (k+1)=(l.map fun x=>Value.bool (f x.row)).take k++[Value.bool (f l[k].row)]):=ah (fun k hk=>by rw[List.take_succ_eq_append_getElem (by simpa using hk)];simp);have HE:Hid ((l.map fun x=>Value.bool (f x.row)).length=n):=ah (by rw[List.length_map];exact hl);clear hl h hg o1;generalize (l.map fun x=>Value.bool (f x.row))=G at *;go_enter Tryz.func131,Tryz.ntmps131;go_wp2_with fail;generalize (w.alloc (.cells (madeCells #[.bool false] n) 4))=w1 at *;clear hmk;go_loopw [5,13] (fun v i wr=>∃k:Nat,k<=n/\i=.int .i64 (k:Int)/\Hid (aA w wr 4 1 v k (G.take k))) (fun _ i _=>n-(intOf i).toNat)
 case atStart=>exact ⟨0,Nat.zero_le _,rfl,O1⟩
 case round=>
  obtain ⟨w4,rfl⟩:∃w4:World,w4=wr:=⟨_,rfl⟩;obtain ⟨k,hkn,rfl,HO⟩:=hrel;by_cases hlt:k<n
  ·have hkl:k<l.length:=by rw[HL.out];exact hlt
   obtain ⟨ad,rfl, -,p0,p1,p2,p3,p4,p5,p6,p7,p8⟩:=pX (iZ.out.nx (by decide) HO.out.nx) hkl;have HC:=ah (fun w' (c':Nx w4 w')=>HG.out w' (HO.out.nx.tr c') _ (List.getElem_mem hkl));have HV1:=ah (HV.out k hkl);generalize l[k]=x at *;obtain ⟨⟨kind,time,ak,text,value,null,maker,seq,place⟩,A1,c1⟩:=x;unfold aK at HC;simp only at p0 p1 p2 p3 p4 p5 p6 p7 p8 HC HV1;generalize f ⟨kind,time,ak,text,value,null,maker,seq,place⟩=y at *;go_wp2_with fail;refine (HC.out _ ((Ch.refl _ w4).alloc _)).mono ?_;rintro e w5 ⟨rfl,n5⟩;have o5:=HO.out.tr (((Ch.refl _ w4).alloc _).tr n5);clear n5 p0 p1 p2 p3 p4 p5 p6 p7 p8;go_wp2_with (at_builtin;refine QU rfl (.tmp 17) (.tmp 21) _ rfl 4 i0 _ 1 Tryz.underlying225 hi0 hz0 hz1 hz2 rfl (Value.bool y) rfl rfl o5 rfl (by simp only[maxLen];omega) (by omega) ?_;intro v7 w7 o7 m7;have O7:=ah o7;clear o7 m7 o5)
   go_roundw
   case rel=>exact ⟨k+1,by omega,by go_num,by rw[HV1.out];exact O7⟩
   case measure=>simp[intOf];omega
  ·have hkn2:n=k:=by omega
   have hr:Hid (G.take k=G):=ah (List.take_of_length_le (by rw[HE.out];omega));go_wp2_with fail;go_ret;refine ⟨_,rfl,?_⟩;have:=HO.out;rw[hr.out,←hkn2]at this;exact this
def uK (W w:World) (g:Nat) (xs:List Nat):Prop:=∃v,aB w g 47 #[v]/\aA W w 5 1 v xs.length (bl xs)
def Em (w w':World):Prop:=∀b t cs,t≠5->t≠47->aB w b t cs->aB w' b t cs
theorem Em.of {w w':World} {g:Nat} {v:Value} {W:World} {n:Nat} {xs:List Value} (hb:aB w g 47 #[v]) (ho:aA W w 5 1 v n xs) (c:Ch (fun k=>k=g∨v.ownBlock=some k) w w'):Em w w':=fun b t cs h1 h2 h=>h.ch c (by
 rintro (e|e)
 ·subst e
  exact aB.Iq h hb h2 rfl
 ·exact z06 ho.own h (Ne.symm h1) e)
def MJ (W w:World) (g:Nat) (zs:List Nat) (e:Ending) (w':World):Prop:=e=.returned (.tuple #[])/\uK W w' g zs/\Em w w'
theorem LQ {W w:World} {g:Nat} {v:Value} {xs ys:List Nat} {B:Option Addr} {m c:Nat} {D:Nat->Prop} (hb:aB w g 47 #[v]) (ho:aA W w 5 1 v xs.length (bl xs)) (hW:W.heap.size<=g) (hy:Rd w D 1 B m (bl ys)) (hl:ys.length=m) (hD:∀k,D k->v.ownBlock≠some k) (er:Int)
 (hs:xs.length+ys.length<=100000000):
 Calls Tryz.prog 117 #[.slice B m c,.int .i64 er,.pointer (some ⟨g,0,none⟩)] w (MJ W w g (xs++fA ys)):=by
 obtain ⟨i0,hi0,hz0,hz1,hz2⟩:=info_parts Tryz.info5;have UQ:=ah (fun (w:World)=>NK m w (by omega));have HW:Hid (xs++fA ys=xs++au m++ys):=ah (by rw[←hl];simp[fA]);have hpl:=(z05 (n:=m) (by omega)).2;have HB:=ah hb;have HO:=ah ho;have HY:=ah hy;have kw:IntKind.u64.wrap (m:Int)=(m:Int):=by rw[IntKind.wrap_u64];omega
 have hne:=z06 ho.own hb (by decide);have Ih:=ah hne;have c0:w.drew.cell? ⟨g,0,none⟩=some v:=hb.cell 0;clear hb ho hy hne;generalize xs++fA ys=Z at *;go_enter Tryz.func117,Tryz.ntmps117;refine yQ (fun _=>True) (fun _=>false) rfl trivial (fun hS0=>?_)
 try simp only[Act.put,aG,aC,aF]
 refine z00 (i:=1) (oi:=_) (v:=?_) rfl (fun _ _ _ h=>h) (Or.inl ⟨by rfl,?_⟩) ?_;rotate_left
 ·(intro w hSw;(try dsimp only at hSw);go_split_ands;go_simp;try with_reducible rfl)
 try simp only[Act.put,List.setIfInBounds_toArray]
 refine z00 (i:=2) (oi:=_) (v:=?_) rfl (fun _ _ _ h=>h) (Or.inl ⟨by rfl,?_⟩) ?_;rotate_left
 ·(intro w hSw;(try dsimp only at hSw);go_split_ands;go_simp;try with_reducible rfl)
 try simp only[Act.put]
 refine z00 (i:=3) (oi:=_) (v:=?_) rfl (fun _ _ _ h=>h) (Or.inl ⟨by rfl,?_⟩) ?_;rotate_left
 ·(intro w hSw;(try dsimp only at hSw);go_split_ands;go_simp;try with_reducible rfl)
 try simp only[Act.put]
 refine z00 (i:=6) (oi:=_) (v:=?_) rfl (fun _ _ _ h=>h) (Or.inl ⟨by rfl,?_⟩) ?_;rotate_left
 ·(intro w hSw;(try dsimp only at hSw);go_split_ands;go_simp;try with_reducible rfl)
 try simp only[Act.put]
 refine WH (fun w'=>w'.cell? ⟨g,0,none⟩=some v) (fun i=>decide (i=5∨i=7∨i=8)) (fun _=>trivial) ?_;have hSS:(fun w'=>w'.cell? ⟨g,0,none⟩=some v) w.drew:=c0;refine z00 (i:=0) (oi:=_) (v:=?_) rfl (fun _ _ _ h=>h) (Or.inl ⟨by rfl,?_⟩) ?_;rotate_left
 ·(intro w hSw;(try dsimp only at hSw);go_split_ands;go_simp;try with_reducible rfl)
 try simp only[Act.put]
 refine z02 (rs:=[4]) (by kernel_rfl) (by simp) (z01.cons (o:=_) rfl (fun K hK=>?_) z01.nil);go_simp;refine (UQ.out _).mono ?_;rintro e w3 ⟨k3,cap3,rfl,o3,hk3,hk3',hc3, -⟩;have N3:=ah (((Ch.refl (fun _=>False) w).drew).tr o3.nx);have OV:=ah (HO.out.tr N3.out);have BV:=ah (HB.out.nx N3.out);have R3:=ah o3.tC;have c3:w3.cell? ⟨g,0,none⟩=some v:=BV.out.cell 0;have RY:=ah (HY.out.nx (by decide) N3.out);have hk3w:w.heap.size<=k3:=hk3;have hlt3:∀k,v.ownBlock=some k->k≠k3:=fun k e=>by have:=(HO.out.lt k e).2;omega
 clear o3;refine hK.out _ _ (fun _=>c3) (fun aj=>?_);have hHeld:=aj (by decide);clear hK K aj
 try simp only[Act.put,aG,aC,aF]
 refine z02 (rs:=[5]) (by kernel_rfl) (by simp) (z01.cons (o:=_) rfl (fun K hK=>?_) z01.nil);refine Nb _ rfl (.tmp 5) (.tmp 9) _ rfl W.heap.size 5 i0 _ 1 1 Tryz.underlying47 hi0 hz0 hz1 hz2 rfl (by omega) v xs.length (bl xs) rfl OV.out.own _ (some ⟨k3,0,none⟩) (au m).length cap3 (bl (au m)) rfl R3.out (jA _) (by simp only[maxLen];omega) (by omega) OV.out.nx.size ?_;intro v5 w5 WT gr5 at5;obtain ⟨o5,m5⟩:=CO OV.out (Ch.refl _ _) WT gr5 at5;have O5:=ah o5;have M5:=ah m5;have RY5:=ah (RY.out.ch (by decide) m5.ch (fun k _ hk e=>hD k hk e));clear WT gr5 at5 o5 m5;refine hK.out _ _ (fun h=>absurd h (by decide)) (fun aj=>?_);clear hK K aj
 try simp only[Act.put,List.setIfInBounds_toArray]
 refine z02 (rs:=[7]) (by kernel_rfl) (by simp) (z01.cons (o:=_) rfl (fun K hK=>?_) z01.nil);refine Nb _ rfl (.tmp 10) (.tmp 11) _ rfl W.heap.size 5 i0 _ 1 1 Tryz.underlying47 hi0 hz0 hz1 hz2 rfl (by omega) v5 (xs.length+(au m).length) (bl xs++bl (au m)) rfl O5.out.own D B m c (bl ys) rfl RY5.out (jA _) (by simp only[maxLen];omega) (by omega) O5.out.nx.size ?_;intro v7 w7 dJ gr7 at7;obtain ⟨o7,m7⟩:=CO O5.out (Ch.refl _ _) dJ gr7 at7;have O7:=ah o7;have M7:=ah m7;have hv5:v5.ownBlock≠some g:=z06 O5.out.own (BV.out.ch M5.out.ch Ih.out) (by decide);have B7:=ah ((BV.out.ch M5.out.ch Ih.out).ch m7.ch hv5);have f7:w7.frozen? ⟨g,0,none⟩=false:=B7.out.frozen 0;have c7:w7.cell? ⟨g,0,none⟩=some v:=B7.out.cell 0;obtain ⟨A7,cp7,rfl, -, -⟩:=o7.form;clear dJ gr7 at7 o7 m7 hv5;refine hK.out _ _ (fun h=>absurd h (by decide)) (fun aj=>?_);clear hK K aj
 try simp only[Act.put]
 refine z02 (rs:=[8]) (by kernel_rfl) (by simp) (z01.cons (o:=_) rfl (fun K hK=>?_) z01.nil);go_simp;refine hK.out _ _ (fun h=>absurd h (by decide)) (fun aj=>?_);clear hK K aj
 try simp only[Act.put,aG,aC,aF]
 refine rU (by kernel_rfl) ?_ _;go_wp2_with fail;refine bodyPost_ret (results_none rfl _ _ _) rfl ?_;have hv7:(Value.slice A7 (xs.length+(au m).length+m) cp7).ownBlock≠some g:=z06 O7.out.own B7.out (by decide);have cs:Ch (fun k=>k=g) w7 (w7.setCell ⟨g,0,none⟩ (.slice A7 (xs.length+(au m).length+m) cp7)):=Ch.setCell (S:=fun k=>k=g) (Ch.refl _ w7) (p:=⟨g,0,none⟩) (fun _=>rfl) _;refine ⟨rfl,⟨_,B7.out.aW 0 _,?_⟩,Em.of HB.out HO.out ?_⟩
 ·rw[HW.out,←hl]
  have:=O7.out.ch cs (fun k e h=>hv7 (by rw[e,h])) (fun i hi e=>by omega);rw[←hl]at this;simpa [bl,Nat.add_assoc]using this
 ·refine (((N3.out.mono (fun _ _ hf=>hf.elim)).trans M5.out.ch (fun i _ e=>.inr e)).trans M7.out.ch (fun i hi e=>?_)).trans cs (fun i _ e=>.inl e)
  rcases M5.out.at_ with h|⟨j,h,h2⟩
  ·right;rw[←h];exact e
  ·rw[h]at e
   injection e with e;have:=N3.out.size;omega
end Go.Proofs.YtdbfejfhpkakhaaGreat
namespace Go.Proofs.YtdbfejfhpkakhaaGreat
open Go.RowKit Go.Shelf
attribute [local go_sem] Oper.semAt_some
def bn (n per k:Nat):Nat:=min per (n-k * per)
def bg (n per:Nat):Nat:=(n+per-1) / per
def uI (A:Option Addr) (n per k:Nat):Value:=.slice (A.map fun ad=>ad.add (k * per * 9)) (bn n per k) (bn n per k)
def Ey (p q:Nat) (W W':World):Prop:=W.heap.size<=W'.heap.size/\W'.heap[p]?=W.heap[p]?/\W'.heap[q]?=W.heap[q]?
theorem Ey.refl (p q:Nat) (W:World):Ey p q W W:=⟨Nat.le_refl _,rfl,rfl⟩
theorem Ey.trans {p q:Nat} {A B C:World} (h:Ey p q A B) (k:Ey p q B C):Ey p q A C:=⟨Nat.le_trans h.1 k.1,k.2.1.trans h.2.1,k.2.2.trans h.2.2⟩
theorem ZA {W W':World} {p:Nat} (h:W'.heap[p]?=W.heap[p]?) (i:Nat):W'.cell? ⟨p,i,none⟩=W.cell? ⟨p,i,none⟩:=by
 unfold World.cell?;simp only[h]
theorem GN (l p q:Nat) (A:Option Addr) (n c per:Nat) (jC:1<=per) (Ro:per<=1000000) (hn:n<=1000000) (hc:n<=c) (hA:0<n->A≠none) (J:Nat->World->Prop) (Jx:World->Prop) (hJd:∀k W q,J k W->J k (W.drewN q))
 (hY:∀k W,J k W->k<bg n per->YieldAt Fence.wide 8 Tryz.prog l #[uI A n per k] W fun e W'=>
   (e=.returned (.bool true)/\J (k+1) W'/\Ey p q W W')∨(e=.returned (.bool false)/\Jx W'))
 (W:World) (hp:W.cell? ⟨p,0,none⟩=some (.slice A n c)) (hq:W.cell? ⟨q,0,none⟩=some (.int .i64 (per:Int))) (h0:J 0 W):
 CallsIn Fence.wide 9 Tryz.prog 116 #[.func (.yield l) #[] #[],.pointer (some ⟨p,0,none⟩),.pointer (some ⟨q,0,none⟩)] W fun e W'=>(∃v,e=.returned v)/\
  (J (bg n per) W'∨Jx W'):=by
 refine callsIn_of_wp Tryz.func116 rfl trivial ?_ rfl;simp only[Tryz.ntmps116,List.size_toArray,List.length_cons,List.length_nil,Nat.reduceAdd,Nat.reduceSub,Array.replicate_succ,Array.replicate_zero,List.push_toArray,List.append_toArray,List.nil_append,List.cons_append];gi_wp2
 gi_loopw [4] (fun i wr=>∃k:Nat,k<=bg n per/\i=.int .i64 ((k * per:Nat):Int)/\J k wr/\Ey p q W wr)
  (fun i _=>n+per-(intOf i).toNat)
 case atStart=>exact ⟨0,Nat.zero_le _,by simp,h0,Ey.refl _ _ _⟩
 case round=>
  obtain ⟨k,hk,rfl,hJs,hnx⟩:=hrel;have p0:wr.cell? ⟨p,0,none⟩=some (.slice A n c):=(ZA hnx.2.1 0).trans hp;have q0:wr.cell? ⟨q,0,none⟩=some (.int .i64 (per:Int)):=(ZA hnx.2.2 0).trans hq;by_cases hlt:k<bg n per
  ·have hlt2:k * per<n:=(kN (by omega)).1 hlt
   obtain ⟨ad,rfl⟩:=Option.ne_none_iff_exists'.1 (hA (by omega));have HY:=ah fun q'=>hY k (wr.drewN q') (hJd _ _ _ hJs) hlt;have hm1:bn n per k=min per (n-k * per):=rfl;have hm2:0<bn n per k:=by rw[hm1];omega
   have hm3:k * per+bn n per k<=n:=by rw[hm1];omega
   have hmul:(k+1) * per=k * per+per:=Nat.succ_mul k per;have HMUL:=ah hmul;unfold uI at HY;clear hmul hJs;unfold bn at HY hm1 hm2 hm3;clear hm1;generalize k * per=i at *;have e1:IntKind.i64.wrap ((n:Int)-(i:Int))=(n:Int)-i:=IntWalk.i64_in _ (by omega);gi_wp2
   refine wpIn_wide.2 ?_;go_quiet (fail)
   obtain ⟨fn,tmps,assign,body,hy,hR⟩:=HY.out nq;have eT:((i:Int)+min (per:Int) ((n-i:Nat):Int)).toNat-i=min per (n-i):=(by omega);rw[Option.map_some]at hy;gi_wp2
   refine hR.mono ?_;rintro e W3 (⟨rfl,hJ3,hk3⟩|⟨rfl,hJx3⟩)
   ·have hk4:Ey p q W W3:=hnx.trans (Ey.trans (B:=wr.drewN nq) ⟨Nat.le_refl _,rfl,rfl⟩ hk3)
    have q3:W3.cell? ⟨q,0,none⟩=some (.int .i64 (per:Int)):=(ZA hk4.2.2 0).trans hq;gi_wp2
    go_roundw
    case rel=>exact ⟨k+1,hlt,by rw[HMUL.out];simp,hJ3,hk4⟩
    case measure=>simp[intOf];omega
   ·gi_wp2
    refine bodyPost_ret (results_none rfl _ _ _) rfl ?_;exact ⟨⟨_,rfl⟩,.inr hJx3⟩
  ·obtain rfl:k=bg n per:=by omega
   have hge:n<=bg n per * per:=by
    have h1:=(kN (per:=per) (n:=n) (i:=bg n per) (by omega)).2;exact Nat.not_lt.1 fun h=>absurd (h1 h) (Nat.lt_irrefl _)
   generalize bg n per * per=i at *;gi_wp2
   go_end0
   exact ⟨⟨_,rfl⟩,.inl hJs⟩
theorem grown_drewN (W:World) (k:Nat):W.grownBy (W.drewN k) none:=⟨rfl,rfl,rfl,Nat.le_refl _,fun _ _ _=>rfl⟩
theorem PE {N k:Nat} (h:k<N):(List.finRange N).take (k+1)=(List.finRange N).take k++[⟨k,h⟩]:=by
 rw[List.take_succ_eq_append_getElem (by rw[List.length_finRange];exact h)];simp
theorem Un {α:Type} {N:Nat} (f:Nat->α):(List.finRange N).map (fun i=>f i.val)=(List.range N).map f:=by
 apply List.ext_getElem
 ·simp
 ·intro i h1 h2
  simp
theorem yg (p q:Nat) (A:Option Addr) (n c per:Nat) (jC:1<=per) (Ro:per<=1000000) (hn:n<=1000000) (hc:n<=c) (hA:0<n->A≠none) (w:World) (hp:w.cell? ⟨p,0,none⟩=some (.slice A n c)) (hq:w.cell? ⟨q,0,none⟩=some (.int .i64 (per:Int))):
 SeqStopsK Fence.wide 9 Tryz.prog 116 #[.pointer (some ⟨p,0,none⟩),.pointer (some ⟨q,0,none⟩)] (fun k:Fin (bg n per)=> #[uI A n per k.val]) (Ey p q) (fun xs=>xs=List.finRange (bg n per)) (fun _=>True) (bg n per) w:=fun l J Jx W hW hJ _ hY h0=>by
 have h1:=World.block_lt_of_cell? w _ hp;have h2:=World.block_lt_of_cell? w _ hq;refine (GN l p q A n c per jC Ro hn hc hA (fun k W=>J ((List.finRange (bg n per)).take k) W) (fun W=>∃pre,Jx pre W) (fun k W' q' h=>hJ _ W' _ none h (grown_drewN W' q') (fun r hr=>by cases hr)) (fun k W' h hk=>?_) W ((hW.cell (p:=⟨p,0,none⟩) h1).trans hp) ((hW.cell (p:=⟨q,0,none⟩) h2).trans hq) (by simpa using h0)).mono ?_
 ·obtain ⟨fn,tmps,assign,body,hy,hR⟩:=hY _ ⟨k,hk⟩ W' h (by rw[List.length_take,List.length_finRange];omega)
  refine ⟨fn,tmps,assign,body,hy,hR.mono ?_⟩;rintro e W2 (⟨rfl,hJ2,hk2⟩|⟨rfl,hJ2⟩)
  ·exact .inl ⟨rfl,by rw[PE hk];exact hJ2,hk2⟩
  ·exact .inr ⟨rfl,_,hJ2⟩
 ·rintro e W2 ⟨he,hJ2|⟨pre,hJ2⟩⟩
  ·exact ⟨he,.inl ⟨_,rfl,by rw[List.take_of_length_le (by simp)]at hJ2;exact hJ2⟩⟩
  ·exact ⟨he,.inr ⟨pre,trivial,hJ2⟩⟩
theorem GL (A:Option Addr) (n c per:Nat) (jC:1<=per) (hp2:per<=1000000) (w:World):
 Calls Tryz.prog 90 #[.slice A n c,.int .i64 (per:Int)] w fun e w'=>e=.returned (.func (.func 116) #[] #[.pointer (some ⟨w.heap.size,0,none⟩),.pointer (some ⟨w.heap.size+1,0,none⟩)])/\
  w'=(w.alloc (.cells #[.slice A n c] 34)).alloc (.cells #[.int .i64 (per:Int)] 3):=by
 have q1:¬((per:Int)<1):=by omega
 go_enter Tryz.func90,Tryz.ntmps90;go_wp2_with fail;go_ret;exact ⟨rfl,rfl⟩
end Go.Proofs.YtdbfejfhpkakhaaGreat
namespace Go.Proofs.YtdbfejfhpkakhaaGreat
open Go.RowKit
section
variable {w : World} {D : Nat → Prop}
theorem E_ (b:cZ) (h:b.ok w D) (hn:b.l.length<=1000000) (hf:∀x∈b.l,x.row.ak.length<=4398046511104):
 Calls Tryz.prog 12 #[uU b] w (B_ (b.l.map fun x=>x.row) w):=by
 obtain ⟨i0,hi0,hz0,hz1,hz2⟩:=info_parts Tryz.fH;have H:=ah h.rd;have HK:=ah (fun x hx=>(⟨h.ok x hx,hf x hx⟩:x.ok w D/\x.row.ak.length<=4398046511104));have UU:=ah h.named;obtain ⟨mk,sq,A,c,l⟩:=b;unfold uU;unfold cZ.named at UU;simp only at H HK UU hn ⊢;obtain ⟨n,hl⟩:∃n,l.length=n:=⟨_,rfl⟩;rw[hl]at H hn ⊢;have HB:=ah (aB.new w 37 #[.int .i64 mk,.int .i64 sq,.slice A n c]);have HN:=ah ((Ch.refl (fun _=>False) w).alloc (.cells #[.int .i64 mk,.int .i64 sq,.slice A n c] 37));have Hl:=ah hl;clear hl h hf;go_enter Tryz.func12,Tryz.ntmps12;go_wp2_with fail;have iy:=ah (fun w' (c':Nx (w.alloc (.cells #[.int .i64 mk,.int .i64 sq,.slice A n c] 37)) w')=>HB.out.nx c');obtain ⟨W,hW⟩:∃W,w.alloc (.cells #[.int .i64 mk,.int .i64 sq,.slice A n c] 37)=W:=⟨_,rfl⟩;rw[hW]at HN iy;have hWs:w.heap.size<W.heap.size:=by rw[←hW];simp
 have hWz:W.heap.size=w.heap.size+1:=by rw[←hW];simp
 have HST:=ah (show bW W (W.alloc (.cells #[] 79)) (.slice (some ⟨w.heap.size+1,0,none⟩) 0 0) [] from ⟨by have:=aA.lit W W 79 (Ch.refl _ _) 9;rw[hWz]at this;exact this,fun z hz=>by cases hz⟩);clear hWz;have HH:=ah (H.out.nx (by decide) HN.out);have HKK:=ah (fun x hx=>(HK.out x hx).1.ch (D':=D) HN.out (fun _ _ _ hf=>hf) (fun _ h=>h));simp only[hW];clear hW HB;go_loopw [3,9] (fun v i wr=>∃(k:Nat) (zs:List RV),k<=n/\i=.int .i64 (k:Int)/\Hid (bW W wr v zs)/\Hid (zs.map (fun x=>x.row)=(l.take k).map fun x=>x.row)) (fun _ i _=>n-(intOf i).toNat)
 case atStart=>exact ⟨0,[],Nat.zero_le _,rfl,HST,ah rfl⟩
 case round=>
  obtain ⟨w4,rfl⟩:∃w4:World,w4=wr:=⟨_,rfl⟩;obtain ⟨k,zs,hkn,rfl,Hr,Hm⟩:=hrel;obtain ⟨Az,cz,rfl, -, -⟩:=Hr.out.form;have b4:=iy.out _ Hr.out.own.nx;have d0:w4.cell? ⟨w.heap.size,0,none⟩=some (.int .i64 mk):=b4.cell 0;have d1:w4.cell? ⟨w.heap.size,1,none⟩=some (.int .i64 sq):=b4.cell 1;have hlt4:=b4.lt;clear b4;by_cases hlt:k<n
  ·have hkl:k<l.length:=by rw[Hl.out];exact hlt
   obtain ⟨ad,rfl,hb,p0,p1,p2,p3,p4,p5⟩:=tu (HH.out.nx (by decide) Hr.out.own.nx) hkl;have HT:=ah (fun w' (hn:Nx w4 w')=>EK (kind:=l[k].row.kind) (time:=l[k].row.time) (text:=l[k].row.text) (value:=l[k].row.value) (null:=l[k].row.null) (c1:=l[k].c) (((HKK.out _ (List.getElem_mem hkl)).1.nx (by decide) Hr.out.own.nx).nx (by decide) hn) (HK.out _ (List.getElem_mem hkl)).2);have Hm2:=ah (show (zs.map (fun x=>x.row))++[l[k].row]=(l.take (k+1)).map fun x=>x.row by rw[Hm.out,List.take_succ_eq_append_getElem hkl,List.map_append];rfl);have hnm:=UU.out k hkl;clear hb;generalize l[k]=x at *;obtain ⟨⟨kind,time,ak,text,value,null,maker,seq,place⟩,A1,c1⟩:=x;simp only at p0 p1 p2 p3 p4 p5 HT Hm2 hnm;obtain ⟨h1,h2,h3⟩:=hnm;rw[h1,h2,h3]at Hm2;clear h1 h2 h3
   have hzl:zs.length<=1000000:=by
    have:=congrArg List.length Hm.out;simp at this;omega
   obtain ⟨g,hg⟩:∃g,w.heap.size=g:=⟨_,rfl⟩;rw[hg]at d0 d1 hlt4;have Iw:=ah (fun w' (c':Nx w4 w')=>(⟨by have:=(iy.out _ (Hr.out.own.nx.tr c')).cell 0;rw[hg]at this;exact this,by have:=(iy.out _ (Hr.out.own.nx.tr c')).cell 1;rw[hg]at this;exact this,by have:=(iy.out _ (Hr.out.own.nx.tr c')).cell 2;rw[hg]at this;exact this,by rw[c'.cell (World.block_lt_of_cell? w4 _ p0)];exact p0,by rw[c'.cell (World.block_lt_of_cell? w4 _ p1)];exact p1,by rw[c'.cell (World.block_lt_of_cell? w4 _ p2)];exact p2,by rw[c'.cell (World.block_lt_of_cell? w4 _ p3)];exact p3,by rw[c'.cell (World.block_lt_of_cell? w4 _ p4)];exact p4,by rw[c'.cell (World.block_lt_of_cell? w4 _ p5)];exact p5⟩:w'.cell? ⟨g,0,none⟩=some (.int .i64 mk)/\w'.cell? ⟨g,1,none⟩=some (.int .i64 sq)/\w'.cell? ⟨g,2,none⟩=some (.slice (some ad) n c)/\w'.cell? (ad.add (k * 6))=some (.int .i64 kind)/\w'.cell? ⟨(ad.add (k * 6)).block,(ad.add (k * 6)).off+1,none⟩=some (.int .i64 time)/\w'.cell? ⟨(ad.add (k * 6)).block,(ad.add (k * 6)).off+2,none⟩=some (.slice A1 ak.length c1)/\w'.cell? ⟨(ad.add (k * 6)).block,(ad.add (k * 6)).off+3,none⟩=some (.string text)/\w'.cell? ⟨(ad.add (k * 6)).block,(ad.add (k * 6)).off+4,none⟩=some (.int .i64 value)/\w'.cell? ⟨(ad.add (k * 6)).block,(ad.add (k * 6)).off+5,none⟩=some (.bool null)));simp only[hg];have HG:=ah hg;clear hg p0 p1 p2 p3 p4 p5 d0 d1;go_wp2_with fail;refine yQ (fun w'=>w'.cell? ⟨g,0,none⟩=some (.int .i64 mk)/\w'.cell? ⟨g,1,none⟩=some (.int .i64 sq)/\w'.cell? ⟨g,2,none⟩=some (.slice (some ad) n c)/\w'.cell? (ad.add (k * 6))=some (.int .i64 kind)/\w'.cell? ⟨(ad.add (k * 6)).block,(ad.add (k * 6)).off+1,none⟩=some (.int .i64 time)/\w'.cell? ⟨(ad.add (k * 6)).block,(ad.add (k * 6)).off+2,none⟩=some (.slice A1 ak.length c1)/\w'.cell? ⟨(ad.add (k * 6)).block,(ad.add (k * 6)).off+3,none⟩=some (.string text)/\w'.cell? ⟨(ad.add (k * 6)).block,(ad.add (k * 6)).off+4,none⟩=some (.int .i64 value)/\w'.cell? ⟨(ad.add (k * 6)).block,(ad.add (k * 6)).off+5,none⟩=some (.bool null)) (fun i=>decide (14<=i)) rfl (Iw.out w4.drew (Ch.refl _ w4).drew) (fun hS0=>?_)
   try simp only[Act.put,aG,aC,aF]
   refine z00 (i:=0) (oi:=_) (v:=?_) rfl (fun _ _ _ h=>h) (Or.inl ⟨by rfl,?_⟩) ?_;rotate_left
   ·(intro w hSw;(try dsimp only at hSw);go_split_ands;go_simp;try with_reducible rfl)
   try simp only[Act.put,aG]
   refine z00 (i:=1) (oi:=_) (v:=?_) rfl (fun _ _ _ h=>h) (Or.inl ⟨by rfl,?_⟩) ?_;rotate_left
   ·(intro w hSw;(try dsimp only at hSw);go_split_ands;go_simp;try with_reducible rfl)
   try simp only[Act.put]
   refine z00 (i:=2) (oi:=_) (v:=?_) rfl (fun _ _ _ h=>h) (Or.inl ⟨by rfl,?_⟩) ?_;rotate_left
   ·(intro w hSw;(try dsimp only at hSw);go_split_ands;go_simp;try with_reducible rfl)
   try simp only[Act.put]
   refine z00 (i:=3) (oi:=_) (v:=?_) rfl (fun _ _ _ h=>h) (Or.inl ⟨by rfl,?_⟩) ?_;rotate_left
   ·(intro w hSw;(try dsimp only at hSw);go_split_ands;go_simp;try with_reducible rfl)
   try simp only[Act.put]
   refine z00 (i:=4) (oi:=_) (v:=?_) rfl (fun _ _ _ h=>h) (Or.inl ⟨by rfl,?_⟩) ?_;rotate_left
   ·(intro w hSw;(try dsimp only at hSw);go_split_ands;go_simp;try with_reducible rfl)
   try simp only[Act.put]
   refine z00 (i:=5) (oi:=_) (v:=?_) rfl (fun _ _ _ h=>h) (Or.inl ⟨by rfl,?_⟩) ?_;rotate_left
   ·(intro w hSw;(try dsimp only at hSw);go_split_ands;go_simp;try with_reducible rfl)
   try simp only[Act.put]
   refine z00 (i:=7) (oi:=_) (v:=?_) rfl (fun _ _ _ h=>h) (Or.inl ⟨by rfl,?_⟩) ?_;rotate_left
   ·(intro w hSw;(try dsimp only at hSw);go_split_ands;go_simp;try with_reducible rfl)
   try simp only[Act.put]
   refine z00 (i:=8) (oi:=_) (v:=?_) rfl (fun _ _ _ h=>h) (Or.inl ⟨by rfl,?_⟩) ?_;rotate_left
   ·(intro w hSw;(try dsimp only at hSw);go_split_ands;go_simp;try with_reducible rfl)
   try simp only[Act.put]
   refine z00 (i:=9) (oi:=_) (v:=?_) rfl (fun _ _ _ h=>h) (Or.inl ⟨by rfl,?_⟩) ?_;rotate_left
   ·(intro w hSw;(try dsimp only at hSw);go_split_ands;go_simp;try with_reducible rfl)
   try simp only[Act.put]
   refine z00 (i:=10) (oi:=_) (v:=?_) rfl (fun _ _ _ h=>h) (Or.inl ⟨by rfl,?_⟩) ?_;rotate_left
   ·(intro w hSw;(try dsimp only at hSw);go_split_ands;go_simp;try with_reducible rfl)
   try simp only[Act.put]
   refine z00 (i:=11) (oi:=_) (v:=?_) rfl (fun _ _ _ h=>h) (Or.inl ⟨by rfl,?_⟩) ?_;rotate_left
   ·(intro w hSw;(try dsimp only at hSw);go_split_ands;go_simp;try with_reducible rfl)
   try simp only[Act.put]
   refine z02 (rs:=[6]) (by kernel_rfl) (by simp) (z01.cons (o:=_) rfl (fun K hK=>?_) z01.nil);go_simp;refine (HT.out _ (Ch.refl _ w4).drew).mono ?_;rintro e w5 ⟨A2,c2,rfl,rd,nx,hc2,hm2⟩;have N5:=ah ((Ch.refl (fun _=>False) w4).drew.tr nx);have HR5:=ah (Hr.out.tr N5.out)
   have HY:=ah (show RV.ok w5 (fun k=>W.heap.size<=k/\k<w5.heap.size/\(Value.slice Az zs.length cz).ownBlock≠some k) ⟨⟨kind,time,ak,text,value,null,mk,sq,(k:Int)⟩,A2,c2⟩ from ⟨rd.more fun k hk=>by
    have h1:=Hr.out.own.nx.size;have h2:w4.heap.size<=k:=hk.1;refine ⟨by omega,hk.2,fun e=>?_⟩;have:=(Hr.out.own.lt k e).2;omega,hc2,hm2⟩)
   have HS:=ah HR5.out.own.nx.size;have HL9:=ah (Rd.wO w5 ⟨⟨kind,time,ak,text,value,null,mk,sq,(k:Int)⟩,A2,c2⟩);clear rd nx HT;simp only at HL9;go_wp2_with fail;refine hK.out _ _ (fun _=>Iw.out _ N5.out) (fun aj=>?_);have hHeld:=aj (by decide);clear hK K aj
   try simp only[Act.put,aG,aC,aF]
   refine z02 (rs:=[12]) (by kernel_rfl) (by simp) (z01.cons (o:=_) rfl (fun K hK=>?_) z01.nil);go_simp;refine hK.out _ _ (fun _=>Iw.out _ N5.out) (fun aj=>?_);have hHeld:=aj (by decide);clear hK K aj
   try simp only[Act.put,aG,aC,aF]
   refine z02 (rs:=[13]) (by kernel_rfl) (by simp) (z01.cons (o:=_) rfl (fun K hK=>?_) z01.nil);go_simp;refine hK.out _ _ (fun _=>Iw.out _ (N5.out.alloc _)) (fun aj=>?_);have hHeld:=aj (by decide);clear hK K aj
   try simp only[Act.put,aG,aC,aF]
   refine z02 (rs:=[14]) (by kernel_rfl) (by simp) (z01.cons (o:=_) rfl (fun K hK=>?_) z01.nil);refine Nb _ rfl (.tmp 12) (.tmp 25) _ rfl W.heap.size 79 i0 _ 9 96 Tryz.underlying34 hi0 hz0 hz1 hz2 rfl (by omega) (.slice Az zs.length cz) zs.length (bC zs) rfl (HR5.out.own.alloc _).own _ (some ⟨w5.heap.size,0,none⟩) 1 1 _ rfl HL9.out (Ip _) (by simp only[maxLen];omega) (by omega) (by have:=HS.out;simp;omega) ?_;intro v7 w7 dJ gr7 at7;obtain ⟨o7,m7⟩:=CO HR5.out.own ((Ch.refl _ w5).alloc _) dJ gr7 at7;have G7:=ah (HR5.out.app (ys:=[_]) o7 m7 (by intro y hy;rw[List.mem_singleton]at hy;subst hy;exact HY.out));clear dJ gr7 at7 o7 m7;refine hK.out _ _ (fun h=>absurd h (by decide)) (fun aj=>?_);clear hK K aj
   try simp only[Act.put,aG]
   refine z02 (rs:=[15]) (by kernel_rfl) (by simp) (z01.cons (o:=_) rfl (fun K hK=>?_) z01.nil);go_simp;refine hK.out _ _ (fun h=>absurd h (by decide)) (fun aj=>?_);clear hK K aj
   try simp only[Act.put,aG,aC,aF]
   refine rU (by kernel_rfl) ?_ _;go_wp2_with fail;go_roundw
   case rel=>exact ⟨k+1,_,by omega,by go_num,G7,ah (by rw[List.map_append];exact Hm2.out)⟩
   case measure=>simp[intOf];omega
  ·have HM:=ah (show zs.map (fun x=>x.row)=l.map fun x=>x.row by rw[Hm.out,List.take_of_length_le (by rw[Hl.out];omega)])
   go_wp2_with fail;go_ret;exact ⟨_,_,rfl,bW.base HN.out Hr.out,HM.out⟩
end
end Go.Proofs.YtdbfejfhpkakhaaGreat
