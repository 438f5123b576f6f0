/- Contracts and plain laws that the last text rests on. Conditions: each theorem states its own. -/
import Derived.Test.YtpakjclpjcngmaaGreatKdQ30
import Derived.Test.YtpakjclpjcngmaaGreatKdQ15
import Derived.Test.YtpakjclpjcngmaaGreatKdQ12
import Derived.Test.YtpakjclpjcngmaaGreatKdQ10
import Derived.Test.YtpakjclpjcngmaaGreatKdQ29
import Derived.Test.YtpakjclpjcngmaaGreatKdQ17
set_option maxRecDepth 100000
set_option maxHeartbeats 64000000
set_option linter.unusedVariables false
namespace Go.Proofs.YtpakjclpjcngmaaGreat
open Go.RowKit
theorem vG {P:Program} {ops:Array Oper} {o:Oper} {a:Act} {K:Act->World->Prop} {Q:Exit->Act->World->Prop} {E:Prop} (hgd:o.guard=none) (sl x:Operand) (t u:TypeId)
 (ho:o.op=.call { callee:=.builtin .append,args:= #[sl,x],argTypes:= #[t,u]})
 (e:TypeId) (i:TypeInfo) (ht:P.underlying t=some (.slice e)) (hu:P.underlying u=some .string) (hi:P.info? e=some i) (hz:i.zero=some (.int .u8 0))
 (hsize:i.size=1) (hby:i.bytes=1)
 {W w:World} {v:Value} {n:Nat} {xs:List Nat} (hs:a.eval sl=v) (hown:ay W w e 1 v n (bl xs)) (s:ByteArray) (hx:a.eval x=.string s)
 (h63:n+s.size<=maxLen) (hbytes:n+s.size<=140737488355328)
 (h:∀v' w',ay W w' e 1 v' (n+s.size) (bl (xs++kK s))->w.grownBy w' v.ownBlock->K (a.put o.dst v') w'):if Region.wanted o (yielded ops a.tmps)=true then Oper.wp P o a w K Q else E:=by
 have hw:Region.wanted o (yielded ops a.tmps)=true:=by simp[Region.wanted,hgd]
 rw[if_pos hw];obtain ⟨v',w',hr,h2,h3,h4⟩:=Lib.run_append_own_string (P:=P) w W.heap.size t u o.type e i ht hu hi hz hsize hby v n (bl xs) hown.own s h63 hbytes hown.nx.size;unfold Oper.wp execOp;simp only[ho,resolve,invoke,builtin,Sem.run_bind,Sem.run_pure,Result.andThen_ok,List.map_toArray,List.map_cons,List.map_nil,hs,hx,hr];exact h v' w' ⟨by rw[show bl (xs++kK s)=bl xs++bl (kK s) by simp[bl],←z5C];exact h2,hown.nx.grown h3 fun k hk hlt=>by have:=hown.lt k hk;omega⟩ h3
def PV.e (x:PV):PostE:=⟨x.text,x.gs.map Int.toNat⟩
structure PV.fit (w:World) (D:Nat->Prop) (x:PV):Prop where
 rd:Rd w D 1 x.A x.gs.length (ints x.gs)
 tx:x.text.size<=1024
 gn:x.gs.length<=2048
 gi:∀g∈x.gs,0<=g/\g<=1000000
def aW.fit (s:aW):Prop:=(0<=s.place/\s.place<4611686018427387904)/\(0<=s.size/\s.size<4611686018427387904)/\(0<=s.rows/\s.rows<4611686018427387904)/\(0<=s.lo/\s.lo<4611686018427387904)/\(0<=s.hi/\s.hi<4611686018427387904)
theorem z4F {α:Type} (f:α->List Nat) {l:List α} {k:Nat} (h:k<l.length):(l.drop k).flatMap f=f l[k]++(l.drop (k+1)).flatMap f:=by
 rw[List.drop_eq_getElem_cons h,List.flatMap_cons]
def YU (w w':World):Prop:=∀b t cs,t≠5->aJ w b t cs->aJ w' b t cs
theorem ay.adI {W w w':World} {v v':Value} {n:Nat} {xs:List Value} (o:ay W w 5 1 v n xs) (m:Moved w w' v v'):YU w w':=fun b t cs ht h=>h.ch m.ch (fun e=>z06 o.own h (Ne.symm ht) e)
def UOut (W w:World) (T rest:List Nat) (e:Ending) (w':World):Prop:=∃v',e=.returned v'/\eU W w' v' T rest/\YU w w'
theorem Ve {W w:World} {v:Value} {T rest:List Nat} {z:Nat} (h:eU W w v T (ak z++rest)) (hz:z<9223372036854775808) (hT:T.length<=100000000):
 Calls Tryz.prog 113 #[v,.int .i64 (z:Int)] w (UOut W w T rest):=by
 obtain ⟨X,o,e⟩:=h;refine (aaU o hz (by rw[←e]at hT;simp only[List.length_append]at hT;omega)).mono ?_;rintro e2 w' ⟨v',rfl,o',m⟩;exact ⟨v',rfl,⟨_,o',by rw[←e];simp⟩,o.adI m⟩
theorem Zt {α:Type} {f:α->List Nat} {l:List α} (h:∀x∈l,okB (f x)):okB (l.flatMap f):=fun y hy=>by
 obtain ⟨x,hx,hy⟩:=List.mem_flatMap.1 hy;exact h x hx y hy
theorem aan {w:World} {D:Nat->Prop} {ss:List aW} {ps:List PV} (hf:∀s∈ss,s.fit) (hk:∀x∈ps,x.fit w D) (h1:ss.length<=2048) (h2:ps.length<=2048):okB (iT ss (ps.map PV.e)):=by
 unfold iT;refine jV (jV (jV (jW (by omega)) (Zt fun s hs=>?_)) (jW (by rw[List.length_map];omega))) (Zt fun x hx=>?_)
 ·obtain ⟨a,b,c,d,e⟩:=hf s hs
  unfold gq;exact jV (jV (jV (jV (jW (by omega)) (jW (by omega))) (jW (by omega))) (jW (by omega))) (jW (by omega))
 ·obtain ⟨y,hy,rfl⟩:=List.mem_map.1 hx
  have hy:=hk y hy;have a:=hy.tx;have b:=hy.gn;unfold dU PV.e;refine jV (jV (jV (jW (by simp only;omega)) (xR _)) (jW (by simp only[List.length_map];omega))) (Zt fun g hg=>?_);obtain ⟨z,hz,rfl⟩:=List.mem_map.1 hg;have:=hy.gi z hz;exact jW (by omega)
theorem OM {w:World} {D:Nat->Prop} {As Ap:Option Addr} {cs cp:Nat} {ss:List aW} {ps:List PV} (hs:Rd w D 5 As ss.length (spl ss)) (hp:Rd w D 2 Ap ps.length (kZ ps)) (hk:∀x∈ps,x.fit w D) (hf:∀s∈ss,s.fit) (h1:ss.length<=2048) (h2:ps.length<=2048) (hT:(iT ss (ps.map PV.e)).length<=100000000):
 Calls Tryz.prog 48 #[.agg #[.slice As ss.length cs,.slice Ap ps.length cp]] w (rQ w 5 1 ((iT ss (ps.map PV.e)).length+4) (bl (fC (iT ss (ps.map PV.e))))):=by
 obtain ⟨i0,hi0,hz0,hz1,hz2⟩:=info_parts Tryz.info5;have HT:=ah hT;have HS:=ah (fun w' (c':Nx w w')=>hs.nx (w':=w') (by decide) c');have HP:=ah (fun w' (c':Nx w w')=>hp.nx (w':=w') (by decide) c');have HF:=ah hf;have HK:=ah hk;have mO:=ah (aan hf hk h1 h2);have HE:Hid (iT ss (ps.map PV.e)=[]++(ak ss.length++(ss.flatMap gq++(ak ps.length++ps.flatMap fun x=>dU x.e)))):=ah (by unfold iT;simp[List.flatMap_map]);clear hs hp hf hk hT;generalize iT ss (ps.map PV.e)=T at *;have B0:=ah (aJ.new w 49 #[.slice As ss.length cs,.slice Ap ps.length cp]);have n0:Nx w (w.alloc (.cells #[.slice As ss.length cs,.slice Ap ps.length cp] 49)):=(Ch.refl _ w).alloc _;have O0:Hid (eU w (w.alloc (.cells #[.slice As ss.length cs,.slice Ap ps.length cp] 49)) (.slice none 0 0) T (ak ss.length++(ss.flatMap gq++(ak ps.length++ps.flatMap fun x=>dU x.e)))):=ah ⟨[],ay.nil w _ _ 1 n0,HE.out.symm⟩;clear n0 HE;go_enter Tryz.func48,Tryz.ntmps48;go_wp2_with fail;refine (Ve O0.out (by omega) HT.out).mono ?_;rintro e w2 ⟨v2,rfl,o2,kk2⟩;have B2:=ah (kk2 _ _ _ (by decide) B0.out);have c0:w2.cell? ⟨w.heap.size,0,none⟩=some (.slice As ss.length cs):=B2.out.cell 0;have c1:w2.cell? ⟨w.heap.size,1,none⟩=some (.slice Ap ps.length cp):=B2.out.cell 1;have O2:=ah o2;clear o2 kk2 O0 B0;go_wp2_with fail;clear c0 c1;go_loopw [3,17] (fun v i wr=>∃k:Nat,k<=ss.length/\i=.int .i64 (k:Int)/\Hid (eU w wr v T ((ss.drop k).flatMap gq++(ak ps.length++ps.flatMap fun x=>dU x.e)))/\Hid (aJ wr w.heap.size 49 #[.slice As ss.length cs,.slice Ap ps.length cp])) (fun _ i _=>ss.length-(intOf i).toNat)
 case atStart=>exact ⟨0,Nat.zero_le _,rfl,O2,B2⟩
 case round=>
  clear O2 B2;obtain ⟨w4,rfl⟩:∃w4:World,w4=wr:=⟨_,rfl⟩;obtain ⟨k,hkn,rfl,HO,IB0⟩:=hrel;by_cases hlt:k<ss.length
  ·obtain ⟨X0,oX, -⟩:=HO.out
   have N4:=ah oX.nx;clear oX;obtain ⟨ad,rfl, -,p0,p1,p2,p3,p4⟩:=yj (HS.out w4 N4.out) hlt;have HD:=ah (z4F gq hlt);have hfit:=HF.out _ (List.getElem_mem hlt);generalize ss[k]=sp at *;obtain ⟨pl,sz,ro,lo,hi⟩:=sp;obtain ⟨⟨a0,b0⟩,⟨a1,b1⟩,⟨a2,b2⟩,⟨a3,b3⟩,⟨a4,b4⟩⟩:=hfit;simp only at p0 p1 p2 p3 p4 a0 a1 a2 a3 a4 b0 b1 b2 b3 b4;obtain ⟨z0,rfl⟩:=Int.eq_ofNat_of_zero_le a0;obtain ⟨z1,rfl⟩:=Int.eq_ofNat_of_zero_le a1;obtain ⟨z2,rfl⟩:=Int.eq_ofNat_of_zero_le a2;obtain ⟨z3,rfl⟩:=Int.eq_ofNat_of_zero_le a3;obtain ⟨z4,rfl⟩:=Int.eq_ofNat_of_zero_le a4
   have O5:Hid (eU w (w4.alloc (.cells #[.int .i64 (z0:Int),.int .i64 (z1:Int),.int .i64 (z2:Int),.int .i64 (z3:Int),.int .i64 (z4:Int)] 53)).drew u3 T (ak z0++(ak z1++(ak z2++(ak z3++(ak z4++((ss.drop (k+1)).flatMap gq++(ak ps.length++ps.flatMap fun x=>dU x.e)))))))):=ah (by
    obtain ⟨X,o,e⟩:=HO.out;refine ⟨X,o.tr (((Ch.refl _ _).alloc _).drew),?_⟩;rw[←e,HD.out];simp[gq])
   have B5:=ah ((aJ.new w4 53 #[.int .i64 (z0:Int),.int .i64 (z1:Int),.int .i64 (z2:Int),.int .i64 (z3:Int),.int .i64 (z4:Int)]).drew);have IB5:=ah ((IB0.out.alloc (.cells #[.int .i64 (z0:Int),.int .i64 (z1:Int),.int .i64 (z2:Int),.int .i64 (z3:Int),.int .i64 (z4:Int)] 53)).drew);go_wp2_with fail;clear p0 p1 p2 p3 p4 HO IB0 HD a0 a1 a2 a3 a4;refine Qc (fun w'=>w'.cell? ⟨w4.heap.size,0,none⟩=some (.int .i64 (z0:Int))/\w'.cell? ⟨w4.heap.size,1,none⟩=some (.int .i64 (z1:Int))/\w'.cell? ⟨w4.heap.size,2,none⟩=some (.int .i64 (z2:Int))/\w'.cell? ⟨w4.heap.size,3,none⟩=some (.int .i64 (z3:Int))/\w'.cell? ⟨w4.heap.size,4,none⟩=some (.int .i64 (z4:Int))) (fun _=>false) rfl ⟨B5.out.cell 0,B5.out.cell 1,B5.out.cell 2,B5.out.cell 3,B5.out.cell 4⟩ (fun hS0=>?_)
   try simp only[Act.put,eu,dY,dZ]
   refine z00 (i:=0) (oi:=_) (v:=?_) rfl (fun _ _ _ h=>h) (Or.inl ⟨by rfl,?_⟩) ?_;rotate_left
   ·(intro w hSw;(try dsimp only at hSw);go_split_ands;go_simp;try with_reducible rfl)
   try simp only[Act.put,List.setIfInBounds_toArray]
   refine z00 (i:=1) (oi:=_) (v:=?_) rfl (fun _ _ _ h=>h) (Or.inl ⟨by rfl,?_⟩) ?_;rotate_left
   ·(intro w hSw;(try dsimp only at hSw);go_split_ands;go_simp;try with_reducible rfl)
   try simp only[Act.put]
   refine z00 (i:=2) (oi:=_) (v:=?_) rfl (fun _ _ _ h=>h) (Or.inl ⟨by rfl,?_⟩) ?_;rotate_left
   ·(intro w hSw;(try dsimp only at hSw);go_split_ands;go_simp;try with_reducible rfl)
   try simp only[Act.put]
   refine z00 (i:=4) (oi:=_) (v:=?_) rfl (fun _ _ _ h=>h) (Or.inl ⟨by rfl,?_⟩) ?_;rotate_left
   ·(intro w hSw;(try dsimp only at hSw);go_split_ands;go_simp;try with_reducible rfl)
   try simp only[Act.put]
   refine z00 (i:=5) (oi:=_) (v:=?_) rfl (fun _ _ _ h=>h) (Or.inl ⟨by rfl,?_⟩) ?_;rotate_left
   ·(intro w hSw;(try dsimp only at hSw);go_split_ands;go_simp;try with_reducible rfl)
   try simp only[Act.put]
   refine z00 (i:=7) (oi:=_) (v:=?_) rfl (fun _ _ _ h=>h) (Or.inl ⟨by rfl,?_⟩) ?_;rotate_left
   ·(intro w hSw;(try dsimp only at hSw);go_split_ands;go_simp;try with_reducible rfl)
   try simp only[Act.put]
   refine z00 (i:=8) (oi:=_) (v:=?_) rfl (fun _ _ _ h=>h) (Or.inl ⟨by rfl,?_⟩) ?_;rotate_left
   ·(intro w hSw;(try dsimp only at hSw);go_split_ands;go_simp;try with_reducible rfl)
   try simp only[Act.put]
   refine z00 (i:=10) (oi:=_) (v:=?_) rfl (fun _ _ _ h=>h) (Or.inl ⟨by rfl,?_⟩) ?_;rotate_left
   ·(intro w hSw;(try dsimp only at hSw);go_split_ands;go_simp;try with_reducible rfl)
   try simp only[Act.put]
   refine z00 (i:=11) (oi:=_) (v:=?_) rfl (fun _ _ _ h=>h) (Or.inl ⟨by rfl,?_⟩) ?_;rotate_left
   ·(intro w hSw;(try dsimp only at hSw);go_split_ands;go_simp;try with_reducible rfl)
   try simp only[Act.put]
   refine z00 (i:=13) (oi:=_) (v:=?_) rfl (fun _ _ _ h=>h) (Or.inl ⟨by rfl,?_⟩) ?_;rotate_left
   ·(intro w hSw;(try dsimp only at hSw);go_split_ands;go_simp;try with_reducible rfl)
   try simp only[Act.put]
   refine z00 (i:=14) (oi:=_) (v:=?_) rfl (fun _ _ _ h=>h) (Or.inl ⟨by rfl,?_⟩) ?_;rotate_left
   ·(intro w hSw;(try dsimp only at hSw);go_split_ands;go_simp;try with_reducible rfl)
   try simp only[Act.put]
   refine z02 (rs:=[3]) (by kernel_rfl) (by simp) (z01.cons (o:=_) rfl (fun K hK=>?_) z01.nil);go_simp;refine (Ve O5.out (by omega) HT.out).mono ?_;rintro e w6 ⟨v6,rfl,o,kk⟩;have O6:=ah o;have B6:=ah (kk _ _ _ (by decide) B5.out);have IB6:=ah (kk _ _ _ (by decide) IB5.out);clear o kk;refine hK.out _ _ (fun _=>⟨B6.out.cell 0,B6.out.cell 1,B6.out.cell 2,B6.out.cell 3,B6.out.cell 4⟩) (fun aj=>?_);have hHeld:=aj (by decide);clear hK K aj
   try simp only[Act.put,eu,dY,dZ]
   refine z02 (rs:=[6]) (by kernel_rfl) (by simp) (z01.cons (o:=_) rfl (fun K hK=>?_) z01.nil);go_simp;refine (Ve O6.out (by omega) HT.out).mono ?_;rintro e w7 ⟨v7,rfl,o,kk⟩;have O7:=ah o;have B7:=ah (kk _ _ _ (by decide) B6.out);have IB7:=ah (kk _ _ _ (by decide) IB6.out);clear o kk;refine hK.out _ _ (fun _=>⟨B7.out.cell 0,B7.out.cell 1,B7.out.cell 2,B7.out.cell 3,B7.out.cell 4⟩) (fun aj=>?_);have hHeld:=aj (by decide);clear hK K aj
   try simp only[Act.put,eu,dY,dZ]
   refine z02 (rs:=[9]) (by kernel_rfl) (by simp) (z01.cons (o:=_) rfl (fun K hK=>?_) z01.nil);go_simp;refine (Ve O7.out (by omega) HT.out).mono ?_;rintro e w8 ⟨v8,rfl,o,kk⟩;have O8:=ah o;have B8:=ah (kk _ _ _ (by decide) B7.out);have IB8:=ah (kk _ _ _ (by decide) IB7.out);clear o kk;refine hK.out _ _ (fun _=>⟨B8.out.cell 0,B8.out.cell 1,B8.out.cell 2,B8.out.cell 3,B8.out.cell 4⟩) (fun aj=>?_);have hHeld:=aj (by decide);clear hK K aj
   try simp only[Act.put,eu,dY,dZ]
   refine z02 (rs:=[12]) (by kernel_rfl) (by simp) (z01.cons (o:=_) rfl (fun K hK=>?_) z01.nil);go_simp;refine (Ve O8.out (by omega) HT.out).mono ?_;rintro e w9 ⟨v9,rfl,o,kk⟩;have O9:=ah o;have B9:=ah (kk _ _ _ (by decide) B8.out);have IB9:=ah (kk _ _ _ (by decide) IB8.out);clear o kk;refine hK.out _ _ (fun _=>⟨B9.out.cell 0,B9.out.cell 1,B9.out.cell 2,B9.out.cell 3,B9.out.cell 4⟩) (fun aj=>?_);have hHeld:=aj (by decide);clear hK K aj
   try simp only[Act.put,eu,dY,dZ]
   refine z02 (rs:=[15]) (by kernel_rfl) (by simp) (z01.cons (o:=_) rfl (fun K hK=>?_) z01.nil);go_simp;refine (Ve O9.out (by omega) HT.out).mono ?_;rintro e w10 ⟨v10,rfl,o,kk⟩;have O10:=ah o;have B10:=ah (kk _ _ _ (by decide) B9.out);have IB10:=ah (kk _ _ _ (by decide) IB9.out);clear o kk;refine hK.out _ _ (fun _=>⟨B10.out.cell 0,B10.out.cell 1,B10.out.cell 2,B10.out.cell 3,B10.out.cell 4⟩) (fun aj=>?_);have hHeld:=aj (by decide);clear hK K aj
   try simp only[Act.put,eu,dY,dZ]
   refine z00 (i:=16) (oi:=_) (v:=?_) rfl (fun _ _ _ h=>h) (Or.inl ⟨by rfl,?_⟩) ?_;rotate_left
   ·(intro w hSw;(try dsimp only at hSw);go_split_ands;go_simp;try with_reducible rfl)
   try simp only[Act.put,List.setIfInBounds_toArray]
   refine JU (by kernel_rfl) ?_ _;go_wp2_with fail;go_roundw
   case rel=>exact ⟨k+1,by omega,by go_num,O10,IB10⟩
   case measure=>simp[intOf];omega
  ·have hkk:k=ss.length:=by omega
   have O3:Hid (eU w w4 u3 T (ak ps.length++ps.flatMap fun x=>dU x.e)):=ah (by have:=HO.out;rw[hkk,List.drop_length]at this;exact this);have c0:w4.cell? ⟨w.heap.size,1,none⟩=some (.slice Ap ps.length cp):=IB0.out.cell 1;clear hkk HO;go_wp2_with fail;refine (Ve O3.out (by omega) HT.out).mono ?_;rintro e w5 ⟨v5,rfl,o5,kk5⟩;have B5:=ah (kk5 _ _ _ (by decide) IB0.out);have c1:w5.cell? ⟨w.heap.size,1,none⟩=some (.slice Ap ps.length cp):=B5.out.cell 1;have O5:=ah o5;clear o5 kk5 O3 c0 IB0;go_wp2_with fail;clear c1;go_loopw [3,46] (fun v i wr=>∃k:Nat,k<=ps.length/\i=.int .i64 (k:Int)/\Hid (eU w wr v T ((ps.drop k).flatMap fun x=>dU x.e))) (fun _ i _=>ps.length-(intOf i).toNat)
   case atStart=>exact ⟨0,Nat.zero_le _,rfl,O5⟩
   case round=>
    clear O5 B5;obtain ⟨w4,rfl⟩:∃w4:World,w4=wr:=⟨_,rfl⟩;obtain ⟨k,hkn,rfl,HO⟩:=hrel;by_cases hlt:k<ps.length
    ·obtain ⟨X0,oX, -⟩:=HO.out
     have N4:=ah oX.nx;clear oX;obtain ⟨ad,rfl, -,p0,p1⟩:=post_at (HP.out w4 N4.out) hlt;have HD:=ah (z4F (fun x:PV=>dU x.e) hlt);have hfit:=HK.out _ (List.getElem_mem hlt);generalize ps[k]=x at *;obtain ⟨text,gs,A,c⟩:=x;obtain ⟨f1,f2,f3,f4⟩:=hfit;simp only at p0 p1 f1 f2 f3 f4;have F1:=ah f1;have F4:=ah f4
     have O5:Hid (eU w (w4.alloc (.cells #[.string text,.slice A gs.length c] 90)).drew u3 T (ak text.size++(kK text++(ak gs.length++((gs.flatMap fun g=>ak g.toNat)++((ps.drop (k+1)).flatMap fun x=>dU x.e)))))):=ah (by
      obtain ⟨X,o,e⟩:=HO.out;refine ⟨X,o.tr (((Ch.refl _ _).alloc _).drew),?_⟩;rw[←e,HD.out];simp[dU,PV.e,List.flatMap_map])
     have B5:=ah ((aJ.new w4 90 #[.string text,.slice A gs.length c]).drew);go_wp2_with fail;clear p0 p1 HO HD f1 f4;refine Qc (fun w'=>w'.cell? ⟨w4.heap.size,0,none⟩=some (.string text)/\w'.cell? ⟨w4.heap.size,1,none⟩=some (.slice A gs.length c)) (fun _=>false) rfl ⟨B5.out.cell 0,B5.out.cell 1⟩ (fun hS0=>?_)
     try simp only[Act.put,eu,dY,dZ]
     refine z00 (i:=0) (oi:=_) (v:=?_) rfl (fun _ _ _ h=>h) (Or.inl ⟨by rfl,?_⟩) ?_;rotate_left
     ·(intro w hSw;(try dsimp only at hSw);go_split_ands;go_simp;try with_reducible rfl)
     try simp only[Act.put,List.setIfInBounds_toArray]
     refine z00 (i:=1) (oi:=_) (v:=?_) rfl (fun _ _ _ h=>h) (Or.inl ⟨by rfl,?_⟩) ?_;rotate_left
     ·(intro w hSw;(try dsimp only at hSw);go_split_ands;go_simp;try with_reducible rfl)
     try simp only[Act.put]
     refine z00 (i:=2) (oi:=_) (v:=?_) rfl (fun _ _ _ h=>h) (Or.inl ⟨by rfl,?_⟩) ?_;rotate_left
     ·(intro w hSw;(try dsimp only at hSw);go_split_ands;go_simp;try with_reducible rfl)
     try simp only[Act.put]
     refine z00 (i:=3) (oi:=_) (v:=?_) rfl (fun _ _ _ h=>h) (Or.inl ⟨by rfl,?_⟩) ?_;rotate_left
     ·(intro w hSw;(try dsimp only at hSw);go_split_ands;go_simp;try with_reducible rfl)
     try simp only[Act.put]
     refine z00 (i:=5) (oi:=_) (v:=?_) rfl (fun _ _ _ h=>h) (Or.inl ⟨by rfl,?_⟩) ?_;rotate_left
     ·(intro w hSw;(try dsimp only at hSw);go_split_ands;go_simp;try with_reducible rfl)
     try simp only[Act.put]
     refine z00 (i:=6) (oi:=_) (v:=?_) rfl (fun _ _ _ h=>h) (Or.inl ⟨by rfl,?_⟩) ?_;rotate_left
     ·(intro w hSw;(try dsimp only at hSw);go_split_ands;go_simp;try with_reducible rfl)
     try simp only[Act.put]
     refine z02 (rs:=[4]) (by kernel_rfl) (by simp) (z01.cons (o:=_) rfl (fun K hK=>?_) z01.nil);go_simp;refine (Ve O5.out (by omega) HT.out).mono ?_;rintro e w6 ⟨v6,rfl,o,kk⟩;have O6:=ah o;have B6:=ah (kk _ _ _ (by decide) B5.out);clear o kk;refine hK.out _ _ (fun _=>⟨B6.out.cell 0,B6.out.cell 1⟩) (fun aj=>?_);have hHeld:=aj (by decide);clear hK K aj
     try simp only[Act.put,eu,dY,dZ]
     obtain ⟨X6,ox6,ex6⟩:=O6.out;have OX6:=ah ox6;have hl6:X6.length<=100000000:=by have:=HT.out;rw[←ex6,List.length_append]at this;omega
     have EX6:=ah ex6;clear ox6 ex6;refine z02 (rs:=[7]) (by kernel_rfl) (by simp) (z01.cons (o:=_) rfl (fun K hK=>?_) z01.nil);refine vG rfl (.tmp 54) (.tmp 56) _ _ rfl 5 i0 Tryz.underlying26 Tryz.underlying9 hi0 hz0 hz1 hz2 rfl OX6.out text rfl (by simp only[maxLen];omega) (by omega) ?_;intro v7 w7 o7 gr7;have O7:Hid (eU w w7 v7 T (ak gs.length++((gs.flatMap fun g=>ak g.toNat)++((ps.drop (k+1)).flatMap fun x=>dU x.e)))):=ah ⟨X6++kK text,by rw[List.length_append,rY];exact o7,by rw[←EX6.out];simp⟩;have B7:=ah (B6.out.ch ((Ch.refl (fun k=>v6.ownBlock=some k) w6).grown gr7 fun k hk _=>hk) (fun e=>z06 OX6.out.own B6.out (by decide) e));clear o7 gr7;refine hK.out _ _ (fun _=>⟨B7.out.cell 0,B7.out.cell 1⟩) (fun aj=>?_);have hHeld:=aj (by decide);clear hK K aj
     try simp only[Act.put,List.setIfInBounds_toArray]
     refine z00 (i:=8) (oi:=_) (v:=?_) rfl (fun _ _ _ h=>h) (Or.inl ⟨by rfl,?_⟩) ?_;rotate_left
     ·(intro w hSw;(try dsimp only at hSw);go_split_ands;go_simp;try with_reducible rfl)
     try simp only[Act.put]
     refine JU (by kernel_rfl) ?_ _;have c7:w7.cell? ⟨w4.heap.size,1,none⟩=some (.slice A gs.length c):=B7.out.cell 1;go_wp2_with fail;refine (Ve O7.out (by omega) HT.out).mono ?_;rintro e w8 ⟨v8,rfl,o8,kk8⟩;have O8:=ah o8;have B8:=ah (kk8 _ _ _ (by decide) B7.out);have c8:w8.cell? ⟨w4.heap.size,1,none⟩=some (.slice A gs.length c):=B8.out.cell 1;clear o8 kk8 c7 B7 O7 O6 OX6 EX6 B6 O5 B5;go_wp2_with fail;clear c8 B8;go_loopw [3,66] (fun v i wr=>∃j:Nat,j<=gs.length/\i=.int .i64 (j:Int)/\Hid (eU w wr v T (((gs.drop j).flatMap fun g=>ak g.toNat)++((ps.drop (k+1)).flatMap fun x=>dU x.e)))) (fun _ i _=>gs.length-(intOf i).toNat)
     case atStart=>exact ⟨0,Nat.zero_le _,rfl,O8⟩
     case round=>
      clear O8;obtain ⟨w9,rfl⟩:∃w9:World,w9=wr:=⟨_,rfl⟩;obtain ⟨j,hjn,rfl,HO⟩:=hrel;by_cases hlj:j<gs.length
      ·obtain ⟨X0,oX, -⟩:=HO.out
       obtain ⟨ad2,u,rfl, -,hu,hcg⟩:=(F1.out.nx (by decide) oX.nx).at_ hlj;clear oX;have hg:=F4.out _ (List.getElem_mem hlj);have HD:=ah (z4F (fun g:Int=>ak g.toNat) hlj);rw[show (ints gs)[j]?=some (.int .i64 gs[j]) by simp[ints,hlj]]at hu;injection hu with hu;subst hu;generalize gs[j]=g at *;obtain ⟨z,rfl⟩:=Int.eq_ofNat_of_zero_le hg.1;have hz:z<9223372036854775808:=by have:=hg.2;omega
       have O9:Hid (eU w w9 u3 T (ak z++(((gs.drop (j+1)).flatMap fun g=>ak g.toNat)++((ps.drop (k+1)).flatMap fun x=>dU x.e)))):=ah (by have:=HO.out;rw[HD.out]at this;simpa using this);clear HO HD hg;go_wp2_with fail;refine (Ve O9.out hz HT.out).mono ?_;rintro e w10 ⟨v10,rfl,o10, -⟩;have O10:=ah o10;clear o10 hcg;go_wp2_with fail;go_roundw
       case rel=>exact ⟨j+1,by omega,by go_num,O10⟩
       case measure=>simp[intOf];omega
      ·have hjj:j=gs.length:=by omega
       have O9:Hid (eU w w9 u3 T ((ps.drop (k+1)).flatMap fun x=>dU x.e)):=ah (by have:=HO.out;rw[hjj,List.drop_length]at this;exact this);clear hjj HO;go_wp2_with fail;go_roundw
       case rel=>exact ⟨k+1,by omega,by go_num,O9⟩
       case measure=>simp[intOf];omega
    ·have hkk:k=ps.length:=by omega
     obtain ⟨X,oX,eX⟩:=HO.out;rw[hkk,List.drop_length,List.flatMap_nil,List.append_nil]at eX;have hXl:X.length<=100000000:=by rw[eX];exact HT.out
     have okX:okB X:=by rw[eX];exact mO.out
     obtain ⟨A9,c9,rfl, -, -⟩:=oX.form;have HSL:=ah (Eh _ A9 X.length c9 X w4 oX.rd (fun j hj=>hj.2.2) okX rfl (by omega));have OX:=ah oX;have EX:=ah eX;clear hkk oX eX okX HO;go_wp2_with fail;refine HSL.out.mono ?_;rintro e w9 ⟨k9,Um,rfl,o9,q1,q2,q3,q4⟩;have O9:=ah o9;clear o9;go_wp2_with fail;go_ret;have hsz:=OX.out.nx.size;rw[←EX.out];exact ⟨k9,Um,rfl,⟨kX O9.out.own hsz,OX.out.nx.tr O9.out.nx⟩,by omega,q2,q3,q4⟩
theorem RX {l:List au} {k:Nat} (hk:k<l.length) (h:mW l k=false):iP l=false:=by
 unfold iP;rw[Bool.and_eq_false_iff];right
 rw[List.all_eq_false];exact ⟨k,List.mem_range.2 hk,by rw[h];simp⟩
theorem Ny {l:List au} (h:∀i,i<l.length->mW l i=true):iP l=decide (0<l.length):=by
 unfold iP;rw[z2C.2 h,Bool.and_true]
theorem Ib {l:List au} (h:0<l.length):mW l 0=(gu l[0]&&SH l[0]):=by rw[z3w h];simp
theorem Ic {l:List au} {j:Nat} (h:j+1<l.length):mW l (j+1)=(gu l[j+1]&&SH l[j+1]&&iw (l[j]'(Nat.lt_of_succ_lt h)) l[j+1]):=by
 rw[z3w h];simp[List.getD,List.getElem?_eq_getElem (Nat.lt_of_succ_lt h)]
theorem yV (l:List RV) {k:Nat} (h:k<l.length):(l.map fun x=>x.row)[k]'(by rw[List.length_map];exact h)=l[k].row:=by simp
theorem qx {rc ib:Bool} {maker seq place:Int} (h:ib=decide (1<=maker/\maker<=64/\1<=seq/\seq<1099511627776/\0<=place/\place<64)):
 (rc=false/\Hid ((rc&&ib)=false))∨(rc=true/\decide (maker<1)=true/\Hid ((rc&&ib)=false))∨(rc=true/\decide (maker<1)=false/\decide (64<maker)=true/\Hid ((rc&&ib)=false))∨(rc=true/\decide (maker<1)=false/\decide (64<maker)=false/\decide (seq<1)=true/\Hid ((rc&&ib)=false))∨(rc=true/\decide (maker<1)=false/\decide (64<maker)=false/\decide (seq<1)=false/\decide (1099511627776<=seq)=true/\Hid ((rc&&ib)=false))∨(rc=true/\decide (maker<1)=false/\decide (64<maker)=false/\decide (seq<1)=false/\decide (1099511627776<=seq)=false/\decide (place<0)=true/\Hid ((rc&&ib)=false))∨(rc=true/\decide (maker<1)=false/\decide (64<maker)=false/\decide (seq<1)=false/\decide (1099511627776<=seq)=false/\decide (place<0)=false/\decide (64<=place)=true/\Hid ((rc&&ib)=false))∨(rc=true/\decide (maker<1)=false/\decide (64<maker)=false/\decide (seq<1)=false/\decide (1099511627776<=seq)=false/\decide (place<0)=false/\decide (64<=place)=false/\Hid ((rc&&ib)=true)):=by
 cases rc
 ·exact .inl ⟨rfl,ah rfl⟩
 by_cases t1:1<=maker
 ·by_cases t2:maker<=64
  ·by_cases t3:1<=seq
   ·by_cases t4:seq<1099511627776
    ·by_cases t5:0<=place
     ·by_cases t6:place<64
      ·exact .inr (.inr (.inr (.inr (.inr (.inr (.inr ⟨rfl,decide_eq_false (by omega),decide_eq_false (by omega),decide_eq_false (by omega),decide_eq_false (by omega),decide_eq_false (by omega),decide_eq_false (by omega),ah (by rw[h];simp[t1,t2,t3,t4,t5,t6])⟩))))))
      ·exact .inr (.inr (.inr (.inr (.inr (.inr (.inl ⟨rfl,decide_eq_false (by omega),decide_eq_false (by omega),decide_eq_false (by omega),decide_eq_false (by omega),decide_eq_false (by omega),decide_eq_true (by omega),ah (by rw[h];simp[t6])⟩))))))
     ·exact .inr (.inr (.inr (.inr (.inr (.inl ⟨rfl,decide_eq_false (by omega),decide_eq_false (by omega),decide_eq_false (by omega),decide_eq_false (by omega),decide_eq_true (by omega),ah (by rw[h];simp[t5])⟩)))))
    ·exact .inr (.inr (.inr (.inr (.inl ⟨rfl,decide_eq_false (by omega),decide_eq_false (by omega),decide_eq_false (by omega),decide_eq_true (by omega),ah (by rw[h];simp[t4])⟩))))
   ·exact .inr (.inr (.inr (.inl ⟨rfl,decide_eq_false (by omega),decide_eq_false (by omega),decide_eq_true (by omega),ah (by rw[h];simp[t3])⟩)))
  ·exact .inr (.inr (.inl ⟨rfl,decide_eq_false (by omega),decide_eq_true (by omega),ah (by rw[h];simp[t2])⟩))
 ·exact .inr (.inl ⟨rfl,decide_eq_true (by omega),ah (by rw[h];simp[t1])⟩)
theorem Ia {rc ib kl:Bool} {maker seq place z:Int} (h:ib=decide (1<=maker/\maker<=64/\1<=seq/\seq<1099511627776/\0<=place/\place<64)) (hz:decide (z<0)=kl):
 (rc=false/\Hid ((rc&&ib&&kl)=false))∨(rc=true/\decide (maker<1)=true/\Hid ((rc&&ib&&kl)=false))∨(rc=true/\decide (maker<1)=false/\decide (64<maker)=true/\Hid ((rc&&ib&&kl)=false))∨(rc=true/\decide (maker<1)=false/\decide (64<maker)=false/\decide (seq<1)=true/\Hid ((rc&&ib&&kl)=false))∨(rc=true/\decide (maker<1)=false/\decide (64<maker)=false/\decide (seq<1)=false/\decide (1099511627776<=seq)=true/\Hid ((rc&&ib&&kl)=false))∨(rc=true/\decide (maker<1)=false/\decide (64<maker)=false/\decide (seq<1)=false/\decide (1099511627776<=seq)=false/\decide (place<0)=true/\Hid ((rc&&ib&&kl)=false))∨(rc=true/\decide (maker<1)=false/\decide (64<maker)=false/\decide (seq<1)=false/\decide (1099511627776<=seq)=false/\decide (place<0)=false/\decide (64<=place)=true/\Hid ((rc&&ib&&kl)=false))∨(rc=true/\decide (maker<1)=false/\decide (64<maker)=false/\decide (seq<1)=false/\decide (1099511627776<=seq)=false/\decide (place<0)=false/\decide (64<=place)=false/\decide (0<=z)=true/\Hid ((rc&&ib&&kl)=false))∨(rc=true/\decide (maker<1)=false/\decide (64<maker)=false/\decide (seq<1)=false/\decide (1099511627776<=seq)=false/\decide (place<0)=false/\decide (64<=place)=false/\decide (0<=z)=false/\Hid ((rc&&ib&&kl)=true)):=by
 subst hz;rcases qx (rc:=rc) h with ⟨q0,H⟩|⟨q0,q1,H⟩|⟨q0,q1,q2,H⟩|⟨q0,q1,q2,q3,H⟩|⟨q0,q1,q2,q3,q4,H⟩|⟨q0,q1,q2,q3,q4,q5,H⟩|⟨q0,q1,q2,q3,q4,q5,q6,H⟩|⟨q0,q1,q2,q3,q4,q5,q6,H⟩
 ·exact .inl ⟨q0,ah (by rw[H.out];rfl)⟩
 ·exact .inr (.inl ⟨q0,q1,ah (by rw[H.out];rfl)⟩)
 ·exact .inr (.inr (.inl ⟨q0,q1,q2,ah (by rw[H.out];rfl)⟩))
 ·exact .inr (.inr (.inr (.inl ⟨q0,q1,q2,q3,ah (by rw[H.out];rfl)⟩)))
 ·exact .inr (.inr (.inr (.inr (.inl ⟨q0,q1,q2,q3,q4,ah (by rw[H.out];rfl)⟩))))
 ·exact .inr (.inr (.inr (.inr (.inr (.inl ⟨q0,q1,q2,q3,q4,q5,ah (by rw[H.out];rfl)⟩)))))
 ·exact .inr (.inr (.inr (.inr (.inr (.inr (.inl ⟨q0,q1,q2,q3,q4,q5,q6,ah (by rw[H.out];rfl)⟩))))))
 ·by_cases hz:z<0
  ·exact .inr (.inr (.inr (.inr (.inr (.inr (.inr (.inr ⟨q0,q1,q2,q3,q4,q5,q6,decide_eq_false (by omega),ah (by rw[H.out,decide_eq_true hz];rfl)⟩)))))))
  ·exact .inr (.inr (.inr (.inr (.inr (.inr (.inr (.inl ⟨q0,q1,q2,q3,q4,q5,q6,decide_eq_true (by omega),ah (by rw[H.out,decide_eq_false hz];rfl)⟩)))))))
theorem KQ {w:World} {D:Nat->Prop} {A:Option Addr} {n c:Nat} {l:List RV} (h:Rd w D 9 A n (ji l)) (hl:l.length=n) (hn:n<=1000000) (hk:∀x∈l,x.ok w D/\x.row.mid):
 Calls Tryz.prog 38 #[.slice A n c] w fun e w'=>e=.returned (.bool (iP (l.map fun x=>x.row)))/\Nx w w':=by
 have Hl:=ah hl;have m_:=ah h;have HK:=ah hk;have HBAD:=ah (fun k (h1:k<l.length) h2=>RX (l:=l.map fun x=>x.row) (k:=k) (by rw[List.length_map];exact h1) h2);have Zd:=ah (Ny (l:=l.map fun x=>x.row));have HM0:=ah (fun (h1:0<l.length)=>(Ib (l:=l.map fun x=>x.row) (by rw[List.length_map];exact h1)).trans (by rw[yV l h1]));have HMS:=ah (fun j (h1:j+1<l.length)=>(Ic (l:=l.map fun x=>x.row) (j:=j) (by rw[List.length_map];exact h1)).trans (by rw[yV l h1,yV l (Nat.lt_of_succ_lt h1)]));rw[List.length_map]at Zd;generalize hX:iP (l.map fun x=>x.row)=X at *;generalize hMA:mW (l.map fun x=>x.row)=MA at *;clear hl h hk hX hMA;go_enter Tryz.func38,Tryz.ntmps38;go_wp2_with fail;go_loopw [7] (fun i wr=>∃k:Nat,k<=n/\i=.int .i64 (k:Int)/\Hid (Nx w wr)/\Hid (∀i,i<k->MA i=true)) (fun i _=>n-(intOf i).toNat)
 case atStart=>exact ⟨0,Nat.zero_le _,rfl,ah (Ch.refl _ _),ah (fun i hi=>absurd hi (Nat.not_lt_zero _))⟩
 case round=>
  obtain ⟨w4,rfl⟩:∃w4:World,w4=wr:=⟨_,rfl⟩;obtain ⟨k,hkn,rfl,N4,HG⟩:=hrel;by_cases hlt:k<n
  ·have hkl:k<l.length:=by rw[Hl.out];exact hlt
   obtain ⟨ad,rfl, -,p0,p1,p2,p3,p4,p5,p6,p7,p8⟩:=z2n (m_.out.nx (by decide) N4.out) hkl;have Pj:=ah (fun w' (c':Nx w w')=>yF (w:=w') (x:=l[k]) (D:=fun _=>True) ((HK.out _ (List.getElem_mem hkl)).1.ch c' (fun _ _ _ hf=>hf) fun _ _=>trivial) (HK.out _ (List.getElem_mem hkl)).2);have HB:=ah (HBAD.out k hkl);cases k with
   |zero=>
    have HV:=ah (HM0.out hkl);have e0:ad.add (0 * 9)=ad:=(by simp[Addr.add]);rw[e0]at p0 p1 p2 p3 p4 p5 p6 p7 p8;clear e0;generalize l[0]=x at *;obtain ⟨⟨kind,time,aB,text,value,null,maker,seq,place⟩,A1,c1⟩:=x;unfold Wy at Pj;simp only at p0 p1 p2 p3 p4 p5 p6 p7 p8 Pj HV;generalize hrc:gu ⟨kind,time,aB,text,value,null,maker,seq,place⟩=rc at *;have HID:Hid (SH ⟨kind,time,aB,text,value,null,maker,seq,place⟩=decide (1<=maker/\maker<=64/\1<=seq/\seq<1099511627776/\0<=place/\place<64)):=ah rfl;generalize SH ⟨kind,time,aB,text,value,null,maker,seq,place⟩=ib at *;clear hrc;have Ah:=ah (aJ.new w4 58 #[.int .i64 kind,.int .i64 time,.slice A1 aB.length c1,.string text,.int .i64 value,.bool null,.int .i64 maker,.int .i64 seq,.int .i64 place])
    have FACT:=ah (fun w' (c':Nx (w4.alloc (.cells #[.int .i64 kind,.int .i64 time,.slice A1 aB.length c1,.string text,.int .i64 value,.bool null,.int .i64 maker,.int .i64 seq,.int .i64 place] 58)) w')=>show w'.cell? ⟨w4.heap.size,0,none⟩=some (.int .i64 kind)/\w'.cell? ⟨w4.heap.size,1,none⟩=some (.int .i64 time)/\w'.cell? ⟨w4.heap.size,2,none⟩=some (.slice A1 aB.length c1)/\w'.cell? ⟨w4.heap.size,3,none⟩=some (.string text)/\w'.cell? ⟨w4.heap.size,4,none⟩=some (.int .i64 value)/\w'.cell? ⟨w4.heap.size,5,none⟩=some (.bool null)/\w'.cell? ⟨w4.heap.size,6,none⟩=some (.int .i64 maker)/\w'.cell? ⟨w4.heap.size,7,none⟩=some (.int .i64 seq)/\w'.cell? ⟨w4.heap.size,8,none⟩=some (.int .i64 place) from by
     exact ⟨(Ah.out.nx c').cell 0,(Ah.out.nx c').cell 1,(Ah.out.nx c').cell 2,(Ah.out.nx c').cell 3,(Ah.out.nx c').cell 4,(Ah.out.nx c').cell 5,(Ah.out.nx c').cell 6,(Ah.out.nx c').cell 7,(Ah.out.nx c').cell 8⟩)
    have N5:=ah (N4.out.alloc (.cells #[.int .i64 kind,.int .i64 time,.slice A1 aB.length c1,.string text,.int .i64 value,.bool null,.int .i64 maker,.int .i64 seq,.int .i64 place] 58));rcases qx (rc:=rc) (ib:=ib) HID.out with ⟨rfl,HVV⟩|⟨rfl,q0,HVV⟩|⟨rfl,q0,q1,HVV⟩|⟨rfl,q0,q1,q2,HVV⟩|⟨rfl,q0,q1,q2,q3,HVV⟩|⟨rfl,q0,q1,q2,q3,q4,HVV⟩|⟨rfl,q0,q1,q2,q3,q4,q5,HVV⟩|⟨rfl,q0,q1,q2,q3,q4,q5,HVV⟩
    all_goals
     go_wp2_with fail;clear p0 p1 p2 p3 p4 p5 p6 p7 p8;refine z30 (fun w'=>Hid (Nx (w4.alloc (.cells #[.int .i64 kind,.int .i64 time,.slice A1 aB.length c1,.string text,.int .i64 value,.bool null,.int .i64 maker,.int .i64 seq,.int .i64 place] 58)) w')/\w'.cell? ⟨w4.heap.size,0,none⟩=some (.int .i64 kind)/\w'.cell? ⟨w4.heap.size,1,none⟩=some (.int .i64 time)/\w'.cell? ⟨w4.heap.size,2,none⟩=some (.slice A1 aB.length c1)/\w'.cell? ⟨w4.heap.size,3,none⟩=some (.string text)/\w'.cell? ⟨w4.heap.size,4,none⟩=some (.int .i64 value)/\w'.cell? ⟨w4.heap.size,5,none⟩=some (.bool null)/\w'.cell? ⟨w4.heap.size,6,none⟩=some (.int .i64 maker)/\w'.cell? ⟨w4.heap.size,7,none⟩=some (.int .i64 seq)/\w'.cell? ⟨w4.heap.size,8,none⟩=some (.int .i64 place)) (by kernel_rfl) (by kernel_rfl) ⟨ah ((Ch.refl _ _).drew),FACT.out _ ((Ch.refl _ _).drew)⟩ ?_
     repeat (first
      |refine YC (by rfl) (by simp only[Act.put,eu,dY,dZ];rfl) ?_
      |(refine YB (v:=?_) (a':=?_) (by rfl) (fun w5 hC5=>?_) ?_ ?_;rotate_left 2;(first
         |(focus ((try dsimp only at hC5);go_split_ands;go_simp;done))
         |(focus ((try dsimp only at hC5);go_split_ands;go_simp;with_reducible rfl))
         |(focus ((try dsimp only at hC5);have hC6:=ah hC5;go_split_ands;go_simp;(go_at_call 88;refine (Pj.out w5 (N5.out.tr hC6.out.1.out)).mono ?_;rintro e w7 ⟨rfl,n7⟩;refine ⟨?_,ah (hC6.out.1.out.tr n7),FACT.out w7 (hC6.out.1.out.tr n7)⟩;with_reducible rfl)))
         );(simp only[Act.put,eu,dY,dZ];rfl)))
     refine adx ?_;intro w6 hC6;have N6:=ah (N5.out.tr hC6.1.out);clear hC6;go_wp2_with fail
     first
      |(have HXX:Hid (X=false):=ah (HB.out (HV.out.trans HVV.out));go_ret;exact ⟨by rw[HXX.out];first|done|rfl,N6.out⟩)
      |(have HTT:Hid (MA (0)=true):=ah (HV.out.trans HVV.out);go_roundw;(case rel=>exact ⟨0+1,by omega,by go_num,N6,ah (fun i hi=>if e:i=0 then (by rw[e];exact HTT.out) else HG.out i (by omega))⟩);(case measure=>(simp[intOf];omega)))
   |succ j=>
    have HV:=ah (HMS.out j hkl);obtain ⟨ad',had, -,r0,r1,r2,r3,r4,r5,r6,r7,r8⟩:=z2n (m_.out.nx (by decide) N4.out) (Nat.lt_of_succ_lt hkl);injection had with had;subst had;have HRP:=ah (fun w' (c':Nx w4 w')=>z2n (m_.out.nx (by decide) (N4.out.tr c')) (Nat.lt_of_succ_lt hkl));have abw:=ah (fun w'=>z2i l[j] l[j+1] w');generalize l[j+1]=x at *;generalize l[j]=y at *;obtain ⟨⟨kind,time,aB,text,value,null,maker,seq,place⟩,A1,c1⟩:=x;obtain ⟨⟨kind2,bJ,dH,dn,value2,dw,aZ,seq2,aY⟩,A2,c2⟩:=y;unfold bV at abw;unfold Wy at Pj;simp only at p0 p1 p2 p3 p4 p5 p6 p7 p8 Pj HV r0 r1 r2 r3 r4 r5 r6 r7 r8 HRP abw;generalize hrc:gu ⟨kind,time,aB,text,value,null,maker,seq,place⟩=rc at *;have HCN:=ah (Ep ⟨kind2,bJ,dH,dn,value2,dw,aZ,seq2,aY⟩ ⟨kind,time,aB,text,value,null,maker,seq,place⟩);generalize fQ ⟨kind2,bJ,dH,dn,value2,dw,aZ,seq2,aY⟩ ⟨kind,time,aB,text,value,null,maker,seq,place⟩=z at *;generalize iw ⟨kind2,bJ,dH,dn,value2,dw,aZ,seq2,aY⟩ ⟨kind,time,aB,text,value,null,maker,seq,place⟩=kl at *;have HID:Hid (SH ⟨kind,time,aB,text,value,null,maker,seq,place⟩=decide (1<=maker/\maker<=64/\1<=seq/\seq<1099511627776/\0<=place/\place<64)):=ah rfl;generalize SH ⟨kind,time,aB,text,value,null,maker,seq,place⟩=ib at *;clear hrc;have Ah:=ah (aJ.new w4 58 #[.int .i64 kind,.int .i64 time,.slice A1 aB.length c1,.string text,.int .i64 value,.bool null,.int .i64 maker,.int .i64 seq,.int .i64 place])
    have FACT:=ah (fun w' (c':Nx (w4.alloc (.cells #[.int .i64 kind,.int .i64 time,.slice A1 aB.length c1,.string text,.int .i64 value,.bool null,.int .i64 maker,.int .i64 seq,.int .i64 place] 58)) w')=>show w'.cell? ⟨w4.heap.size,0,none⟩=some (.int .i64 kind)/\w'.cell? ⟨w4.heap.size,1,none⟩=some (.int .i64 time)/\w'.cell? ⟨w4.heap.size,2,none⟩=some (.slice A1 aB.length c1)/\w'.cell? ⟨w4.heap.size,3,none⟩=some (.string text)/\w'.cell? ⟨w4.heap.size,4,none⟩=some (.int .i64 value)/\w'.cell? ⟨w4.heap.size,5,none⟩=some (.bool null)/\w'.cell? ⟨w4.heap.size,6,none⟩=some (.int .i64 maker)/\w'.cell? ⟨w4.heap.size,7,none⟩=some (.int .i64 seq)/\w'.cell? ⟨w4.heap.size,8,none⟩=some (.int .i64 place)/\w'.cell? (ad.add (j * 9))=some (.int .i64 kind2)/\w'.cell? ⟨(ad.add (j * 9)).block,(ad.add (j * 9)).off+1,none⟩=some (.int .i64 bJ)/\w'.cell? ⟨(ad.add (j * 9)).block,(ad.add (j * 9)).off+2,none⟩=some (.slice A2 dH.length c2)/\w'.cell? ⟨(ad.add (j * 9)).block,(ad.add (j * 9)).off+3,none⟩=some (.string dn)/\w'.cell? ⟨(ad.add (j * 9)).block,(ad.add (j * 9)).off+4,none⟩=some (.int .i64 value2)/\w'.cell? ⟨(ad.add (j * 9)).block,(ad.add (j * 9)).off+5,none⟩=some (.bool dw)/\w'.cell? ⟨(ad.add (j * 9)).block,(ad.add (j * 9)).off+6,none⟩=some (.int .i64 aZ)/\w'.cell? ⟨(ad.add (j * 9)).block,(ad.add (j * 9)).off+7,none⟩=some (.int .i64 seq2)/\w'.cell? ⟨(ad.add (j * 9)).block,(ad.add (j * 9)).off+8,none⟩=some (.int .i64 aY) from by
     obtain ⟨ad2,had, -,s0,s1,s2,s3,s4,s5,s6,s7,s8⟩:=HRP.out w' (((Ch.refl (fun _=>False) w4).alloc _).tr c');injection had with had;subst had;exact ⟨(Ah.out.nx c').cell 0,(Ah.out.nx c').cell 1,(Ah.out.nx c').cell 2,(Ah.out.nx c').cell 3,(Ah.out.nx c').cell 4,(Ah.out.nx c').cell 5,(Ah.out.nx c').cell 6,(Ah.out.nx c').cell 7,(Ah.out.nx c').cell 8,s0,s1,s2,s3,s4,s5,s6,s7,s8⟩)
    have N5:=ah (N4.out.alloc (.cells #[.int .i64 kind,.int .i64 time,.slice A1 aB.length c1,.string text,.int .i64 value,.bool null,.int .i64 maker,.int .i64 seq,.int .i64 place] 58));have hwj:IntKind.i64.wrap (j:Int)=(j:Int):=IntWalk.i64_in _ (by omega);have hjn:(j:Int)<(n:Int):=(by omega);clear r0 r1 r2 r3 r4 r5 r6 r7 r8 HRP;rcases Ia (rc:=rc) (ib:=ib) (kl:=kl) (z:=z) HID.out HCN.out with ⟨rfl,HVV⟩|⟨rfl,q0,HVV⟩|⟨rfl,q0,q1,HVV⟩|⟨rfl,q0,q1,q2,HVV⟩|⟨rfl,q0,q1,q2,q3,HVV⟩|⟨rfl,q0,q1,q2,q3,q4,HVV⟩|⟨rfl,q0,q1,q2,q3,q4,q5,HVV⟩|⟨rfl,q0,q1,q2,q3,q4,q5,q6,HVV⟩|⟨rfl,q0,q1,q2,q3,q4,q5,q6,HVV⟩
    all_goals
     go_wp2_with fail;clear p0 p1 p2 p3 p4 p5 p6 p7 p8;refine z30 (fun w'=>Hid (Nx (w4.alloc (.cells #[.int .i64 kind,.int .i64 time,.slice A1 aB.length c1,.string text,.int .i64 value,.bool null,.int .i64 maker,.int .i64 seq,.int .i64 place] 58)) w')/\w'.cell? ⟨w4.heap.size,0,none⟩=some (.int .i64 kind)/\w'.cell? ⟨w4.heap.size,1,none⟩=some (.int .i64 time)/\w'.cell? ⟨w4.heap.size,2,none⟩=some (.slice A1 aB.length c1)/\w'.cell? ⟨w4.heap.size,3,none⟩=some (.string text)/\w'.cell? ⟨w4.heap.size,4,none⟩=some (.int .i64 value)/\w'.cell? ⟨w4.heap.size,5,none⟩=some (.bool null)/\w'.cell? ⟨w4.heap.size,6,none⟩=some (.int .i64 maker)/\w'.cell? ⟨w4.heap.size,7,none⟩=some (.int .i64 seq)/\w'.cell? ⟨w4.heap.size,8,none⟩=some (.int .i64 place)/\w'.cell? (ad.add (j * 9))=some (.int .i64 kind2)/\w'.cell? ⟨(ad.add (j * 9)).block,(ad.add (j * 9)).off+1,none⟩=some (.int .i64 bJ)/\w'.cell? ⟨(ad.add (j * 9)).block,(ad.add (j * 9)).off+2,none⟩=some (.slice A2 dH.length c2)/\w'.cell? ⟨(ad.add (j * 9)).block,(ad.add (j * 9)).off+3,none⟩=some (.string dn)/\w'.cell? ⟨(ad.add (j * 9)).block,(ad.add (j * 9)).off+4,none⟩=some (.int .i64 value2)/\w'.cell? ⟨(ad.add (j * 9)).block,(ad.add (j * 9)).off+5,none⟩=some (.bool dw)/\w'.cell? ⟨(ad.add (j * 9)).block,(ad.add (j * 9)).off+6,none⟩=some (.int .i64 aZ)/\w'.cell? ⟨(ad.add (j * 9)).block,(ad.add (j * 9)).off+7,none⟩=some (.int .i64 seq2)/\w'.cell? ⟨(ad.add (j * 9)).block,(ad.add (j * 9)).off+8,none⟩=some (.int .i64 aY)) (by kernel_rfl) (by kernel_rfl) ⟨ah ((Ch.refl _ _).drew),FACT.out _ ((Ch.refl _ _).drew)⟩ ?_
     repeat (first
      |refine YC (by rfl) (by simp only[Act.put,eu,dY,dZ];rfl) ?_
      |(refine YB (v:=?_) (a':=?_) (by rfl) (fun w5 hC5=>?_) ?_ ?_;rotate_left 2;(first
         |(focus ((try dsimp only at hC5);go_split_ands;go_simp;done))
         |(focus ((try dsimp only at hC5);go_split_ands;go_simp;with_reducible rfl))
         |(focus ((try dsimp only at hC5);have hC6:=ah hC5;go_split_ands;go_simp;(go_at_call 88;refine (Pj.out w5 (N5.out.tr hC6.out.1.out)).mono ?_;rintro e w7 ⟨rfl,n7⟩;refine ⟨?_,ah (hC6.out.1.out.tr n7),FACT.out w7 (hC6.out.1.out.tr n7)⟩;with_reducible rfl)))
         |(focus ((try dsimp only at hC5);have hC6:=ah hC5;go_split_ands;go_simp;(go_at_call 81;refine (abw.out w5).mono ?_;rintro e w7 ⟨rfl,n7⟩;refine ⟨?_,ah (hC6.out.1.out.tr n7),FACT.out w7 (hC6.out.1.out.tr n7)⟩;with_reducible rfl)))
         );(simp only[Act.put,eu,dY,dZ];rfl)))
     refine adx ?_;intro w6 hC6;have N6:=ah (N5.out.tr hC6.1.out);clear hC6;go_wp2_with fail
     first
      |(have HXX:Hid (X=false):=ah (HB.out (HV.out.trans HVV.out));go_ret;exact ⟨by rw[HXX.out];first|done|rfl,N6.out⟩)
      |(have HTT:Hid (MA (j+1)=true):=ah (HV.out.trans HVV.out);go_roundw;(case rel=>exact ⟨j+1+1,by omega,by go_num,N6,ah (fun i hi=>if e:i=j+1 then (by rw[e];exact HTT.out) else HG.out i (by omega))⟩);(case measure=>(simp[intOf];omega)))
  ·have hkn2:n=k:=by omega
   have hX:Hid (X=decide (0<k)):=ah (by rw[Zd.out (fun i hi=>HG.out i (by rw[Hl.out]at hi;omega)),Hl.out,hkn2]);go_wp2_with fail;go_ret;exact ⟨by rw[hX.out];first|done|rfl,N4.out⟩
end Go.Proofs.YtpakjclpjcngmaaGreat
