/- Contracts and plain laws that the last text rests on. Conditions: each theorem states its own. -/
import Derived.Test.YtdbfejfhpkakhaaGreatKeQ24
import Derived.Test.YtdbfejfhpkakhaaGreatKeQ23
import Derived.Test.YtdbfejfhpkakhaaGreatKeQ18
import Derived.Test.YtdbfejfhpkakhaaGreatKeQ7
import Derived.Test.YtdbfejfhpkakhaaGreatKeQ13
import Derived.Laws.MakeOwn
set_option maxRecDepth 100000
set_option maxHeartbeats 32000000
set_option linter.unusedVariables false
namespace Go.Proofs.YtdbfejfhpkakhaaGreat
open Go.RowKit
theorem qh {P:Program} {ops:Array Oper} {o:Oper} {a:Act} {K:Act->World->Prop} {Q:Exit->Act->World->Prop} {E:Prop} (hgd:o.guard=none) (sl x:Operand) (t u:TypeId)
 (ho:o.op=.call { callee:=.builtin .append,args:= #[sl,x],argTypes:= #[t,u]})
 (e:TypeId) (i:TypeInfo) (ht:P.underlying t=some (.slice e)) (hu:P.underlying u=some .string) (hi:P.info? e=some i) (hz:i.zero=some (.int .u8 0))
 (hsize:i.size=1) (hby:i.bytes=1)
 {W w:World} {v:Value} {n:Nat} {xs:List Nat} (hs:a.eval sl=v) (hown:aF W w e 1 v n (bl xs)) (s:ByteArray) (hx:a.eval x=.string s)
 (h63:n+s.size<=maxLen) (hbytes:n+s.size<=140737488355328)
 (h:∀v' w',aF W w' e 1 v' (n+s.size) (bl (xs++jF s))->w.grownBy w' v.ownBlock->K (a.put o.dst v') w'):if Region.wanted o (yielded ops a.tmps)=true then Oper.wp P o a w K Q else E:=by
 have hw:Region.wanted o (yielded ops a.tmps)=true:=by simp[Region.wanted,hgd]
 rw[if_pos hw];obtain ⟨v',w',hr,h2,h3,h4⟩:=Lib.run_append_own_string (P:=P) w W.heap.size t u o.type e i ht hu hi hz hsize hby v n (bl xs) hown.own s h63 hbytes hown.nx.size;unfold Oper.wp execOp;simp only[ho,resolve,invoke,builtin,Sem.run_bind,Sem.run_pure,Result.andThen_ok,List.map_toArray,List.map_cons,List.map_nil,hs,hx,hr];exact h v' w' ⟨by rw[show bl (xs++jF s)=bl xs++bl (jF s) by simp[bl],←z35];exact h2,hown.nx.grown h3 fun k hk hlt=>by have:=hown.lt k hk;omega⟩ h3
def PV.e (x:PV):PostE:=⟨x.text,x.gs.map Int.toNat⟩
structure PV.fit (w:World) (D:Nat->Prop) (x:PV):Prop where
 rd:Rd w D 1 x.A x.gs.length (ints x.gs)
 tx:x.text.size<=1024
 gn:x.gs.length<=2048
 gi:∀g∈x.gs,0<=g/\g<=1000000
def aQ.fit (s:aQ):Prop:=(0<=s.place/\s.place<4611686018427387904)/\(0<=s.size/\s.size<4611686018427387904)/\(0<=s.rows/\s.rows<4611686018427387904)/\(0<=s.lo/\s.lo<4611686018427387904)/\(0<=s.hi/\s.hi<4611686018427387904)
theorem Yr {α:Type} (f:α->List Nat) {l:List α} {k:Nat} (h:k<l.length):(l.drop k).flatMap f=f l[k]++(l.drop (k+1)).flatMap f:=by
 rw[List.drop_eq_getElem_cons h,List.flatMap_cons]
def PX (w w':World):Prop:=∀b t cs,t≠5->aG w b t cs->aG w' b t cs
theorem aF.Vb {W w w':World} {v v':Value} {n:Nat} {xs:List Value} (o:aF W w 5 1 v n xs) (m:Moved w w' v v'):PX w w':=fun b t cs ht h=>h.ch m.ch (fun e=>z06 o.own h (Ne.symm ht) e)
def ZC (W w:World) (T rest:List Nat) (e:Ending) (w':World):Prop:=∃v',e=.returned v'/\bM W w' v' T rest/\PX w w'
theorem KU {W w:World} {v:Value} {T rest:List Nat} {z:Nat} (h:bM W w v T (au z++rest)) (hz:z<9223372036854775808) (hT:T.length<=100000000):
 Calls Tryz.prog 135 #[v,.int .i64 (z:Int)] w (ZC W w T rest):=by
 obtain ⟨X,o,e⟩:=h;refine (RP o hz (by rw[←e]at hT;simp only[List.length_append]at hT;omega)).mono ?_;rintro e2 w' ⟨v',rfl,o',m⟩;exact ⟨v',rfl,⟨_,o',by rw[←e];simp⟩,o.Vb m⟩
theorem Qs {α:Type} {f:α->List Nat} {l:List α} (h:∀x∈l,okB (f x)):okB (l.flatMap f):=fun y hy=>by
 obtain ⟨x,hx,hy⟩:=List.mem_flatMap.1 hy;exact h x hx y hy
theorem Rh {w:World} {D:Nat->Prop} {ss:List aQ} {ps:List PV} (hf:∀s∈ss,s.fit) (hk:∀x∈ps,x.fit w D) (h1:ss.length<=2048) (h2:ps.length<=2048):okB (iR ss (ps.map PV.e)):=by
 unfold iR;refine h_ (h_ (h_ (iP (by omega)) (Qs fun s hs=>?_)) (iP (by rw[List.length_map];omega))) (Qs fun x hx=>?_)
 ·obtain ⟨a,b,c,d,e⟩:=hf s hs
  unfold iq;exact h_ (h_ (h_ (h_ (iP (by omega)) (iP (by omega))) (iP (by omega))) (iP (by omega))) (iP (by omega))
 ·obtain ⟨y,hy,rfl⟩:=List.mem_map.1 hx
  have hy:=hk y hy;have a:=hy.tx;have b:=hy.gn;unfold eU PV.e;refine h_ (h_ (h_ (iP (by simp only;omega)) (rO _)) (iP (by simp only[List.length_map];omega))) (Qs fun g hg=>?_);obtain ⟨z,hz,rfl⟩:=List.mem_map.1 hg;have:=hy.gi z hz;exact iP (by omega)
theorem FN {w:World} {D:Nat->Prop} {As Ap:Option Addr} {cs cp:Nat} {ss:List aQ} {ps:List PV} (hs:Rd w D 5 As ss.length (spl ss)) (hp:Rd w D 2 Ap ps.length (qA ps)) (hk:∀x∈ps,x.fit w D) (hf:∀s∈ss,s.fit) (h1:ss.length<=2048) (h2:ps.length<=2048) (hT:(iR ss (ps.map PV.e)).length<=100000000):
 Calls Tryz.prog 98 #[.agg #[.slice As ss.length cs,.slice Ap ps.length cp]] w (pG w 5 1 ((iR ss (ps.map PV.e)).length+4) (bl (iw (iR ss (ps.map PV.e))))):=by
 obtain ⟨i0,hi0,hz0,hz1,hz2⟩:=info_parts Tryz.info5;have HT:=ah hT;have HS:=ah (fun w' (c':Nx w w')=>hs.nx (w':=w') (by decide) c');have HP:=ah (fun w' (c':Nx w w')=>hp.nx (w':=w') (by decide) c');have HF:=ah hf;have HK:=ah hk;have Ou:=ah (Rh hf hk h1 h2);have HE:Hid (iR ss (ps.map PV.e)=[]++(au ss.length++(ss.flatMap iq++(au ps.length++ps.flatMap fun x=>eU x.e)))):=ah (by unfold iR;simp[List.flatMap_map]);clear hs hp hf hk hT;generalize iR ss (ps.map PV.e)=T at *;have B0:=ah (aG.new w 184 #[.slice As ss.length cs,.slice Ap ps.length cp]);have n0:Nx w (w.alloc (.cells #[.slice As ss.length cs,.slice Ap ps.length cp] 184)):=(Ch.refl _ w).alloc _;have O0:Hid (bM w (w.alloc (.cells #[.slice As ss.length cs,.slice Ap ps.length cp] 184)) (.slice none 0 0) T (au ss.length++(ss.flatMap iq++(au ps.length++ps.flatMap fun x=>eU x.e)))):=ah ⟨[],aF.nil w _ _ 1 n0,HE.out.symm⟩;clear n0 HE;go_enter Tryz.func98,Tryz.ntmps98;go_wp2_with fail;refine (KU O0.out (by omega) HT.out).mono ?_;rintro e w2 ⟨v2,rfl,o2,kk2⟩;have B2:=ah (kk2 _ _ _ (by decide) B0.out);have c0:w2.cell? ⟨w.heap.size,0,none⟩=some (.slice As ss.length cs):=B2.out.cell 0;have c1:w2.cell? ⟨w.heap.size,1,none⟩=some (.slice Ap ps.length cp):=B2.out.cell 1;have O2:=ah o2;clear o2 kk2 O0 B0;go_wp2_with fail;clear c0 c1;go_loopw [3,17] (fun v i wr=>∃k:Nat,k<=ss.length/\i=.int .i64 (k:Int)/\Hid (bM w wr v T ((ss.drop k).flatMap iq++(au ps.length++ps.flatMap fun x=>eU x.e)))/\Hid (aG wr w.heap.size 184 #[.slice As ss.length cs,.slice Ap ps.length cp])) (fun _ i _=>ss.length-(intOf i).toNat)
 case atStart=>exact ⟨0,Nat.zero_le _,rfl,O2,B2⟩
 case round=>
  clear O2 B2;obtain ⟨w4,rfl⟩:∃w4:World,w4=wr:=⟨_,rfl⟩;obtain ⟨k,hkn,rfl,HO,IB0⟩:=hrel;by_cases hlt:k<ss.length
  ·obtain ⟨X0,oX, -⟩:=HO.out
   have N4:=ah oX.nx;clear oX;obtain ⟨ad,rfl, -,p0,p1,p2,p3,p4⟩:=LW (HS.out w4 N4.out) hlt;have HD:=ah (Yr iq hlt);have hfit:=HF.out _ (List.getElem_mem hlt);generalize ss[k]=sp at *;obtain ⟨pl,sz,ro,lo,hi⟩:=sp;obtain ⟨⟨a0,b0⟩,⟨a1,b1⟩,⟨a2,b2⟩,⟨a3,b3⟩,⟨a4,b4⟩⟩:=hfit;simp only at p0 p1 p2 p3 p4 a0 a1 a2 a3 a4 b0 b1 b2 b3 b4;obtain ⟨z0,rfl⟩:=Int.eq_ofNat_of_zero_le a0;obtain ⟨z1,rfl⟩:=Int.eq_ofNat_of_zero_le a1;obtain ⟨z2,rfl⟩:=Int.eq_ofNat_of_zero_le a2;obtain ⟨z3,rfl⟩:=Int.eq_ofNat_of_zero_le a3;obtain ⟨z4,rfl⟩:=Int.eq_ofNat_of_zero_le a4
   have O5:Hid (bM w (w4.alloc (.cells #[.int .i64 (z0:Int),.int .i64 (z1:Int),.int .i64 (z2:Int),.int .i64 (z3:Int),.int .i64 (z4:Int)] 191)).drew u3 T (au z0++(au z1++(au z2++(au z3++(au z4++((ss.drop (k+1)).flatMap iq++(au ps.length++ps.flatMap fun x=>eU x.e)))))))):=ah (by
    obtain ⟨X,o,e⟩:=HO.out;refine ⟨X,o.tr (((Ch.refl _ _).alloc _).drew),?_⟩;rw[←e,HD.out];simp[iq])
   have B5:=ah ((aG.new w4 191 #[.int .i64 (z0:Int),.int .i64 (z1:Int),.int .i64 (z2:Int),.int .i64 (z3:Int),.int .i64 (z4:Int)]).drew);have IB5:=ah ((IB0.out.alloc (.cells #[.int .i64 (z0:Int),.int .i64 (z1:Int),.int .i64 (z2:Int),.int .i64 (z3:Int),.int .i64 (z4:Int)] 191)).drew);go_wp2_with fail;clear p0 p1 p2 p3 p4 HO IB0 HD a0 a1 a2 a3 a4;refine uI (fun w'=>w'.cell? ⟨w4.heap.size,0,none⟩=some (.int .i64 (z0:Int))/\w'.cell? ⟨w4.heap.size,1,none⟩=some (.int .i64 (z1:Int))/\w'.cell? ⟨w4.heap.size,2,none⟩=some (.int .i64 (z2:Int))/\w'.cell? ⟨w4.heap.size,3,none⟩=some (.int .i64 (z3:Int))/\w'.cell? ⟨w4.heap.size,4,none⟩=some (.int .i64 (z4:Int))) (fun _=>false) rfl ⟨B5.out.cell 0,B5.out.cell 1,B5.out.cell 2,B5.out.cell 3,B5.out.cell 4⟩ (fun hS0=>?_)
   try simp only[Act.put,aB,ay,aA]
   refine z00 (i:=0) (oi:=_) (v:=?_) rfl (fun _ _ _ h=>h) (Or.inl ⟨by rfl,?_⟩) ?_;rotate_left
   ·(intro w hSw;(try dsimp only at hSw);go_split_ands;go_simp;try with_reducible rfl)
   try simp only[Act.put,List.setIfInBounds_toArray]
   refine z00 (i:=1) (oi:=_) (v:=?_) rfl (fun _ _ _ h=>h) (Or.inl ⟨by rfl,?_⟩) ?_;rotate_left
   ·(intro w hSw;(try dsimp only at hSw);go_split_ands;go_simp;try with_reducible rfl)
   try simp only[Act.put]
   refine z00 (i:=2) (oi:=_) (v:=?_) rfl (fun _ _ _ h=>h) (Or.inl ⟨by rfl,?_⟩) ?_;rotate_left
   ·(intro w hSw;(try dsimp only at hSw);go_split_ands;go_simp;try with_reducible rfl)
   try simp only[Act.put]
   refine z00 (i:=4) (oi:=_) (v:=?_) rfl (fun _ _ _ h=>h) (Or.inl ⟨by rfl,?_⟩) ?_;rotate_left
   ·(intro w hSw;(try dsimp only at hSw);go_split_ands;go_simp;try with_reducible rfl)
   try simp only[Act.put]
   refine z00 (i:=5) (oi:=_) (v:=?_) rfl (fun _ _ _ h=>h) (Or.inl ⟨by rfl,?_⟩) ?_;rotate_left
   ·(intro w hSw;(try dsimp only at hSw);go_split_ands;go_simp;try with_reducible rfl)
   try simp only[Act.put]
   refine z00 (i:=7) (oi:=_) (v:=?_) rfl (fun _ _ _ h=>h) (Or.inl ⟨by rfl,?_⟩) ?_;rotate_left
   ·(intro w hSw;(try dsimp only at hSw);go_split_ands;go_simp;try with_reducible rfl)
   try simp only[Act.put]
   refine z00 (i:=8) (oi:=_) (v:=?_) rfl (fun _ _ _ h=>h) (Or.inl ⟨by rfl,?_⟩) ?_;rotate_left
   ·(intro w hSw;(try dsimp only at hSw);go_split_ands;go_simp;try with_reducible rfl)
   try simp only[Act.put]
   refine z00 (i:=10) (oi:=_) (v:=?_) rfl (fun _ _ _ h=>h) (Or.inl ⟨by rfl,?_⟩) ?_;rotate_left
   ·(intro w hSw;(try dsimp only at hSw);go_split_ands;go_simp;try with_reducible rfl)
   try simp only[Act.put]
   refine z00 (i:=11) (oi:=_) (v:=?_) rfl (fun _ _ _ h=>h) (Or.inl ⟨by rfl,?_⟩) ?_;rotate_left
   ·(intro w hSw;(try dsimp only at hSw);go_split_ands;go_simp;try with_reducible rfl)
   try simp only[Act.put]
   refine z00 (i:=13) (oi:=_) (v:=?_) rfl (fun _ _ _ h=>h) (Or.inl ⟨by rfl,?_⟩) ?_;rotate_left
   ·(intro w hSw;(try dsimp only at hSw);go_split_ands;go_simp;try with_reducible rfl)
   try simp only[Act.put]
   refine z00 (i:=14) (oi:=_) (v:=?_) rfl (fun _ _ _ h=>h) (Or.inl ⟨by rfl,?_⟩) ?_;rotate_left
   ·(intro w hSw;(try dsimp only at hSw);go_split_ands;go_simp;try with_reducible rfl)
   try simp only[Act.put]
   refine z02 (rs:=[3]) (by kernel_rfl) (by simp) (z01.cons (o:=_) rfl (fun K hK=>?_) z01.nil);go_simp;refine (KU O5.out (by omega) HT.out).mono ?_;rintro e w6 ⟨v6,rfl,o,kk⟩;have O6:=ah o;have B6:=ah (kk _ _ _ (by decide) B5.out);have IB6:=ah (kk _ _ _ (by decide) IB5.out);clear o kk;refine hK.out _ _ (fun _=>⟨B6.out.cell 0,B6.out.cell 1,B6.out.cell 2,B6.out.cell 3,B6.out.cell 4⟩) (fun aj=>?_);have hHeld:=aj (by decide);clear hK K aj
   try simp only[Act.put,aB,ay,aA]
   refine z02 (rs:=[6]) (by kernel_rfl) (by simp) (z01.cons (o:=_) rfl (fun K hK=>?_) z01.nil);go_simp;refine (KU O6.out (by omega) HT.out).mono ?_;rintro e w7 ⟨v7,rfl,o,kk⟩;have O7:=ah o;have B7:=ah (kk _ _ _ (by decide) B6.out);have IB7:=ah (kk _ _ _ (by decide) IB6.out);clear o kk;refine hK.out _ _ (fun _=>⟨B7.out.cell 0,B7.out.cell 1,B7.out.cell 2,B7.out.cell 3,B7.out.cell 4⟩) (fun aj=>?_);have hHeld:=aj (by decide);clear hK K aj
   try simp only[Act.put,aB,ay,aA]
   refine z02 (rs:=[9]) (by kernel_rfl) (by simp) (z01.cons (o:=_) rfl (fun K hK=>?_) z01.nil);go_simp;refine (KU O7.out (by omega) HT.out).mono ?_;rintro e w8 ⟨v8,rfl,o,kk⟩;have O8:=ah o;have B8:=ah (kk _ _ _ (by decide) B7.out);have IB8:=ah (kk _ _ _ (by decide) IB7.out);clear o kk;refine hK.out _ _ (fun _=>⟨B8.out.cell 0,B8.out.cell 1,B8.out.cell 2,B8.out.cell 3,B8.out.cell 4⟩) (fun aj=>?_);have hHeld:=aj (by decide);clear hK K aj
   try simp only[Act.put,aB,ay,aA]
   refine z02 (rs:=[12]) (by kernel_rfl) (by simp) (z01.cons (o:=_) rfl (fun K hK=>?_) z01.nil);go_simp;refine (KU O8.out (by omega) HT.out).mono ?_;rintro e w9 ⟨v9,rfl,o,kk⟩;have O9:=ah o;have B9:=ah (kk _ _ _ (by decide) B8.out);have IB9:=ah (kk _ _ _ (by decide) IB8.out);clear o kk;refine hK.out _ _ (fun _=>⟨B9.out.cell 0,B9.out.cell 1,B9.out.cell 2,B9.out.cell 3,B9.out.cell 4⟩) (fun aj=>?_);have hHeld:=aj (by decide);clear hK K aj
   try simp only[Act.put,aB,ay,aA]
   refine z02 (rs:=[15]) (by kernel_rfl) (by simp) (z01.cons (o:=_) rfl (fun K hK=>?_) z01.nil);go_simp;refine (KU O9.out (by omega) HT.out).mono ?_;rintro e w10 ⟨v10,rfl,o,kk⟩;have O10:=ah o;have B10:=ah (kk _ _ _ (by decide) B9.out);have IB10:=ah (kk _ _ _ (by decide) IB9.out);clear o kk;refine hK.out _ _ (fun _=>⟨B10.out.cell 0,B10.out.cell 1,B10.out.cell 2,B10.out.cell 3,B10.out.cell 4⟩) (fun aj=>?_);have hHeld:=aj (by decide);clear hK K aj
   try simp only[Act.put,aB,ay,aA]
   refine z00 (i:=16) (oi:=_) (v:=?_) rfl (fun _ _ _ h=>h) (Or.inl ⟨by rfl,?_⟩) ?_;rotate_left
   ·(intro w hSw;(try dsimp only at hSw);go_split_ands;go_simp;try with_reducible rfl)
   try simp only[Act.put,List.setIfInBounds_toArray]
   refine z08 (by kernel_rfl) ?_ _;go_wp2_with fail;go_roundw
   case rel=>exact ⟨k+1,by omega,by go_num,O10,IB10⟩
   case measure=>simp[intOf];omega
  ·have hkk:k=ss.length:=by omega
   have O3:Hid (bM w w4 u3 T (au ps.length++ps.flatMap fun x=>eU x.e)):=ah (by have:=HO.out;rw[hkk,List.drop_length]at this;exact this);have c0:w4.cell? ⟨w.heap.size,1,none⟩=some (.slice Ap ps.length cp):=IB0.out.cell 1;clear hkk HO;go_wp2_with fail;refine (KU O3.out (by omega) HT.out).mono ?_;rintro e w5 ⟨v5,rfl,o5,kk5⟩;have B5:=ah (kk5 _ _ _ (by decide) IB0.out);have c1:w5.cell? ⟨w.heap.size,1,none⟩=some (.slice Ap ps.length cp):=B5.out.cell 1;have O5:=ah o5;clear o5 kk5 O3 c0 IB0;go_wp2_with fail;clear c1;go_loopw [3,46] (fun v i wr=>∃k:Nat,k<=ps.length/\i=.int .i64 (k:Int)/\Hid (bM w wr v T ((ps.drop k).flatMap fun x=>eU x.e))) (fun _ i _=>ps.length-(intOf i).toNat)
   case atStart=>exact ⟨0,Nat.zero_le _,rfl,O5⟩
   case round=>
    clear O5 B5;obtain ⟨w4,rfl⟩:∃w4:World,w4=wr:=⟨_,rfl⟩;obtain ⟨k,hkn,rfl,HO⟩:=hrel;by_cases hlt:k<ps.length
    ·obtain ⟨X0,oX, -⟩:=HO.out
     have N4:=ah oX.nx;clear oX;obtain ⟨ad,rfl, -,p0,p1⟩:=post_at (HP.out w4 N4.out) hlt;have HD:=ah (Yr (fun x:PV=>eU x.e) hlt);have hfit:=HK.out _ (List.getElem_mem hlt);generalize ps[k]=x at *;obtain ⟨text,gs,A,c⟩:=x;obtain ⟨f1,f2,f3,f4⟩:=hfit;simp only at p0 p1 f1 f2 f3 f4;have F1:=ah f1;have F4:=ah f4
     have O5:Hid (bM w (w4.alloc (.cells #[.string text,.slice A gs.length c] 197)).drew u3 T (au text.size++(jF text++(au gs.length++((gs.flatMap fun g=>au g.toNat)++((ps.drop (k+1)).flatMap fun x=>eU x.e)))))):=ah (by
      obtain ⟨X,o,e⟩:=HO.out;refine ⟨X,o.tr (((Ch.refl _ _).alloc _).drew),?_⟩;rw[←e,HD.out];simp[eU,PV.e,List.flatMap_map])
     have B5:=ah ((aG.new w4 197 #[.string text,.slice A gs.length c]).drew);go_wp2_with fail;clear p0 p1 HO HD f1 f4;refine uI (fun w'=>w'.cell? ⟨w4.heap.size,0,none⟩=some (.string text)/\w'.cell? ⟨w4.heap.size,1,none⟩=some (.slice A gs.length c)) (fun _=>false) rfl ⟨B5.out.cell 0,B5.out.cell 1⟩ (fun hS0=>?_)
     try simp only[Act.put,aB,ay,aA]
     refine z00 (i:=0) (oi:=_) (v:=?_) rfl (fun _ _ _ h=>h) (Or.inl ⟨by rfl,?_⟩) ?_;rotate_left
     ·(intro w hSw;(try dsimp only at hSw);go_split_ands;go_simp;try with_reducible rfl)
     try simp only[Act.put,List.setIfInBounds_toArray]
     refine z00 (i:=1) (oi:=_) (v:=?_) rfl (fun _ _ _ h=>h) (Or.inl ⟨by rfl,?_⟩) ?_;rotate_left
     ·(intro w hSw;(try dsimp only at hSw);go_split_ands;go_simp;try with_reducible rfl)
     try simp only[Act.put]
     refine z00 (i:=2) (oi:=_) (v:=?_) rfl (fun _ _ _ h=>h) (Or.inl ⟨by rfl,?_⟩) ?_;rotate_left
     ·(intro w hSw;(try dsimp only at hSw);go_split_ands;go_simp;try with_reducible rfl)
     try simp only[Act.put]
     refine z00 (i:=3) (oi:=_) (v:=?_) rfl (fun _ _ _ h=>h) (Or.inl ⟨by rfl,?_⟩) ?_;rotate_left
     ·(intro w hSw;(try dsimp only at hSw);go_split_ands;go_simp;try with_reducible rfl)
     try simp only[Act.put]
     refine z00 (i:=5) (oi:=_) (v:=?_) rfl (fun _ _ _ h=>h) (Or.inl ⟨by rfl,?_⟩) ?_;rotate_left
     ·(intro w hSw;(try dsimp only at hSw);go_split_ands;go_simp;try with_reducible rfl)
     try simp only[Act.put]
     refine z00 (i:=6) (oi:=_) (v:=?_) rfl (fun _ _ _ h=>h) (Or.inl ⟨by rfl,?_⟩) ?_;rotate_left
     ·(intro w hSw;(try dsimp only at hSw);go_split_ands;go_simp;try with_reducible rfl)
     try simp only[Act.put]
     refine z02 (rs:=[4]) (by kernel_rfl) (by simp) (z01.cons (o:=_) rfl (fun K hK=>?_) z01.nil);go_simp;refine (KU O5.out (by omega) HT.out).mono ?_;rintro e w6 ⟨v6,rfl,o,kk⟩;have O6:=ah o;have B6:=ah (kk _ _ _ (by decide) B5.out);clear o kk;refine hK.out _ _ (fun _=>⟨B6.out.cell 0,B6.out.cell 1⟩) (fun aj=>?_);have hHeld:=aj (by decide);clear hK K aj
     try simp only[Act.put,aB,ay,aA]
     obtain ⟨X6,ox6,ex6⟩:=O6.out;have OX6:=ah ox6;have hl6:X6.length<=100000000:=by have:=HT.out;rw[←ex6,List.length_append]at this;omega
     have EX6:=ah ex6;clear ox6 ex6;refine z02 (rs:=[7]) (by kernel_rfl) (by simp) (z01.cons (o:=_) rfl (fun K hK=>?_) z01.nil);refine qh rfl (.tmp 54) (.tmp 56) _ _ rfl 5 i0 Tryz.underlying47 Tryz.underlying9 hi0 hz0 hz1 hz2 rfl OX6.out text rfl (by simp only[maxLen];omega) (by omega) ?_;intro v7 w7 o7 gr7;have O7:Hid (bM w w7 v7 T (au gs.length++((gs.flatMap fun g=>au g.toNat)++((ps.drop (k+1)).flatMap fun x=>eU x.e)))):=ah ⟨X6++jF text,by rw[List.length_append,Ls];exact o7,by rw[←EX6.out];simp⟩;have B7:=ah (B6.out.ch ((Ch.refl (fun k=>v6.ownBlock=some k) w6).grown gr7 fun k hk _=>hk) (fun e=>z06 OX6.out.own B6.out (by decide) e));clear o7 gr7;refine hK.out _ _ (fun _=>⟨B7.out.cell 0,B7.out.cell 1⟩) (fun aj=>?_);have hHeld:=aj (by decide);clear hK K aj
     try simp only[Act.put,List.setIfInBounds_toArray]
     refine z00 (i:=8) (oi:=_) (v:=?_) rfl (fun _ _ _ h=>h) (Or.inl ⟨by rfl,?_⟩) ?_;rotate_left
     ·(intro w hSw;(try dsimp only at hSw);go_split_ands;go_simp;try with_reducible rfl)
     try simp only[Act.put]
     refine z08 (by kernel_rfl) ?_ _;have c7:w7.cell? ⟨w4.heap.size,1,none⟩=some (.slice A gs.length c):=B7.out.cell 1;go_wp2_with fail;refine (KU O7.out (by omega) HT.out).mono ?_;rintro e w8 ⟨v8,rfl,o8,kk8⟩;have O8:=ah o8;have B8:=ah (kk8 _ _ _ (by decide) B7.out);have c8:w8.cell? ⟨w4.heap.size,1,none⟩=some (.slice A gs.length c):=B8.out.cell 1;clear o8 kk8 c7 B7 O7 O6 OX6 EX6 B6 O5 B5;go_wp2_with fail;clear c8 B8;go_loopw [3,66] (fun v i wr=>∃j:Nat,j<=gs.length/\i=.int .i64 (j:Int)/\Hid (bM w wr v T (((gs.drop j).flatMap fun g=>au g.toNat)++((ps.drop (k+1)).flatMap fun x=>eU x.e)))) (fun _ i _=>gs.length-(intOf i).toNat)
     case atStart=>exact ⟨0,Nat.zero_le _,rfl,O8⟩
     case round=>
      clear O8;obtain ⟨w9,rfl⟩:∃w9:World,w9=wr:=⟨_,rfl⟩;obtain ⟨j,hjn,rfl,HO⟩:=hrel;by_cases hlj:j<gs.length
      ·obtain ⟨X0,oX, -⟩:=HO.out
       obtain ⟨ad2,u,rfl, -,hu,hcg⟩:=(F1.out.nx (by decide) oX.nx).at_ hlj;clear oX;have hg:=F4.out _ (List.getElem_mem hlj);have HD:=ah (Yr (fun g:Int=>au g.toNat) hlj);rw[show (ints gs)[j]?=some (.int .i64 gs[j]) by simp[ints,hlj]]at hu;injection hu with hu;subst hu;generalize gs[j]=g at *;obtain ⟨z,rfl⟩:=Int.eq_ofNat_of_zero_le hg.1;have hz:z<9223372036854775808:=by have:=hg.2;omega
       have O9:Hid (bM w w9 u3 T (au z++(((gs.drop (j+1)).flatMap fun g=>au g.toNat)++((ps.drop (k+1)).flatMap fun x=>eU x.e)))):=ah (by have:=HO.out;rw[HD.out]at this;simpa using this);clear HO HD hg;go_wp2_with fail;refine (KU O9.out hz HT.out).mono ?_;rintro e w10 ⟨v10,rfl,o10, -⟩;have O10:=ah o10;clear o10 hcg;go_wp2_with fail;go_roundw
       case rel=>exact ⟨j+1,by omega,by go_num,O10⟩
       case measure=>simp[intOf];omega
      ·have hjj:j=gs.length:=by omega
       have O9:Hid (bM w w9 u3 T ((ps.drop (k+1)).flatMap fun x=>eU x.e)):=ah (by have:=HO.out;rw[hjj,List.drop_length]at this;exact this);clear hjj HO;go_wp2_with fail;go_roundw
       case rel=>exact ⟨k+1,by omega,by go_num,O9⟩
       case measure=>simp[intOf];omega
    ·have hkk:k=ps.length:=by omega
     obtain ⟨X,oX,eX⟩:=HO.out;rw[hkk,List.drop_length,List.flatMap_nil,List.append_nil]at eX;have hXl:X.length<=100000000:=by rw[eX];exact HT.out
     have okX:okB X:=by rw[eX];exact Ou.out
     obtain ⟨A9,c9,rfl, -, -⟩:=oX.form;have HSL:=ah (xw _ A9 X.length c9 X w4 oX.rd (fun j hj=>hj.2.2) okX rfl (by omega));have OX:=ah oX;have EX:=ah eX;clear hkk oX eX okX HO;go_wp2_with fail;refine HSL.out.mono ?_;rintro e w9 ⟨k9,JU,rfl,o9,q1,q2,q3,q4⟩;have O9:=ah o9;clear o9;go_wp2_with fail;go_ret;have hsz:=OX.out.nx.size;rw[←EX.out];exact ⟨k9,JU,rfl,⟨uw O9.out.own hsz,OX.out.nx.tr O9.out.nx⟩,by omega,q2,q3,q4⟩
theorem Oc (x:RV) (w:World):Calls Tryz.prog 118 #[aJ x] w fun e w'=>e=.returned (.int .i64 x.row.time)/\Nx w w':=by
 obtain ⟨⟨kind,time,ak,text,value,null,maker,seq,place⟩,A1,c1⟩:=x;unfold aJ;go_enter Tryz.func118,Tryz.ntmps118;go_wp2_with fail;go_ret;exact ⟨rfl,(Ch.refl _ w).alloc _⟩
theorem Ob (x:RV) (w:World):Calls Tryz.prog 119 #[aJ x] w fun e w'=>e=.returned (.int .i64 x.row.maker)/\Nx w w':=by
 obtain ⟨⟨kind,time,ak,text,value,null,maker,seq,place⟩,A1,c1⟩:=x;unfold aJ;go_enter Tryz.func119,Tryz.ntmps119;go_wp2_with fail;go_ret;exact ⟨rfl,(Ch.refl _ w).alloc _⟩
theorem Oa (x:RV) (w:World):Calls Tryz.prog 120 #[aJ x] w fun e w'=>e=.returned (.int .i64 x.row.seq)/\Nx w w':=by
 obtain ⟨⟨kind,time,ak,text,value,null,maker,seq,place⟩,A1,c1⟩:=x;unfold aJ;go_enter Tryz.func120,Tryz.ntmps120;go_wp2_with fail;go_ret;exact ⟨rfl,(Ch.refl _ w).alloc _⟩
theorem N_ (x:RV) (w:World):Calls Tryz.prog 121 #[aJ x] w fun e w'=>e=.returned (.int .i64 x.row.place)/\Nx w w':=by
 obtain ⟨⟨kind,time,ak,text,value,null,maker,seq,place⟩,A1,c1⟩:=x;unfold aJ;go_enter Tryz.func121,Tryz.ntmps121;go_wp2_with fail;go_ret;exact ⟨rfl,(Ch.refl _ w).alloc _⟩
theorem NZ (x:RV) (w:World):Calls Tryz.prog 122 #[aJ x] w fun e w'=>e=.returned (.int .i64 x.row.kind)/\Nx w w':=by
 obtain ⟨⟨kind,time,ak,text,value,null,maker,seq,place⟩,A1,c1⟩:=x;unfold aJ;go_enter Tryz.func122,Tryz.ntmps122;go_wp2_with fail;go_ret;exact ⟨rfl,(Ch.refl _ w).alloc _⟩
theorem NU (x:RV) (w:World):Calls Tryz.prog 129 #[aJ x] w fun e w'=>e=.returned (.int .i64 x.row.value)/\Nx w w':=by
 obtain ⟨⟨kind,time,ak,text,value,null,maker,seq,place⟩,A1,c1⟩:=x;unfold aJ;go_enter Tryz.func129,Tryz.ntmps129;go_wp2_with fail;go_ret;exact ⟨rfl,(Ch.refl _ w).alloc _⟩
theorem NY (x:RV) (w:World):Calls Tryz.prog 128 #[aJ x] w fun e w'=>e=.returned (.string x.row.text)/\Nx w w':=by
 obtain ⟨⟨kind,time,ak,text,value,null,maker,seq,place⟩,A1,c1⟩:=x;unfold aJ;go_enter Tryz.func128,Tryz.ntmps128;go_wp2_with fail;go_ret;exact ⟨rfl,(Ch.refl _ w).alloc _⟩
theorem NT (x:RV) (w:World):Calls Tryz.prog 132 #[aJ x] w fun e w'=>e=.returned (.bool x.row.null)/\Nx w w':=by
 obtain ⟨⟨kind,time,ak,text,value,null,maker,seq,place⟩,A1,c1⟩:=x;unfold aJ;go_enter Tryz.func132,Tryz.ntmps132;go_wp2_with fail;go_ret;exact ⟨rfl,(Ch.refl _ w).alloc _⟩
def Nr (k:Nat):Value:=([.func (.func 118) #[] #[],.func (.func 119) #[] #[],.func (.func 120) #[] #[],.func (.func 121) #[] #[],.func (.func 122) #[] #[]]:List Value).getD k undef
def jk (k:Nat) (x:aC):Int:=match k with
 |0=>x.time
 |1=>x.maker
 |2=>x.seq
 |3=>x.place
 |_=>x.kind
theorem QX (x:RV) (w:World) (b:Nat) (hb:w.cell? ⟨b,0,none⟩=some (.func (.func 118) #[] #[])):Calls Tryz.prog 174 #[aJ x,.pointer (some ⟨b,0,none⟩)] w fun e w'=>e=.returned (.int .i64 (jk 0 x.row))/\Nx w w':=by
 have HC:=ah (fun w=>Oc x w);obtain ⟨⟨kind,time,ak,text,value,null,maker,seq,place⟩,A1,c1⟩:=x;unfold aJ at *;have hlt:b<w.heap.size:=World.block_lt_of_cell? w _ hb;go_enter Tryz.func174,Tryz.ntmps174;go_wp2_with fail;refine (HC.out _).mono ?_;rintro e w2 ⟨rfl,n2⟩;go_wp2_with fail;go_ret;exact ⟨rfl,((Ch.refl _ w).alloc _).tr n2⟩
theorem QV (x:RV) (w:World) (b:Nat) (hb:w.cell? ⟨b,0,none⟩=some (.func (.func 119) #[] #[])):Calls Tryz.prog 174 #[aJ x,.pointer (some ⟨b,0,none⟩)] w fun e w'=>e=.returned (.int .i64 (jk 1 x.row))/\Nx w w':=by
 have HC:=ah (fun w=>Ob x w);obtain ⟨⟨kind,time,ak,text,value,null,maker,seq,place⟩,A1,c1⟩:=x;unfold aJ at *;have hlt:b<w.heap.size:=World.block_lt_of_cell? w _ hb;go_enter Tryz.func174,Tryz.ntmps174;go_wp2_with fail;refine (HC.out _).mono ?_;rintro e w2 ⟨rfl,n2⟩;go_wp2_with fail;go_ret;exact ⟨rfl,((Ch.refl _ w).alloc _).tr n2⟩
theorem QU (x:RV) (w:World) (b:Nat) (hb:w.cell? ⟨b,0,none⟩=some (.func (.func 120) #[] #[])):Calls Tryz.prog 174 #[aJ x,.pointer (some ⟨b,0,none⟩)] w fun e w'=>e=.returned (.int .i64 (jk 2 x.row))/\Nx w w':=by
 have HC:=ah (fun w=>Oa x w);obtain ⟨⟨kind,time,ak,text,value,null,maker,seq,place⟩,A1,c1⟩:=x;unfold aJ at *;have hlt:b<w.heap.size:=World.block_lt_of_cell? w _ hb;go_enter Tryz.func174,Tryz.ntmps174;go_wp2_with fail;refine (HC.out _).mono ?_;rintro e w2 ⟨rfl,n2⟩;go_wp2_with fail;go_ret;exact ⟨rfl,((Ch.refl _ w).alloc _).tr n2⟩
theorem QT (x:RV) (w:World) (b:Nat) (hb:w.cell? ⟨b,0,none⟩=some (.func (.func 121) #[] #[])):Calls Tryz.prog 174 #[aJ x,.pointer (some ⟨b,0,none⟩)] w fun e w'=>e=.returned (.int .i64 (jk 3 x.row))/\Nx w w':=by
 have HC:=ah (fun w=>N_ x w);obtain ⟨⟨kind,time,ak,text,value,null,maker,seq,place⟩,A1,c1⟩:=x;unfold aJ at *;have hlt:b<w.heap.size:=World.block_lt_of_cell? w _ hb;go_enter Tryz.func174,Tryz.ntmps174;go_wp2_with fail;refine (HC.out _).mono ?_;rintro e w2 ⟨rfl,n2⟩;go_wp2_with fail;go_ret;exact ⟨rfl,((Ch.refl _ w).alloc _).tr n2⟩
theorem QS (x:RV) (w:World) (b:Nat) (hb:w.cell? ⟨b,0,none⟩=some (.func (.func 122) #[] #[])):Calls Tryz.prog 174 #[aJ x,.pointer (some ⟨b,0,none⟩)] w fun e w'=>e=.returned (.int .i64 (jk 4 x.row))/\Nx w w':=by
 have HC:=ah (fun w=>NZ x w);obtain ⟨⟨kind,time,ak,text,value,null,maker,seq,place⟩,A1,c1⟩:=x;unfold aJ at *;have hlt:b<w.heap.size:=World.block_lt_of_cell? w _ hb;go_enter Tryz.func174,Tryz.ntmps174;go_wp2_with fail;refine (HC.out _).mono ?_;rintro e w2 ⟨rfl,n2⟩;go_wp2_with fail;go_ret;exact ⟨rfl,((Ch.refl _ w).alloc _).tr n2⟩
theorem Jf {k:Nat} (hk:k<5) (x:RV) (w:World) (b:Nat) (hb:w.cell? ⟨b,0,none⟩=some (Nr k)):Calls Tryz.prog 174 #[aJ x,.pointer (some ⟨b,0,none⟩)] w fun e w'=>e=.returned (.int .i64 (jk k x.row))/\Nx w w':=
 match k,hk,hb with
 |0,_,hb=>QX x w b hb
 |1,_,hb=>QV x w b hb
 |2,_,hb=>QU x w b hb
 |3,_,hb=>QT x w b hb
 |4,_,hb=>QS x w b hb
theorem wH (v:Value) (F:Fn) (hv:v=.func F #[] #[]) (w:World):Calls Tryz.prog 125 #[v] w fun e w'=>e=.returned (.func (.func 174) #[] #[.pointer (some ⟨w.heap.size,0,none⟩)])/\w'=w.alloc (.cells #[v] 216):=by
 subst hv;go_enter Tryz.func125,Tryz.ntmps125;go_wp2_with fail;go_ret;exact ⟨rfl,rfl⟩
theorem qX {w:World} {D:Nat->Prop} (x:RV) (hx:x.ok w D) (hf:x.row.few):Calls Tryz.prog 95 #[aJ x] w fun e w'=>e=.returned (.string (bP x.row))/\Nx w w':=by
 have HT:=ah (fun w' (c':Nx w w')=>kN (c:=x.c) (hx.1.nx (by decide) c') (by have:=hf.2;omega) hf.1.1);obtain ⟨⟨kind,time,ak,text,value,null,maker,seq,place⟩,A1,c1⟩:=x;unfold aJ;unfold bP;simp only at HT ⊢;generalize (if gK ak=true then (0:Int) else 4)=er at HT;clear hx hf;go_enter Tryz.func95,Tryz.ntmps95;go_wp2_with fail;refine (HT.out _ ((Ch.refl _ w).alloc _)).mono ?_;rintro e w2 ⟨rfl,n2⟩;go_wp2_with fail;go_ret;exact ⟨rfl,((Ch.refl _ w).alloc _).tr n2⟩
theorem IK {w:World} {D:Nat->Prop} {A:Option Addr} {n c:Nat} {l:List RV} {b:Nat} (f:aC->Int) (h:Rd w D 9 A n (dI l)) (hl:l.length=n) (hn:n<=1000000)
 (hg:∀w',Nx w w'->∀x∈l,Calls Tryz.prog 174 #[aJ x,.pointer (some ⟨b,0,none⟩)] w' fun e w''=>e=.returned (Value.int .i64 (f x.row))/\Nx w' w''):
 Calls Tryz.prog 124 #[.slice A n c,.func (.func 174) #[] #[.pointer (some ⟨b,0,none⟩)]] w (Gives w 2 1 n (l.map fun x=>Value.int .i64 (f x.row))):=by
 obtain ⟨i0,hi0,hz0,hz1,hz2⟩:=info_parts Tryz.tu
 have hmk:∀w:World,(Instr.makeSlice 219 (.int .i64 0) (.int .i64 (n:Int))).run Tryz.prog w=.ok (.slice (some ⟨w.heap.size,0,none⟩) 0 n) (w.alloc (.cells (madeCells #[.int .i64 0] n) 2)):=fun w=>by
  have:=run_make (P:=Tryz.prog) w 219 2 i0 (.int .i64 0) Tryz.underlying219 hi0 hz0 .i64 .i64 0 (n:Int) (by omega) (by omega) (by rw[hz2];omega) (by omega);rw[hz1,show (n:Int).toNat=n by omega,Nat.mul_one]at this;exact this
 have o1:aF w (w.alloc (.cells (madeCells #[.int .i64 0] n) 2)) 2 1 (.slice (some ⟨w.heap.size,0,none⟩) 0 n) 0 []:=
  ⟨World.ownsRow_made w _ n (Nat.le_refl _) (by simp only[maxLen];omega) (by simp[size_madeCells]),(Ch.refl _ w).alloc _⟩
 have O1:=ah o1;have HL:=ah hl;have jd:=ah h;have HG:=ah hg;have HV:Hid (∀k (hk:k<l.length),(l.map fun x=>Value.int .i64 (f x.row)).take (k+1)=(l.map fun x=>Value.int .i64 (f x.row)).take k++[Value.int .i64 (f l[k].row)]):=ah (fun k hk=>by rw[List.take_succ_eq_append_getElem (by simpa using hk)];simp);have HE:Hid ((l.map fun x=>Value.int .i64 (f x.row)).length=n):=ah (by rw[List.length_map];exact hl);clear hl h hg o1;generalize (l.map fun x=>Value.int .i64 (f x.row))=G at *;go_enter Tryz.func124,Tryz.ntmps124;go_wp2_with fail;generalize (w.alloc (.cells (madeCells #[.int .i64 0] n) 2))=w1 at *;clear hmk;go_loopw [5,13] (fun v i wr=>∃k:Nat,k<=n/\i=.int .i64 (k:Int)/\Hid (aF w wr 2 1 v k (G.take k))) (fun _ i _=>n-(intOf i).toNat)
 case atStart=>exact ⟨0,Nat.zero_le _,rfl,O1⟩
 case round=>
  obtain ⟨w4,rfl⟩:∃w4:World,w4=wr:=⟨_,rfl⟩;obtain ⟨k,hkn,rfl,HO⟩:=hrel;by_cases hlt:k<n
  ·have hkl:k<l.length:=by rw[HL.out];exact hlt
   obtain ⟨ad,rfl, -,p0,p1,p2,p3,p4,p5,p6,p7,p8⟩:=z14 (jd.out.nx (by decide) HO.out.nx) hkl;have HC:=ah (fun w' (c':Nx w4 w')=>HG.out w' (HO.out.nx.tr c') _ (List.getElem_mem hkl));have HV1:=ah (HV.out k hkl);generalize l[k]=x at *;obtain ⟨⟨kind,time,ak,text,value,null,maker,seq,place⟩,A1,c1⟩:=x;unfold aJ at HC;simp only at p0 p1 p2 p3 p4 p5 p6 p7 p8 HC HV1;generalize f ⟨kind,time,ak,text,value,null,maker,seq,place⟩=y at *;go_wp2_with fail;refine (HC.out _ ((Ch.refl _ w4).alloc _)).mono ?_;rintro e w5 ⟨rfl,n5⟩;have o5:=HO.out.tr (((Ch.refl _ w4).alloc _).tr n5);clear n5 p0 p1 p2 p3 p4 p5 p6 p7 p8;go_wp2_with (at_builtin;refine OY rfl (.tmp 17) (.tmp 21) _ rfl 2 i0 _ 8 Tryz.underlying219 hi0 hz0 hz1 hz2 rfl (Value.int .i64 y) rfl rfl o5 rfl (by simp only[maxLen];omega) (by omega) ?_;intro v7 w7 o7 m7;have O7:=ah o7;clear o7 m7 o5)
   go_roundw
   case rel=>exact ⟨k+1,by omega,by go_num,by rw[HV1.out];exact O7⟩
   case measure=>simp[intOf];omega
  ·have hkn2:n=k:=by omega
   have hr:Hid (G.take k=G):=ah (List.take_of_length_le (by rw[HE.out];omega));go_wp2_with fail;go_ret;refine ⟨_,rfl,?_⟩;have:=HO.out;rw[hr.out,←hkn2]at this;exact this
theorem IJ {w:World} {D:Nat->Prop} {A:Option Addr} {n c:Nat} {l:List RV} (f:aC->Int) (h:Rd w D 9 A n (dI l)) (hl:l.length=n) (hn:n<=1000000)
 (hg:∀w',Nx w w'->∀x∈l,Calls Tryz.prog 129 #[aJ x] w' fun e w''=>e=.returned (Value.int .i64 (f x.row))/\Nx w' w''):
 Calls Tryz.prog 124 #[.slice A n c,.func (.func 129) #[] #[]] w (Gives w 2 1 n (l.map fun x=>Value.int .i64 (f x.row))):=by
 obtain ⟨i0,hi0,hz0,hz1,hz2⟩:=info_parts Tryz.tu
 have hmk:∀w:World,(Instr.makeSlice 219 (.int .i64 0) (.int .i64 (n:Int))).run Tryz.prog w=.ok (.slice (some ⟨w.heap.size,0,none⟩) 0 n) (w.alloc (.cells (madeCells #[.int .i64 0] n) 2)):=fun w=>by
  have:=run_make (P:=Tryz.prog) w 219 2 i0 (.int .i64 0) Tryz.underlying219 hi0 hz0 .i64 .i64 0 (n:Int) (by omega) (by omega) (by rw[hz2];omega) (by omega);rw[hz1,show (n:Int).toNat=n by omega,Nat.mul_one]at this;exact this
 have o1:aF w (w.alloc (.cells (madeCells #[.int .i64 0] n) 2)) 2 1 (.slice (some ⟨w.heap.size,0,none⟩) 0 n) 0 []:=
  ⟨World.ownsRow_made w _ n (Nat.le_refl _) (by simp only[maxLen];omega) (by simp[size_madeCells]),(Ch.refl _ w).alloc _⟩
 have O1:=ah o1;have HL:=ah hl;have jd:=ah h;have HG:=ah hg;have HV:Hid (∀k (hk:k<l.length),(l.map fun x=>Value.int .i64 (f x.row)).take (k+1)=(l.map fun x=>Value.int .i64 (f x.row)).take k++[Value.int .i64 (f l[k].row)]):=ah (fun k hk=>by rw[List.take_succ_eq_append_getElem (by simpa using hk)];simp);have HE:Hid ((l.map fun x=>Value.int .i64 (f x.row)).length=n):=ah (by rw[List.length_map];exact hl);clear hl h hg o1;generalize (l.map fun x=>Value.int .i64 (f x.row))=G at *;go_enter Tryz.func124,Tryz.ntmps124;go_wp2_with fail;generalize (w.alloc (.cells (madeCells #[.int .i64 0] n) 2))=w1 at *;clear hmk;go_loopw [5,13] (fun v i wr=>∃k:Nat,k<=n/\i=.int .i64 (k:Int)/\Hid (aF w wr 2 1 v k (G.take k))) (fun _ i _=>n-(intOf i).toNat)
 case atStart=>exact ⟨0,Nat.zero_le _,rfl,O1⟩
 case round=>
  obtain ⟨w4,rfl⟩:∃w4:World,w4=wr:=⟨_,rfl⟩;obtain ⟨k,hkn,rfl,HO⟩:=hrel;by_cases hlt:k<n
  ·have hkl:k<l.length:=by rw[HL.out];exact hlt
   obtain ⟨ad,rfl, -,p0,p1,p2,p3,p4,p5,p6,p7,p8⟩:=z14 (jd.out.nx (by decide) HO.out.nx) hkl;have HC:=ah (fun w' (c':Nx w4 w')=>HG.out w' (HO.out.nx.tr c') _ (List.getElem_mem hkl));have HV1:=ah (HV.out k hkl);generalize l[k]=x at *;obtain ⟨⟨kind,time,ak,text,value,null,maker,seq,place⟩,A1,c1⟩:=x;unfold aJ at HC;simp only at p0 p1 p2 p3 p4 p5 p6 p7 p8 HC HV1;generalize f ⟨kind,time,ak,text,value,null,maker,seq,place⟩=y at *;go_wp2_with fail;refine (HC.out _ ((Ch.refl _ w4).alloc _)).mono ?_;rintro e w5 ⟨rfl,n5⟩;have o5:=HO.out.tr (((Ch.refl _ w4).alloc _).tr n5);clear n5 p0 p1 p2 p3 p4 p5 p6 p7 p8;go_wp2_with (at_builtin;refine OY rfl (.tmp 17) (.tmp 21) _ rfl 2 i0 _ 8 Tryz.underlying219 hi0 hz0 hz1 hz2 rfl (Value.int .i64 y) rfl rfl o5 rfl (by simp only[maxLen];omega) (by omega) ?_;intro v7 w7 o7 m7;have O7:=ah o7;clear o7 m7 o5)
   go_roundw
   case rel=>exact ⟨k+1,by omega,by go_num,by rw[HV1.out];exact O7⟩
   case measure=>simp[intOf];omega
  ·have hkn2:n=k:=by omega
   have hr:Hid (G.take k=G):=ah (List.take_of_length_le (by rw[HE.out];omega));go_wp2_with fail;go_ret;refine ⟨_,rfl,?_⟩;have:=HO.out;rw[hr.out,←hkn2]at this;exact this
theorem Cm {w:World} {D:Nat->Prop} {A:Option Addr} {n c:Nat} {l:List RV} (f:aC->ByteArray) (h:Rd w D 9 A n (dI l)) (hl:l.length=n) (hn:n<=1000000)
 (hg:∀w',Nx w w'->∀x∈l,Calls Tryz.prog 95 #[aJ x] w' fun e w''=>e=.returned (Value.string (f x.row))/\Nx w' w''):
 Calls Tryz.prog 94 #[.slice A n c,.func (.func 95) #[] #[]] w (Gives w 9 1 n (l.map fun x=>Value.string (f x.row))):=by
 obtain ⟨i0,hi0,hz0,hz1,hz2⟩:=info_parts Tryz.sZ
 have hmk:∀w:World,(Instr.makeSlice 22 (.int .i64 0) (.int .i64 (n:Int))).run Tryz.prog w=.ok (.slice (some ⟨w.heap.size,0,none⟩) 0 n) (w.alloc (.cells (madeCells #[.string ⟨#[]⟩] n) 9)):=fun w=>by
  have:=run_make (P:=Tryz.prog) w 22 9 i0 (.string ⟨#[]⟩) Tryz.underlying22 hi0 hz0 .i64 .i64 0 (n:Int) (by omega) (by omega) (by rw[hz2];omega) (by omega);rw[hz1,show (n:Int).toNat=n by omega,Nat.mul_one]at this;exact this
 have o1:aF w (w.alloc (.cells (madeCells #[.string ⟨#[]⟩] n) 9)) 9 1 (.slice (some ⟨w.heap.size,0,none⟩) 0 n) 0 []:=
  ⟨World.ownsRow_made w _ n (Nat.le_refl _) (by simp only[maxLen];omega) (by simp[size_madeCells]),(Ch.refl _ w).alloc _⟩
 have O1:=ah o1;have HL:=ah hl;have jd:=ah h;have HG:=ah hg;have HV:Hid (∀k (hk:k<l.length),(l.map fun x=>Value.string (f x.row)).take (k+1)=(l.map fun x=>Value.string (f x.row)).take k++[Value.string (f l[k].row)]):=ah (fun k hk=>by rw[List.take_succ_eq_append_getElem (by simpa using hk)];simp);have HE:Hid ((l.map fun x=>Value.string (f x.row)).length=n):=ah (by rw[List.length_map];exact hl);clear hl h hg o1;generalize (l.map fun x=>Value.string (f x.row))=G at *;go_enter Tryz.func94,Tryz.ntmps94;go_wp2_with fail;generalize (w.alloc (.cells (madeCells #[.string ⟨#[]⟩] n) 9))=w1 at *;clear hmk;go_loopw [5,13] (fun v i wr=>∃k:Nat,k<=n/\i=.int .i64 (k:Int)/\Hid (aF w wr 9 1 v k (G.take k))) (fun _ i _=>n-(intOf i).toNat)
 case atStart=>exact ⟨0,Nat.zero_le _,rfl,O1⟩
 case round=>
  obtain ⟨w4,rfl⟩:∃w4:World,w4=wr:=⟨_,rfl⟩;obtain ⟨k,hkn,rfl,HO⟩:=hrel;by_cases hlt:k<n
  ·have hkl:k<l.length:=by rw[HL.out];exact hlt
   obtain ⟨ad,rfl, -,p0,p1,p2,p3,p4,p5,p6,p7,p8⟩:=z14 (jd.out.nx (by decide) HO.out.nx) hkl;have HC:=ah (fun w' (c':Nx w4 w')=>HG.out w' (HO.out.nx.tr c') _ (List.getElem_mem hkl));have HV1:=ah (HV.out k hkl);generalize l[k]=x at *;obtain ⟨⟨kind,time,ak,text,value,null,maker,seq,place⟩,A1,c1⟩:=x;unfold aJ at HC;simp only at p0 p1 p2 p3 p4 p5 p6 p7 p8 HC HV1;generalize f ⟨kind,time,ak,text,value,null,maker,seq,place⟩=y at *;go_wp2_with fail;refine (HC.out _ ((Ch.refl _ w4).alloc _)).mono ?_;rintro e w5 ⟨rfl,n5⟩;have o5:=HO.out.tr (((Ch.refl _ w4).alloc _).tr n5);clear n5 p0 p1 p2 p3 p4 p5 p6 p7 p8;go_wp2_with (at_builtin;refine OY rfl (.tmp 17) (.tmp 21) _ rfl 9 i0 _ 16 Tryz.underlying22 hi0 hz0 hz1 hz2 rfl (Value.string y) rfl rfl o5 rfl (by simp only[maxLen];omega) (by omega) ?_;intro v7 w7 o7 m7;have O7:=ah o7;clear o7 m7 o5)
   go_roundw
   case rel=>exact ⟨k+1,by omega,by go_num,by rw[HV1.out];exact O7⟩
   case measure=>simp[intOf];omega
  ·have hkn2:n=k:=by omega
   have hr:Hid (G.take k=G):=ah (List.take_of_length_le (by rw[HE.out];omega));go_wp2_with fail;go_ret;refine ⟨_,rfl,?_⟩;have:=HO.out;rw[hr.out,←hkn2]at this;exact this
theorem II {w:World} {D:Nat->Prop} {A:Option Addr} {n c:Nat} {l:List RV} (f:aC->ByteArray) (h:Rd w D 9 A n (dI l)) (hl:l.length=n) (hn:n<=1000000)
 (hg:∀w',Nx w w'->∀x∈l,Calls Tryz.prog 128 #[aJ x] w' fun e w''=>e=.returned (Value.string (f x.row))/\Nx w' w''):
 Calls Tryz.prog 94 #[.slice A n c,.func (.func 128) #[] #[]] w (Gives w 9 1 n (l.map fun x=>Value.string (f x.row))):=by
 obtain ⟨i0,hi0,hz0,hz1,hz2⟩:=info_parts Tryz.sZ
 have hmk:∀w:World,(Instr.makeSlice 22 (.int .i64 0) (.int .i64 (n:Int))).run Tryz.prog w=.ok (.slice (some ⟨w.heap.size,0,none⟩) 0 n) (w.alloc (.cells (madeCells #[.string ⟨#[]⟩] n) 9)):=fun w=>by
  have:=run_make (P:=Tryz.prog) w 22 9 i0 (.string ⟨#[]⟩) Tryz.underlying22 hi0 hz0 .i64 .i64 0 (n:Int) (by omega) (by omega) (by rw[hz2];omega) (by omega);rw[hz1,show (n:Int).toNat=n by omega,Nat.mul_one]at this;exact this
 have o1:aF w (w.alloc (.cells (madeCells #[.string ⟨#[]⟩] n) 9)) 9 1 (.slice (some ⟨w.heap.size,0,none⟩) 0 n) 0 []:=
  ⟨World.ownsRow_made w _ n (Nat.le_refl _) (by simp only[maxLen];omega) (by simp[size_madeCells]),(Ch.refl _ w).alloc _⟩
 have O1:=ah o1;have HL:=ah hl;have jd:=ah h;have HG:=ah hg;have HV:Hid (∀k (hk:k<l.length),(l.map fun x=>Value.string (f x.row)).take (k+1)=(l.map fun x=>Value.string (f x.row)).take k++[Value.string (f l[k].row)]):=ah (fun k hk=>by rw[List.take_succ_eq_append_getElem (by simpa using hk)];simp);have HE:Hid ((l.map fun x=>Value.string (f x.row)).length=n):=ah (by rw[List.length_map];exact hl);clear hl h hg o1;generalize (l.map fun x=>Value.string (f x.row))=G at *;go_enter Tryz.func94,Tryz.ntmps94;go_wp2_with fail;generalize (w.alloc (.cells (madeCells #[.string ⟨#[]⟩] n) 9))=w1 at *;clear hmk;go_loopw [5,13] (fun v i wr=>∃k:Nat,k<=n/\i=.int .i64 (k:Int)/\Hid (aF w wr 9 1 v k (G.take k))) (fun _ i _=>n-(intOf i).toNat)
 case atStart=>exact ⟨0,Nat.zero_le _,rfl,O1⟩
 case round=>
  obtain ⟨w4,rfl⟩:∃w4:World,w4=wr:=⟨_,rfl⟩;obtain ⟨k,hkn,rfl,HO⟩:=hrel;by_cases hlt:k<n
  ·have hkl:k<l.length:=by rw[HL.out];exact hlt
   obtain ⟨ad,rfl, -,p0,p1,p2,p3,p4,p5,p6,p7,p8⟩:=z14 (jd.out.nx (by decide) HO.out.nx) hkl;have HC:=ah (fun w' (c':Nx w4 w')=>HG.out w' (HO.out.nx.tr c') _ (List.getElem_mem hkl));have HV1:=ah (HV.out k hkl);generalize l[k]=x at *;obtain ⟨⟨kind,time,ak,text,value,null,maker,seq,place⟩,A1,c1⟩:=x;unfold aJ at HC;simp only at p0 p1 p2 p3 p4 p5 p6 p7 p8 HC HV1;generalize f ⟨kind,time,ak,text,value,null,maker,seq,place⟩=y at *;go_wp2_with fail;refine (HC.out _ ((Ch.refl _ w4).alloc _)).mono ?_;rintro e w5 ⟨rfl,n5⟩;have o5:=HO.out.tr (((Ch.refl _ w4).alloc _).tr n5);clear n5 p0 p1 p2 p3 p4 p5 p6 p7 p8;go_wp2_with (at_builtin;refine OY rfl (.tmp 17) (.tmp 21) _ rfl 9 i0 _ 16 Tryz.underlying22 hi0 hz0 hz1 hz2 rfl (Value.string y) rfl rfl o5 rfl (by simp only[maxLen];omega) (by omega) ?_;intro v7 w7 o7 m7;have O7:=ah o7;clear o7 m7 o5)
   go_roundw
   case rel=>exact ⟨k+1,by omega,by go_num,by rw[HV1.out];exact O7⟩
   case measure=>simp[intOf];omega
  ·have hkn2:n=k:=by omega
   have hr:Hid (G.take k=G):=ah (List.take_of_length_le (by rw[HE.out];omega));go_wp2_with fail;go_ret;refine ⟨_,rfl,?_⟩;have:=HO.out;rw[hr.out,←hkn2]at this;exact this
theorem IL {w:World} {D:Nat->Prop} {A:Option Addr} {n c:Nat} {l:List RV} (f:aC->Bool) (h:Rd w D 9 A n (dI l)) (hl:l.length=n) (hn:n<=1000000)
 (hg:∀w',Nx w w'->∀x∈l,Calls Tryz.prog 132 #[aJ x] w' fun e w''=>e=.returned (Value.bool (f x.row))/\Nx w' w''):
 Calls Tryz.prog 131 #[.slice A n c,.func (.func 132) #[] #[]] w (Gives w 4 1 n (l.map fun x=>Value.bool (f x.row))):=by
 obtain ⟨i0,hi0,hz0,hz1,hz2⟩:=info_parts Tryz.Q_
 have hmk:∀w:World,(Instr.makeSlice 225 (.int .i64 0) (.int .i64 (n:Int))).run Tryz.prog w=.ok (.slice (some ⟨w.heap.size,0,none⟩) 0 n) (w.alloc (.cells (madeCells #[.bool false] n) 4)):=fun w=>by
  have:=run_make (P:=Tryz.prog) w 225 4 i0 (.bool false) Tryz.underlying225 hi0 hz0 .i64 .i64 0 (n:Int) (by omega) (by omega) (by rw[hz2];omega) (by omega);rw[hz1,show (n:Int).toNat=n by omega,Nat.mul_one]at this;exact this
 have o1:aF w (w.alloc (.cells (madeCells #[.bool false] n) 4)) 4 1 (.slice (some ⟨w.heap.size,0,none⟩) 0 n) 0 []:=
  ⟨World.ownsRow_made w _ n (Nat.le_refl _) (by simp only[maxLen];omega) (by simp[size_madeCells]),(Ch.refl _ w).alloc _⟩
 have O1:=ah o1;have HL:=ah hl;have jd:=ah h;have HG:=ah hg;have HV:Hid (∀k (hk:k<l.length),(l.map fun x=>Value.bool (f x.row)).take (k+1)=(l.map fun x=>Value.bool (f x.row)).take k++[Value.bool (f l[k].row)]):=ah (fun k hk=>by rw[List.take_succ_eq_append_getElem (by simpa using hk)];simp);have HE:Hid ((l.map fun x=>Value.bool (f x.row)).length=n):=ah (by rw[List.length_map];exact hl);clear hl h hg o1;generalize (l.map fun x=>Value.bool (f x.row))=G at *;go_enter Tryz.func131,Tryz.ntmps131;go_wp2_with fail;generalize (w.alloc (.cells (madeCells #[.bool false] n) 4))=w1 at *;clear hmk;go_loopw [5,13] (fun v i wr=>∃k:Nat,k<=n/\i=.int .i64 (k:Int)/\Hid (aF w wr 4 1 v k (G.take k))) (fun _ i _=>n-(intOf i).toNat)
 case atStart=>exact ⟨0,Nat.zero_le _,rfl,O1⟩
 case round=>
  obtain ⟨w4,rfl⟩:∃w4:World,w4=wr:=⟨_,rfl⟩;obtain ⟨k,hkn,rfl,HO⟩:=hrel;by_cases hlt:k<n
  ·have hkl:k<l.length:=by rw[HL.out];exact hlt
   obtain ⟨ad,rfl, -,p0,p1,p2,p3,p4,p5,p6,p7,p8⟩:=z14 (jd.out.nx (by decide) HO.out.nx) hkl;have HC:=ah (fun w' (c':Nx w4 w')=>HG.out w' (HO.out.nx.tr c') _ (List.getElem_mem hkl));have HV1:=ah (HV.out k hkl);generalize l[k]=x at *;obtain ⟨⟨kind,time,ak,text,value,null,maker,seq,place⟩,A1,c1⟩:=x;unfold aJ at HC;simp only at p0 p1 p2 p3 p4 p5 p6 p7 p8 HC HV1;generalize f ⟨kind,time,ak,text,value,null,maker,seq,place⟩=y at *;go_wp2_with fail;refine (HC.out _ ((Ch.refl _ w4).alloc _)).mono ?_;rintro e w5 ⟨rfl,n5⟩;have o5:=HO.out.tr (((Ch.refl _ w4).alloc _).tr n5);clear n5 p0 p1 p2 p3 p4 p5 p6 p7 p8;go_wp2_with (at_builtin;refine OY rfl (.tmp 17) (.tmp 21) _ rfl 4 i0 _ 1 Tryz.underlying225 hi0 hz0 hz1 hz2 rfl (Value.bool y) rfl rfl o5 rfl (by simp only[maxLen];omega) (by omega) ?_;intro v7 w7 o7 m7;have O7:=ah o7;clear o7 m7 o5)
   go_roundw
   case rel=>exact ⟨k+1,by omega,by go_num,by rw[HV1.out];exact O7⟩
   case measure=>simp[intOf];omega
  ·have hkn2:n=k:=by omega
   have hr:Hid (G.take k=G):=ah (List.take_of_length_le (by rw[HE.out];omega));go_wp2_with fail;go_ret;refine ⟨_,rfl,?_⟩;have:=HO.out;rw[hr.out,←hkn2]at this;exact this
end Go.Proofs.YtdbfejfhpkakhaaGreat
