/- Contracts and plain laws that the last text rests on. Conditions: each theorem states its own. -/
import Derived.Test.YtdbfejfhpkakhaaGreatKKf2Q23
import Derived.Test.YtdbfejfhpkakhaaGreatKKf2Q22
import Derived.Test.YtdbfejfhpkakhaaGreatKKf2Q17
import Derived.Test.YtdbfejfhpkakhaaGreatKKf2Q6
import Derived.Test.YtdbfejfhpkakhaaGreatKKf2Q13
set_option maxRecDepth 100000
set_option maxHeartbeats 32000000
set_option linter.unusedVariables false
namespace Go.Proofs.YtdbfejfhpkakhaaGreat
open Go.RowKit
def B_ (l:List ay) (w:World) (e:Ending) (w':World):Prop:=∃v zs,e=.returned v/\bW w w' v zs/\zs.map (fun x=>x.row)=l
theorem bW.base {W0 W w:World} {v:Value} {zs:List RV} (n:Nx W0 W) (h:bW W w v zs):bW W0 w v zs:=
 ⟨⟨rQ h.own.own n.size,n.tr h.own.nx⟩,fun z hz=>(h.ok z hz).ch (Ch.refl (fun _=>False) w) (fun _ _ _ hf=>hf) fun k ⟨a,b,d⟩=>⟨Nat.le_trans n.size a,b,d⟩⟩
section
variable {w : World} {D : Nat → Prop}
theorem lT (b:cZ) (h:b.ok w D) (hn:b.l.length<=1000000) (hf:∀x∈b.l,x.row.ak.length<=4398046511104):
 Calls Tryz.prog 30 #[uU b] w (B_ (b.l.map fun x=>x.row) w):=by
 obtain ⟨i0,hi0,hz0,hz1,hz2⟩:=info_parts Tryz.fH;have H:=ah h.rd;have HK:=ah (fun x hx=>(⟨h.ok x hx,hf x hx⟩:x.ok w D/\x.row.ak.length<=4398046511104));have UU:=ah h.named;obtain ⟨mk,sq,A,c,l⟩:=b;unfold uU;unfold cZ.named at UU;simp only at H HK UU hn ⊢;obtain ⟨n,hl⟩:∃n,l.length=n:=⟨_,rfl⟩;rw[hl]at H hn ⊢;have HB:=ah (aB.new w 37 #[.int .i64 mk,.int .i64 sq,.slice A n c]);have HN:=ah ((Ch.refl (fun _=>False) w).alloc (.cells #[.int .i64 mk,.int .i64 sq,.slice A n c] 37));have Hl:=ah hl;clear hl h hf;go_enter Tryz.func30,Tryz.ntmps30;go_wp2_with fail;have iy:=ah (fun w' (c':Nx (w.alloc (.cells #[.int .i64 mk,.int .i64 sq,.slice A n c] 37)) w')=>HB.out.nx c');obtain ⟨W,hW⟩:∃W,w.alloc (.cells #[.int .i64 mk,.int .i64 sq,.slice A n c] 37)=W:=⟨_,rfl⟩;rw[hW]at HN iy;have hWs:w.heap.size<W.heap.size:=by rw[←hW];simp
 have HH:=ah (H.out.nx (by decide) HN.out);have HKK:=ah (fun x hx=>(HK.out x hx).1.ch (D':=D) HN.out (fun _ _ _ hf=>hf) (fun _ h=>h));simp only[hW];clear hW HB;go_loopw [3,9] (fun v i wr=>∃(k:Nat) (zs:List RV),k<=n/\i=.int .i64 (k:Int)/\Hid (bW W wr v zs)/\Hid (zs.map (fun x=>x.row)=(l.take k).map fun x=>x.row)) (fun _ i _=>n-(intOf i).toNat)
 case atStart=>exact ⟨0,[],Nat.zero_le _,rfl,ah (bW.nil W W (Ch.refl _ _)),ah rfl⟩
 case round=>
  obtain ⟨w4,rfl⟩:∃w4:World,w4=wr:=⟨_,rfl⟩;obtain ⟨k,zs,hkn,rfl,Hr,Hm⟩:=hrel;have b4:=iy.out _ Hr.out.own.nx;have d0:w4.cell? ⟨w.heap.size,0,none⟩=some (.int .i64 mk):=b4.cell 0;have d1:w4.cell? ⟨w.heap.size,1,none⟩=some (.int .i64 sq):=b4.cell 1;have hlt4:=b4.lt;clear b4;by_cases hlt:k<n
  ·have hkl:k<l.length:=by rw[Hl.out];exact hlt
   obtain ⟨ad,rfl,hb,p0,p1,p2,p3,p4,p5⟩:=tu (HH.out.nx (by decide) Hr.out.own.nx) hkl;have HT:=ah (fun w' (hn:Nx w4 w')=>qC (x:=l[k]) (((HKK.out _ (List.getElem_mem hkl)).ch Hr.out.own.nx (fun _ _ _ hf=>hf) (fun _ h=>h)).ch hn (D':=D) (fun _ _ _ hf=>hf) (fun _ h=>h)) (HK.out _ (List.getElem_mem hkl)).2);unfold aK at HT;have Hm2:=ah (show (zs.map (fun x=>x.row))++[l[k].row]=(l.take (k+1)).map fun x=>x.row by rw[Hm.out,List.take_succ_eq_append_getElem hkl,List.map_append];rfl);have hnm:=UU.out k hkl;clear hb;generalize l[k]=x at *;obtain ⟨⟨kind,time,ak,text,value,null,maker,seq,place⟩,A1,c1⟩:=x;simp only at p0 p1 p2 p3 p4 p5 HT Hm2 hnm;obtain ⟨h1,h2,h3⟩:=hnm;rw[h1,h2,h3]at HT Hm2;clear h1 h2 h3
   have hzl:zs.length<=1000000:=by
    have:=congrArg List.length Hm.out;simp at this;omega
   go_wp2_with fail;refine (HT.out _ ((Ch.refl _ w4).alloc _)).mono ?_;rintro e w5 ⟨⟨yr,A2,c2⟩,rfl,hy,hok,nx⟩;simp only at hy;subst hy;have HR5:=ah (Hr.out.tr (((Ch.refl _ w4).alloc _).tr nx))
   have HY:=ah (hok.ch (Ch.refl (fun _=>False) w5) (D':=fun k=>W.heap.size<=k/\k<w5.heap.size/\u3.ownBlock≠some k) (fun _ _ _ hf=>hf) (fun k hk=>by
    have h1:=Hr.out.own.nx.size;have h2:=hk.1;simp at h2;refine ⟨by omega,hk.2,fun e=>?_⟩;have:=(Hr.out.own.lt k e).2;omega))
   have HS:=ah HR5.out.own.nx.size;have HL9:=ah (Rd.wO w5 ⟨⟨kind,time,ak,text,value,null,mk,sq,(k:Int)⟩,A2,c2⟩);clear hok nx HT p0 p1 p2 p3 p4 p5 d0 d1 hlt4;unfold aK;simp only at HL9;go_wp2_with (at_builtin;refine z03 _ rfl (.tmp 14) (.tmp 23) _ rfl W.heap.size 79 i0 _ 9 96 Tryz.underlying34 hi0 hz0 hz1 hz2 rfl (by omega) u3 zs.length (bC zs) rfl (HR5.out.own.alloc _).own _ (some ⟨w5.heap.size,0,none⟩) 1 1 _ rfl HL9.out (Ip _) (by simp only[maxLen];omega) (by omega) (by have:=HS.out;simp;omega) ?_;intro v7 w7 dJ gr7 at7;obtain ⟨o7,m7⟩:=CO HR5.out.own ((Ch.refl _ w5).alloc _) dJ gr7 at7;have G7:=ah (HR5.out.app (ys:=[_]) o7 m7 (by intro y hy;rw[List.mem_singleton]at hy;subst hy;exact HY.out));clear dJ gr7 at7 o7 m7)
   go_roundw
   case rel=>exact ⟨k+1,_,by omega,by go_num,G7,ah (by rw[List.map_append];exact Hm2.out)⟩
   case measure=>simp[intOf];omega
  ·have HM:=ah (show zs.map (fun x=>x.row)=l.map fun x=>x.row by rw[Hm.out,List.take_of_length_le (by rw[Hl.out];omega)])
   go_wp2_with fail;go_ret;exact ⟨_,_,rfl,bW.base HN.out Hr.out,HM.out⟩
end
theorem FX (mk:Int) (w:World):Calls Tryz.prog 25 #[.agg #[.int .i64 0,.int .i64 0,.int .i64 0,.slice none 0 0,.slice none 0 0,.slice none 0 0],.int .i64 mk] w fun e w'=>e=.returned (.int .i64 0)/\Nx w w':=by
 have HN:=ah ((Ch.refl (fun _=>False) w).alloc (.cells #[.int .i64 0,.int .i64 0,.int .i64 0,.slice none 0 0,.slice none 0 0,.slice none 0 0] 64));go_enter Tryz.func25,Tryz.ntmps25;go_wp2_with fail;go_loopw [10] (fun i wr=>i=.int .i64 0/\Hid (Nx w wr)) (fun i _=>0)
 case atStart=>exact ⟨rfl,HN⟩
 case round=>
  obtain ⟨rfl,N4⟩:=hrel;go_wp2_with fail;go_ret;exact ⟨rfl,N4.out⟩
def dW (mk sq:Int) (x:cZ):Bool:=decide (x.maker=mk)&&decide (sq<=x.seq)
section
variable {w : World} {D : Nat → Prop}
theorem IY (x:cZ) (p:Nat) (mk sq:Int) (h0:w.cell? ⟨p,0,none⟩=some (.int .i64 mk)) (h1:w.cell? ⟨p,1,none⟩=some (.int .i64 sq)):
 Calls Tryz.prog 27 #[uU x,.pointer (some ⟨p,0,none⟩)] w fun e w'=>e=.returned (.bool (dW mk sq x))/\Nx w w':=by
 unfold uU dW;have hlt:p<w.heap.size:=World.block_lt_of_cell? w _ h0;have HN:=ah ((Ch.refl (fun _=>False) w).alloc (.cells #[.int .i64 x.maker,.int .i64 x.seq,.slice x.A x.l.length x.c] 37));by_cases e:x.maker=mk
 ·have e1:(x.maker==mk)=true:=by rw[beq_iff_eq];exact e
  have HE:Hid (decide (x.maker=mk)=true):=ah (decide_eq_true e);clear e;go_enter Tryz.func27,Tryz.ntmps27;go_wp2_with fail;go_ret;exact ⟨by rw[HE.out];simp,HN.out⟩
 ·have e1:(x.maker==mk)=false:=by rw[beq_eq_false_iff_ne];exact e
  have HE:Hid (decide (x.maker=mk)=false):=ah (decide_eq_false e);clear e;go_enter Tryz.func27,Tryz.ntmps27;go_wp2_with fail;go_ret;exact ⟨by rw[HE.out];rfl,HN.out⟩
theorem LP {A:Option Addr} {n k:Nat} {l:List cZ} (h:Rd w D 3 A n (pG l)) (hk:k<l.length):∃ad,A=some ad/\D ad.block/\w.cell? (ad.add (k * 3))=some (.int .i64 l[k].maker)/\
 w.cell? ⟨(ad.add (k * 3)).block,(ad.add (k * 3)).off+1,none⟩=some (.int .i64 l[k].seq)/\w.cell? ⟨(ad.add (k * 3)).block,(ad.add (k * 3)).off+2,none⟩=some (.slice l[k].A l[k].l.length l[k].c):=by
 have hn:0<n:=by have:=h.1;rw[P_]at this;omega
 obtain ⟨ad,rfl,hb,hc⟩:=h.2 hn;have g:=fun i (hi:i<3) u (hu:(l[k].cs)[i]?=some u)=>hc (k * 3+i) u ((ou cZ.aO hk hi).trans hu);exact ⟨ad,rfl,hb,g 0 (by decide) _ rfl,z08 0 (g 1 (by decide) _ rfl),z08 1 (g 2 (by decide) _ rfl)⟩
theorem wW (A:Option Addr) (n c p:Nat) (l:List cZ) (mk sq:Int) (hr:Rd w D 3 A n (pG l)) (hl:l.length=n) (hn:n<=9223372036854775807) (h0:w.cell? ⟨p,0,none⟩=some (.int .i64 mk)) (h1:w.cell? ⟨p,1,none⟩=some (.int .i64 sq)):
 Calls Tryz.prog 47 #[.slice A n c,.func (.func 27) #[] #[.pointer (some ⟨p,0,none⟩)]] w fun e w'=>
  ∃r:Int,e=.returned (.int .i64 r)/\decide (0<=r)=l.any (dW mk sq)/\Nx w w':=by
 have H:=ah hr;have HC:=ah (fun x w' (n':Nx w w')=>IY (w:=w') x p mk sq (by rw[n'.cell (World.block_lt_of_cell? w _ h0)];exact h0) (by rw[n'.cell (World.block_lt_of_cell? w _ h1)];exact h1));have Hl:=ah hl;clear hl hr h0 h1;go_enter Tryz.func47,Tryz.ntmps47;go_wp2_with fail;go_loopw [8] (fun i wr=>∃k:Nat,k<=n/\i=.int .i64 (k:Int)/\Hid (∀j (h:j<l.length),j<k->dW mk sq l[j]=false)/\Hid (Nx w wr)) (fun i _=>n-(intOf i).toNat)
 case atStart=>exact ⟨0,Nat.zero_le _,rfl,ah (fun j _ h=>by omega),ah (Ch.refl _ _)⟩
 case round=>
  obtain ⟨w4,rfl⟩:∃w4:World,w4=wr:=⟨_,rfl⟩;obtain ⟨k,hkn,rfl,He,N4⟩:=hrel;by_cases hlt:k<n
  ·have hkl:k<l.length:=by rw[Hl.out];exact hlt
   obtain ⟨ad,rfl,hb,p0,p1,p2⟩:=LP (H.out.nx (by decide) N4.out) hkl;have HX:=ah (HC.out l[k] w4 N4.out);have HY:=ah (fun (h:dW mk sq l[k]=true)=>show l.any (dW mk sq)=true from by rw[List.any_eq_true];exact ⟨_,List.getElem_mem hkl,h⟩)
   have HZ:=ah (fun (h:dW mk sq l[k]=false) j (hj:j<l.length) (hjk:j<k+1)=>show dW mk sq l[j]=false from by
    by_cases e:j=k
    ·subst e;exact h
    ·exact He.out j hj (by omega))
   unfold uU at HX;clear hb;generalize dW mk sq l[k]=q at *;generalize l[k]=x at *;cases q
   ·have HQ:=ah (HZ.out rfl)
    go_wp2_with fail;refine HX.out.mono ?_;rintro e w5 ⟨rfl,n5⟩;have N5:=ah (N4.out.tr n5);clear n5;go_wp2_with fail;go_roundw
    case rel=>exact ⟨k+1,by omega,by go_num,HQ,N5⟩
    case measure=>simp[intOf];omega
   ·have HQ:=ah (HY.out rfl)
    go_wp2_with fail;refine HX.out.mono ?_;rintro e w5 ⟨rfl,n5⟩;have N5:=ah (N4.out.tr n5);clear n5;go_wp2_with fail;go_ret;exact ⟨_,rfl,by rw[HQ.out];simp,N5.out⟩
  ·have HQ:Hid (l.any (dW mk sq)=false):=ah (by
    rw[List.any_eq_false];intro x hx;obtain ⟨j,hj,rfl⟩:=List.mem_iff_getElem.1 hx;rw[He.out j hj (by have:=Hl.out;omega)];simp)
   go_wp2_with fail;go_ret;exact ⟨_,rfl,by rw[HQ.out];rfl,N4.out⟩
theorem ny (A:Option Addr) (n c p:Nat) (l:List cZ) (mk sq:Int) (hr:Rd w D 3 A n (pG l)) (hl:l.length=n) (hn:n<=9223372036854775807) (h0:w.cell? ⟨p,0,none⟩=some (.int .i64 mk)) (h1:w.cell? ⟨p,1,none⟩=some (.int .i64 sq)):
 Calls Tryz.prog 26 #[.slice A n c,.func (.func 27) #[] #[.pointer (some ⟨p,0,none⟩)]] w fun e w'=>
  e=.returned (.bool (l.any (dW mk sq)))/\Nx w w':=by
 have HI:=ah (wW A n c p l mk sq hr hl hn h0 h1);clear hr hl h0 h1;go_enter Tryz.func26,Tryz.ntmps26;go_wp2_with fail;refine HI.out.mono ?_;rintro e w4 ⟨r,rfl,hb,n4⟩;have N4:=ah n4;have HB:=ah hb;clear n4 hb;go_wp2_with fail;go_ret;exact ⟨by rw[←HB.out];rfl,N4.out⟩
end
theorem qp {P:Program} {ops:Array Oper} {o:Oper} {a:Act} {K:Act->World->Prop} {Q:Exit->Act->World->Prop} {E:Prop} (hgd:o.guard=none) (sl x:Operand) (t u:TypeId)
 (ho:o.op=.call { callee:=.builtin .append,args:= #[sl,x],argTypes:= #[t,u]})
 (e:TypeId) (i:TypeInfo) (ht:P.underlying t=some (.slice e)) (hu:P.underlying u=some .string) (hi:P.info? e=some i) (hz:i.zero=some (.int .u8 0))
 (hsize:i.size=1) (hby:i.bytes=1)
 {W w:World} {v:Value} {n:Nat} {xs:List Nat} (hs:a.eval sl=v) (hown:aA W w e 1 v n (bl xs)) (s:ByteArray) (hx:a.eval x=.string s)
 (h63:n+s.size<=maxLen) (hbytes:n+s.size<=140737488355328)
 (h:∀v' w',aA W w' e 1 v' (n+s.size) (bl (xs++jJ s))->w.grownBy w' v.ownBlock->K (a.put o.dst v') w'):if Region.wanted o (yielded ops a.tmps)=true then Oper.wp P o a w K Q else E:=by
 have hw:Region.wanted o (yielded ops a.tmps)=true:=by simp[Region.wanted,hgd]
 rw[if_pos hw];obtain ⟨v',w',hr,h2,h3,h4⟩:=Lib.run_append_own_string (P:=P) w W.heap.size t u o.type e i ht hu hi hz hsize hby v n (bl xs) hown.own s h63 hbytes hown.nx.size;unfold Oper.wp execOp;simp only[ho,resolve,invoke,builtin,Sem.run_bind,Sem.run_pure,Result.andThen_ok,List.map_toArray,List.map_cons,List.map_nil,hs,hx,hr];exact h v' w' ⟨by rw[show bl (xs++jJ s)=bl xs++bl (jJ s) by simp[bl],←z3h];exact h2,hown.nx.grown h3 fun k hk hlt=>by have:=hown.lt k hk;omega⟩ h3
def PV.e (x:PV):PostE:=⟨x.text,x.gs.map Int.toNat⟩
structure PV.fit (w:World) (D:Nat->Prop) (x:PV):Prop where
 rd:Rd w D 1 x.A x.gs.length (ints x.gs)
 tx:x.text.size<=1024
 gn:x.gs.length<=2048
 gi:∀g∈x.gs,0<=g/\g<=1000000
def aV.fit (s:aV):Prop:=(0<=s.place/\s.place<4611686018427387904)/\(0<=s.size/\s.size<4611686018427387904)/\(0<=s.rows/\s.rows<4611686018427387904)/\(0<=s.lo/\s.lo<4611686018427387904)/\(0<=s.hi/\s.hi<4611686018427387904)
theorem ZR {α:Type} (f:α->List Nat) {l:List α} {k:Nat} (h:k<l.length):(l.drop k).flatMap f=f l[k]++(l.drop (k+1)).flatMap f:=by
 rw[List.drop_eq_getElem_cons h,List.flatMap_cons]
def RJ (w w':World):Prop:=∀b t cs,t≠5->aB w b t cs->aB w' b t cs
theorem aA.Xb {W w w':World} {v v':Value} {n:Nat} {xs:List Value} (o:aA W w 5 1 v n xs) (m:Moved w w' v v'):RJ w w':=fun b t cs ht h=>h.ch m.ch (fun e=>z06 o.own h (Ne.symm ht) e)
def UOut (W w:World) (T rest:List Nat) (e:Ending) (w':World):Prop:=∃v',e=.returned v'/\bY W w' v' T rest/\RJ w w'
theorem MZ {W w:World} {v:Value} {T rest:List Nat} {z:Nat} (h:bY W w v T (au z++rest)) (hz:z<9223372036854775808) (hT:T.length<=100000000):
 Calls Tryz.prog 135 #[v,.int .i64 (z:Int)] w (UOut W w T rest):=by
 obtain ⟨X,o,e⟩:=h;refine (Uu o hz (by rw[←e]at hT;simp only[List.length_append]at hT;omega)).mono ?_;rintro e2 w' ⟨v',rfl,o',m⟩;exact ⟨v',rfl,⟨_,o',by rw[←e];simp⟩,o.Xb m⟩
theorem SS {α:Type} {f:α->List Nat} {l:List α} (h:∀x∈l,okB (f x)):okB (l.flatMap f):=fun y hy=>by
 obtain ⟨x,hx,hy⟩:=List.mem_flatMap.1 hy;exact h x hx y hy
theorem TV {w:World} {D:Nat->Prop} {ss:List aV} {ps:List PV} (hf:∀s∈ss,s.fit) (hk:∀x∈ps,x.fit w D) (h1:ss.length<=2048) (h2:ps.length<=2048):okB (iT ss (ps.map PV.e)):=by
 unfold iT;refine iD (iD (iD (iQ (by omega)) (SS fun s hs=>?_)) (iQ (by rw[List.length_map];omega))) (SS fun x hx=>?_)
 ·obtain ⟨a,b,c,d,e⟩:=hf s hs
  unfold iF;exact iD (iD (iD (iD (iQ (by omega)) (iQ (by omega))) (iQ (by omega))) (iQ (by omega))) (iQ (by omega))
 ·obtain ⟨y,hy,rfl⟩:=List.mem_map.1 hx
  have hy:=hk y hy;have a:=hy.tx;have b:=hy.gn;unfold fB PV.e;refine iD (iD (iD (iQ (by simp only;omega)) (rZ _)) (iQ (by simp only[List.length_map];omega))) (SS fun g hg=>?_);obtain ⟨z,hz,rfl⟩:=List.mem_map.1 hg;have:=hy.gi z hz;exact iQ (by omega)
theorem GU {w:World} {D:Nat->Prop} {As Ap:Option Addr} {cs cp:Nat} {ss:List aV} {ps:List PV} (hs:Rd w D 5 As ss.length (spl ss)) (hp:Rd w D 2 Ap ps.length (qG ps)) (hk:∀x∈ps,x.fit w D) (hf:∀s∈ss,s.fit) (h1:ss.length<=2048) (h2:ps.length<=2048) (hT:(iT ss (ps.map PV.e)).length<=100000000):
 Calls Tryz.prog 98 #[.agg #[.slice As ss.length cs,.slice Ap ps.length cp]] w (pU w 5 1 ((iT ss (ps.map PV.e)).length+4) (bl (iG (iT ss (ps.map PV.e))))):=by
 obtain ⟨i0,hi0,hz0,hz1,hz2⟩:=info_parts Tryz.info5;have HT:=ah hT;have HS:=ah (fun w' (c':Nx w w')=>hs.nx (w':=w') (by decide) c');have HP:=ah (fun w' (c':Nx w w')=>hp.nx (w':=w') (by decide) c');have HF:=ah hf;have HK:=ah hk;have Ns:=ah (TV hf hk h1 h2);have HE:Hid (iT ss (ps.map PV.e)=[]++(au ss.length++(ss.flatMap iF++(au ps.length++ps.flatMap fun x=>fB x.e)))):=ah (by unfold iT;simp[List.flatMap_map]);clear hs hp hf hk hT;generalize iT ss (ps.map PV.e)=T at *;have B0:=ah (aB.new w 184 #[.slice As ss.length cs,.slice Ap ps.length cp]);have n0:Nx w (w.alloc (.cells #[.slice As ss.length cs,.slice Ap ps.length cp] 184)):=(Ch.refl _ w).alloc _;have O0:Hid (bY w (w.alloc (.cells #[.slice As ss.length cs,.slice Ap ps.length cp] 184)) (.slice none 0 0) T (au ss.length++(ss.flatMap iF++(au ps.length++ps.flatMap fun x=>fB x.e)))):=ah ⟨[],aA.nil w _ _ 1 n0,HE.out.symm⟩;clear n0 HE;go_enter Tryz.func98,Tryz.ntmps98;go_wp2_with fail;refine (MZ O0.out (by omega) HT.out).mono ?_;rintro e w2 ⟨v2,rfl,o2,kk2⟩;have B2:=ah (kk2 _ _ _ (by decide) B0.out);have c0:w2.cell? ⟨w.heap.size,0,none⟩=some (.slice As ss.length cs):=B2.out.cell 0;have c1:w2.cell? ⟨w.heap.size,1,none⟩=some (.slice Ap ps.length cp):=B2.out.cell 1;have O2:=ah o2;clear o2 kk2 O0 B0;go_wp2_with fail;clear c0 c1;go_loopw [3,17] (fun v i wr=>∃k:Nat,k<=ss.length/\i=.int .i64 (k:Int)/\Hid (bY w wr v T ((ss.drop k).flatMap iF++(au ps.length++ps.flatMap fun x=>fB x.e)))/\Hid (aB wr w.heap.size 184 #[.slice As ss.length cs,.slice Ap ps.length cp])) (fun _ i _=>ss.length-(intOf i).toNat)
 case atStart=>exact ⟨0,Nat.zero_le _,rfl,O2,B2⟩
 case round=>
  clear O2 B2;obtain ⟨w4,rfl⟩:∃w4:World,w4=wr:=⟨_,rfl⟩;obtain ⟨k,hkn,rfl,HO,IB0⟩:=hrel;by_cases hlt:k<ss.length
  ·obtain ⟨X0,oX, -⟩:=HO.out
   have N4:=ah oX.nx;clear oX;obtain ⟨ad,rfl, -,p0,p1,p2,p3,p4⟩:=Ol (HS.out w4 N4.out) hlt;have HD:=ah (ZR iF hlt);have hfit:=HF.out _ (List.getElem_mem hlt);generalize ss[k]=sp at *;obtain ⟨pl,sz,ro,lo,hi⟩:=sp;obtain ⟨⟨a0,b0⟩,⟨a1,b1⟩,⟨a2,b2⟩,⟨a3,b3⟩,⟨a4,b4⟩⟩:=hfit;simp only at p0 p1 p2 p3 p4 a0 a1 a2 a3 a4 b0 b1 b2 b3 b4;obtain ⟨z0,rfl⟩:=Int.eq_ofNat_of_zero_le a0;obtain ⟨z1,rfl⟩:=Int.eq_ofNat_of_zero_le a1;obtain ⟨z2,rfl⟩:=Int.eq_ofNat_of_zero_le a2;obtain ⟨z3,rfl⟩:=Int.eq_ofNat_of_zero_le a3;obtain ⟨z4,rfl⟩:=Int.eq_ofNat_of_zero_le a4
   have O5:Hid (bY w (w4.alloc (.cells #[.int .i64 (z0:Int),.int .i64 (z1:Int),.int .i64 (z2:Int),.int .i64 (z3:Int),.int .i64 (z4:Int)] 191)).drew u3 T (au z0++(au z1++(au z2++(au z3++(au z4++((ss.drop (k+1)).flatMap iF++(au ps.length++ps.flatMap fun x=>fB x.e)))))))):=ah (by
    obtain ⟨X,o,e⟩:=HO.out;refine ⟨X,o.tr (((Ch.refl _ _).alloc _).drew),?_⟩;rw[←e,HD.out];simp[iF])
   have B5:=ah ((aB.new w4 191 #[.int .i64 (z0:Int),.int .i64 (z1:Int),.int .i64 (z2:Int),.int .i64 (z3:Int),.int .i64 (z4:Int)]).drew);have IB5:=ah ((IB0.out.alloc (.cells #[.int .i64 (z0:Int),.int .i64 (z1:Int),.int .i64 (z2:Int),.int .i64 (z3:Int),.int .i64 (z4:Int)] 191)).drew);go_wp2_with fail;clear p0 p1 p2 p3 p4 HO IB0 HD a0 a1 a2 a3 a4;refine yQ (fun w'=>w'.cell? ⟨w4.heap.size,0,none⟩=some (.int .i64 (z0:Int))/\w'.cell? ⟨w4.heap.size,1,none⟩=some (.int .i64 (z1:Int))/\w'.cell? ⟨w4.heap.size,2,none⟩=some (.int .i64 (z2:Int))/\w'.cell? ⟨w4.heap.size,3,none⟩=some (.int .i64 (z3:Int))/\w'.cell? ⟨w4.heap.size,4,none⟩=some (.int .i64 (z4:Int))) (fun _=>false) rfl ⟨B5.out.cell 0,B5.out.cell 1,B5.out.cell 2,B5.out.cell 3,B5.out.cell 4⟩ (fun hS0=>?_)
   try simp only[Act.put,aG,aC,aF]
   refine z00 (i:=0) (oi:=_) (v:=?_) rfl (fun _ _ _ h=>h) (Or.inl ⟨by rfl,?_⟩) ?_;rotate_left
   ·(intro w hSw;(try dsimp only at hSw);go_split_ands;go_simp;try with_reducible rfl)
   try simp only[Act.put,List.setIfInBounds_toArray]
   refine z00 (i:=1) (oi:=_) (v:=?_) rfl (fun _ _ _ h=>h) (Or.inl ⟨by rfl,?_⟩) ?_;rotate_left
   ·(intro w hSw;(try dsimp only at hSw);go_split_ands;go_simp;try with_reducible rfl)
   try simp only[Act.put]
   refine z00 (i:=2) (oi:=_) (v:=?_) rfl (fun _ _ _ h=>h) (Or.inl ⟨by rfl,?_⟩) ?_;rotate_left
   ·(intro w hSw;(try dsimp only at hSw);go_split_ands;go_simp;try with_reducible rfl)
   try simp only[Act.put]
   refine z00 (i:=4) (oi:=_) (v:=?_) rfl (fun _ _ _ h=>h) (Or.inl ⟨by rfl,?_⟩) ?_;rotate_left
   ·(intro w hSw;(try dsimp only at hSw);go_split_ands;go_simp;try with_reducible rfl)
   try simp only[Act.put]
   refine z00 (i:=5) (oi:=_) (v:=?_) rfl (fun _ _ _ h=>h) (Or.inl ⟨by rfl,?_⟩) ?_;rotate_left
   ·(intro w hSw;(try dsimp only at hSw);go_split_ands;go_simp;try with_reducible rfl)
   try simp only[Act.put]
   refine z00 (i:=7) (oi:=_) (v:=?_) rfl (fun _ _ _ h=>h) (Or.inl ⟨by rfl,?_⟩) ?_;rotate_left
   ·(intro w hSw;(try dsimp only at hSw);go_split_ands;go_simp;try with_reducible rfl)
   try simp only[Act.put]
   refine z00 (i:=8) (oi:=_) (v:=?_) rfl (fun _ _ _ h=>h) (Or.inl ⟨by rfl,?_⟩) ?_;rotate_left
   ·(intro w hSw;(try dsimp only at hSw);go_split_ands;go_simp;try with_reducible rfl)
   try simp only[Act.put]
   refine z00 (i:=10) (oi:=_) (v:=?_) rfl (fun _ _ _ h=>h) (Or.inl ⟨by rfl,?_⟩) ?_;rotate_left
   ·(intro w hSw;(try dsimp only at hSw);go_split_ands;go_simp;try with_reducible rfl)
   try simp only[Act.put]
   refine z00 (i:=11) (oi:=_) (v:=?_) rfl (fun _ _ _ h=>h) (Or.inl ⟨by rfl,?_⟩) ?_;rotate_left
   ·(intro w hSw;(try dsimp only at hSw);go_split_ands;go_simp;try with_reducible rfl)
   try simp only[Act.put]
   refine z00 (i:=13) (oi:=_) (v:=?_) rfl (fun _ _ _ h=>h) (Or.inl ⟨by rfl,?_⟩) ?_;rotate_left
   ·(intro w hSw;(try dsimp only at hSw);go_split_ands;go_simp;try with_reducible rfl)
   try simp only[Act.put]
   refine z00 (i:=14) (oi:=_) (v:=?_) rfl (fun _ _ _ h=>h) (Or.inl ⟨by rfl,?_⟩) ?_;rotate_left
   ·(intro w hSw;(try dsimp only at hSw);go_split_ands;go_simp;try with_reducible rfl)
   try simp only[Act.put]
   refine z02 (rs:=[3]) (by kernel_rfl) (by simp) (z01.cons (o:=_) rfl (fun K hK=>?_) z01.nil);go_simp;refine (MZ O5.out (by omega) HT.out).mono ?_;rintro e w6 ⟨v6,rfl,o,kk⟩;have O6:=ah o;have B6:=ah (kk _ _ _ (by decide) B5.out);have IB6:=ah (kk _ _ _ (by decide) IB5.out);clear o kk;refine hK.out _ _ (fun _=>⟨B6.out.cell 0,B6.out.cell 1,B6.out.cell 2,B6.out.cell 3,B6.out.cell 4⟩) (fun aj=>?_);have hHeld:=aj (by decide);clear hK K aj
   try simp only[Act.put,aG,aC,aF]
   refine z02 (rs:=[6]) (by kernel_rfl) (by simp) (z01.cons (o:=_) rfl (fun K hK=>?_) z01.nil);go_simp;refine (MZ O6.out (by omega) HT.out).mono ?_;rintro e w7 ⟨v7,rfl,o,kk⟩;have O7:=ah o;have B7:=ah (kk _ _ _ (by decide) B6.out);have IB7:=ah (kk _ _ _ (by decide) IB6.out);clear o kk;refine hK.out _ _ (fun _=>⟨B7.out.cell 0,B7.out.cell 1,B7.out.cell 2,B7.out.cell 3,B7.out.cell 4⟩) (fun aj=>?_);have hHeld:=aj (by decide);clear hK K aj
   try simp only[Act.put,aG,aC,aF]
   refine z02 (rs:=[9]) (by kernel_rfl) (by simp) (z01.cons (o:=_) rfl (fun K hK=>?_) z01.nil);go_simp;refine (MZ O7.out (by omega) HT.out).mono ?_;rintro e w8 ⟨v8,rfl,o,kk⟩;have O8:=ah o;have B8:=ah (kk _ _ _ (by decide) B7.out);have IB8:=ah (kk _ _ _ (by decide) IB7.out);clear o kk;refine hK.out _ _ (fun _=>⟨B8.out.cell 0,B8.out.cell 1,B8.out.cell 2,B8.out.cell 3,B8.out.cell 4⟩) (fun aj=>?_);have hHeld:=aj (by decide);clear hK K aj
   try simp only[Act.put,aG,aC,aF]
   refine z02 (rs:=[12]) (by kernel_rfl) (by simp) (z01.cons (o:=_) rfl (fun K hK=>?_) z01.nil);go_simp;refine (MZ O8.out (by omega) HT.out).mono ?_;rintro e w9 ⟨v9,rfl,o,kk⟩;have O9:=ah o;have B9:=ah (kk _ _ _ (by decide) B8.out);have IB9:=ah (kk _ _ _ (by decide) IB8.out);clear o kk;refine hK.out _ _ (fun _=>⟨B9.out.cell 0,B9.out.cell 1,B9.out.cell 2,B9.out.cell 3,B9.out.cell 4⟩) (fun aj=>?_);have hHeld:=aj (by decide);clear hK K aj
   try simp only[Act.put,aG,aC,aF]
   refine z02 (rs:=[15]) (by kernel_rfl) (by simp) (z01.cons (o:=_) rfl (fun K hK=>?_) z01.nil);go_simp;refine (MZ O9.out (by omega) HT.out).mono ?_;rintro e w10 ⟨v10,rfl,o,kk⟩;have O10:=ah o;have B10:=ah (kk _ _ _ (by decide) B9.out);have IB10:=ah (kk _ _ _ (by decide) IB9.out);clear o kk;refine hK.out _ _ (fun _=>⟨B10.out.cell 0,B10.out.cell 1,B10.out.cell 2,B10.out.cell 3,B10.out.cell 4⟩) (fun aj=>?_);have hHeld:=aj (by decide);clear hK K aj
   try simp only[Act.put,aG,aC,aF]
   refine z00 (i:=16) (oi:=_) (v:=?_) rfl (fun _ _ _ h=>h) (Or.inl ⟨by rfl,?_⟩) ?_;rotate_left
   ·(intro w hSw;(try dsimp only at hSw);go_split_ands;go_simp;try with_reducible rfl)
   try simp only[Act.put,List.setIfInBounds_toArray]
   refine rU (by kernel_rfl) ?_ _;go_wp2_with fail;go_roundw
   case rel=>exact ⟨k+1,by omega,by go_num,O10,IB10⟩
   case measure=>simp[intOf];omega
  ·have hkk:k=ss.length:=by omega
   have O3:Hid (bY w w4 u3 T (au ps.length++ps.flatMap fun x=>fB x.e)):=ah (by have:=HO.out;rw[hkk,List.drop_length]at this;exact this);have c0:w4.cell? ⟨w.heap.size,1,none⟩=some (.slice Ap ps.length cp):=IB0.out.cell 1;clear hkk HO;go_wp2_with fail;refine (MZ O3.out (by omega) HT.out).mono ?_;rintro e w5 ⟨v5,rfl,o5,kk5⟩;have B5:=ah (kk5 _ _ _ (by decide) IB0.out);have c1:w5.cell? ⟨w.heap.size,1,none⟩=some (.slice Ap ps.length cp):=B5.out.cell 1;have O5:=ah o5;clear o5 kk5 O3 c0 IB0;go_wp2_with fail;clear c1;go_loopw [3,46] (fun v i wr=>∃k:Nat,k<=ps.length/\i=.int .i64 (k:Int)/\Hid (bY w wr v T ((ps.drop k).flatMap fun x=>fB x.e))) (fun _ i _=>ps.length-(intOf i).toNat)
   case atStart=>exact ⟨0,Nat.zero_le _,rfl,O5⟩
   case round=>
    clear O5 B5;obtain ⟨w4,rfl⟩:∃w4:World,w4=wr:=⟨_,rfl⟩;obtain ⟨k,hkn,rfl,HO⟩:=hrel;by_cases hlt:k<ps.length
    ·obtain ⟨X0,oX, -⟩:=HO.out
     have N4:=ah oX.nx;clear oX;obtain ⟨ad,rfl, -,p0,p1⟩:=post_at (HP.out w4 N4.out) hlt;have HD:=ah (ZR (fun x:PV=>fB x.e) hlt);have hfit:=HK.out _ (List.getElem_mem hlt);generalize ps[k]=x at *;obtain ⟨text,gs,A,c⟩:=x;obtain ⟨f1,f2,f3,f4⟩:=hfit;simp only at p0 p1 f1 f2 f3 f4;have F1:=ah f1;have F4:=ah f4
     have O5:Hid (bY w (w4.alloc (.cells #[.string text,.slice A gs.length c] 197)).drew u3 T (au text.size++(jJ text++(au gs.length++((gs.flatMap fun g=>au g.toNat)++((ps.drop (k+1)).flatMap fun x=>fB x.e)))))):=ah (by
      obtain ⟨X,o,e⟩:=HO.out;refine ⟨X,o.tr (((Ch.refl _ _).alloc _).drew),?_⟩;rw[←e,HD.out];simp[fB,PV.e,List.flatMap_map])
     have B5:=ah ((aB.new w4 197 #[.string text,.slice A gs.length c]).drew);go_wp2_with fail;clear p0 p1 HO HD f1 f4;refine yQ (fun w'=>w'.cell? ⟨w4.heap.size,0,none⟩=some (.string text)/\w'.cell? ⟨w4.heap.size,1,none⟩=some (.slice A gs.length c)) (fun _=>false) rfl ⟨B5.out.cell 0,B5.out.cell 1⟩ (fun hS0=>?_)
     try simp only[Act.put,aG,aC,aF]
     refine z00 (i:=0) (oi:=_) (v:=?_) rfl (fun _ _ _ h=>h) (Or.inl ⟨by rfl,?_⟩) ?_;rotate_left
     ·(intro w hSw;(try dsimp only at hSw);go_split_ands;go_simp;try with_reducible rfl)
     try simp only[Act.put,List.setIfInBounds_toArray]
     refine z00 (i:=1) (oi:=_) (v:=?_) rfl (fun _ _ _ h=>h) (Or.inl ⟨by rfl,?_⟩) ?_;rotate_left
     ·(intro w hSw;(try dsimp only at hSw);go_split_ands;go_simp;try with_reducible rfl)
     try simp only[Act.put]
     refine z00 (i:=2) (oi:=_) (v:=?_) rfl (fun _ _ _ h=>h) (Or.inl ⟨by rfl,?_⟩) ?_;rotate_left
     ·(intro w hSw;(try dsimp only at hSw);go_split_ands;go_simp;try with_reducible rfl)
     try simp only[Act.put]
     refine z00 (i:=3) (oi:=_) (v:=?_) rfl (fun _ _ _ h=>h) (Or.inl ⟨by rfl,?_⟩) ?_;rotate_left
     ·(intro w hSw;(try dsimp only at hSw);go_split_ands;go_simp;try with_reducible rfl)
     try simp only[Act.put]
     refine z00 (i:=5) (oi:=_) (v:=?_) rfl (fun _ _ _ h=>h) (Or.inl ⟨by rfl,?_⟩) ?_;rotate_left
     ·(intro w hSw;(try dsimp only at hSw);go_split_ands;go_simp;try with_reducible rfl)
     try simp only[Act.put]
     refine z00 (i:=6) (oi:=_) (v:=?_) rfl (fun _ _ _ h=>h) (Or.inl ⟨by rfl,?_⟩) ?_;rotate_left
     ·(intro w hSw;(try dsimp only at hSw);go_split_ands;go_simp;try with_reducible rfl)
     try simp only[Act.put]
     refine z02 (rs:=[4]) (by kernel_rfl) (by simp) (z01.cons (o:=_) rfl (fun K hK=>?_) z01.nil);go_simp;refine (MZ O5.out (by omega) HT.out).mono ?_;rintro e w6 ⟨v6,rfl,o,kk⟩;have O6:=ah o;have B6:=ah (kk _ _ _ (by decide) B5.out);clear o kk;refine hK.out _ _ (fun _=>⟨B6.out.cell 0,B6.out.cell 1⟩) (fun aj=>?_);have hHeld:=aj (by decide);clear hK K aj
     try simp only[Act.put,aG,aC,aF]
     obtain ⟨X6,ox6,ex6⟩:=O6.out;have OX6:=ah ox6;have hl6:X6.length<=100000000:=by have:=HT.out;rw[←ex6,List.length_append]at this;omega
     have EX6:=ah ex6;clear ox6 ex6;refine z02 (rs:=[7]) (by kernel_rfl) (by simp) (z01.cons (o:=_) rfl (fun K hK=>?_) z01.nil);refine qp rfl (.tmp 54) (.tmp 56) _ _ rfl 5 i0 Tryz.underlying47 Tryz.underlying9 hi0 hz0 hz1 hz2 rfl OX6.out text rfl (by simp only[maxLen];omega) (by omega) ?_;intro v7 w7 o7 gr7;have O7:Hid (bY w w7 v7 T (au gs.length++((gs.flatMap fun g=>au g.toNat)++((ps.drop (k+1)).flatMap fun x=>fB x.e)))):=ah ⟨X6++jJ text,by rw[List.length_append,NP];exact o7,by rw[←EX6.out];simp⟩;have B7:=ah (B6.out.ch ((Ch.refl (fun k=>v6.ownBlock=some k) w6).grown gr7 fun k hk _=>hk) (fun e=>z06 OX6.out.own B6.out (by decide) e));clear o7 gr7;refine hK.out _ _ (fun _=>⟨B7.out.cell 0,B7.out.cell 1⟩) (fun aj=>?_);have hHeld:=aj (by decide);clear hK K aj
     try simp only[Act.put,List.setIfInBounds_toArray]
     refine z00 (i:=8) (oi:=_) (v:=?_) rfl (fun _ _ _ h=>h) (Or.inl ⟨by rfl,?_⟩) ?_;rotate_left
     ·(intro w hSw;(try dsimp only at hSw);go_split_ands;go_simp;try with_reducible rfl)
     try simp only[Act.put]
     refine rU (by kernel_rfl) ?_ _;have c7:w7.cell? ⟨w4.heap.size,1,none⟩=some (.slice A gs.length c):=B7.out.cell 1;go_wp2_with fail;refine (MZ O7.out (by omega) HT.out).mono ?_;rintro e w8 ⟨v8,rfl,o8,kk8⟩;have O8:=ah o8;have B8:=ah (kk8 _ _ _ (by decide) B7.out);have c8:w8.cell? ⟨w4.heap.size,1,none⟩=some (.slice A gs.length c):=B8.out.cell 1;clear o8 kk8 c7 B7 O7 O6 OX6 EX6 B6 O5 B5;go_wp2_with fail;clear c8 B8;go_loopw [3,66] (fun v i wr=>∃j:Nat,j<=gs.length/\i=.int .i64 (j:Int)/\Hid (bY w wr v T (((gs.drop j).flatMap fun g=>au g.toNat)++((ps.drop (k+1)).flatMap fun x=>fB x.e)))) (fun _ i _=>gs.length-(intOf i).toNat)
     case atStart=>exact ⟨0,Nat.zero_le _,rfl,O8⟩
     case round=>
      clear O8;obtain ⟨w9,rfl⟩:∃w9:World,w9=wr:=⟨_,rfl⟩;obtain ⟨j,hjn,rfl,HO⟩:=hrel;by_cases hlj:j<gs.length
      ·obtain ⟨X0,oX, -⟩:=HO.out
       obtain ⟨ad2,u,rfl, -,hu,hcg⟩:=(F1.out.nx (by decide) oX.nx).at_ hlj;clear oX;have hg:=F4.out _ (List.getElem_mem hlj);have HD:=ah (ZR (fun g:Int=>au g.toNat) hlj);rw[show (ints gs)[j]?=some (.int .i64 gs[j]) by simp[ints,hlj]]at hu;injection hu with hu;subst hu;generalize gs[j]=g at *;obtain ⟨z,rfl⟩:=Int.eq_ofNat_of_zero_le hg.1;have hz:z<9223372036854775808:=by have:=hg.2;omega
       have O9:Hid (bY w w9 u3 T (au z++(((gs.drop (j+1)).flatMap fun g=>au g.toNat)++((ps.drop (k+1)).flatMap fun x=>fB x.e)))):=ah (by have:=HO.out;rw[HD.out]at this;simpa using this);clear HO HD hg;go_wp2_with fail;refine (MZ O9.out hz HT.out).mono ?_;rintro e w10 ⟨v10,rfl,o10, -⟩;have O10:=ah o10;clear o10 hcg;go_wp2_with fail;go_roundw
       case rel=>exact ⟨j+1,by omega,by go_num,O10⟩
       case measure=>simp[intOf];omega
      ·have hjj:j=gs.length:=by omega
       have O9:Hid (bY w w9 u3 T ((ps.drop (k+1)).flatMap fun x=>fB x.e)):=ah (by have:=HO.out;rw[hjj,List.drop_length]at this;exact this);clear hjj HO;go_wp2_with fail;go_roundw
       case rel=>exact ⟨k+1,by omega,by go_num,O9⟩
       case measure=>simp[intOf];omega
    ·have hkk:k=ps.length:=by omega
     obtain ⟨X,oX,eX⟩:=HO.out;rw[hkk,List.drop_length,List.flatMap_nil,List.append_nil]at eX;have hXl:X.length<=100000000:=by rw[eX];exact HT.out
     have okX:okB X:=by rw[eX];exact Ns.out
     obtain ⟨A9,c9,rfl, -, -⟩:=oX.form;have HSL:=ah (xP _ A9 X.length c9 X w4 oX.rd (fun j hj=>hj.2.2) okX rfl (by omega));have OX:=ah oX;have EX:=ah eX;clear hkk oX eX okX HO;go_wp2_with fail;refine HSL.out.mono ?_;rintro e w9 ⟨k9,LC,rfl,o9,q1,q2,q3,q4⟩;have O9:=ah o9;clear o9;go_wp2_with fail;go_ret;have hsz:=OX.out.nx.size;rw[←EX.out];exact ⟨k9,LC,rfl,⟨rQ O9.out.own hsz,OX.out.nx.tr O9.out.nx⟩,by omega,q2,q3,q4⟩
end Go.Proofs.YtdbfejfhpkakhaaGreat
namespace Go.Proofs.YtdbfejfhpkakhaaGreat
open Go.ChangeShapes Go.WideShapes Go.ChangeAt Go.RowKit Go.Deep
def nameB (mk sq:Int) (l:List RV):List RV:=l.mapIdx fun i x=>⟨{ x.row with maker:=mk,seq:=sq,place:=(i:Int)},x.A,x.c⟩
theorem YI (mk sq:Int) (l:List RV):(nameB mk sq l).length=l.length:=by unfold nameB;rw[List.length_mapIdx]
theorem Zo {mk sq:Int} {l:List RV} {i:Nat} (h:i<l.length):(nameB mk sq l)[i]'(by rw[YI];exact h)=⟨{ l[i].row with maker:=mk,seq:=sq,place:=(i:Int)},l[i].A,l[i].c⟩:=by
 unfold nameB;rw[List.getElem_mapIdx]
theorem FT (mk sq:Int) (l:List RV):og (nameB mk sq l)=og l:=by
 unfold og;rw[List.flatMap_def,List.flatMap_def];congr 1
 refine List.ext_getElem (by rw[List.length_map,List.length_map,YI]) fun i h1 h2=>?_;rw[List.length_map]at h2;rw[List.getElem_map,List.getElem_map,Zo h2];rfl
theorem qL {mk sq:Int} {l:List RV} {x:RV} (h:x∈nameB mk sq l):∃i,∃hi:i<l.length,x=⟨{ l[i].row with maker:=mk,seq:=sq,place:=(i:Int)},l[i].A,l[i].c⟩:=by
 obtain ⟨i,hi,rfl⟩:=List.getElem_of_mem h;rw[YI]at hi;exact ⟨i,hi,Zo hi⟩
section
variable {H : Type} {enc : TypeId × Value → H} {W : World}
theorem vY {n:Nat} {cs:List Value} {y:DataW H×List MemPlace} (h:DataW.trod enc Tryz.prog W 0 (fun _=>true) true n 57 cs=some y):∃x:RV,cs=x.rs/\x.ok W (· <W.heap.size)/\x.row.small:=by
 obtain ⟨zs,n2,_,_,hlen,hzl,hf2⟩:=DataW.trod_struct Tryz.underlying57 h;have hC:Tryz.prog.cellsOf 57=6:=by kernel_rfl
 rw[hC]at hlen;match cs,hlen with
 |[v0,v1,v2,v3,v4,v5],_=>
  have es:Tryz.prog.cellsOf 9=1:=(by kernel_rfl);have ei:Tryz.prog.cellsOf 3=1:=(by kernel_rfl);have eb:Tryz.prog.cellsOf 4=1:=(by kernel_rfl);have el:Tryz.prog.cellsOf 55=1:=(by kernel_rfl);have r0:DataW.trod enc Tryz.prog W 0 (fun _=>true) true n2 3 (([v0,v1,v2,v3,v4,v5].drop 0).take (Tryz.prog.cellsOf 3))=zs[0]?:=hf2 0 _ rfl;have r1:DataW.trod enc Tryz.prog W 0 (fun _=>true) true n2 3 (([v0,v1,v2,v3,v4,v5].drop 1).take (Tryz.prog.cellsOf 3))=zs[1]?:=hf2 1 _ rfl;have r2:DataW.trod enc Tryz.prog W 0 (fun _=>true) true n2 55 (([v0,v1,v2,v3,v4,v5].drop 2).take (Tryz.prog.cellsOf 55))=zs[2]?:=hf2 2 _ rfl;have r3:DataW.trod enc Tryz.prog W 0 (fun _=>true) true n2 9 (([v0,v1,v2,v3,v4,v5].drop 3).take (Tryz.prog.cellsOf 9))=zs[3]?:=hf2 3 _ rfl;have r4:DataW.trod enc Tryz.prog W 0 (fun _=>true) true n2 3 (([v0,v1,v2,v3,v4,v5].drop 4).take (Tryz.prog.cellsOf 3))=zs[4]?:=hf2 4 _ rfl;have r5:DataW.trod enc Tryz.prog W 0 (fun _=>true) true n2 4 (([v0,v1,v2,v3,v4,v5].drop 5).take (Tryz.prog.cellsOf 4))=zs[5]?:=hf2 5 _ rfl;simp only[es,ei,eb,el,List.drop_zero,List.take_succ_cons,List.take_zero,List.drop_succ_cons]at r0 r1 r2 r3 r4 r5;obtain ⟨kind,rfl,i0⟩:=yP Tryz.underlying3 (r0.trans (List.getElem?_eq_getElem (by rw[hzl];decide)));obtain ⟨time,rfl,i1⟩:=yP Tryz.underlying3 (r1.trans (List.getElem?_eq_getElem (by rw[hzl];decide)));obtain ⟨A,c,ak,rfl,h1,h2,h3,h4⟩:=tX (r2.trans (List.getElem?_eq_getElem (by rw[hzl];decide)));obtain ⟨text,rfl,i3⟩:=ZL (r3.trans (List.getElem?_eq_getElem (by rw[hzl];decide)));obtain ⟨value,rfl,i4⟩:=yP Tryz.underlying3 (r4.trans (List.getElem?_eq_getElem (by rw[hzl];decide)));obtain ⟨null,rfl⟩:=uJ (r5.trans (List.getElem?_eq_getElem (by rw[hzl];decide)));exact ⟨⟨⟨kind,time,ak,text,value,null,0,0,0⟩,A,c⟩,rfl,⟨h1,h3,h4⟩,h2,i3,i0,i1,i4,(show i64 0 from by unfold i64;decide),(show i64 0 from by unfold i64;decide),(show i64 0 from by unfold i64;decide)⟩
theorem sZ {n:Nat} {v:Value} {y:DataW H×List MemPlace} (h:DataW.trod enc Tryz.prog W 0 (fun _=>true) true n 35 [v]=some y):
 ∃(A:Option Addr) (c:Nat) (l:List RV),v=.slice A l.length c/\Rd W (· <W.heap.size) 6 A l.length (og l)/\(∀x∈l,x.ok W (· <W.heap.size)/\x.row.small)/\l.length<=c/\c<=maxLen:=by
 rcases open_slice Tryz.underlying35 h with ⟨hcs,hx⟩|⟨a,len,cap,m,nn,D,Pl,hcs,hb,hl,hm,hmm,hx,hi⟩
 ·simp at hcs
  subst hcs;exact ⟨none,0,[],rfl,Rd.none_ _ _ _ _,by simp,Nat.le_refl _,by simp[maxLen]⟩
 ·simp at hcs
  subst hcs;simp only[if_true]at hmm;have hC:Tryz.prog.cellsOf 57=6:=by kernel_rfl
  rw[hC]at hi
  obtain ⟨l,h1,h2,h3⟩:=ZK (W:=W) (a:=a) (n:=len) (good:=fun x:RV=>x.ok W (· <W.heap.size)/\x.row.small) RV.zW (by decide) (fun i hin=>by
   obtain ⟨cs',hc,ht'⟩:=hi i (by omega);obtain ⟨x,rfl,hx1,hx2⟩:=vY ht';obtain ⟨_,hcl,hat⟩:=World.cells?_some hc;refine ⟨x,⟨hx1,hx2⟩,fun j u hj hu=>?_⟩;rw[←Go.Deep.add_add,hat j hj,←hu])
  subst h1;exact ⟨some a,cap,l,rfl,h3,h2,hl,hm⟩
theorem BL {n:Nat} {cs:List Value} {y:DataW H×List MemPlace} (h:DataW.trod enc Tryz.prog W 0 (fun _=>true) true n 37 cs=some y):∃b:cZ,cs=b.cs/\b.ok W (· <W.heap.size):=by
 obtain ⟨zs,n2,_,_,hlen,hzl,hf2⟩:=DataW.trod_struct Tryz.underlying37 h;have hC:Tryz.prog.cellsOf 37=3:=by kernel_rfl
 rw[hC]at hlen;match cs,hlen with
 |[v0,v1,v2],_=>
  have ei:Tryz.prog.cellsOf 3=1:=(by kernel_rfl);have el:Tryz.prog.cellsOf 35=1:=(by kernel_rfl);have r0:DataW.trod enc Tryz.prog W 0 (fun _=>true) true n2 3 (([v0,v1,v2].drop 0).take (Tryz.prog.cellsOf 3))=zs[0]?:=hf2 0 _ rfl;have r1:DataW.trod enc Tryz.prog W 0 (fun _=>true) true n2 3 (([v0,v1,v2].drop 1).take (Tryz.prog.cellsOf 3))=zs[1]?:=hf2 1 _ rfl;have r2:DataW.trod enc Tryz.prog W 0 (fun _=>true) true n2 35 (([v0,v1,v2].drop 2).take (Tryz.prog.cellsOf 35))=zs[2]?:=hf2 2 _ rfl;simp only[ei,el,List.drop_zero,List.take_succ_cons,List.take_zero,List.drop_succ_cons]at r0 r1 r2;obtain ⟨mk,rfl,i0⟩:=yP Tryz.underlying3 (r0.trans (List.getElem?_eq_getElem (by rw[hzl];decide)));obtain ⟨sq,rfl,i1⟩:=yP Tryz.underlying3 (r1.trans (List.getElem?_eq_getElem (by rw[hzl];decide)));obtain ⟨A,c,l,rfl,h1,h2,h3,h4⟩:=sZ (r2.trans (List.getElem?_eq_getElem (by rw[hzl];decide)));have hln:=YI mk sq l;refine ⟨⟨mk,sq,A,c,nameB mk sq l⟩,by unfold cZ.cs;rw[hln],⟨?_,?_,?_,?_,by rw[hln];exact h3,h4⟩⟩
  ·show Rd W _ 6 A (nameB mk sq l).length (og (nameB mk sq l))
   rw[hln,FT];exact h1
  ·intro x hx
   obtain ⟨i,hi,rfl⟩:=qL hx;exact (h2 _ (List.getElem_mem hi)).1
  ·intro x hx
   obtain ⟨i,hi,rfl⟩:=qL hx;obtain ⟨⟨h5,h6,h7⟩,s1,s2,s3,s4,s5, -⟩:=h2 _ (List.getElem_mem hi);unfold maxLen at h4 h7;exact ⟨⟨s1,s2,s3,s4,s5,i0,i1,by unfold i64;simp only;omega⟩,by simp only;omega⟩
  ·intro i hi
   have hi':i<l.length:=by rw[←hln];exact hi
   have e:=Zo (mk:=mk) (sq:=sq) hi';refine ⟨?_,?_,?_⟩
   ·show ((nameB mk sq l)[i]).row.maker=mk
    rw[e]
   ·show ((nameB mk sq l)[i]).row.seq=sq
    rw[e]
   ·show ((nameB mk sq l)[i]).row.place=_
    rw[e]
theorem LM {n:Nat} {b:cZ} {y:DataW H×List MemPlace} (h:DataW.trod enc Tryz.prog W 0 (fun _=>true) true n 37 b.cs=some y) (hw:∀k∈DataW.weights Tryz.prog 37 y.1,k<=reachBytes):b.l.length<=4398046511104:=by
 obtain ⟨mk,sq,A,c,l⟩:=b;obtain ⟨zs,n2,_,hz,_,hzl,hf2⟩:=DataW.trod_struct Tryz.underlying37 h;have el:Tryz.prog.cellsOf 35=1:=by kernel_rfl
 have r2:DataW.trod enc Tryz.prog W 0 (fun _=>true) true n2 35 (([.int .i64 mk,.int .i64 sq,.slice A l.length c].drop 2).take (Tryz.prog.cellsOf 35))=zs[2]?:=hf2 2 _ rfl;have hzl3:zs.length=3:=hzl;simp only[el,List.take_succ_cons,List.take_zero,List.drop_succ_cons,List.drop_zero]at r2;rw[List.getElem?_eq_getElem (by omega)]at r2;rcases open_slice Tryz.underlying35 r2 with ⟨hcs,hx⟩|⟨a,len,cap,m,nn,D,Pl,hcs,hb,hl,hm,hmm,hx,hi⟩
 ·simp at hcs
  obtain ⟨-,h0, -⟩:=hcs;show l.length<=_
  simp[h0]
 ·simp at hcs
  obtain ⟨-,rfl, -⟩:=hcs;show l.length<=_
  have Nk:Tryz.prog.bytesOf 57=72:=by kernel_rfl
  have w1:(l.length+(m-l.length)) * 72∈DataW.weights Tryz.prog 35 zs[2].1:=by
   rw[hx];simp only[DataW.weights,Tryz.underlying35,List.length_map,List.length_range,Nk];exact List.mem_cons_self
  have w2:(l.length+(m-l.length)) * 72∈DataW.weights Tryz.prog 37 y.1:=by
   rw[hz];simp only[DataW.weights,Tryz.underlying37];exact DataW.weights_mem_each (j:=2) rfl (by rw[List.getElem?_map,List.getElem?_eq_getElem (by omega)];rfl) _ w1
  have h1:=hw _ w2;have h2:=reachBytes_lt;omega
variable {args : Array Value} {ds : List (DataW H)} {ps : List MemPlace}
theorem Told.aN {ts:List TypeId} (h:Told enc (33::ts) W args ds ps):∃(A:Option Addr) (c:Nat) (l:List cZ) (vs:List Value) (ds':List (DataW H)) (q:List MemPlace),args=(.slice A l.length c::vs).toArray/\
 Rd W (· <W.heap.size) 3 A l.length (pG l)/\(∀b∈l,b.ok W (· <W.heap.size)/\b.l.length<=4398046511104)/\l.length<=c/\c<=maxLen/\Told enc ts W vs.toArray ds' q:=by
 obtain ⟨v,vs,d,ds',p,q,rfl,rfl,h0,⟨b,ho⟩,hlt,hw,h'⟩:=h.cons;obtain ⟨A,n,c,rfl⟩:=okWide_slice Tryz.underlying33 ho;obtain ⟨fuel,hf⟩:=h0;rcases open_slice Tryz.underlying33 hf with ⟨hcs,hx⟩|⟨a,len,cap,m,nn,D,Pl,hcs,hb,hl,hm,hmm,hx,hi⟩
 ·simp[Value.cells]at hcs
  obtain ⟨rfl,rfl,rfl⟩:=hcs;exact ⟨none,0,[],vs,ds',q,rfl,Rd.none_ _ _ _ _,by simp,Nat.le_refl _,by simp[maxLen],h'⟩
 ·simp[Value.cells]at hcs
  obtain ⟨rfl,rfl,rfl⟩:=hcs;simp only[if_true]at hmm;have hC:Tryz.prog.cellsOf 37=3:=by kernel_rfl
  rw[hC]at hi
  have hwd:∀i,i<n->∀k∈DataW.weights Tryz.prog 37 (D i),k<=reachBytes:=fun i hin k hk=>by
   have he:d=.slice ((List.range n).map D) ((List.range (m-n)).map fun j=>D (n+j)):=congrArg Prod.fst hx
   have hall:∀(l:List Nat),i∈l->k∈DataW.weightsAll Tryz.prog 37 (l.map D):=fun l=>by
    induction l with
    |nil=>intro h;cases h
    |cons z l ih=>
     intro h;rw[List.map_cons,DataW.weightsAll,List.mem_append];rcases List.mem_cons.1 h with rfl|h
     ·exact .inl hk
     ·exact .inr (ih h)
   have hmem:k∈DataW.weights Tryz.prog 33 d:=by
    rw[he];simp only[DataW.weights,Tryz.underlying33];exact List.mem_cons_of_mem _ (List.mem_append.2 (.inl (hall _ (List.mem_range.2 hin))))
   have:=List.all_eq_true.1 hw k (DataW.weights_mem_each (j:=0) rfl rfl k hmem);simpa using this
  obtain ⟨l,h1,h2,h3⟩:=ZK (W:=W) (a:=a) (n:=n) (good:=fun x:cZ=>x.ok W (· <W.heap.size)/\x.l.length<=4398046511104) cZ.aO (by decide) (fun i hin=>by
   obtain ⟨cs',hc,ht'⟩:=hi i (by omega);obtain ⟨x,rfl,hx1⟩:=BL ht';obtain ⟨_,hcl,hat⟩:=World.cells?_some hc;refine ⟨x,⟨hx1,LM ht' (hwd i hin)⟩,fun j u hj hu=>?_⟩;rw[←Go.Deep.add_add,hat j hj,←hu])
  subst h1;exact ⟨some a,c,l,vs,ds',q,rfl,h3,h2,hl,hm,h'⟩
end
end Go.Proofs.YtdbfejfhpkakhaaGreat
