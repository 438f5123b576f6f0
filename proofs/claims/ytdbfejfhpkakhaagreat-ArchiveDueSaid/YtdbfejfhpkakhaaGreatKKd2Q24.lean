/- Contracts and plain laws that the last text rests on. Conditions: each theorem states its own. -/
import Derived.Test.YtdbfejfhpkakhaaGreatKKd2Q23
import Derived.Test.YtdbfejfhpkakhaaGreatKKd2Q21
import Derived.Test.YtdbfejfhpkakhaaGreatKKd2Q16
import Derived.Test.YtdbfejfhpkakhaaGreatKKd2Q6
import Derived.Test.YtdbfejfhpkakhaaGreatKKd2Q10
set_option maxRecDepth 100000
set_option maxHeartbeats 32000000
set_option linter.unusedVariables false
set_option linter.unusedSimpArgs false
namespace Go.Proofs.YtdbfejfhpkakhaaGreat
open Go.RowKit
def CQ (l:List aC) (w:World) (e:Ending) (w':World):Prop:=∃v zs,e=.returned v/\bZ w w' v zs/\zs.map (fun x=>x.row)=l
theorem bZ.base {W0 W w:World} {v:Value} {zs:List RV} (n:Nx W0 W) (h:bZ W w v zs):bZ W0 w v zs:=
 ⟨⟨su h.own.own n.size,n.tr h.own.nx⟩,fun z hz=>(h.ok z hz).ch (Ch.refl (fun _=>False) w) (fun _ _ _ hf=>hf) fun k ⟨a,b,d⟩=>⟨Nat.le_trans n.size a,b,d⟩⟩
section
variable {w : World} {D : Nat → Prop}
theorem lZ (b:dF) (h:b.ok w D) (hn:b.l.length<=1000000) (hf:∀x∈b.l,x.row.ak.length<=4398046511104):
 Calls Tryz.prog 30 #[oG b] w (CQ (b.l.map fun x=>x.row) w):=by
 obtain ⟨i0,hi0,hz0,hz1,hz2⟩:=info_parts Tryz.fZ;have H:=ah h.rd;have HK:=ah (fun x hx=>(⟨h.ok x hx,hf x hx⟩:x.ok w D/\x.row.ak.length<=4398046511104));have Vm:=ah h.named;obtain ⟨mk,sq,A,c,l⟩:=b;unfold oG;unfold dF.named at Vm;simp only at H HK Vm hn ⊢;obtain ⟨n,hl⟩:∃n,l.length=n:=⟨_,rfl⟩;rw[hl]at H hn ⊢;have HB:=ah (aG.new w 37 #[.int .i64 mk,.int .i64 sq,.slice A n c]);have HN:=ah ((Ch.refl (fun _=>False) w).alloc (.cells #[.int .i64 mk,.int .i64 sq,.slice A n c] 37));have Hl:=ah hl;clear hl h hf;go_enter Tryz.func30,Tryz.ntmps30;go_wp2_with fail;have iw:=ah (fun w' (c':Nx (w.alloc (.cells #[.int .i64 mk,.int .i64 sq,.slice A n c] 37)) w')=>HB.out.nx c');obtain ⟨W,hW⟩:∃W,w.alloc (.cells #[.int .i64 mk,.int .i64 sq,.slice A n c] 37)=W:=⟨_,rfl⟩;rw[hW]at HN iw;have hWs:w.heap.size<W.heap.size:=by rw[←hW];simp
 have HH:=ah (H.out.nx (by decide) HN.out);have HKK:=ah (fun x hx=>(HK.out x hx).1.ch (D':=D) HN.out (fun _ _ _ hf=>hf) (fun _ h=>h));simp only[hW];clear hW HB;go_loopw [3,9] (fun v i wr=>∃(k:Nat) (zs:List RV),k<=n/\i=.int .i64 (k:Int)/\Hid (bZ W wr v zs)/\Hid (zs.map (fun x=>x.row)=(l.take k).map fun x=>x.row)) (fun _ i _=>n-(intOf i).toNat)
 case atStart=>exact ⟨0,[],Nat.zero_le _,rfl,ah (bZ.nil W W (Ch.refl _ _)),ah rfl⟩
 case round=>
  obtain ⟨w4,rfl⟩:∃w4:World,w4=wr:=⟨_,rfl⟩;obtain ⟨k,zs,hkn,rfl,Hr,Hm⟩:=hrel;have b4:=iw.out _ Hr.out.own.nx;have d0:w4.cell? ⟨w.heap.size,0,none⟩=some (.int .i64 mk):=b4.cell 0;have d1:w4.cell? ⟨w.heap.size,1,none⟩=some (.int .i64 sq):=b4.cell 1;have hlt4:=b4.lt;clear b4;by_cases hlt:k<n
  ·have hkl:k<l.length:=by rw[Hl.out];exact hlt
   obtain ⟨ad,rfl,hb,p0,p1,p2,p3,p4,p5⟩:=tY (HH.out.nx (by decide) Hr.out.own.nx) hkl;have HT:=ah (fun w' (hn:Nx w4 w')=>qG (x:=l[k]) (((HKK.out _ (List.getElem_mem hkl)).ch Hr.out.own.nx (fun _ _ _ hf=>hf) (fun _ h=>h)).ch hn (D':=D) (fun _ _ _ hf=>hf) (fun _ h=>h)) (HK.out _ (List.getElem_mem hkl)).2);unfold aK at HT;have Hm2:=ah (show (zs.map (fun x=>x.row))++[l[k].row]=(l.take (k+1)).map fun x=>x.row by rw[Hm.out,List.take_succ_eq_append_getElem hkl,List.map_append];rfl);have hnm:=Vm.out k hkl;clear hb;generalize l[k]=x at *;obtain ⟨⟨kind,time,ak,text,value,null,maker,seq,place⟩,A1,c1⟩:=x;simp only at p0 p1 p2 p3 p4 p5 HT Hm2 hnm;obtain ⟨h1,h2,h3⟩:=hnm;rw[h1,h2,h3]at HT Hm2;clear h1 h2 h3
   have hzl:zs.length<=1000000:=by
    have:=congrArg List.length Hm.out;simp at this;omega
   go_wp2_with fail;refine (HT.out _ ((Ch.refl _ w4).alloc _)).mono ?_;rintro e w5 ⟨⟨yr,A2,c2⟩,rfl,hy,hok,nx⟩;simp only at hy;subst hy;have HR5:=ah (Hr.out.tr (((Ch.refl _ w4).alloc _).tr nx))
   have HY:=ah (hok.ch (Ch.refl (fun _=>False) w5) (D':=fun k=>W.heap.size<=k/\k<w5.heap.size/\u3.ownBlock≠some k) (fun _ _ _ hf=>hf) (fun k hk=>by
    have h1:=Hr.out.own.nx.size;have h2:=hk.1;simp at h2;refine ⟨by omega,hk.2,fun e=>?_⟩;have:=(Hr.out.own.lt k e).2;omega))
   have HS:=ah HR5.out.own.nx.size;have HL9:=ah (Rd.wW w5 ⟨⟨kind,time,ak,text,value,null,mk,sq,(k:Int)⟩,A2,c2⟩);clear hok nx HT p0 p1 p2 p3 p4 p5 d0 d1 hlt4;unfold aK;simp only at HL9;go_wp2_with (at_builtin;refine z04 _ rfl (.tmp 14) (.tmp 23) _ rfl W.heap.size 79 i0 _ 9 96 Tryz.underlying34 hi0 hz0 hz1 hz2 rfl (by omega) u3 zs.length (bM zs) rfl (HR5.out.own.alloc _).own _ (some ⟨w5.heap.size,0,none⟩) 1 1 _ rfl HL9.out (IY _) (by simp only[maxLen];omega) (by omega) (by have:=HS.out;simp;omega) ?_;intro v7 w7 dn gr7 at7;obtain ⟨o7,m7⟩:=Di HR5.out.own ((Ch.refl _ w5).alloc _) dn gr7 at7;have G7:=ah (HR5.out.app (ys:=[_]) o7 m7 (by intro y hy;rw[List.mem_singleton]at hy;subst hy;exact HY.out));clear dn gr7 at7 o7 m7)
   go_roundw
   case rel=>exact ⟨k+1,_,by omega,by go_num,G7,ah (by rw[List.map_append];exact Hm2.out)⟩
   case measure=>simp[intOf];omega
  ·have HM:=ah (show zs.map (fun x=>x.row)=l.map fun x=>x.row by rw[Hm.out,List.take_of_length_le (by rw[Hl.out];omega)])
   go_wp2_with fail;go_ret;exact ⟨_,_,rfl,bZ.base HN.out Hr.out,HM.out⟩
end
theorem Gt (mk:Int) (w:World):Calls Tryz.prog 25 #[.agg #[.int .i64 0,.int .i64 0,.int .i64 0,.slice none 0 0,.slice none 0 0,.slice none 0 0],.int .i64 mk] w fun e w'=>e=.returned (.int .i64 0)/\Nx w w':=by
 have HN:=ah ((Ch.refl (fun _=>False) w).alloc (.cells #[.int .i64 0,.int .i64 0,.int .i64 0,.slice none 0 0,.slice none 0 0,.slice none 0 0] 64));go_enter Tryz.func25,Tryz.ntmps25;go_wp2_with fail;go_loopw [10] (fun i wr=>i=.int .i64 0/\Hid (Nx w wr)) (fun i _=>0)
 case atStart=>exact ⟨rfl,HN⟩
 case round=>
  obtain ⟨rfl,N4⟩:=hrel;go_wp2_with fail;go_ret;exact ⟨rfl,N4.out⟩
def dX (mk sq:Int) (x:dF):Bool:=decide (x.maker=mk)&&decide (sq<=x.seq)
section
variable {w : World} {D : Nat → Prop}
theorem Jl (x:dF) (p:Nat) (mk sq:Int) (h0:w.cell? ⟨p,0,none⟩=some (.int .i64 mk)) (h1:w.cell? ⟨p,1,none⟩=some (.int .i64 sq)):
 Calls Tryz.prog 27 #[oG x,.pointer (some ⟨p,0,none⟩)] w fun e w'=>e=.returned (.bool (dX mk sq x))/\Nx w w':=by
 unfold oG dX;have hlt:p<w.heap.size:=World.block_lt_of_cell? w _ h0;have HN:=ah ((Ch.refl (fun _=>False) w).alloc (.cells #[.int .i64 x.maker,.int .i64 x.seq,.slice x.A x.l.length x.c] 37));by_cases e:x.maker=mk
 ·have e1:(x.maker==mk)=true:=by rw[beq_iff_eq];exact e
  have HE:Hid (decide (x.maker=mk)=true):=ah (decide_eq_true e);clear e;go_enter Tryz.func27,Tryz.ntmps27;go_wp2_with fail;go_ret;exact ⟨by rw[HE.out];simp,HN.out⟩
 ·have e1:(x.maker==mk)=false:=by rw[beq_eq_false_iff_ne];exact e
  have HE:Hid (decide (x.maker=mk)=false):=ah (decide_eq_false e);clear e;go_enter Tryz.func27,Tryz.ntmps27;go_wp2_with fail;go_ret;exact ⟨by rw[HE.out];rfl,HN.out⟩
theorem Sm {A:Option Addr} {n k:Nat} {l:List dF} (h:Rd w D 3 A n (uT l)) (hk:k<l.length):∃ad,A=some ad/\D ad.block/\w.cell? (ad.add (k * 3))=some (.int .i64 l[k].maker)/\
 w.cell? ⟨(ad.add (k * 3)).block,(ad.add (k * 3)).off+1,none⟩=some (.int .i64 l[k].seq)/\w.cell? ⟨(ad.add (k * 3)).block,(ad.add (k * 3)).off+2,none⟩=some (.slice l[k].A l[k].l.length l[k].c):=by
 have hn:0<n:=by have:=h.1;rw[Qn]at this;omega
 obtain ⟨ad,rfl,hb,hc⟩:=h.2 hn;have g:=fun i (hi:i<3) u (hu:(l[k].cs)[i]?=some u)=>hc (k * 3+i) u ((oI dF.aQ hk hi).trans hu);exact ⟨ad,rfl,hb,g 0 (by decide) _ rfl,z09 0 (g 1 (by decide) _ rfl),z09 1 (g 2 (by decide) _ rfl)⟩
theorem xu (A:Option Addr) (n c p:Nat) (l:List dF) (mk sq:Int) (hr:Rd w D 3 A n (uT l)) (hl:l.length=n) (hn:n<=9223372036854775807) (h0:w.cell? ⟨p,0,none⟩=some (.int .i64 mk)) (h1:w.cell? ⟨p,1,none⟩=some (.int .i64 sq)):
 Calls Tryz.prog 47 #[.slice A n c,.func (.func 27) #[] #[.pointer (some ⟨p,0,none⟩)]] w fun e w'=>
  ∃r:Int,e=.returned (.int .i64 r)/\decide (0<=r)=l.any (dX mk sq)/\Nx w w':=by
 have H:=ah hr;have HC:=ah (fun x w' (n':Nx w w')=>Jl (w:=w') x p mk sq (by rw[n'.cell (World.block_lt_of_cell? w _ h0)];exact h0) (by rw[n'.cell (World.block_lt_of_cell? w _ h1)];exact h1));have Hl:=ah hl;clear hl hr h0 h1;go_enter Tryz.func47,Tryz.ntmps47;go_wp2_with fail;go_loopw [8] (fun i wr=>∃k:Nat,k<=n/\i=.int .i64 (k:Int)/\Hid (∀j (h:j<l.length),j<k->dX mk sq l[j]=false)/\Hid (Nx w wr)) (fun i _=>n-(intOf i).toNat)
 case atStart=>exact ⟨0,Nat.zero_le _,rfl,ah (fun j _ h=>by omega),ah (Ch.refl _ _)⟩
 case round=>
  obtain ⟨w4,rfl⟩:∃w4:World,w4=wr:=⟨_,rfl⟩;obtain ⟨k,hkn,rfl,He,N4⟩:=hrel;by_cases hlt:k<n
  ·have hkl:k<l.length:=by rw[Hl.out];exact hlt
   obtain ⟨ad,rfl,hb,p0,p1,p2⟩:=Sm (H.out.nx (by decide) N4.out) hkl;have HX:=ah (HC.out l[k] w4 N4.out);have HY:=ah (fun (h:dX mk sq l[k]=true)=>show l.any (dX mk sq)=true from by rw[List.any_eq_true];exact ⟨_,List.getElem_mem hkl,h⟩)
   have HZ:=ah (fun (h:dX mk sq l[k]=false) j (hj:j<l.length) (hjk:j<k+1)=>show dX mk sq l[j]=false from by
    by_cases e:j=k
    ·subst e;exact h
    ·exact He.out j hj (by omega))
   unfold oG at HX;clear hb;generalize dX mk sq l[k]=q at *;generalize l[k]=x at *;cases q
   ·have HQ:=ah (HZ.out rfl)
    go_wp2_with fail;refine HX.out.mono ?_;rintro e w5 ⟨rfl,n5⟩;have N5:=ah (N4.out.tr n5);clear n5;go_wp2_with fail;go_roundw
    case rel=>exact ⟨k+1,by omega,by go_num,HQ,N5⟩
    case measure=>simp[intOf];omega
   ·have HQ:=ah (HY.out rfl)
    go_wp2_with fail;refine HX.out.mono ?_;rintro e w5 ⟨rfl,n5⟩;have N5:=ah (N4.out.tr n5);clear n5;go_wp2_with fail;go_ret;exact ⟨_,rfl,by rw[HQ.out];simp,N5.out⟩
  ·have HQ:Hid (l.any (dX mk sq)=false):=ah (by
    rw[List.any_eq_false];intro x hx;obtain ⟨j,hj,rfl⟩:=List.mem_iff_getElem.1 hx;rw[He.out j hj (by have:=Hl.out;omega)];simp)
   go_wp2_with fail;go_ret;exact ⟨_,rfl,by rw[HQ.out];rfl,N4.out⟩
theorem nG (A:Option Addr) (n c p:Nat) (l:List dF) (mk sq:Int) (hr:Rd w D 3 A n (uT l)) (hl:l.length=n) (hn:n<=9223372036854775807) (h0:w.cell? ⟨p,0,none⟩=some (.int .i64 mk)) (h1:w.cell? ⟨p,1,none⟩=some (.int .i64 sq)):
 Calls Tryz.prog 26 #[.slice A n c,.func (.func 27) #[] #[.pointer (some ⟨p,0,none⟩)]] w fun e w'=>
  e=.returned (.bool (l.any (dX mk sq)))/\Nx w w':=by
 have HI:=ah (xu A n c p l mk sq hr hl hn h0 h1);clear hr hl h0 h1;go_enter Tryz.func26,Tryz.ntmps26;go_wp2_with fail;refine HI.out.mono ?_;rintro e w4 ⟨r,rfl,hb,n4⟩;have N4:=ah n4;have HB:=ah hb;clear n4 hb;go_wp2_with fail;go_ret;exact ⟨by rw[←HB.out];rfl,N4.out⟩
end
theorem qy {P:Program} {ops:Array Oper} {o:Oper} {a:Act} {K:Act->World->Prop} {Q:Exit->Act->World->Prop} {E:Prop} (hgd:o.guard=none) (sl x:Operand) (t u:TypeId)
 (ho:o.op=.call { callee:=.builtin .append,args:= #[sl,x],argTypes:= #[t,u]})
 (e:TypeId) (i:TypeInfo) (ht:P.underlying t=some (.slice e)) (hu:P.underlying u=some .string) (hi:P.info? e=some i) (hz:i.zero=some (.int .u8 0))
 (hsize:i.size=1) (hby:i.bytes=1)
 {W w:World} {v:Value} {n:Nat} {xs:List Nat} (hs:a.eval sl=v) (hown:aF W w e 1 v n (bl xs)) (s:ByteArray) (hx:a.eval x=.string s)
 (h63:n+s.size<=maxLen) (hbytes:n+s.size<=140737488355328)
 (h:∀v' w',aF W w' e 1 v' (n+s.size) (bl (xs++jP s))->w.grownBy w' v.ownBlock->K (a.put o.dst v') w'):if Region.wanted o (yielded ops a.tmps)=true then Oper.wp P o a w K Q else E:=by
 have hw:Region.wanted o (yielded ops a.tmps)=true:=by simp[Region.wanted,hgd]
 rw[if_pos hw];obtain ⟨v',w',hr,h2,h3,h4⟩:=Lib.run_append_own_string (P:=P) w W.heap.size t u o.type e i ht hu hi hz hsize hby v n (bl xs) hown.own s h63 hbytes hown.nx.size;unfold Oper.wp execOp;simp only[ho,resolve,invoke,builtin,Sem.run_bind,Sem.run_pure,Result.andThen_ok,List.map_toArray,List.map_cons,List.map_nil,hs,hx,hr];exact h v' w' ⟨by rw[show bl (xs++jP s)=bl xs++bl (jP s) by simp[bl],←z3j];exact h2,hown.nx.grown h3 fun k hk hlt=>by have:=hown.lt k hk;omega⟩ h3
def PV.e (x:PV):PostE:=⟨x.text,x.gs.map Int.toNat⟩
structure PV.fit (w:World) (D:Nat->Prop) (x:PV):Prop where
 rd:Rd w D 1 x.A x.gs.length (ints x.gs)
 tx:x.text.size<=1024
 gn:x.gs.length<=2048
 gi:∀g∈x.gs,0<=g/\g<=1000000
def aW.fit (s:aW):Prop:=(0<=s.place/\s.place<4611686018427387904)/\(0<=s.size/\s.size<4611686018427387904)/\(0<=s.rows/\s.rows<4611686018427387904)/\(0<=s.lo/\s.lo<4611686018427387904)/\(0<=s.hi/\s.hi<4611686018427387904)
theorem z2M {α:Type} (f:α->List Nat) {l:List α} {k:Nat} (h:k<l.length):(l.drop k).flatMap f=f l[k]++(l.drop (k+1)).flatMap f:=by
 rw[List.drop_eq_getElem_cons h,List.flatMap_cons]
def Sv (w w':World):Prop:=∀b t cs,t≠5->aG w b t cs->aG w' b t cs
theorem aF.Xr {W w w':World} {v v':Value} {n:Nat} {xs:List Value} (o:aF W w 5 1 v n xs) (m:Moved w w' v v'):Sv w w':=fun b t cs ht h=>h.ch m.ch (fun e=>z07 o.own h (Ne.symm ht) e)
def UOut (W w:World) (T rest:List Nat) (e:Ending) (w':World):Prop:=∃v',e=.returned v'/\b_ W w' v' T rest/\Sv w w'
theorem Np {W w:World} {v:Value} {T rest:List Nat} {z:Nat} (h:b_ W w v T (aB z++rest)) (hz:z<9223372036854775808) (hT:T.length<=100000000):
 Calls Tryz.prog 135 #[v,.int .i64 (z:Int)] w (UOut W w T rest):=by
 obtain ⟨X,o,e⟩:=h;refine (UM o hz (by rw[←e]at hT;simp only[List.length_append]at hT;omega)).mono ?_;rintro e2 w' ⟨v',rfl,o',m⟩;exact ⟨v',rfl,⟨_,o',by rw[←e];simp⟩,o.Xr m⟩
theorem Tv {α:Type} {f:α->List Nat} {l:List α} (h:∀x∈l,okB (f x)):okB (l.flatMap f):=fun y hy=>by
 obtain ⟨x,hx,hy⟩:=List.mem_flatMap.1 hy;exact h x hx y hy
theorem Uj {w:World} {D:Nat->Prop} {ss:List aW} {ps:List PV} (hf:∀s∈ss,s.fit) (hk:∀x∈ps,x.fit w D) (h1:ss.length<=2048) (h2:ps.length<=2048):okB (iV ss (ps.map PV.e)):=by
 unfold iV;refine iF (iF (iF (iG (by omega)) (Tv fun s hs=>?_)) (iG (by rw[List.length_map];omega))) (Tv fun x hx=>?_)
 ·obtain ⟨a,b,c,d,e⟩:=hf s hs
  unfold iI;exact iF (iF (iF (iF (iG (by omega)) (iG (by omega))) (iG (by omega))) (iG (by omega))) (iG (by omega))
 ·obtain ⟨y,hy,rfl⟩:=List.mem_map.1 hx
  have hy:=hk y hy;have a:=hy.tx;have b:=hy.gn;unfold fE PV.e;refine iF (iF (iF (iG (by simp only;omega)) (sK _)) (iG (by simp only[List.length_map];omega))) (Tv fun g hg=>?_);obtain ⟨z,hz,rfl⟩:=List.mem_map.1 hg;have:=hy.gi z hz;exact iG (by omega)
theorem Ie {w:World} {D:Nat->Prop} {As Ap:Option Addr} {cs cp:Nat} {ss:List aW} {ps:List PV} (hs:Rd w D 5 As ss.length (spl ss)) (hp:Rd w D 2 Ap ps.length (qJ ps)) (hk:∀x∈ps,x.fit w D) (hf:∀s∈ss,s.fit) (h1:ss.length<=2048) (h2:ps.length<=2048) (hT:(iV ss (ps.map PV.e)).length<=100000000):
 Calls Tryz.prog 98 #[.agg #[.slice As ss.length cs,.slice Ap ps.length cp]] w (pX w 5 1 ((iV ss (ps.map PV.e)).length+4) (bl (iJ (iV ss (ps.map PV.e))))):=by
 obtain ⟨i0,hi0,hz0,hz1,hz2⟩:=info_parts Tryz.info5;have HT:=ah hT;have HS:=ah (fun w' (c':Nx w w')=>hs.nx (w':=w') (by decide) c');have HP:=ah (fun w' (c':Nx w w')=>hp.nx (w':=w') (by decide) c');have HF:=ah hf;have HK:=ah hk;have NM:=ah (Uj hf hk h1 h2);have HE:Hid (iV ss (ps.map PV.e)=[]++(aB ss.length++(ss.flatMap iI++(aB ps.length++ps.flatMap fun x=>fE x.e)))):=ah (by unfold iV;simp[List.flatMap_map]);clear hs hp hf hk hT;generalize iV ss (ps.map PV.e)=T at *;have B0:=ah (aG.new w 184 #[.slice As ss.length cs,.slice Ap ps.length cp]);have n0:Nx w (w.alloc (.cells #[.slice As ss.length cs,.slice Ap ps.length cp] 184)):=(Ch.refl _ w).alloc _;have O0:Hid (b_ w (w.alloc (.cells #[.slice As ss.length cs,.slice Ap ps.length cp] 184)) (.slice none 0 0) T (aB ss.length++(ss.flatMap iI++(aB ps.length++ps.flatMap fun x=>fE x.e)))):=ah ⟨[],aF.nil w _ _ 1 n0,HE.out.symm⟩;clear n0 HE;go_enter Tryz.func98,Tryz.ntmps98;go_wp2_with fail;refine (Np O0.out (by omega) HT.out).mono ?_;rintro e w2 ⟨v2,rfl,o2,kk2⟩;have B2:=ah (kk2 _ _ _ (by decide) B0.out);have c0:w2.cell? ⟨w.heap.size,0,none⟩=some (.slice As ss.length cs):=B2.out.cell 0;have c1:w2.cell? ⟨w.heap.size,1,none⟩=some (.slice Ap ps.length cp):=B2.out.cell 1;have O2:=ah o2;clear o2 kk2 O0 B0;go_wp2_with fail;clear c0 c1;go_loopw [3,17] (fun v i wr=>∃k:Nat,k<=ss.length/\i=.int .i64 (k:Int)/\Hid (b_ w wr v T ((ss.drop k).flatMap iI++(aB ps.length++ps.flatMap fun x=>fE x.e)))/\Hid (aG wr w.heap.size 184 #[.slice As ss.length cs,.slice Ap ps.length cp])) (fun _ i _=>ss.length-(intOf i).toNat)
 case atStart=>exact ⟨0,Nat.zero_le _,rfl,O2,B2⟩
 case round=>
  clear O2 B2;obtain ⟨w4,rfl⟩:∃w4:World,w4=wr:=⟨_,rfl⟩;obtain ⟨k,hkn,rfl,HO,IB0⟩:=hrel;by_cases hlt:k<ss.length
  ·obtain ⟨X0,oX, -⟩:=HO.out
   have N4:=ah oX.nx;clear oX;obtain ⟨ad,rfl, -,p0,p1,p2,p3,p4⟩:=OA (HS.out w4 N4.out) hlt;have HD:=ah (z2M iI hlt);have hfit:=HF.out _ (List.getElem_mem hlt);generalize ss[k]=sp at *;obtain ⟨pl,sz,ro,lo,hi⟩:=sp;obtain ⟨⟨a0,b0⟩,⟨a1,b1⟩,⟨a2,b2⟩,⟨a3,b3⟩,⟨a4,b4⟩⟩:=hfit;simp only at p0 p1 p2 p3 p4 a0 a1 a2 a3 a4 b0 b1 b2 b3 b4;obtain ⟨z0,rfl⟩:=Int.eq_ofNat_of_zero_le a0;obtain ⟨z1,rfl⟩:=Int.eq_ofNat_of_zero_le a1;obtain ⟨z2,rfl⟩:=Int.eq_ofNat_of_zero_le a2;obtain ⟨z3,rfl⟩:=Int.eq_ofNat_of_zero_le a3;obtain ⟨z4,rfl⟩:=Int.eq_ofNat_of_zero_le a4
   have O5:Hid (b_ w (w4.alloc (.cells #[.int .i64 (z0:Int),.int .i64 (z1:Int),.int .i64 (z2:Int),.int .i64 (z3:Int),.int .i64 (z4:Int)] 191)).drew u3 T (aB z0++(aB z1++(aB z2++(aB z3++(aB z4++((ss.drop (k+1)).flatMap iI++(aB ps.length++ps.flatMap fun x=>fE x.e)))))))):=ah (by
    obtain ⟨X,o,e⟩:=HO.out;refine ⟨X,o.tr (((Ch.refl _ _).alloc _).drew),?_⟩;rw[←e,HD.out];simp[iI])
   have B5:=ah ((aG.new w4 191 #[.int .i64 (z0:Int),.int .i64 (z1:Int),.int .i64 (z2:Int),.int .i64 (z3:Int),.int .i64 (z4:Int)]).drew);have IB5:=ah ((IB0.out.alloc (.cells #[.int .i64 (z0:Int),.int .i64 (z1:Int),.int .i64 (z2:Int),.int .i64 (z3:Int),.int .i64 (z4:Int)] 191)).drew);go_wp2_with fail;clear p0 p1 p2 p3 p4 HO IB0 HD a0 a1 a2 a3 a4;refine sD (fun w'=>w'.cell? ⟨w4.heap.size,0,none⟩=some (.int .i64 (z0:Int))/\w'.cell? ⟨w4.heap.size,1,none⟩=some (.int .i64 (z1:Int))/\w'.cell? ⟨w4.heap.size,2,none⟩=some (.int .i64 (z2:Int))/\w'.cell? ⟨w4.heap.size,3,none⟩=some (.int .i64 (z3:Int))/\w'.cell? ⟨w4.heap.size,4,none⟩=some (.int .i64 (z4:Int))) (fun _=>false) rfl ⟨B5.out.cell 0,B5.out.cell 1,B5.out.cell 2,B5.out.cell 3,B5.out.cell 4⟩ (fun hS0=>?_)
   try simp only[Act.put,aA,au,ay]
   refine z00 (i:=0) (oi:=_) (v:=?_) rfl (fun _ _ _ h=>h) (Or.inl ⟨by rfl,?_⟩) ?_;rotate_left
   ·(intro w hSw;(try dsimp only at hSw);go_split_ands;go_simp;try with_reducible rfl)
   try simp only[Act.put,List.setIfInBounds_toArray]
   refine z00 (i:=1) (oi:=_) (v:=?_) rfl (fun _ _ _ h=>h) (Or.inl ⟨by rfl,?_⟩) ?_;rotate_left
   ·(intro w hSw;(try dsimp only at hSw);go_split_ands;go_simp;try with_reducible rfl)
   try simp only[Act.put]
   refine z00 (i:=2) (oi:=_) (v:=?_) rfl (fun _ _ _ h=>h) (Or.inl ⟨by rfl,?_⟩) ?_;rotate_left
   ·(intro w hSw;(try dsimp only at hSw);go_split_ands;go_simp;try with_reducible rfl)
   try simp only[Act.put]
   refine z00 (i:=4) (oi:=_) (v:=?_) rfl (fun _ _ _ h=>h) (Or.inl ⟨by rfl,?_⟩) ?_;rotate_left
   ·(intro w hSw;(try dsimp only at hSw);go_split_ands;go_simp;try with_reducible rfl)
   try simp only[Act.put]
   refine z00 (i:=5) (oi:=_) (v:=?_) rfl (fun _ _ _ h=>h) (Or.inl ⟨by rfl,?_⟩) ?_;rotate_left
   ·(intro w hSw;(try dsimp only at hSw);go_split_ands;go_simp;try with_reducible rfl)
   try simp only[Act.put]
   refine z00 (i:=7) (oi:=_) (v:=?_) rfl (fun _ _ _ h=>h) (Or.inl ⟨by rfl,?_⟩) ?_;rotate_left
   ·(intro w hSw;(try dsimp only at hSw);go_split_ands;go_simp;try with_reducible rfl)
   try simp only[Act.put]
   refine z00 (i:=8) (oi:=_) (v:=?_) rfl (fun _ _ _ h=>h) (Or.inl ⟨by rfl,?_⟩) ?_;rotate_left
   ·(intro w hSw;(try dsimp only at hSw);go_split_ands;go_simp;try with_reducible rfl)
   try simp only[Act.put]
   refine z00 (i:=10) (oi:=_) (v:=?_) rfl (fun _ _ _ h=>h) (Or.inl ⟨by rfl,?_⟩) ?_;rotate_left
   ·(intro w hSw;(try dsimp only at hSw);go_split_ands;go_simp;try with_reducible rfl)
   try simp only[Act.put]
   refine z00 (i:=11) (oi:=_) (v:=?_) rfl (fun _ _ _ h=>h) (Or.inl ⟨by rfl,?_⟩) ?_;rotate_left
   ·(intro w hSw;(try dsimp only at hSw);go_split_ands;go_simp;try with_reducible rfl)
   try simp only[Act.put]
   refine z00 (i:=13) (oi:=_) (v:=?_) rfl (fun _ _ _ h=>h) (Or.inl ⟨by rfl,?_⟩) ?_;rotate_left
   ·(intro w hSw;(try dsimp only at hSw);go_split_ands;go_simp;try with_reducible rfl)
   try simp only[Act.put]
   refine z00 (i:=14) (oi:=_) (v:=?_) rfl (fun _ _ _ h=>h) (Or.inl ⟨by rfl,?_⟩) ?_;rotate_left
   ·(intro w hSw;(try dsimp only at hSw);go_split_ands;go_simp;try with_reducible rfl)
   try simp only[Act.put]
   refine z02 (rs:=[3]) (by kernel_rfl) (by simp) (z01.cons (o:=_) rfl (fun K hK=>?_) z01.nil);go_simp;refine (Np O5.out (by omega) HT.out).mono ?_;rintro e w6 ⟨v6,rfl,o,kk⟩;have O6:=ah o;have B6:=ah (kk _ _ _ (by decide) B5.out);have IB6:=ah (kk _ _ _ (by decide) IB5.out);clear o kk;refine hK.out _ _ (fun _=>⟨B6.out.cell 0,B6.out.cell 1,B6.out.cell 2,B6.out.cell 3,B6.out.cell 4⟩) (fun aj=>?_);have hHeld:=aj (by decide);clear hK K aj
   try simp only[Act.put,aA,au,ay]
   refine z02 (rs:=[6]) (by kernel_rfl) (by simp) (z01.cons (o:=_) rfl (fun K hK=>?_) z01.nil);go_simp;refine (Np O6.out (by omega) HT.out).mono ?_;rintro e w7 ⟨v7,rfl,o,kk⟩;have O7:=ah o;have B7:=ah (kk _ _ _ (by decide) B6.out);have IB7:=ah (kk _ _ _ (by decide) IB6.out);clear o kk;refine hK.out _ _ (fun _=>⟨B7.out.cell 0,B7.out.cell 1,B7.out.cell 2,B7.out.cell 3,B7.out.cell 4⟩) (fun aj=>?_);have hHeld:=aj (by decide);clear hK K aj
   try simp only[Act.put,aA,au,ay]
   refine z02 (rs:=[9]) (by kernel_rfl) (by simp) (z01.cons (o:=_) rfl (fun K hK=>?_) z01.nil);go_simp;refine (Np O7.out (by omega) HT.out).mono ?_;rintro e w8 ⟨v8,rfl,o,kk⟩;have O8:=ah o;have B8:=ah (kk _ _ _ (by decide) B7.out);have IB8:=ah (kk _ _ _ (by decide) IB7.out);clear o kk;refine hK.out _ _ (fun _=>⟨B8.out.cell 0,B8.out.cell 1,B8.out.cell 2,B8.out.cell 3,B8.out.cell 4⟩) (fun aj=>?_);have hHeld:=aj (by decide);clear hK K aj
   try simp only[Act.put,aA,au,ay]
   refine z02 (rs:=[12]) (by kernel_rfl) (by simp) (z01.cons (o:=_) rfl (fun K hK=>?_) z01.nil);go_simp;refine (Np O8.out (by omega) HT.out).mono ?_;rintro e w9 ⟨v9,rfl,o,kk⟩;have O9:=ah o;have B9:=ah (kk _ _ _ (by decide) B8.out);have IB9:=ah (kk _ _ _ (by decide) IB8.out);clear o kk;refine hK.out _ _ (fun _=>⟨B9.out.cell 0,B9.out.cell 1,B9.out.cell 2,B9.out.cell 3,B9.out.cell 4⟩) (fun aj=>?_);have hHeld:=aj (by decide);clear hK K aj
   try simp only[Act.put,aA,au,ay]
   refine z02 (rs:=[15]) (by kernel_rfl) (by simp) (z01.cons (o:=_) rfl (fun K hK=>?_) z01.nil);go_simp;refine (Np O9.out (by omega) HT.out).mono ?_;rintro e w10 ⟨v10,rfl,o,kk⟩;have O10:=ah o;have B10:=ah (kk _ _ _ (by decide) B9.out);have IB10:=ah (kk _ _ _ (by decide) IB9.out);clear o kk;refine hK.out _ _ (fun _=>⟨B10.out.cell 0,B10.out.cell 1,B10.out.cell 2,B10.out.cell 3,B10.out.cell 4⟩) (fun aj=>?_);have hHeld:=aj (by decide);clear hK K aj
   try simp only[Act.put,aA,au,ay]
   refine z00 (i:=16) (oi:=_) (v:=?_) rfl (fun _ _ _ h=>h) (Or.inl ⟨by rfl,?_⟩) ?_;rotate_left
   ·(intro w hSw;(try dsimp only at hSw);go_split_ands;go_simp;try with_reducible rfl)
   try simp only[Act.put,List.setIfInBounds_toArray]
   refine kE (by kernel_rfl) ?_ _;go_wp2_with fail;go_roundw
   case rel=>exact ⟨k+1,by omega,by go_num,O10,IB10⟩
   case measure=>simp[intOf];omega
  ·have hkk:k=ss.length:=by omega
   have O3:Hid (b_ w w4 u3 T (aB ps.length++ps.flatMap fun x=>fE x.e)):=ah (by have:=HO.out;rw[hkk,List.drop_length]at this;exact this);have c0:w4.cell? ⟨w.heap.size,1,none⟩=some (.slice Ap ps.length cp):=IB0.out.cell 1;clear hkk HO;go_wp2_with fail;refine (Np O3.out (by omega) HT.out).mono ?_;rintro e w5 ⟨v5,rfl,o5,kk5⟩;have B5:=ah (kk5 _ _ _ (by decide) IB0.out);have c1:w5.cell? ⟨w.heap.size,1,none⟩=some (.slice Ap ps.length cp):=B5.out.cell 1;have O5:=ah o5;clear o5 kk5 O3 c0 IB0;go_wp2_with fail;clear c1;go_loopw [3,46] (fun v i wr=>∃k:Nat,k<=ps.length/\i=.int .i64 (k:Int)/\Hid (b_ w wr v T ((ps.drop k).flatMap fun x=>fE x.e))) (fun _ i _=>ps.length-(intOf i).toNat)
   case atStart=>exact ⟨0,Nat.zero_le _,rfl,O5⟩
   case round=>
    clear O5 B5;obtain ⟨w4,rfl⟩:∃w4:World,w4=wr:=⟨_,rfl⟩;obtain ⟨k,hkn,rfl,HO⟩:=hrel;by_cases hlt:k<ps.length
    ·obtain ⟨X0,oX, -⟩:=HO.out
     have N4:=ah oX.nx;clear oX;obtain ⟨ad,rfl, -,p0,p1⟩:=post_at (HP.out w4 N4.out) hlt;have HD:=ah (z2M (fun x:PV=>fE x.e) hlt);have hfit:=HK.out _ (List.getElem_mem hlt);generalize ps[k]=x at *;obtain ⟨text,gs,A,c⟩:=x;obtain ⟨f1,f2,f3,f4⟩:=hfit;simp only at p0 p1 f1 f2 f3 f4;have F1:=ah f1;have F4:=ah f4
     have O5:Hid (b_ w (w4.alloc (.cells #[.string text,.slice A gs.length c] 197)).drew u3 T (aB text.size++(jP text++(aB gs.length++((gs.flatMap fun g=>aB g.toNat)++((ps.drop (k+1)).flatMap fun x=>fE x.e)))))):=ah (by
      obtain ⟨X,o,e⟩:=HO.out;refine ⟨X,o.tr (((Ch.refl _ _).alloc _).drew),?_⟩;rw[←e,HD.out];simp[fE,PV.e,List.flatMap_map])
     have B5:=ah ((aG.new w4 197 #[.string text,.slice A gs.length c]).drew);go_wp2_with fail;clear p0 p1 HO HD f1 f4;refine sD (fun w'=>w'.cell? ⟨w4.heap.size,0,none⟩=some (.string text)/\w'.cell? ⟨w4.heap.size,1,none⟩=some (.slice A gs.length c)) (fun _=>false) rfl ⟨B5.out.cell 0,B5.out.cell 1⟩ (fun hS0=>?_)
     try simp only[Act.put,aA,au,ay]
     refine z00 (i:=0) (oi:=_) (v:=?_) rfl (fun _ _ _ h=>h) (Or.inl ⟨by rfl,?_⟩) ?_;rotate_left
     ·(intro w hSw;(try dsimp only at hSw);go_split_ands;go_simp;try with_reducible rfl)
     try simp only[Act.put,List.setIfInBounds_toArray]
     refine z00 (i:=1) (oi:=_) (v:=?_) rfl (fun _ _ _ h=>h) (Or.inl ⟨by rfl,?_⟩) ?_;rotate_left
     ·(intro w hSw;(try dsimp only at hSw);go_split_ands;go_simp;try with_reducible rfl)
     try simp only[Act.put]
     refine z00 (i:=2) (oi:=_) (v:=?_) rfl (fun _ _ _ h=>h) (Or.inl ⟨by rfl,?_⟩) ?_;rotate_left
     ·(intro w hSw;(try dsimp only at hSw);go_split_ands;go_simp;try with_reducible rfl)
     try simp only[Act.put]
     refine z00 (i:=3) (oi:=_) (v:=?_) rfl (fun _ _ _ h=>h) (Or.inl ⟨by rfl,?_⟩) ?_;rotate_left
     ·(intro w hSw;(try dsimp only at hSw);go_split_ands;go_simp;try with_reducible rfl)
     try simp only[Act.put]
     refine z00 (i:=5) (oi:=_) (v:=?_) rfl (fun _ _ _ h=>h) (Or.inl ⟨by rfl,?_⟩) ?_;rotate_left
     ·(intro w hSw;(try dsimp only at hSw);go_split_ands;go_simp;try with_reducible rfl)
     try simp only[Act.put]
     refine z00 (i:=6) (oi:=_) (v:=?_) rfl (fun _ _ _ h=>h) (Or.inl ⟨by rfl,?_⟩) ?_;rotate_left
     ·(intro w hSw;(try dsimp only at hSw);go_split_ands;go_simp;try with_reducible rfl)
     try simp only[Act.put]
     refine z02 (rs:=[4]) (by kernel_rfl) (by simp) (z01.cons (o:=_) rfl (fun K hK=>?_) z01.nil);go_simp;refine (Np O5.out (by omega) HT.out).mono ?_;rintro e w6 ⟨v6,rfl,o,kk⟩;have O6:=ah o;have B6:=ah (kk _ _ _ (by decide) B5.out);clear o kk;refine hK.out _ _ (fun _=>⟨B6.out.cell 0,B6.out.cell 1⟩) (fun aj=>?_);have hHeld:=aj (by decide);clear hK K aj
     try simp only[Act.put,aA,au,ay]
     obtain ⟨X6,ox6,ex6⟩:=O6.out;have OX6:=ah ox6;have hl6:X6.length<=100000000:=by have:=HT.out;rw[←ex6,List.length_append]at this;omega
     have EX6:=ah ex6;clear ox6 ex6;refine z02 (rs:=[7]) (by kernel_rfl) (by simp) (z01.cons (o:=_) rfl (fun K hK=>?_) z01.nil);refine qy rfl (.tmp 54) (.tmp 56) _ _ rfl 5 i0 Tryz.underlying47 Tryz.underlying9 hi0 hz0 hz1 hz2 rfl OX6.out text rfl (by simp only[maxLen];omega) (by omega) ?_;intro v7 w7 o7 gr7;have O7:Hid (b_ w w7 v7 T (aB gs.length++((gs.flatMap fun g=>aB g.toNat)++((ps.drop (k+1)).flatMap fun x=>fE x.e)))):=ah ⟨X6++jP text,by rw[List.length_append,Ob];exact o7,by rw[←EX6.out];simp⟩;have B7:=ah (B6.out.ch ((Ch.refl (fun k=>v6.ownBlock=some k) w6).grown gr7 fun k hk _=>hk) (fun e=>z07 OX6.out.own B6.out (by decide) e));clear o7 gr7;refine hK.out _ _ (fun _=>⟨B7.out.cell 0,B7.out.cell 1⟩) (fun aj=>?_);have hHeld:=aj (by decide);clear hK K aj
     try simp only[Act.put,List.setIfInBounds_toArray]
     refine z00 (i:=8) (oi:=_) (v:=?_) rfl (fun _ _ _ h=>h) (Or.inl ⟨by rfl,?_⟩) ?_;rotate_left
     ·(intro w hSw;(try dsimp only at hSw);go_split_ands;go_simp;try with_reducible rfl)
     try simp only[Act.put]
     refine kE (by kernel_rfl) ?_ _;have c7:w7.cell? ⟨w4.heap.size,1,none⟩=some (.slice A gs.length c):=B7.out.cell 1;go_wp2_with fail;refine (Np O7.out (by omega) HT.out).mono ?_;rintro e w8 ⟨v8,rfl,o8,kk8⟩;have O8:=ah o8;have B8:=ah (kk8 _ _ _ (by decide) B7.out);have c8:w8.cell? ⟨w4.heap.size,1,none⟩=some (.slice A gs.length c):=B8.out.cell 1;clear o8 kk8 c7 B7 O7 O6 OX6 EX6 B6 O5 B5;go_wp2_with fail;clear c8 B8;go_loopw [3,66] (fun v i wr=>∃j:Nat,j<=gs.length/\i=.int .i64 (j:Int)/\Hid (b_ w wr v T (((gs.drop j).flatMap fun g=>aB g.toNat)++((ps.drop (k+1)).flatMap fun x=>fE x.e)))) (fun _ i _=>gs.length-(intOf i).toNat)
     case atStart=>exact ⟨0,Nat.zero_le _,rfl,O8⟩
     case round=>
      clear O8;obtain ⟨w9,rfl⟩:∃w9:World,w9=wr:=⟨_,rfl⟩;obtain ⟨j,hjn,rfl,HO⟩:=hrel;by_cases hlj:j<gs.length
      ·obtain ⟨X0,oX, -⟩:=HO.out
       obtain ⟨ad2,u,rfl, -,hu,hcg⟩:=(F1.out.nx (by decide) oX.nx).at_ hlj;clear oX;have hg:=F4.out _ (List.getElem_mem hlj);have HD:=ah (z2M (fun g:Int=>aB g.toNat) hlj);rw[show (ints gs)[j]?=some (.int .i64 gs[j]) by simp[ints,hlj]]at hu;injection hu with hu;subst hu;generalize gs[j]=g at *;obtain ⟨z,rfl⟩:=Int.eq_ofNat_of_zero_le hg.1;have hz:z<9223372036854775808:=by have:=hg.2;omega
       have O9:Hid (b_ w w9 u3 T (aB z++(((gs.drop (j+1)).flatMap fun g=>aB g.toNat)++((ps.drop (k+1)).flatMap fun x=>fE x.e)))):=ah (by have:=HO.out;rw[HD.out]at this;simpa using this);clear HO HD hg;go_wp2_with fail;refine (Np O9.out hz HT.out).mono ?_;rintro e w10 ⟨v10,rfl,o10, -⟩;have O10:=ah o10;clear o10 hcg;go_wp2_with fail;go_roundw
       case rel=>exact ⟨j+1,by omega,by go_num,O10⟩
       case measure=>simp[intOf];omega
      ·have hjj:j=gs.length:=by omega
       have O9:Hid (b_ w w9 u3 T ((ps.drop (k+1)).flatMap fun x=>fE x.e)):=ah (by have:=HO.out;rw[hjj,List.drop_length]at this;exact this);clear hjj HO;go_wp2_with fail;go_roundw
       case rel=>exact ⟨k+1,by omega,by go_num,O9⟩
       case measure=>simp[intOf];omega
    ·have hkk:k=ps.length:=by omega
     obtain ⟨X,oX,eX⟩:=HO.out;rw[hkk,List.drop_length,List.flatMap_nil,List.append_nil]at eX;have hXl:X.length<=100000000:=by rw[eX];exact HT.out
     have okX:okB X:=by rw[eX];exact NM.out
     obtain ⟨A9,c9,rfl, -, -⟩:=oX.form;have HSL:=ah (yc _ A9 X.length c9 X w4 oX.rd (fun j hj=>hj.2.2) okX rfl (by omega));have OX:=ah oX;have EX:=ah eX;clear hkk oX eX okX HO;go_wp2_with fail;refine HSL.out.mono ?_;rintro e w9 ⟨k9,yF,rfl,o9,q1,q2,q3,q4⟩;have O9:=ah o9;clear o9;go_wp2_with fail;go_ret;have hsz:=OX.out.nx.size;rw[←EX.out];exact ⟨k9,yF,rfl,⟨su O9.out.own hsz,OX.out.nx.tr O9.out.nx⟩,by omega,q2,q3,q4⟩
section
variable {w : World} {D : Nat → Prop}
theorem FH (b:dF) (h:b.ok w D) (hn:b.l.length<=1000000) (hf:∀x∈b.l,x.row.ak.length<=4398046511104):
 Calls Tryz.prog 12 #[oG b] w (CQ (b.l.map fun x=>x.row) w):=by
 obtain ⟨i0,hi0,hz0,hz1,hz2⟩:=info_parts Tryz.fZ;have H:=ah h.rd;have HK:=ah (fun x hx=>(⟨h.ok x hx,hf x hx⟩:x.ok w D/\x.row.ak.length<=4398046511104));have Vm:=ah h.named;obtain ⟨mk,sq,A,c,l⟩:=b;unfold oG;unfold dF.named at Vm;simp only at H HK Vm hn ⊢;obtain ⟨n,hl⟩:∃n,l.length=n:=⟨_,rfl⟩;rw[hl]at H hn ⊢;have HB:=ah (aG.new w 37 #[.int .i64 mk,.int .i64 sq,.slice A n c]);have HN:=ah ((Ch.refl (fun _=>False) w).alloc (.cells #[.int .i64 mk,.int .i64 sq,.slice A n c] 37));have Hl:=ah hl;clear hl h hf;go_enter Tryz.func12,Tryz.ntmps12;go_wp2_with fail;have iw:=ah (fun w' (c':Nx (w.alloc (.cells #[.int .i64 mk,.int .i64 sq,.slice A n c] 37)) w')=>HB.out.nx c');obtain ⟨W,hW⟩:∃W,w.alloc (.cells #[.int .i64 mk,.int .i64 sq,.slice A n c] 37)=W:=⟨_,rfl⟩;rw[hW]at HN iw;have hWs:w.heap.size<W.heap.size:=by rw[←hW];simp
 have hWz:W.heap.size=w.heap.size+1:=by rw[←hW];simp
 have HST:=ah (show bZ W (W.alloc (.cells #[] 79)) (.slice (some ⟨w.heap.size+1,0,none⟩) 0 0) [] from ⟨by have:=aF.lit W W 79 (Ch.refl _ _) 9;rw[hWz]at this;exact this,fun z hz=>by cases hz⟩);clear hWz;have HH:=ah (H.out.nx (by decide) HN.out);have HKK:=ah (fun x hx=>(HK.out x hx).1.ch (D':=D) HN.out (fun _ _ _ hf=>hf) (fun _ h=>h));simp only[hW];clear hW HB;go_loopw [3,9] (fun v i wr=>∃(k:Nat) (zs:List RV),k<=n/\i=.int .i64 (k:Int)/\Hid (bZ W wr v zs)/\Hid (zs.map (fun x=>x.row)=(l.take k).map fun x=>x.row)) (fun _ i _=>n-(intOf i).toNat)
 case atStart=>exact ⟨0,[],Nat.zero_le _,rfl,HST,ah rfl⟩
 case round=>
  obtain ⟨w4,rfl⟩:∃w4:World,w4=wr:=⟨_,rfl⟩;obtain ⟨k,zs,hkn,rfl,Hr,Hm⟩:=hrel;obtain ⟨Az,cz,rfl, -, -⟩:=Hr.out.form;have b4:=iw.out _ Hr.out.own.nx;have d0:w4.cell? ⟨w.heap.size,0,none⟩=some (.int .i64 mk):=b4.cell 0;have d1:w4.cell? ⟨w.heap.size,1,none⟩=some (.int .i64 sq):=b4.cell 1;have hlt4:=b4.lt;clear b4;by_cases hlt:k<n
  ·have hkl:k<l.length:=by rw[Hl.out];exact hlt
   obtain ⟨ad,rfl,hb,p0,p1,p2,p3,p4,p5⟩:=tY (HH.out.nx (by decide) Hr.out.own.nx) hkl;have HT:=ah (fun w' (hn:Nx w4 w')=>Fa (kind:=l[k].row.kind) (time:=l[k].row.time) (text:=l[k].row.text) (value:=l[k].row.value) (null:=l[k].row.null) (c1:=l[k].c) (((HKK.out _ (List.getElem_mem hkl)).1.nx (by decide) Hr.out.own.nx).nx (by decide) hn) (HK.out _ (List.getElem_mem hkl)).2);have Hm2:=ah (show (zs.map (fun x=>x.row))++[l[k].row]=(l.take (k+1)).map fun x=>x.row by rw[Hm.out,List.take_succ_eq_append_getElem hkl,List.map_append];rfl);have hnm:=Vm.out k hkl;clear hb;generalize l[k]=x at *;obtain ⟨⟨kind,time,ak,text,value,null,maker,seq,place⟩,A1,c1⟩:=x;simp only at p0 p1 p2 p3 p4 p5 HT Hm2 hnm;obtain ⟨h1,h2,h3⟩:=hnm;rw[h1,h2,h3]at Hm2;clear h1 h2 h3
   have hzl:zs.length<=1000000:=by
    have:=congrArg List.length Hm.out;simp at this;omega
   obtain ⟨g,hg⟩:∃g,w.heap.size=g:=⟨_,rfl⟩;rw[hg]at d0 d1 hlt4;have IV:=ah (fun w' (c':Nx w4 w')=>(⟨by have:=(iw.out _ (Hr.out.own.nx.tr c')).cell 0;rw[hg]at this;exact this,by have:=(iw.out _ (Hr.out.own.nx.tr c')).cell 1;rw[hg]at this;exact this,by have:=(iw.out _ (Hr.out.own.nx.tr c')).cell 2;rw[hg]at this;exact this,by rw[c'.cell (World.block_lt_of_cell? w4 _ p0)];exact p0,by rw[c'.cell (World.block_lt_of_cell? w4 _ p1)];exact p1,by rw[c'.cell (World.block_lt_of_cell? w4 _ p2)];exact p2,by rw[c'.cell (World.block_lt_of_cell? w4 _ p3)];exact p3,by rw[c'.cell (World.block_lt_of_cell? w4 _ p4)];exact p4,by rw[c'.cell (World.block_lt_of_cell? w4 _ p5)];exact p5⟩:w'.cell? ⟨g,0,none⟩=some (.int .i64 mk)/\w'.cell? ⟨g,1,none⟩=some (.int .i64 sq)/\w'.cell? ⟨g,2,none⟩=some (.slice (some ad) n c)/\w'.cell? (ad.add (k * 6))=some (.int .i64 kind)/\w'.cell? ⟨(ad.add (k * 6)).block,(ad.add (k * 6)).off+1,none⟩=some (.int .i64 time)/\w'.cell? ⟨(ad.add (k * 6)).block,(ad.add (k * 6)).off+2,none⟩=some (.slice A1 ak.length c1)/\w'.cell? ⟨(ad.add (k * 6)).block,(ad.add (k * 6)).off+3,none⟩=some (.string text)/\w'.cell? ⟨(ad.add (k * 6)).block,(ad.add (k * 6)).off+4,none⟩=some (.int .i64 value)/\w'.cell? ⟨(ad.add (k * 6)).block,(ad.add (k * 6)).off+5,none⟩=some (.bool null)));simp only[hg];have HG:=ah hg;clear hg p0 p1 p2 p3 p4 p5 d0 d1;go_wp2_with fail;refine sD (fun w'=>w'.cell? ⟨g,0,none⟩=some (.int .i64 mk)/\w'.cell? ⟨g,1,none⟩=some (.int .i64 sq)/\w'.cell? ⟨g,2,none⟩=some (.slice (some ad) n c)/\w'.cell? (ad.add (k * 6))=some (.int .i64 kind)/\w'.cell? ⟨(ad.add (k * 6)).block,(ad.add (k * 6)).off+1,none⟩=some (.int .i64 time)/\w'.cell? ⟨(ad.add (k * 6)).block,(ad.add (k * 6)).off+2,none⟩=some (.slice A1 ak.length c1)/\w'.cell? ⟨(ad.add (k * 6)).block,(ad.add (k * 6)).off+3,none⟩=some (.string text)/\w'.cell? ⟨(ad.add (k * 6)).block,(ad.add (k * 6)).off+4,none⟩=some (.int .i64 value)/\w'.cell? ⟨(ad.add (k * 6)).block,(ad.add (k * 6)).off+5,none⟩=some (.bool null)) (fun i=>decide (14<=i)) rfl (IV.out w4.drew (Ch.refl _ w4).drew) (fun hS0=>?_)
   try simp only[Act.put,aA,au,ay]
   refine z00 (i:=0) (oi:=_) (v:=?_) rfl (fun _ _ _ h=>h) (Or.inl ⟨by rfl,?_⟩) ?_;rotate_left
   ·(intro w hSw;(try dsimp only at hSw);go_split_ands;go_simp;try with_reducible rfl)
   try simp only[Act.put,aA,au,ay]
   refine z00 (i:=1) (oi:=_) (v:=?_) rfl (fun _ _ _ h=>h) (Or.inl ⟨by rfl,?_⟩) ?_;rotate_left
   ·(intro w hSw;(try dsimp only at hSw);go_split_ands;go_simp;try with_reducible rfl)
   try simp only[Act.put,aA,au,ay]
   refine z00 (i:=2) (oi:=_) (v:=?_) rfl (fun _ _ _ h=>h) (Or.inl ⟨by rfl,?_⟩) ?_;rotate_left
   ·(intro w hSw;(try dsimp only at hSw);go_split_ands;go_simp;try with_reducible rfl)
   try simp only[Act.put,aA,au,ay]
   refine z00 (i:=3) (oi:=_) (v:=?_) rfl (fun _ _ _ h=>h) (Or.inl ⟨by rfl,?_⟩) ?_;rotate_left
   ·(intro w hSw;(try dsimp only at hSw);go_split_ands;go_simp;try with_reducible rfl)
   try simp only[Act.put,aA,au,ay]
   refine z00 (i:=4) (oi:=_) (v:=?_) rfl (fun _ _ _ h=>h) (Or.inl ⟨by rfl,?_⟩) ?_;rotate_left
   ·(intro w hSw;(try dsimp only at hSw);go_split_ands;go_simp;try with_reducible rfl)
   try simp only[Act.put,aA,au,ay]
   refine z00 (i:=5) (oi:=_) (v:=?_) rfl (fun _ _ _ h=>h) (Or.inl ⟨by rfl,?_⟩) ?_;rotate_left
   ·(intro w hSw;(try dsimp only at hSw);go_split_ands;go_simp;try with_reducible rfl)
   try simp only[Act.put,aA,au,ay]
   refine z00 (i:=7) (oi:=_) (v:=?_) rfl (fun _ _ _ h=>h) (Or.inl ⟨by rfl,?_⟩) ?_;rotate_left
   ·(intro w hSw;(try dsimp only at hSw);go_split_ands;go_simp;try with_reducible rfl)
   try simp only[Act.put,aA,au,ay]
   refine z00 (i:=8) (oi:=_) (v:=?_) rfl (fun _ _ _ h=>h) (Or.inl ⟨by rfl,?_⟩) ?_;rotate_left
   ·(intro w hSw;(try dsimp only at hSw);go_split_ands;go_simp;try with_reducible rfl)
   try simp only[Act.put,aA,au,ay]
   refine z00 (i:=9) (oi:=_) (v:=?_) rfl (fun _ _ _ h=>h) (Or.inl ⟨by rfl,?_⟩) ?_;rotate_left
   ·(intro w hSw;(try dsimp only at hSw);go_split_ands;go_simp;try with_reducible rfl)
   try simp only[Act.put,aA,au,ay]
   refine z00 (i:=10) (oi:=_) (v:=?_) rfl (fun _ _ _ h=>h) (Or.inl ⟨by rfl,?_⟩) ?_;rotate_left
   ·(intro w hSw;(try dsimp only at hSw);go_split_ands;go_simp;try with_reducible rfl)
   try simp only[Act.put,aA,au,ay]
   refine z00 (i:=11) (oi:=_) (v:=?_) rfl (fun _ _ _ h=>h) (Or.inl ⟨by rfl,?_⟩) ?_;rotate_left
   ·(intro w hSw;(try dsimp only at hSw);go_split_ands;go_simp;try with_reducible rfl)
   try simp only[Act.put,aA,au,ay]
   refine z02 (rs:=[6]) (by kernel_rfl) (by simp) (z01.cons (o:=_) rfl (fun K hK=>?_) z01.nil);go_simp;refine (HT.out _ (Ch.refl _ w4).drew).mono ?_;rintro e w5 ⟨A2,c2,rfl,rd,nx,hc2,hm2⟩;have N5:=ah ((Ch.refl (fun _=>False) w4).drew.tr nx);have HR5:=ah (Hr.out.tr N5.out)
   have HY:=ah (show RV.ok w5 (fun k=>W.heap.size<=k/\k<w5.heap.size/\(Value.slice Az zs.length cz).ownBlock≠some k) ⟨⟨kind,time,ak,text,value,null,mk,sq,(k:Int)⟩,A2,c2⟩ from ⟨rd.more fun k hk=>by
    have h1:=Hr.out.own.nx.size;have h2:w4.heap.size<=k:=hk.1;refine ⟨by omega,hk.2,fun e=>?_⟩;have:=(Hr.out.own.lt k e).2;omega,hc2,hm2⟩)
   have HS:=ah HR5.out.own.nx.size;have HL9:=ah (Rd.wW w5 ⟨⟨kind,time,ak,text,value,null,mk,sq,(k:Int)⟩,A2,c2⟩);clear rd nx HT;simp only at HL9;go_wp2_with fail;refine hK.out _ _ (fun _=>IV.out _ N5.out) (fun aj=>?_);have hHeld:=aj (by decide);clear hK K aj
   try simp only[Act.put,aA,au,ay]
   refine z02 (rs:=[12]) (by kernel_rfl) (by simp) (z01.cons (o:=_) rfl (fun K hK=>?_) z01.nil);go_simp;refine hK.out _ _ (fun _=>IV.out _ N5.out) (fun aj=>?_);have hHeld:=aj (by decide);clear hK K aj
   try simp only[Act.put,aA,au,ay]
   refine z02 (rs:=[13]) (by kernel_rfl) (by simp) (z01.cons (o:=_) rfl (fun K hK=>?_) z01.nil);go_simp;refine hK.out _ _ (fun _=>IV.out _ (N5.out.alloc _)) (fun aj=>?_);have hHeld:=aj (by decide);clear hK K aj
   try simp only[Act.put,aA,au,ay]
   refine z02 (rs:=[14]) (by kernel_rfl) (by simp) (z01.cons (o:=_) rfl (fun K hK=>?_) z01.nil);refine Ns _ rfl (.tmp 12) (.tmp 25) _ rfl W.heap.size 79 i0 _ 9 96 Tryz.underlying34 hi0 hz0 hz1 hz2 rfl (by omega) (.slice Az zs.length cz) zs.length (bM zs) rfl (HR5.out.own.alloc _).own _ (some ⟨w5.heap.size,0,none⟩) 1 1 _ rfl HL9.out (IY _) (by simp only[maxLen];omega) (by omega) (by have:=HS.out;simp;omega) ?_;intro v7 w7 dn gr7 at7;obtain ⟨o7,m7⟩:=Di HR5.out.own ((Ch.refl _ w5).alloc _) dn gr7 at7;have G7:=ah (HR5.out.app (ys:=[_]) o7 m7 (by intro y hy;rw[List.mem_singleton]at hy;subst hy;exact HY.out));clear dn gr7 at7 o7 m7;refine hK.out _ _ (fun h=>absurd h (by decide)) (fun aj=>?_);clear hK K aj
   try simp only[Act.put,aA,au,ay]
   refine z02 (rs:=[15]) (by kernel_rfl) (by simp) (z01.cons (o:=_) rfl (fun K hK=>?_) z01.nil);go_simp;refine hK.out _ _ (fun h=>absurd h (by decide)) (fun aj=>?_);clear hK K aj
   try simp only[Act.put,aA,au,ay]
   refine kE (by kernel_rfl) ?_ _;go_wp2_with fail;go_roundw
   case rel=>exact ⟨k+1,_,by omega,by go_num,G7,ah (by rw[List.map_append];exact Hm2.out)⟩
   case measure=>simp[intOf];omega
  ·have HM:=ah (show zs.map (fun x=>x.row)=l.map fun x=>x.row by rw[Hm.out,List.take_of_length_le (by rw[Hl.out];omega)])
   go_wp2_with fail;go_ret;exact ⟨_,_,rfl,bZ.base HN.out Hr.out,HM.out⟩
end
end Go.Proofs.YtdbfejfhpkakhaaGreat
