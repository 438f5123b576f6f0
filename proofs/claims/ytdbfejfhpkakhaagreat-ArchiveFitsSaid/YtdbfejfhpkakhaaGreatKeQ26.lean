/- Contracts and plain laws that the last text rests on. Conditions: each theorem states its own. -/
import Derived.Test.YtdbfejfhpkakhaaGreatKeQ24
import Derived.Test.YtdbfejfhpkakhaaGreatKeQ17
import Derived.Test.YtdbfejfhpkakhaaGreatKePbMapV
import Derived.Test.YtdbfejfhpkakhaaGreatKeQ25
import Derived.RangeFuncWrites
import Derived.Maps.GroupsBeside
import Derived.ArgAppend
import Derived.Test.YtdbfejfhpkakhaaGreatKeQ15
import Derived.Test.YtdbfejfhpkakhaaGreatKeQ7
import Derived.IntWalk
import Derived.Test.YtdbfejfhpkakhaaGreatKePbOrdR
import Derived.RangeFuncBox
import Derived.RangeFuncLeaves
import Derived.Shelf.Abstract
import Derived.WalkKit
import Derived.OwnWalkIn
import Derived.TacticsInMore
import Derived.LoopNIn
import Derived.LoopIn
import Derived.Deep.RegionHeld3
set_option maxRecDepth 100000
set_option maxHeartbeats 16000000
set_option linter.unusedVariables false
namespace Go.Proofs.YtdbfejfhpkakhaaGreat
open Go.RowKit
def R_ (l:List aC) (w:World) (e:Ending) (w':World):Prop:=∃v zs,e=.returned v/\cO w w' v zs/\zs.map (fun x=>x.row)=l
theorem cO.base {W0 W w:World} {v:Value} {zs:List RV} (n:Nx W0 W) (h:cO W w v zs):cO W0 w v zs:=
 ⟨⟨uw h.own.own n.size,n.tr h.own.nx⟩,fun z hz=>(h.ok z hz).ch (Ch.refl (fun _=>False) w) (fun _ _ _ hf=>hf) fun k ⟨a,b,d⟩=>⟨Nat.le_trans n.size a,b,d⟩⟩
section
variable {w : World} {D : Nat → Prop}
theorem lG (b:eF) (h:b.ok w D) (hn:b.l.length<=1000000) (hf:∀x∈b.l,x.row.ak.length<=4398046511104):
 Calls Tryz.prog 30 #[Dn b] w (R_ (b.l.map fun x=>x.row) w):=by
 obtain ⟨i0,hi0,hz0,hz1,hz2⟩:=info_parts Tryz.iL;have H:=ah h.rd;have HK:=ah (fun x hx=>(⟨h.ok x hx,hf x hx⟩:x.ok w D/\x.row.ak.length<=4398046511104));have HNM:=ah h.named;obtain ⟨mk,sq,A,c,l⟩:=b;unfold Dn;unfold eF.named at HNM;simp only at H HK HNM hn ⊢;obtain ⟨n,hl⟩:∃n,l.length=n:=⟨_,rfl⟩;rw[hl]at H hn ⊢;have HB:=ah (aG.new w 37 #[.int .i64 mk,.int .i64 sq,.slice A n c]);have HN:=ah ((Ch.refl (fun _=>False) w).alloc (.cells #[.int .i64 mk,.int .i64 sq,.slice A n c] 37));have Hl:=ah hl;clear hl h hf;go_enter Tryz.func30,Tryz.ntmps30;go_wp2_with fail;have je:=ah (fun w' (c':Nx (w.alloc (.cells #[.int .i64 mk,.int .i64 sq,.slice A n c] 37)) w')=>HB.out.nx c');obtain ⟨W,hW⟩:∃W,w.alloc (.cells #[.int .i64 mk,.int .i64 sq,.slice A n c] 37)=W:=⟨_,rfl⟩;rw[hW]at HN je;have hWs:w.heap.size<W.heap.size:=by rw[←hW];simp
 have HH:=ah (H.out.nx (by decide) HN.out);have HKK:=ah (fun x hx=>(HK.out x hx).1.ch (D':=D) HN.out (fun _ _ _ hf=>hf) (fun _ h=>h));simp only[hW];clear hW HB;go_loopw [3,9] (fun v i wr=>∃(k:Nat) (zs:List RV),k<=n/\i=.int .i64 (k:Int)/\Hid (cO W wr v zs)/\Hid (zs.map (fun x=>x.row)=(l.take k).map fun x=>x.row)) (fun _ i _=>n-(intOf i).toNat)
 case atStart=>exact ⟨0,[],Nat.zero_le _,rfl,ah (cO.nil W W (Ch.refl _ _)),ah rfl⟩
 case round=>
  obtain ⟨w4,rfl⟩:∃w4:World,w4=wr:=⟨_,rfl⟩;obtain ⟨k,zs,hkn,rfl,Hr,Hm⟩:=hrel;have b4:=je.out _ Hr.out.own.nx;have d0:w4.cell? ⟨w.heap.size,0,none⟩=some (.int .i64 mk):=b4.cell 0;have d1:w4.cell? ⟨w.heap.size,1,none⟩=some (.int .i64 sq):=b4.cell 1;have hlt4:=b4.lt;clear b4;by_cases hlt:k<n
  ·have hkl:k<l.length:=by rw[Hl.out];exact hlt
   obtain ⟨ad,rfl,hb,p0,p1,p2,p3,p4,p5⟩:=zC (HH.out.nx (by decide) Hr.out.own.nx) hkl;have HT:=ah (fun w' (hn:Nx w4 w')=>qx (x:=l[k]) (((HKK.out _ (List.getElem_mem hkl)).ch Hr.out.own.nx (fun _ _ _ hf=>hf) (fun _ h=>h)).ch hn (D':=D) (fun _ _ _ hf=>hf) (fun _ h=>h)) (HK.out _ (List.getElem_mem hkl)).2);unfold aJ at HT;have Hm2:=ah (show (zs.map (fun x=>x.row))++[l[k].row]=(l.take (k+1)).map fun x=>x.row by rw[Hm.out,List.take_succ_eq_append_getElem hkl,List.map_append];rfl);have hnm:=HNM.out k hkl;clear hb;generalize l[k]=x at *;obtain ⟨⟨kind,time,ak,text,value,null,maker,seq,place⟩,A1,c1⟩:=x;simp only at p0 p1 p2 p3 p4 p5 HT Hm2 hnm;obtain ⟨h1,h2,h3⟩:=hnm;rw[h1,h2,h3]at HT Hm2;clear h1 h2 h3
   have hzl:zs.length<=1000000:=by
    have:=congrArg List.length Hm.out;simp at this;omega
   go_wp2_with fail;refine (HT.out _ ((Ch.refl _ w4).alloc _)).mono ?_;rintro e w5 ⟨⟨yr,A2,c2⟩,rfl,hy,hok,nx⟩;simp only at hy;subst hy;have HR5:=ah (Hr.out.tr (((Ch.refl _ w4).alloc _).tr nx))
   have HY:=ah (hok.ch (Ch.refl (fun _=>False) w5) (D':=fun k=>W.heap.size<=k/\k<w5.heap.size/\u3.ownBlock≠some k) (fun _ _ _ hf=>hf) (fun k hk=>by
    have h1:=Hr.out.own.nx.size;have h2:=hk.1;simp at h2;refine ⟨by omega,hk.2,fun e=>?_⟩;have:=(Hr.out.own.lt k e).2;omega))
   have HS:=ah HR5.out.own.nx.size;have HL9:=ah (Rd.IZ w5 ⟨⟨kind,time,ak,text,value,null,mk,sq,(k:Int)⟩,A2,c2⟩);clear hok nx HT p0 p1 p2 p3 p4 p5 d0 d1 hlt4;unfold aJ;simp only at HL9;go_wp2_with (at_builtin;refine z04 _ rfl (.tmp 14) (.tmp 23) _ rfl W.heap.size 79 i0 _ 9 96 Tryz.underlying34 hi0 hz0 hz1 hz2 rfl (by omega) u3 zs.length (dI zs) rfl (HR5.out.own.alloc _).own _ (some ⟨w5.heap.size,0,none⟩) 1 1 _ rfl HL9.out (Tq _) (by simp only[maxLen];omega) (by omega) (by have:=HS.out;simp;omega) ?_;intro v7 w7 eH gr7 at7;obtain ⟨o7,m7⟩:=z12 HR5.out.own ((Ch.refl _ w5).alloc _) eH gr7 at7;have G7:=ah (HR5.out.app (ys:=[_]) o7 m7 (by intro y hy;rw[List.mem_singleton]at hy;subst hy;exact HY.out));clear eH gr7 at7 o7 m7)
   go_roundw
   case rel=>exact ⟨k+1,_,by omega,by go_num,G7,ah (by rw[List.map_append];exact Hm2.out)⟩
   case measure=>simp[intOf];omega
  ·have HM:=ah (show zs.map (fun x=>x.row)=l.map fun x=>x.row by rw[Hm.out,List.take_of_length_le (by rw[Hl.out];omega)])
   go_wp2_with fail;go_ret;exact ⟨_,_,rfl,cO.base HN.out Hr.out,HM.out⟩
end
theorem EL (mk:Int) (w:World):Calls Tryz.prog 25 #[.agg #[.int .i64 0,.int .i64 0,.int .i64 0,.slice none 0 0,.slice none 0 0,.slice none 0 0],.int .i64 mk] w fun e w'=>e=.returned (.int .i64 0)/\Nx w w':=by
 have HN:=ah ((Ch.refl (fun _=>False) w).alloc (.cells #[.int .i64 0,.int .i64 0,.int .i64 0,.slice none 0 0,.slice none 0 0,.slice none 0 0] 64));go_enter Tryz.func25,Tryz.ntmps25;go_wp2_with fail;go_loopw [10] (fun i wr=>i=.int .i64 0/\Hid (Nx w wr)) (fun i _=>0)
 case atStart=>exact ⟨rfl,HN⟩
 case round=>
  obtain ⟨rfl,N4⟩:=hrel;go_wp2_with fail;go_ret;exact ⟨rfl,N4.out⟩
def dQ (mk sq:Int) (x:eF):Bool:=decide (x.maker=mk)&&decide (sq<=x.seq)
section
variable {w : World} {D : Nat → Prop}
theorem GZ (x:eF) (p:Nat) (mk sq:Int) (h0:w.cell? ⟨p,0,none⟩=some (.int .i64 mk)) (h1:w.cell? ⟨p,1,none⟩=some (.int .i64 sq)):
 Calls Tryz.prog 27 #[Dn x,.pointer (some ⟨p,0,none⟩)] w fun e w'=>e=.returned (.bool (dQ mk sq x))/\Nx w w':=by
 unfold Dn dQ;have hlt:p<w.heap.size:=World.block_lt_of_cell? w _ h0;have HN:=ah ((Ch.refl (fun _=>False) w).alloc (.cells #[.int .i64 x.maker,.int .i64 x.seq,.slice x.A x.l.length x.c] 37));by_cases e:x.maker=mk
 ·have e1:(x.maker==mk)=true:=by rw[beq_iff_eq];exact e
  have HE:Hid (decide (x.maker=mk)=true):=ah (decide_eq_true e);clear e;go_enter Tryz.func27,Tryz.ntmps27;go_wp2_with fail;go_ret;exact ⟨by rw[HE.out];simp,HN.out⟩
 ·have e1:(x.maker==mk)=false:=by rw[beq_eq_false_iff_ne];exact e
  have HE:Hid (decide (x.maker=mk)=false):=ah (decide_eq_false e);clear e;go_enter Tryz.func27,Tryz.ntmps27;go_wp2_with fail;go_ret;exact ⟨by rw[HE.out];rfl,HN.out⟩
theorem PU {A:Option Addr} {n k:Nat} {l:List eF} (h:Rd w D 3 A n (uy l)) (hk:k<l.length):∃ad,A=some ad/\D ad.block/\w.cell? (ad.add (k * 3))=some (.int .i64 l[k].maker)/\
 w.cell? ⟨(ad.add (k * 3)).block,(ad.add (k * 3)).off+1,none⟩=some (.int .i64 l[k].seq)/\w.cell? ⟨(ad.add (k * 3)).block,(ad.add (k * 3)).off+2,none⟩=some (.slice l[k].A l[k].l.length l[k].c):=by
 have hn:0<n:=by have:=h.1;rw[NJ]at this;omega
 obtain ⟨ad,rfl,hb,hc⟩:=h.2 hn;have g:=fun i (hi:i<3) u (hu:(l[k].cs)[i]?=some u)=>hc (k * 3+i) u ((uH eF.aO hk hi).trans hu);exact ⟨ad,rfl,hb,g 0 (by decide) _ rfl,z09 0 (g 1 (by decide) _ rfl),z09 1 (g 2 (by decide) _ rfl)⟩
theorem wI (A:Option Addr) (n c p:Nat) (l:List eF) (mk sq:Int) (hr:Rd w D 3 A n (uy l)) (hl:l.length=n) (hn:n<=9223372036854775807) (h0:w.cell? ⟨p,0,none⟩=some (.int .i64 mk)) (h1:w.cell? ⟨p,1,none⟩=some (.int .i64 sq)):
 Calls Tryz.prog 47 #[.slice A n c,.func (.func 27) #[] #[.pointer (some ⟨p,0,none⟩)]] w fun e w'=>
  ∃r:Int,e=.returned (.int .i64 r)/\decide (0<=r)=l.any (dQ mk sq)/\Nx w w':=by
 have H:=ah hr;have HC:=ah (fun x w' (n':Nx w w')=>GZ (w:=w') x p mk sq (by rw[n'.cell (World.block_lt_of_cell? w _ h0)];exact h0) (by rw[n'.cell (World.block_lt_of_cell? w _ h1)];exact h1));have Hl:=ah hl;clear hl hr h0 h1;go_enter Tryz.func47,Tryz.ntmps47;go_wp2_with fail;go_loopw [8] (fun i wr=>∃k:Nat,k<=n/\i=.int .i64 (k:Int)/\Hid (∀j (h:j<l.length),j<k->dQ mk sq l[j]=false)/\Hid (Nx w wr)) (fun i _=>n-(intOf i).toNat)
 case atStart=>exact ⟨0,Nat.zero_le _,rfl,ah (fun j _ h=>by omega),ah (Ch.refl _ _)⟩
 case round=>
  obtain ⟨w4,rfl⟩:∃w4:World,w4=wr:=⟨_,rfl⟩;obtain ⟨k,hkn,rfl,He,N4⟩:=hrel;by_cases hlt:k<n
  ·have hkl:k<l.length:=by rw[Hl.out];exact hlt
   obtain ⟨ad,rfl,hb,p0,p1,p2⟩:=PU (H.out.nx (by decide) N4.out) hkl;have HX:=ah (HC.out l[k] w4 N4.out);have HY:=ah (fun (h:dQ mk sq l[k]=true)=>show l.any (dQ mk sq)=true from by rw[List.any_eq_true];exact ⟨_,List.getElem_mem hkl,h⟩)
   have HZ:=ah (fun (h:dQ mk sq l[k]=false) j (hj:j<l.length) (hjk:j<k+1)=>show dQ mk sq l[j]=false from by
    by_cases e:j=k
    ·subst e;exact h
    ·exact He.out j hj (by omega))
   unfold Dn at HX;clear hb;generalize dQ mk sq l[k]=q at *;generalize l[k]=x at *;cases q
   ·have HQ:=ah (HZ.out rfl)
    go_wp2_with fail;refine HX.out.mono ?_;rintro e w5 ⟨rfl,n5⟩;have N5:=ah (N4.out.tr n5);clear n5;go_wp2_with fail;go_roundw
    case rel=>exact ⟨k+1,by omega,by go_num,HQ,N5⟩
    case measure=>simp[intOf];omega
   ·have HQ:=ah (HY.out rfl)
    go_wp2_with fail;refine HX.out.mono ?_;rintro e w5 ⟨rfl,n5⟩;have N5:=ah (N4.out.tr n5);clear n5;go_wp2_with fail;go_ret;exact ⟨_,rfl,by rw[HQ.out];simp,N5.out⟩
  ·have HQ:Hid (l.any (dQ mk sq)=false):=ah (by
    rw[List.any_eq_false];intro x hx;obtain ⟨j,hj,rfl⟩:=List.mem_iff_getElem.1 hx;rw[He.out j hj (by have:=Hl.out;omega)];simp)
   go_wp2_with fail;go_ret;exact ⟨_,rfl,by rw[HQ.out];rfl,N4.out⟩
theorem mZ (A:Option Addr) (n c p:Nat) (l:List eF) (mk sq:Int) (hr:Rd w D 3 A n (uy l)) (hl:l.length=n) (hn:n<=9223372036854775807) (h0:w.cell? ⟨p,0,none⟩=some (.int .i64 mk)) (h1:w.cell? ⟨p,1,none⟩=some (.int .i64 sq)):
 Calls Tryz.prog 26 #[.slice A n c,.func (.func 27) #[] #[.pointer (some ⟨p,0,none⟩)]] w fun e w'=>
  e=.returned (.bool (l.any (dQ mk sq)))/\Nx w w':=by
 have HI:=ah (wI A n c p l mk sq hr hl hn h0 h1);clear hr hl h0 h1;go_enter Tryz.func26,Tryz.ntmps26;go_wp2_with fail;refine HI.out.mono ?_;rintro e w4 ⟨r,rfl,hb,n4⟩;have N4:=ah n4;have HB:=ah hb;clear n4 hb;go_wp2_with fail;go_ret;exact ⟨by rw[←HB.out];rfl,N4.out⟩
end
end Go.Proofs.YtdbfejfhpkakhaaGreat
namespace Go.Proofs.YtdbfejfhpkakhaaGreat
open Go.RowKit Go.Maps Go.WideMaps Go.ChangeShapes
def Jz (t:ByteArray) (g:List aC):Bool:=g.any fun x=>decide (bP x=t)
theorem wQ (t:ByteArray) (g:List aC):Jz t g=true↔t∈aX (g.map bP):=by
 rw[OG];unfold Jz;simp[List.any_eq_true]
theorem Fb {gs:List (List aC)} {m:Nat} (t:ByteArray) (h:m<gs.length):cu t 0 (gs.take (m+1))=cu t 0 (gs.take m)++(if Jz t gs[m]=true then [m] else []):=by
 have hl1:(gs.take (m+1)).length=m+1:=by rw[List.length_take];omega
 have hl2:(gs.take m).length=m:=by rw[List.length_take];omega
 unfold cu;rw[hl1,hl2,List.range_succ,List.filter_append,List.map_append];congr 1
 ·congr 1
  apply List.filter_congr
  intro i hi;have hi:=List.mem_range.1 hi;simp only[List.getD,List.getElem?_take,if_pos hi,if_pos (show i<m+1 by omega)]
 ·have e:(gs.take (m+1)).getD m []=gs[m]:=by simp[List.getD,h]
  simp only[List.filter_cons,List.filter_nil,e];unfold Jz;split<;>simp
theorem CX {gs:List (List aC)} {t:ByteArray}:∀g∈cu t 0 gs,g<gs.length:=by
 intro g hg;unfold cu at hg;simp only[List.mem_map,List.mem_filter,List.mem_range,Nat.add_zero]at hg;obtain ⟨a,⟨h,_⟩,rfl⟩:=hg;exact h
theorem wR {gs:List (List aC)} (t:ByteArray):(cu t 0 gs).length<=gs.length:=by
 unfold cu;rw[List.length_map];exact Nat.le_trans (List.length_filter_le _ _) (by simp)
def Py (done:List ByteArray) (t:ByteArray):Bool:=done.any fun x=>decide (x=t)
theorem jX (done:List ByteArray) (t:ByteArray):Py done t=true↔t∈done:=by
 unfold Py;simp[List.any_eq_true]
def dU (gs:List (List aC)) (k:Nat) (done:List ByteArray) (t:ByteArray):List Nat:=cu t 0 (gs.take k)++(if Py done t=true then [k] else [])
def yF (D:DataW Unit) (gs:List (List aC)) (k:Nat) (done:List ByteArray):Prop:=
 IsMap D/\∀t,fV t->(has D (sL t)=false/\dU gs k done t=[])∨(D.atKey (sL t) .nil=.slice (lits .i64 (zl (dU gs k done t))) []/\dU gs k done t≠[])
theorem yF.start (gs:List (List aC)):yF (.map []) gs 0 []:=⟨isMap_empty,fun t _=>.inl ⟨rfl,by simp[dU,cu,Py]⟩⟩
section
variable {D : DataW Unit} {gs : List (List aC)} {k : Nat} {done : List ByteArray}
theorem yF.look (h:yF D gs k done) {t:ByteArray} (ht:fV t) {w:World} {base:Nat} {v:Value} {zs:List Int} (ho:w.ownsInts base 3 .i64 v zs) (ha:D.atKey (sL t) .nil=rowDatum .i64 v zs):zs=zl (dU gs k done t):=by
 rcases h.2 t ht with ⟨h0,h2⟩|⟨h1,_⟩
 ·have h1:D.atKey (sL t) .nil=.nil:=atKey_of_not_has h0 _
  rcases ho.datum (H:=Unit) with ⟨_,h4⟩|h3
  ·rw[h4,h2];rfl
  ·rw[ha,h3]at h1;cases h1
 ·rcases ho.datum (H:=Unit) with ⟨h3,_⟩|h3
  ·rw[ha,h3]at h1;cases h1
  ·rw[ha,h3]at h1
   injection h1 with h1;exact vZ h1
theorem yF.put (h:yF D gs k done) {t:ByteArray} (ht:fV t) (hno:t∉done) {d:DataW Unit} (hd:d=.slice (lits .i64 (zl (dU gs k done t)++[(k:Int)])) []):yF (D.put (sL t) d) gs k (done++[t]):=by
 refine ⟨h.1.put _ _,fun u hu=>?_⟩;by_cases e:u=t
 ·subst e
  right
  have e1:dU gs k (done++[u]) u=dU gs k done u++[k]:=by
   unfold dU;rw[if_pos (by rw[jX];simp),if_neg (by rw[jX];exact hno),List.append_nil]
  rw[atKey_put_same h.1 (lq u),hd,e1];exact ⟨by simp[zl],by simp⟩
 ·have e1:dU gs k (done++[t]) u=dU gs k done u:=by
   unfold dU Py;have e2:decide (t=u)=false:=decide_eq_false (Ne.symm e);rw[List.any_append,show ([t].any fun x=>decide (x=u))=false by rw[List.any_cons,e2];rfl,Bool.or_false]
  rw[atKey_put_other (fun e2=>e (lu e2)),has_put_other (fun e2=>e (lu e2)),e1];exact h.2 u hu
theorem zu (hk:k<gs.length) (t:ByteArray):dU gs k (aX (gs[k].map bP)) t=dU gs (k+1) [] t:=by
 unfold dU;rw[Fb t hk];by_cases h:Jz t gs[k]=true
 ·rw[if_pos h,if_pos ((jX _ _).2 ((wQ _ _).1 h))]
  simp[Py]
 ·rw[if_neg h,if_neg (fun h2=>h ((wQ _ _).2 ((jX _ _).1 h2)))]
  simp[Py]
theorem yF.next (hk:k<gs.length) (h:yF D gs k (aX (gs[k].map bP))):yF D gs (k+1) []:=
 ⟨h.1,fun t ht=>by have:=h.2 t ht;rw[zu hk t]at this;exact this⟩
end
theorem Af {w:World} {base b n:Nat} {D:DataW Unit} (h:w.ownsGroups Tryz.prog 9 base 3 .i64 b n D) {t E:TypeId} (ht:Tryz.prog.underlying t=some (.map 9 E)) (hz:(zeroValue E).run Tryz.prog w=.ok (.slice none 0 0) w):
 ∃f,dS w b n f/\∀s,fV s->(f s=none/\has D (sL s)=false)∨∃v zs,f s=some v/\has D (sL s)=true/\w.ownsInts base 3 .i64 v zs/\D.atKey (sL s) .nil=rowDatum .i64 v zs:=by
 obtain ⟨es,clock,hb,F,hs,rfl, -⟩:=h
 have F':WideElems.Fit Tryz.prog 9 iT es clock:=⟨F.size,F.stamped,fun x hx=>by
  obtain ⟨y,hy⟩:=F.reads x hx;exact ⟨(y.1,.held x.val),by simp[WideElems.rd,WideElems.rd_key hy,iT]⟩⟩
 have hown:w.ownsMap Tryz.prog 9 iT b n (.map ((es.toList.map (WideElems.rg Tryz.prog 9 iT)).foldr DataW.insert [])):=⟨es,clock,hb,F',hs,rfl⟩;generalize hD':(DataW.map ((es.toList.map (WideElems.rg Tryz.prog 9 iT)).foldr DataW.insert []):DataW Value)=D' at hown;generalize hDD:(DataW.map ((es.toList.map (WideElems.rg Tryz.prog 9 (rowElem w base 3 .i64))).foldr DataW.insert []):DataW Unit)=DD
 have key:∀s,fV s->((D'.atKey (sL s) .nil=.nil/\has D' (sL s)=false)/\has DD (sL s)=false)∨
  ∃v zs,((∀zd,D'.atKey (sL s) zd=.held v)/\has D' (sL s)=true)/\has DD (sL s)=true/\w.ownsInts base 3 .i64 v zs/\DD.atKey (sL s) .nil=rowDatum .i64 v zs:=fun s hs=>by
  rcases Maps.fit_look true Tryz.fP ht hz hb F (vH hs) with ⟨r1,n1,a1⟩|⟨e1,y1,m1,k1,r1,p1,a1,_⟩<;>
   rcases Maps.fit_look true Tryz.fP ht hz hb F' (vH hs) with ⟨r2,n2,a2⟩|⟨e2,y2,m2,k2,r2,p2,a2,_⟩
  ·rw[hD']at a2
   rw[hDD]at a1;exact .inl ⟨⟨a2 _,has_false_of_atKey a2⟩,has_false_of_atKey a1⟩
  ·exact absurd k2 (n1 e2 m2)
  ·exact absurd k1 (n2 e1 m1)
  ·rw[r1]at r2
   have hv:e1.val=e2.val:=(by simpa using r2);rw[hD']at a2;rw[hDD]at a1;have h2:=tJ p2;subst h2;obtain ⟨zs,ho,rfl⟩:=rowElem_inv p1;exact .inr ⟨e1.val,zs,⟨fun zd=>by rw[a2 zd,hv],has_true_of_atKey a2⟩,has_true_of_atKey a1,ho,a1 _⟩
 refine ⟨fun s=>match D'.atKey (sL s) .nil with| .held v=>some v|_=>none,⟨D',hown,?_,fun s hs=>?_⟩,fun s hs=>?_⟩
 ·rw[←hD'];exact ⟨_,rfl⟩
 ·rcases key s hs with ⟨⟨h1,h2⟩,_⟩|⟨v,zs,⟨h1,h2⟩,_⟩
  ·rw[h2]
   simp only[h1];exact ⟨rfl,fun v hv=>by cases hv⟩
  ·rw[h2]
   simp only[h1];exact ⟨rfl,fun u hu zd=>by injection hu with hu;rw[hu]⟩
 ·rcases key s hs with ⟨⟨h1,h2⟩,h3⟩|⟨v,zs,⟨h1,h2⟩,h5,h3,h4⟩
  ·left
   simp only[h1];exact ⟨trivial,h3⟩
  ·right
   simp only[h1];exact ⟨v,zs,rfl,h5,h3,h4⟩
end Go.Proofs.YtdbfejfhpkakhaaGreat
namespace Go.Proofs.YtdbfejfhpkakhaaGreat
open Go.RowKit Go.Maps
theorem Tryz.Jj:(Tryz.prog.info? 191).map (fun i=>(i.zero,i.size,i.bytes))=some (some (.agg #[.int .i64 0,.int .i64 0,.int .i64 0,.int .i64 0,.int .i64 0]),5,40):=by kernel_rfl
theorem Tryz.Jk:(Tryz.prog.info? 197).map (fun i=>(i.zero,i.size,i.bytes))=some (some (.agg #[.string ⟨#[]⟩,.slice none 0 0]),2,40):=by kernel_rfl
theorem Tryz.pF (w:World):(zeroValue 195).run Tryz.prog w=.ok (.slice none 0 0) w:=by kernel_rfl
theorem iY {w:World} {base:Nat} {e:TypeId} {size n k:Nat} {v:Value} {xs:List Value} (h:w.ownsRow base e size v n xs) (hk:v.ownBlock=some k):∃cs,aG w k e cs:=by
 rcases h.2 with ⟨rfl,_⟩|⟨g,cap,cur,rfl,_,hh,_⟩
 ·simp[Value.ownBlock]at hk
 ·have:g=k:=by simpa [Value.ownBlock]using hk
  subst this;exact ⟨cur,hh⟩
theorem TJ {H:Type} {P:Program} {k:TypeId} {base:Nat} {e:TypeId} {q:IntKind} {b n:Nat} {D:DataW H} {S:Nat->Prop} {w w':World} (h:w.ownsGroups P k base e q b n D) (c:Ch S w w') (hb:¬S b)
 (hrow:∀g cs,base<=g->aG w g e cs->¬S g):w'.ownsGroups P k base e q b n D:=by
 obtain ⟨es,clock,hb1,F,hs,rfl,hbb,hlen,hap⟩:=h;have hblt:=(Array.getElem?_eq_some_iff.1 hb1).1
 have key:∀v zs,w.ownsInts base e q v zs->w'.ownsInts base e q v zs:=fun v zs ho=>⟨dY ho.1 c (fun g hg=>by
  obtain ⟨cs,hB⟩:=iY ho.1 hg;exact hrow g cs (ho.1.lt g hg).1 hB),ho.2⟩
 have hst:∀x∈es.toList,∀z,rowElem (H:=H) w base e q x.val=some z->rowElem w' base e q x.val=some z:=fun x hx z hz=>by
  obtain ⟨zs,ho,rfl⟩:=rowElem_inv hz;exact rowElem_mk (key _ _ ho)
 obtain ⟨F1,hmap,_⟩:=F.stay hst;refine ⟨es,clock,(c.block b hblt hb).trans hb1,F1,hs,by rw[hmap],hbb,fun x hx zs ho=>?_,hap⟩;obtain ⟨y,hy⟩:=F.reads x hx;obtain ⟨z,hz,_⟩:=WideElems.rd_val hy;obtain ⟨zs0,ho0,_⟩:=rowElem_inv hz;rw[ho.unique (key _ _ ho0)];exact hlen x hx zs0 ho0
theorem TG {H:Type} {P:Program} {k:TypeId} {base:Nat} {e:TypeId} {q:IntKind} {b n:Nat} {D:DataW H} {S No:Nat->Prop} {w w':World} (h:w.Shuns b No) (g:w.ownsGroups P k base e q b n D) (c:Ch S w w') (hb:¬S b):w'.Shuns b No:=fun es clock hb2=>by
 obtain ⟨es1,clock1,hb1, -⟩:=g;exact h es clock ((c.block b (Array.getElem?_eq_some_iff.1 hb1).1 hb).symm.trans hb2)
theorem wV {H:Type} {P:Program} {k t E:TypeId} {base:Nat} {e:TypeId} {q:IntKind} {b n:Nat} {D:DataW H} {w:World} {No:Nat->Prop} {key:Value} {kl:Lit} (h:w.ownsGroups P k base e q b n D) (K:Keyed P k) (ht:P.underlying t=some (.map k E)) (hz:(zeroValue E).run P w=.ok (.slice none 0 0) w) (hn:n<maxLen) (hkey:keyOf P k key=some kl) (hS:w.Shuns b No):
 ∃v zs,(Instr.lookup t (.map (some b)) key false).run P w=.ok v w/\D.atKey kl .nil=rowDatum q v zs/\w.ownsInts base e q v zs/\zs.length<=n/\(∀g,v.ownBlock=some g->¬No g)/\
  ∀(w1:World) (v':Value) (zs':List Int),w.grownBy w1 v.ownBlock->w1.ownsInts base e q v' zs'->zs'.length<=n+1->(v'.ownBlock=v.ownBlock∨∃g,v'.ownBlock=some g/\w.heap.size<=g)->(∀g,v'.ownBlock=some g->¬No g)->
   ∃w2,(Instr.mapUpdate t (.map (some b)) key v').run P w1=.ok () w2/\w2.ownsGroups P k base e q b (n+1) (D.put kl (rowDatum q v' zs'))/\w1.grownBy w2 (some b)/\w2.Shuns b No:=by
 obtain ⟨v,zs,hrun,hat,hoi,hzl,hback⟩:=h.at K ht hz hn hkey;refine ⟨v,zs,hrun,hat,hoi,hzl,?_,fun w1 v' zs' hgr hown hl hloc hno=>?_⟩
 ·obtain ⟨es,clock,hb,F,_⟩:=h
  rcases Maps.fit_look false K ht hz hb F hkey with ⟨hrun',_,_⟩|⟨e0,y,hm0,_,hrun',_,_,_⟩
  ·rw[hrun]at hrun'
   obtain rfl:v=.slice none 0 0:=(by simpa using hrun');intro g hg';cases hg'
  ·rw[hrun]at hrun'
   obtain rfl:v=e0.val:=(by simpa using hrun');exact fun g hg'=>hS es clock hb e0 hm0 g hg'
 ·obtain ⟨w2,hrun2,r1,r2⟩:=hback w1 v' zs' hgr hown hl hloc
  refine ⟨w2,hrun2,r1,r2,?_⟩;obtain ⟨es,clock,hb,F,hs,_,hbb,_⟩:=h;have hblt:b<w.heap.size:=(Array.getElem?_eq_some_iff.1 hb).1;have hb1:w1.heap[b]?=some (.map es clock):=(hgr.block b hblt (fun e1=>by have:=(hoi.1.lt b e1.symm).1;omega)).trans hb;obtain ⟨es',clock',hb2,hwho⟩:=stored_who K ht hb1 F (Nat.lt_of_le_of_lt hs hn) hkey hrun2;intro es2 clock2 hb2' y hy g hyg;obtain ⟨rfl,rfl⟩:es'=es2/\clock'=clock2:=by rw[hb2]at hb2';simpa using hb2'
  rcases hwho y hy with ⟨hy0,_⟩|⟨_,hval⟩
  ·exact hS es clock hb y hy0 g hyg
  ·exact hno g (hval▸hyg)
def jq (w W:World) (v:Value) (xs:List Nat):Prop:=aF w W 5 1 v xs.length (bl xs)∨∃(g:Nat) (cs:Array Value) (fz:Nat×Nat),v=.slice (some ⟨g,0,none⟩) xs.length xs.length/\W.heap[g]?=some (.cells cs 5 fz)/\cs.toList=bl xs/\w.heap.size<=g/\Nx w W
def Shun (W:World) (S:Nat->Prop) (T:TypeId->Prop):Prop:=∀g t cs fz,W.heap[g]?=some (.cells cs t fz)->S g->¬T t
theorem jq.ch {w W W':World} {v:Value} {xs:List Nat} {S:Nat->Prop} (h:jq w W v xs) (c:Ch S W W') (hS:Shun W S (· =5)) (hw:∀i,i<w.heap.size->¬S i):jq w W' v xs:=by
 rcases h with o|⟨g,cs,fz,e1,e2,e3,e4,e5⟩
 ·left
  exact o.ch c (fun k hk hs=>by obtain ⟨cs,hB⟩:=iY o.own hk;exact hS k _ cs (0,0) hB hs rfl) hw
 ·right
  exact ⟨g,cs,fz,e1,(c.block g (Array.getElem?_eq_some_iff.1 e2).1 fun hs=>hS g _ cs fz e2 hs rfl).trans e2,e3,e4,e5.trans c fun i hi hs=>absurd hs (hw i hi)⟩
theorem jq.nx {w W:World} {v:Value} {xs:List Nat} (h:jq w W v xs):Nx w W:=by
 rcases h with o|⟨g,cs,fz,e1,e2,e3,e4,e5⟩
 ·exact o.nx
 ·exact e5
theorem jq.lt {w W:World} {v:Value} {xs:List Nat} (h:jq w W v xs):∀k,v.ownBlock=some k->w.heap.size<=k/\k<W.heap.size/\∃cs fz,W.heap[k]?=some (.cells cs 5 fz):=by
 intro k hk;rcases h with o|⟨g,cs,fz,rfl,e2,e3,e4,e5⟩
 ·obtain ⟨cs,hB⟩:=iY o.own hk
  exact ⟨(o.lt k hk).1,(o.lt k hk).2,cs,(0,0),hB⟩
 ·have:g=k:=by simpa [Value.ownBlock]using hk
  subst this;exact ⟨e4,(Array.getElem?_eq_some_iff.1 e2).1,cs,fz,e2⟩
theorem jq.app {w W:World} {v:Value} {xs ys:List Nat} (h:jq w W v xs) {D:Nat->Prop} {A:Option Addr} {m c:Nat} (hr:Rd W D 1 A m (bl ys)) (hm:ys.length=m) (h0:0<m) (hs:xs.length+m<=100000000000) (ty:TypeId):
 ∃v' w',(Builtin.append_ #[47,47] ty #[v,.slice A m c]).run Tryz.prog W=.ok v' w'/\aF w w' 5 1 v' (xs++ys).length (bl (xs++ys))/\W.grownBy w' v.ownBlock:=by
 obtain ⟨i0,hi0,hz0,hz1,hz2⟩:=info_parts Tryz.info5;obtain ⟨ad,rfl,hD,hc⟩:=hr.2 h0;have hbl:bl (xs++ys)=bl xs++bl ys:=by simp[bl]
 have hlen:(xs++ys).length=xs.length+m:=by rw[List.length_append,hm]
 rw[hbl,hlen];have hnl:(bl ys).length=m * 1:=by rw[z17,hm,Nat.mul_one]
 rcases h with o|⟨g,cs,fz,rfl,e2,e3,e4,e5⟩
 ·obtain ⟨v',w',hrun,r1,r2,r3⟩:=run_append_own (P:=Tryz.prog) W w.heap.size 47 ty 5 i0 _ 1 1 Tryz.underlying47 hi0 hz0 hz1 hz2 rfl (by decide) v xs.length (bl xs) o.own ad m c (bl ys) hnl hc (jv _) (by simp only[maxLen];omega) (by omega) o.nx.size
  exact ⟨v',w',hrun,⟨r1,o.nx.grown r2 fun k hk hlt=>by have:=o.lt k hk;omega⟩,r2⟩
 ·have hcell:∀j u,(bl xs)[j]?=some u->W.cell? ((⟨g,0,none⟩:Addr).add j)=some u:=fun j u hu=>by
   have hadd:(⟨g,0,none⟩:Addr).add j=⟨g,j,none⟩:=by unfold Addr.add;split<;>simp_all
   rw[hadd,cell_of_row W g j cs 5 fz e2];rw[←e3]at hu;simpa using hu
  obtain ⟨v',w',hrun,r1,r2⟩:=run_append_arg_grows (P:=Tryz.prog) W 47 ty 5 i0 _ 1 1 Tryz.underlying47 hi0 hz0 hz1 hz2 rfl (by decide) ⟨g,0,none⟩ xs.length xs.length (bl xs) (by rw[z17,Nat.mul_one]) hcell ad m c (bl ys) hnl hc (by omega) (by simp only[maxLen];omega) (by omega);exact ⟨v',w',hrun,⟨uw r1 e5.size,e5.grown r2 fun k hk _=>by cases hk⟩,r2.but _⟩
structure dw (w:World) (B b1 b2 b3 b4:Nat) (gs:List (List aC)) (X:List Nat) (ss:List aQ) (k:Nat) (done:List ByteArray) (W:World):Prop where
 out:∃v,aG W b1 47 #[v]/\jq w W v X
 idx:∃v,aG W b2 184 #[v,.slice none 0 0]/\aF w W 191 5 v ss.length (spl ss)
 box:aG W b4 185 #[.map (some b3)]
 grp:∃(D:DataW Unit) (n:Nat),W.ownsGroups Tryz.prog 9 (b3+1) 3 .i64 b3 n D/\yF D gs k done/\n<=2048 * k+done.length/\W.Shuns b3 (· <B)
def BldT (t:TypeId):Prop:=t=47∨t=5∨t=184∨t=191∨t=185∨t=3
section
variable {w W W' : World} {B b1 b2 b3 b4 : Nat} {gs : List (List aC)} {X : List Nat} {ss : List aQ} {k : Nat} {done : List ByteArray}
theorem dw.ch {S:Nat->Prop} (h:dw w B b1 b2 b3 b4 gs X ss k done W) (c:Ch S W W') (h3:¬S b3) (hw:∀i,i<w.heap.size->¬S i) (hS:Shun W S BldT):dw w B b1 b2 b3 b4 gs X ss k done W':=by
 obtain ⟨⟨v1,B1,o1⟩,⟨v2,B2,o2⟩,B4,D,n,g1,g2,g3,g4⟩:=h;refine ⟨⟨v1,B1.ch c fun hs=>hS _ _ _ _ B1 hs (.inl rfl),o1.ch c (fun g t cs fz hg hs e=>hS g t cs fz hg hs (.inr (.inl e))) hw⟩,⟨v2,B2.ch c fun hs=>hS _ _ _ _ B2 hs (.inr (.inr (.inl rfl))),o2.ch c (fun g hg hs=>?_) hw⟩,B4.ch c fun hs=>hS _ _ _ _ B4 hs (.inr (.inr (.inr (.inr (.inl rfl))))),D,n,TJ g1 c h3 (fun g cs _ hB hs=>hS _ _ _ _ hB hs (.inr (.inr (.inr (.inr (.inr rfl)))))),g2,g3,TG g4 g1 c h3⟩;obtain ⟨cs,hB⟩:=iY o2.own hg;exact hS _ _ _ _ hB hs (.inr (.inr (.inr (.inl rfl))))
theorem dw.tr (h:dw w B b1 b2 b3 b4 gs X ss k done W) (c:Nx W W'):dw w B b1 b2 b3 b4 gs X ss k done W':=
 h.ch c (fun hf=>hf) (fun _ _ hf=>hf) (fun _ _ _ _ _ hf=>hf.elim)
theorem dw.nx (h:dw w B b1 b2 b3 b4 gs X ss k done W):Nx w W:=by
 obtain ⟨v1,B1,o1⟩:=h.out;exact o1.nx
theorem dw.from (h:dw w B b1 b2 b3 b4 gs X ss k done W) {B':Nat} (h3:b3<B') (hB:w.heap.size<=B') {row:Option Nat} (hg:W.grownBy W' row) (hr:∀r,row=some r->B'<=r/\∃o:Obj,W.heap[r]?=some o/\o.isCells=false):dw w B b1 b2 b3 b4 gs X ss k done W':=by
 refine h.ch ((Ch.refl (fun r=>row=some r) W).grown hg (fun r hr _=>hr)) (fun e=>?_) (fun i hi e=>?_) (fun g t cs fz hBk e=>?_)
 ·have:=(hr _ e).1;omega
 ·have:=(hr _ e).1;omega
 ·obtain ⟨o,h1,h2⟩:=(hr _ e).2
  rw[hBk]at h1;injection h1 with h1;rw[←h1]at h2;cases h2
theorem dw.put (h:dw w B b1 b2 b3 b4 gs X ss k done W) {v v':Value} {X':List Nat} (hb:aG W b1 47 #[v]) (hv:jq w W v X) (hg:W.grownBy W' v.ownBlock) (o:aF w W' 5 1 v' X'.length (bl X')) (h1:w.heap.size<=b1):dw w B b1 b2 b3 b4 gs X' ss k done (W'.setCell ⟨b1,0,none⟩ v'):=by
 obtain ⟨-,⟨v2,B2,o2⟩,B4,D,n,g1,g2,g3,g4⟩:=h;have c1:Ch (fun r=>v.ownBlock=some r) W W':=(Ch.refl _ W).grown hg (fun r hr _=>hr)
 have hS1:Shun W (fun r=>v.ownBlock=some r) (· ≠5):=fun g t cs fz hB hs hne=>by
  obtain ⟨_,_,cs2,fz2,hB2⟩:=hv.lt g hs;rw[hB]at hB2;injection hB2 with hB2;injection hB2 with _ e;exact hne e
 have hlt:∀g,v.ownBlock=some g->w.heap.size<=g:=fun g hg=>(hv.lt g hg).1;have B1':aG W' b1 47 #[v]:=hb.ch c1 fun hs=>hS1 _ _ _ _ hb hs (by decide);have B2':=B2.ch c1 fun hs=>hS1 _ _ _ _ B2 hs (by decide);have B4':=B4.ch c1 fun hs=>hS1 _ _ _ _ B4 hs (by decide);have o2':=o2.ch c1 (fun g hg hs=>by obtain ⟨cs,hB⟩:=iY o2.own hg;exact hS1 _ _ _ _ hB hs (by decide)) (fun i hi hs=>by have:=hlt i hs;omega)
 have hb31:¬v.ownBlock=some b3:=fun hs=>by
  obtain ⟨_,_,cs2,fz2,hB2⟩:=hv.lt _ hs;obtain ⟨es,clock,hb3, -⟩:=g1;rw[hb3]at hB2;cases hB2
 have g1':=TJ g1 c1 hb31 (fun g cs _ hB hs=>hS1 _ _ _ _ hB hs (by decide));have c2:Ch (· =b1) W' (W'.setCell ⟨b1,0,none⟩ v'):=Ch.setCell (Ch.refl (· =b1) _) (p:=⟨b1,0,none⟩) (fun _=>rfl) _
 have hS2:∀g t cs,aG W' g t cs->g=b1->t=47:=fun g t cs hB e=>by
  subst e;have h1:W'.heap[g]?=some (.cells cs t (0,0)):=hB;have h2:W'.heap[g]?=some (.cells #[v] 47 (0,0)):=B1';rw[h1]at h2;injection h2 with h2;injection h2
 have hb32:¬b3=b1:=fun e=>by
  obtain ⟨es,clock,hb3, -⟩:=g1';have h2:W'.heap[b1]?=some (.cells #[v] 47 (0,0)):=B1';rw[←e,hb3]at h2;cases h2
 have hno:∀i,i<w.heap.size->¬i=b1:=fun i hi e=>by omega
 refine ⟨⟨v',by simpa using B1'.aS 0 v',.inl (o.ch c2 (fun g hg e=>?_) hno)⟩,⟨v2,B2'.ch c2 fun e=>absurd (hS2 _ _ _ B2' e) (by decide),o2'.ch c2 (fun g hg e=>?_) hno⟩,B4'.ch c2 fun e=>absurd (hS2 _ _ _ B4' e) (by decide),D,n,TJ g1' c2 (fun e=>?_) (fun g cs _ hB e=>absurd (hS2 _ _ _ hB e) (by decide)),g2,g3,TG (TG g4 g1 c1 hb31) g1' c2 hb32⟩
 ·obtain ⟨cs,hB⟩:=iY o.own hg
  exact absurd (hS2 _ _ _ hB e) (by decide)
 ·obtain ⟨cs,hB⟩:=iY o2'.own hg
  exact absurd (hS2 _ _ _ hB e) (by decide)
 ·exact hb32 e
theorem dw.span (h:dw w B b1 b2 b3 b4 gs X ss k done W) {v v':Value} {s:aQ} (hb:aG W b2 184 #[v,.slice none 0 0]) (hv:aF w W 191 5 v ss.length (spl ss)) (hg:W.grownBy W' v.ownBlock) (o:aF w W' 191 5 v' (ss++[s]).length (spl (ss++[s]))) (h1:w.heap.size<=b2):dw w B b1 b2 b3 b4 gs X (ss++[s]) k done (W'.setCell ⟨b2,0,none⟩ v'):=by
 obtain ⟨⟨v1,B1,o1⟩, -,B4,D,n,g1,g2,g3,g4⟩:=h;have c1:Ch (fun r=>v.ownBlock=some r) W W':=(Ch.refl _ W).grown hg (fun r hr _=>hr)
 have hS1:Shun W (fun r=>v.ownBlock=some r) (· ≠191):=fun g t cs fz hB hs hne=>by
  obtain ⟨cs2,hB2⟩:=iY hv.own hs;have hB2:W.heap[g]?=some (.cells cs2 191 (0,0)):=hB2;rw[hB]at hB2;injection hB2 with hB2;injection hB2 with _ e;exact hne e
 have hlt:∀g,v.ownBlock=some g->w.heap.size<=g:=fun g hg=>(hv.lt g hg).1;have B1':=B1.ch c1 fun hs=>hS1 _ _ _ _ B1 hs (by decide);have B2':aG W' b2 184 #[v,.slice none 0 0]:=hb.ch c1 fun hs=>hS1 _ _ _ _ hb hs (by decide);have B4':=B4.ch c1 fun hs=>hS1 _ _ _ _ B4 hs (by decide);have o1':=o1.ch c1 (fun g t cs fz hB hs e=>hS1 g t cs fz hB hs (by rw[e];decide)) (fun i hi hs=>by have:=hlt i hs;omega)
 have hb31:¬v.ownBlock=some b3:=fun hs=>by
  obtain ⟨cs2,hB2⟩:=iY hv.own hs;obtain ⟨es,clock,hb3, -⟩:=g1;have hB2:W.heap[b3]?=some (.cells cs2 191 (0,0)):=hB2;rw[hb3]at hB2;cases hB2
 have g1':=TJ g1 c1 hb31 (fun g cs _ hB hs=>hS1 _ _ _ _ hB hs (by decide));have c2:Ch (· =b2) W' (W'.setCell ⟨b2,0,none⟩ v'):=Ch.setCell (Ch.refl (· =b2) _) (p:=⟨b2,0,none⟩) (fun _=>rfl) _
 have hS2:Shun W' (· =b2) (· ≠184):=fun g t cs fz hB e hne=>by
  subst e;have h2:W'.heap[g]?=some (.cells #[v,.slice none 0 0] 184 (0,0)):=B2';rw[hB]at h2;injection h2 with h2;injection h2 with _ h3;exact hne h3
 have hb32:¬b3=b2:=fun e=>by
  obtain ⟨es,clock,hb3, -⟩:=g1';have h2:W'.heap[b2]?=some (.cells #[v,.slice none 0 0] 184 (0,0)):=B2';rw[←e,hb3]at h2;cases h2
 have hno:∀i,i<w.heap.size->¬i=b2:=fun i hi e=>by omega
 refine ⟨⟨v1,B1'.ch c2 fun e=>hS2 _ _ _ _ B1' e (by decide),o1'.ch c2 (fun g t cs fz hB e e2=>hS2 g t cs fz hB e (by rw[e2];decide)) hno⟩,⟨v',by simpa using B2'.aS 0 v',o.ch c2 (fun g hg e=>?_) hno⟩,B4'.ch c2 fun e=>hS2 _ _ _ _ B4' e (by decide),D,n,TJ g1' c2 (fun e=>?_) (fun g cs _ hB e=>hS2 _ _ _ _ hB e (by decide)),g2,g3,TG (TG g4 g1 c1 hb31) g1' c2 hb32⟩
 ·obtain ⟨cs,hB⟩:=iY o.own hg
  exact hS2 _ _ _ _ hB e (by decide)
 ·exact hb32 e
theorem dw.next (h:dw w B b1 b2 b3 b4 gs X ss k done W) (hk:k<gs.length) (hd:done=aX (gs[k].map bP)) (hl:done.length<=2048):dw w B b1 b2 b3 b4 gs X ss (k+1) [] W:=by
 obtain ⟨h1,h2,h3,D,n,g1,g2,g3,g4⟩:=h;subst hd;exact ⟨h1,h2,h3,D,n,g1,g2.next hk,by simp only[List.length_nil];omega,g4⟩
theorem dw.word (h:dw w B b1 b2 b3 b4 gs X ss k done W) {t:ByteArray} (ht:fV t) (hno:t∉done) (hk:k<=4096) (hd:done.length<=2048) (hw:w.heap.size<=b3) (hB:B<=W.heap.size) (hb3:b3<B):
 ∃v,(Instr.lookup 185 (.map (some b3)) (.string t) false).run Tryz.prog W=.ok v W/\
  ∀(W1:World) (g:Nat) (ty:TypeId),Nx W W1->W.grownBy W1 none->W1.cell? ⟨g,0,none⟩=some (.int .i64 (k:Int))->∃v' W2,(Builtin.append_ #[195,195] ty #[v,.slice (some ⟨g,0,none⟩) 1 1]).run Tryz.prog W1=.ok v' W2/\
   (∀p t cs,aG W1 p t cs->t≠3->aG W2 p t cs)/\
   ∃W3,(Instr.mapUpdate 185 (.map (some b3)) (.string t) v').run Tryz.prog W2=.ok () W3/\dw w B b1 b2 b3 b4 gs X ss k (done++[t]) W3/\Ch (fun r=>r=b3∨(v.ownBlock=some r/\B<=r/\∃cs,aG W r 3 cs)) W W3:=by
 obtain ⟨D,n,g1,g2,g3,g4⟩:=h.grp;obtain ⟨i0,hi0,hz0,hz1,hz2⟩:=info_parts Tryz.CU;obtain ⟨v,zs,hrun,hat,hoi,hzl,hsh,hback⟩:=wV g1 Tryz.fP Tryz.underlying185 (Tryz.pF W) (by unfold maxLen;omega) (vH ht) g4;have hzs:=g2.look ht hoi hat;refine ⟨v,hrun,fun W1 g ty c1 gr1 hcell=>?_⟩;have Rl:W1.ownsInts (b3+1) 3 .i64 v zs:=⟨dY hoi.1 c1 (fun _ _ hf=>hf),hoi.2⟩;have hsz:=c1.size
 obtain ⟨v',W2,happ,r1,r2, -,r3⟩:=run_append_own_at (P:=Tryz.prog) W1 (b3+1) 195 ty 3 i0 _ 1 8 Tryz.underlying195 hi0 hz0 hz1 hz2 rfl (by decide) v zs.length (zs.map (Value.int .i64)) Rl.1 ⟨g,0,none⟩ 1 1 [.int .i64 (k:Int)] rfl (fun j u hu=>by
  cases j with
  |zero=>simp at hu;subst hu;simpa [Addr.add]using hcell
  |succ j=>simp at hu) (by simp[Value.oneCell']) (by simp only[maxLen];omega) (by omega) (by omega)
 have hgr:W.grownBy W2 v.ownBlock:=(gr1.but _).trans r2
 have hkeep:∀p t cs,aG W1 p t cs->t≠3->aG W2 p t cs:=fun p t cs hB2 hne=>(r2.block p hB2.lt fun e=>by
  obtain ⟨cs2,hB3⟩:=iY Rl.1 e.symm;exact (hB2.Gq hB3 hne) rfl).trans hB2
 have hloc:v'.ownBlock=v.ownBlock∨∃g,v'.ownBlock=some g/\W.heap.size<=g:=r3.imp id fun e=>⟨_,e,hsz⟩;have hwf:(Lit.int .i64 (k:Int)).wf=true:=WalkArith.wf_i64 (by omega);have ho2:W2.ownsInts (b3+1) 3 .i64 v' (zs++[(k:Int)]):=Rl.appended r1 hwf
 obtain ⟨W3,hup,q1,q2,q3⟩:=hback W2 v' (zs++[(k:Int)]) hgr ho2 (by simp;omega) hloc (fun g hg=>by
  rcases hloc with e|⟨g2,e,hge⟩
  ·exact hsh g (by rw[←e];exact hg)
  ·rw[hg]at e
   injection e with e;omega)
 refine ⟨v',W2,happ,hkeep,W3,hup,?_,?_⟩
 all_goals
  have c3:Ch (fun r=>r=b3∨v.ownBlock=some r) W W3:=((c1.mono (T:=fun r=>r=b3∨v.ownBlock=some r) fun _ _ hf=>hf.elim).grown r2 (fun r hr _=>.inr hr)).grown q2 (fun r hr _=>by injection hr with hr;exact .inl hr.symm)
 ·have hS:∀g t cs fz,W.heap[g]?=some (.cells cs t fz)->(g=b3∨v.ownBlock=some g)->t=3:=fun g t cs fz hB2 hs=>by
   rcases hs with rfl|hs
   ·obtain ⟨es,clock,hb, -⟩:=g1
    rw[hb]at hB2;cases hB2
   ·obtain ⟨cs2,hB3⟩:=iY hoi.1 hs
    have hB3:W.heap[g]?=some (.cells cs2 3 (0,0)):=hB3;rw[hB2]at hB3;injection hB3 with hB3;injection hB3
  have hlt:∀i,i<w.heap.size->¬(i=b3∨v.ownBlock=some i):=fun i hi hs=>by
   rcases hs with rfl|hs
   ·omega
   ·have:=(hoi.1.lt i hs).1;omega
  obtain ⟨⟨v1,B1,o1⟩,⟨v2,B2,o2⟩,B4, -⟩:=h;refine ⟨⟨v1,B1.ch c3 fun hs=>absurd (hS _ _ _ _ B1 hs) (by decide),o1.ch c3 (fun g t cs fz hB2 hs e=>absurd (hS _ _ _ _ hB2 hs) (by rw[e];decide)) hlt⟩,⟨v2,B2.ch c3 fun hs=>absurd (hS _ _ _ _ B2 hs) (by decide),o2.ch c3 (fun g hg hs=>?_) hlt⟩,B4.ch c3 fun hs=>absurd (hS _ _ _ _ B4 hs) (by decide),_,n+1,q1,g2.put ht hno ?_,by rw[List.length_append,List.length_singleton];omega,q3⟩
  ·obtain ⟨cs,hB2⟩:=iY o2.own hg
   exact absurd (hS _ _ _ _ hB2 hs) (by decide)
  ·rw[←hzs]
   exact ho2.datum_pos (by simp)
 ·refine c3.mono fun r hr hs=>?_
  rcases hs with hs|hs
  ·exact .inl hs
  ·exact .inr ⟨hs,Nat.not_lt.1 (hsh r hs),iY hoi.1 hs⟩
end
end Go.Proofs.YtdbfejfhpkakhaaGreat
namespace Go.Proofs.YtdbfejfhpkakhaaGreat
open Go.RowKit
def uh (W w:World) (g:Nat) (xs:List Nat):Prop:=∃v,aG w g 47 #[v]/\aF W w 5 1 v xs.length (bl xs)
def Du (w w':World):Prop:=∀b t cs,t≠5->t≠47->aG w b t cs->aG w' b t cs
theorem Du.of {w w':World} {g:Nat} {v:Value} {W:World} {n:Nat} {xs:List Value} (hb:aG w g 47 #[v]) (ho:aF W w 5 1 v n xs) (c:Ch (fun k=>k=g∨v.ownBlock=some k) w w'):Du w w':=fun b t cs h1 h2 h=>h.ch c (by
 rintro (e|e)
 ·subst e
  exact aG.Gq h hb h2 rfl
 ·exact z06 ho.own h (Ne.symm h1) e)
def KH (W w:World) (g:Nat) (zs:List Nat) (e:Ending) (w':World):Prop:=e=.returned (.tuple #[])/\uh W w' g zs/\Du w w'
theorem JZ {W w:World} {g:Nat} {v:Value} {xs ys:List Nat} {B:Option Addr} {m c:Nat} {D:Nat->Prop} (hb:aG w g 47 #[v]) (ho:aF W w 5 1 v xs.length (bl xs)) (hW:W.heap.size<=g) (hy:Rd w D 1 B m (bl ys)) (hl:ys.length=m) (hD:∀k,D k->v.ownBlock≠some k) (er:Int)
 (hs:xs.length+ys.length<=100000000):
 Calls Tryz.prog 117 #[.slice B m c,.int .i64 er,.pointer (some ⟨g,0,none⟩)] w (KH W w g (xs++eP ys)):=by
 obtain ⟨i0,hi0,hz0,hz1,hz2⟩:=info_parts Tryz.info5;have SG:=ah (fun (w:World)=>Lp m w (by omega));have HW:Hid (xs++eP ys=xs++au m++ys):=ah (by rw[←hl];simp[eP]);have hpl:=(z07 (n:=m) (by omega)).2;have HB:=ah hb;have HO:=ah ho;have HY:=ah hy;have kw:IntKind.u64.wrap (m:Int)=(m:Int):=by rw[IntKind.wrap_u64];omega
 have hne:=z06 ho.own hb (by decide);have SI:=ah hne;have c0:w.drew.cell? ⟨g,0,none⟩=some v:=hb.cell 0;clear hb ho hy hne;generalize xs++eP ys=Z at *;go_enter Tryz.func117,Tryz.ntmps117;refine uI (fun _=>True) (fun _=>false) rfl trivial (fun hS0=>?_)
 try simp only[Act.put,aB,ay,aA]
 refine z00 (i:=1) (oi:=_) (v:=?_) rfl (fun _ _ _ h=>h) (Or.inl ⟨by rfl,?_⟩) ?_;rotate_left
 ·(intro w hSw;(try dsimp only at hSw);go_split_ands;go_simp;try with_reducible rfl)
 try simp only[Act.put,List.setIfInBounds_toArray]
 refine z00 (i:=2) (oi:=_) (v:=?_) rfl (fun _ _ _ h=>h) (Or.inl ⟨by rfl,?_⟩) ?_;rotate_left
 ·(intro w hSw;(try dsimp only at hSw);go_split_ands;go_simp;try with_reducible rfl)
 try simp only[Act.put]
 refine z00 (i:=3) (oi:=_) (v:=?_) rfl (fun _ _ _ h=>h) (Or.inl ⟨by rfl,?_⟩) ?_;rotate_left
 ·(intro w hSw;(try dsimp only at hSw);go_split_ands;go_simp;try with_reducible rfl)
 try simp only[Act.put]
 refine z00 (i:=6) (oi:=_) (v:=?_) rfl (fun _ _ _ h=>h) (Or.inl ⟨by rfl,?_⟩) ?_;rotate_left
 ·(intro w hSw;(try dsimp only at hSw);go_split_ands;go_simp;try with_reducible rfl)
 try simp only[Act.put]
 refine Xn (fun w'=>w'.cell? ⟨g,0,none⟩=some v) (fun i=>decide (i=5∨i=7∨i=8)) (fun _=>trivial) ?_;have hSS:(fun w'=>w'.cell? ⟨g,0,none⟩=some v) w.drew:=c0;refine z00 (i:=0) (oi:=_) (v:=?_) rfl (fun _ _ _ h=>h) (Or.inl ⟨by rfl,?_⟩) ?_;rotate_left
 ·(intro w hSw;(try dsimp only at hSw);go_split_ands;go_simp;try with_reducible rfl)
 try simp only[Act.put]
 refine z02 (rs:=[4]) (by kernel_rfl) (by simp) (z01.cons (o:=_) rfl (fun K hK=>?_) z01.nil);go_simp;refine (SG.out _).mono ?_;rintro e w3 ⟨k3,cap3,rfl,o3,hk3,hk3',hc3, -⟩;have N3:=ah (((Ch.refl (fun _=>False) w).drew).tr o3.nx);have OV:=ah (HO.out.tr N3.out);have BV:=ah (HB.out.nx N3.out);have R3:=ah o3.sK;have c3:w3.cell? ⟨g,0,none⟩=some v:=BV.out.cell 0;have RY:=ah (HY.out.nx (by decide) N3.out);have hk3w:w.heap.size<=k3:=hk3;have hlt3:∀k,v.ownBlock=some k->k≠k3:=fun k e=>by have:=(HO.out.lt k e).2;omega
 clear o3;refine hK.out _ _ (fun _=>c3) (fun aj=>?_);have hHeld:=aj (by decide);clear hK K aj
 try simp only[Act.put,aB,ay,aA]
 refine z02 (rs:=[5]) (by kernel_rfl) (by simp) (z01.cons (o:=_) rfl (fun K hK=>?_) z01.nil);refine OM _ rfl (.tmp 5) (.tmp 9) _ rfl W.heap.size 5 i0 _ 1 1 Tryz.underlying47 hi0 hz0 hz1 hz2 rfl (by omega) v xs.length (bl xs) rfl OV.out.own _ (some ⟨k3,0,none⟩) (au m).length cap3 (bl (au m)) rfl R3.out (jv _) (by simp only[maxLen];omega) (by omega) OV.out.nx.size ?_;intro v5 w5 UK gr5 at5;obtain ⟨o5,m5⟩:=z12 OV.out (Ch.refl _ _) UK gr5 at5;have O5:=ah o5;have M5:=ah m5;have RY5:=ah (RY.out.ch (by decide) m5.ch (fun k _ hk e=>hD k hk e));clear UK gr5 at5 o5 m5;refine hK.out _ _ (fun h=>absurd h (by decide)) (fun aj=>?_);clear hK K aj
 try simp only[Act.put,List.setIfInBounds_toArray]
 refine z02 (rs:=[7]) (by kernel_rfl) (by simp) (z01.cons (o:=_) rfl (fun K hK=>?_) z01.nil);refine OM _ rfl (.tmp 10) (.tmp 11) _ rfl W.heap.size 5 i0 _ 1 1 Tryz.underlying47 hi0 hz0 hz1 hz2 rfl (by omega) v5 (xs.length+(au m).length) (bl xs++bl (au m)) rfl O5.out.own D B m c (bl ys) rfl RY5.out (jv _) (by simp only[maxLen];omega) (by omega) O5.out.nx.size ?_;intro v7 w7 eH gr7 at7;obtain ⟨o7,m7⟩:=z12 O5.out (Ch.refl _ _) eH gr7 at7;have O7:=ah o7;have M7:=ah m7;have hv5:v5.ownBlock≠some g:=z06 O5.out.own (BV.out.ch M5.out.ch SI.out) (by decide);have B7:=ah ((BV.out.ch M5.out.ch SI.out).ch m7.ch hv5);have f7:w7.frozen? ⟨g,0,none⟩=false:=B7.out.frozen 0;have c7:w7.cell? ⟨g,0,none⟩=some v:=B7.out.cell 0;obtain ⟨A7,cp7,rfl, -, -⟩:=o7.form;clear eH gr7 at7 o7 m7 hv5;refine hK.out _ _ (fun h=>absurd h (by decide)) (fun aj=>?_);clear hK K aj
 try simp only[Act.put]
 refine z02 (rs:=[8]) (by kernel_rfl) (by simp) (z01.cons (o:=_) rfl (fun K hK=>?_) z01.nil);go_simp;refine hK.out _ _ (fun h=>absurd h (by decide)) (fun aj=>?_);clear hK K aj
 try simp only[Act.put,aB,ay,aA]
 refine z08 (by kernel_rfl) ?_ _;go_wp2_with fail;refine bodyPost_ret (results_none rfl _ _ _) rfl ?_;have hv7:(Value.slice A7 (xs.length+(au m).length+m) cp7).ownBlock≠some g:=z06 O7.out.own B7.out (by decide);have cs:Ch (fun k=>k=g) w7 (w7.setCell ⟨g,0,none⟩ (.slice A7 (xs.length+(au m).length+m) cp7)):=Ch.setCell (S:=fun k=>k=g) (Ch.refl _ w7) (p:=⟨g,0,none⟩) (fun _=>rfl) _;refine ⟨rfl,⟨_,B7.out.aS 0 _,?_⟩,Du.of HB.out HO.out ?_⟩
 ·rw[HW.out,←hl]
  have:=O7.out.ch cs (fun k e h=>hv7 (by rw[e,h])) (fun i hi e=>by omega);rw[←hl]at this;simpa [bl,Nat.add_assoc]using this
 ·refine (((N3.out.mono (fun _ _ hf=>hf.elim)).trans M5.out.ch (fun i _ e=>.inr e)).trans M7.out.ch (fun i hi e=>?_)).trans cs (fun i _ e=>.inl e)
  rcases M5.out.at_ with h|⟨j,h,h2⟩
  ·right;rw[←h];exact e
  ·rw[h]at e
   injection e with e;have:=N3.out.size;omega
end Go.Proofs.YtdbfejfhpkakhaaGreat
namespace Go.Proofs.YtdbfejfhpkakhaaGreat
open Go.RowKit Go.Shelf
attribute [local go_sem] Oper.semAt_some
def bg (n per k:Nat):Nat:=min per (n-k * per)
def aZ (n per:Nat):Nat:=(n+per-1) / per
def ug (A:Option Addr) (n per k:Nat):Value:=.slice (A.map fun ad=>ad.add (k * per * 9)) (bg n per k) (bg n per k)
def DF (p q:Nat) (W W':World):Prop:=W.heap.size<=W'.heap.size/\W'.heap[p]?=W.heap[p]?/\W'.heap[q]?=W.heap[q]?
theorem DF.refl (p q:Nat) (W:World):DF p q W W:=⟨Nat.le_refl _,rfl,rfl⟩
theorem DF.trans {p q:Nat} {A B C:World} (h:DF p q A B) (k:DF p q B C):DF p q A C:=⟨Nat.le_trans h.1 k.1,k.2.1.trans h.2.1,k.2.2.trans h.2.2⟩
theorem XR {W W':World} {p:Nat} (h:W'.heap[p]?=W.heap[p]?) (i:Nat):W'.cell? ⟨p,i,none⟩=W.cell? ⟨p,i,none⟩:=by
 unfold World.cell?;simp only[h]
theorem FI (l p q:Nat) (A:Option Addr) (n c per:Nat) (jA:1<=per) (PE:per<=1000000) (hn:n<=1000000) (hc:n<=c) (hA:0<n->A≠none) (J:Nat->World->Prop) (Jx:World->Prop) (hJd:∀k W q,J k W->J k (W.drewN q))
 (hY:∀k W,J k W->k<aZ n per->YieldAt Fence.wide 8 Tryz.prog l #[ug A n per k] W fun e W'=>
   (e=.returned (.bool true)/\J (k+1) W'/\DF p q W W')∨(e=.returned (.bool false)/\Jx W'))
 (W:World) (hp:W.cell? ⟨p,0,none⟩=some (.slice A n c)) (hq:W.cell? ⟨q,0,none⟩=some (.int .i64 (per:Int))) (h0:J 0 W):
 CallsIn Fence.wide 9 Tryz.prog 116 #[.func (.yield l) #[] #[],.pointer (some ⟨p,0,none⟩),.pointer (some ⟨q,0,none⟩)] W fun e W'=>(∃v,e=.returned v)/\
  (J (aZ n per) W'∨Jx W'):=by
 refine callsIn_of_wp Tryz.func116 rfl trivial ?_ rfl;simp only[Tryz.ntmps116,List.size_toArray,List.length_cons,List.length_nil,Nat.reduceAdd,Nat.reduceSub,Array.replicate_succ,Array.replicate_zero,List.push_toArray,List.append_toArray,List.nil_append,List.cons_append];gi_wp2
 gi_loopw [4] (fun i wr=>∃k:Nat,k<=aZ n per/\i=.int .i64 ((k * per:Nat):Int)/\J k wr/\DF p q W wr)
  (fun i _=>n+per-(intOf i).toNat)
 case atStart=>exact ⟨0,Nat.zero_le _,by simp,h0,DF.refl _ _ _⟩
 case round=>
  obtain ⟨k,hk,rfl,hJs,hnx⟩:=hrel;have p0:wr.cell? ⟨p,0,none⟩=some (.slice A n c):=(XR hnx.2.1 0).trans hp;have q0:wr.cell? ⟨q,0,none⟩=some (.int .i64 (per:Int)):=(XR hnx.2.2 0).trans hq;by_cases hlt:k<aZ n per
  ·have hlt2:k * per<n:=(jZ (by omega)).1 hlt
   obtain ⟨ad,rfl⟩:=Option.ne_none_iff_exists'.1 (hA (by omega));have HY:=ah fun q'=>hY k (wr.drewN q') (hJd _ _ _ hJs) hlt;have hm1:bg n per k=min per (n-k * per):=rfl;have hm2:0<bg n per k:=by rw[hm1];omega
   have hm3:k * per+bg n per k<=n:=by rw[hm1];omega
   have hmul:(k+1) * per=k * per+per:=Nat.succ_mul k per;have HMUL:=ah hmul;unfold ug at HY;clear hmul hJs;unfold bg at HY hm1 hm2 hm3;clear hm1;generalize k * per=i at *;have e1:IntKind.i64.wrap ((n:Int)-(i:Int))=(n:Int)-i:=IntWalk.i64_in _ (by omega);gi_wp2
   refine wpIn_wide.2 ?_;go_quiet (fail)
   obtain ⟨fn,tmps,assign,body,hy,hR⟩:=HY.out nq;have eT:((i:Int)+min (per:Int) ((n-i:Nat):Int)).toNat-i=min per (n-i):=(by omega);rw[Option.map_some]at hy;gi_wp2
   refine hR.mono ?_;rintro e W3 (⟨rfl,hJ3,hk3⟩|⟨rfl,hJx3⟩)
   ·have hk4:DF p q W W3:=hnx.trans (DF.trans (B:=wr.drewN nq) ⟨Nat.le_refl _,rfl,rfl⟩ hk3)
    have q3:W3.cell? ⟨q,0,none⟩=some (.int .i64 (per:Int)):=(XR hk4.2.2 0).trans hq;gi_wp2
    go_roundw
    case rel=>exact ⟨k+1,hlt,by rw[HMUL.out];simp,hJ3,hk4⟩
    case measure=>simp[intOf];omega
   ·gi_wp2
    refine bodyPost_ret (results_none rfl _ _ _) rfl ?_;exact ⟨⟨_,rfl⟩,.inr hJx3⟩
  ·obtain rfl:k=aZ n per:=by omega
   have hge:n<=aZ n per * per:=by
    have h1:=(jZ (per:=per) (n:=n) (i:=aZ n per) (by omega)).2;exact Nat.not_lt.1 fun h=>absurd (h1 h) (Nat.lt_irrefl _)
   generalize aZ n per * per=i at *;gi_wp2
   go_end0
   exact ⟨⟨_,rfl⟩,.inl hJs⟩
theorem grown_drewN (W:World) (k:Nat):W.grownBy (W.drewN k) none:=⟨rfl,rfl,rfl,Nat.le_refl _,fun _ _ _=>rfl⟩
theorem Ns {N k:Nat} (h:k<N):(List.finRange N).take (k+1)=(List.finRange N).take k++[⟨k,h⟩]:=by
 rw[List.take_succ_eq_append_getElem (by rw[List.length_finRange];exact h)];simp
theorem RH {α:Type} {N:Nat} (f:Nat->α):(List.finRange N).map (fun i=>f i.val)=(List.range N).map f:=by
 apply List.ext_getElem
 ·simp
 ·intro i h1 h2
  simp
theorem xK (p q:Nat) (A:Option Addr) (n c per:Nat) (jA:1<=per) (PE:per<=1000000) (hn:n<=1000000) (hc:n<=c) (hA:0<n->A≠none) (w:World) (hp:w.cell? ⟨p,0,none⟩=some (.slice A n c)) (hq:w.cell? ⟨q,0,none⟩=some (.int .i64 (per:Int))):
 SeqStopsK Fence.wide 9 Tryz.prog 116 #[.pointer (some ⟨p,0,none⟩),.pointer (some ⟨q,0,none⟩)] (fun k:Fin (aZ n per)=> #[ug A n per k.val]) (DF p q) (fun xs=>xs=List.finRange (aZ n per)) (fun _=>True) (aZ n per) w:=fun l J Jx W hW hJ _ hY h0=>by
 have h1:=World.block_lt_of_cell? w _ hp;have h2:=World.block_lt_of_cell? w _ hq;refine (FI l p q A n c per jA PE hn hc hA (fun k W=>J ((List.finRange (aZ n per)).take k) W) (fun W=>∃pre,Jx pre W) (fun k W' q' h=>hJ _ W' _ none h (grown_drewN W' q') (fun r hr=>by cases hr)) (fun k W' h hk=>?_) W ((hW.cell (p:=⟨p,0,none⟩) h1).trans hp) ((hW.cell (p:=⟨q,0,none⟩) h2).trans hq) (by simpa using h0)).mono ?_
 ·obtain ⟨fn,tmps,assign,body,hy,hR⟩:=hY _ ⟨k,hk⟩ W' h (by rw[List.length_take,List.length_finRange];omega)
  refine ⟨fn,tmps,assign,body,hy,hR.mono ?_⟩;rintro e W2 (⟨rfl,hJ2,hk2⟩|⟨rfl,hJ2⟩)
  ·exact .inl ⟨rfl,by rw[Ns hk];exact hJ2,hk2⟩
  ·exact .inr ⟨rfl,_,hJ2⟩
 ·rintro e W2 ⟨he,hJ2|⟨pre,hJ2⟩⟩
  ·exact ⟨he,.inl ⟨_,rfl,by rw[List.take_of_length_le (by simp)]at hJ2;exact hJ2⟩⟩
  ·exact ⟨he,.inr ⟨pre,trivial,hJ2⟩⟩
theorem FH (A:Option Addr) (n c per:Nat) (jA:1<=per) (hp2:per<=1000000) (w:World):
 Calls Tryz.prog 90 #[.slice A n c,.int .i64 (per:Int)] w fun e w'=>e=.returned (.func (.func 116) #[] #[.pointer (some ⟨w.heap.size,0,none⟩),.pointer (some ⟨w.heap.size+1,0,none⟩)])/\
  w'=(w.alloc (.cells #[.slice A n c] 34)).alloc (.cells #[.int .i64 (per:Int)] 3):=by
 have q1:¬((per:Int)<1):=by omega
 go_enter Tryz.func90,Tryz.ntmps90;go_wp2_with fail;go_ret;exact ⟨rfl,rfl⟩
end Go.Proofs.YtdbfejfhpkakhaaGreat
