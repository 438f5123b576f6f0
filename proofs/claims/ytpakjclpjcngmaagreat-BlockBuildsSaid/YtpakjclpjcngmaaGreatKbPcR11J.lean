/- Contracts and plain laws that the last text rests on. Conditions: each theorem states its own. -/
import Derived.Test.YtpakjclpjcngmaaGreatKbQ27
import Derived.Test.YtpakjclpjcngmaaGreatKbQ26
import Derived.Test.YtpakjclpjcngmaaGreatKbQ12
import Derived.Test.YtpakjclpjcngmaaGreatKbQ28
import Derived.Test.YtpakjclpjcngmaaGreatKbQ30
import Derived.Test.YtpakjclpjcngmaaGreatKbQ37
import Derived.Test.YtpakjclpjcngmaaGreatKbQ34
set_option maxRecDepth 100000
set_option maxHeartbeats 64000000
set_option linter.unusedVariables false
namespace Go.Proofs.YtpakjclpjcngmaaGreat
open Go.RowKit Ps
def rW (j:Nat) (x:aA):Value:=if j=0 then .int .i64 x.time else if j=1 then .int .i64 x.maker else if j=2 then .int .i64 x.seq else if j=3 then .int .i64 x.place else if j=4 then .int .i64 x.kind else if j=5 then .int .i64 x.value
 else if j=6 then .string (aT x) else if j=7 then .string x.text else .bool x.null
def dY (R:List aA) (k i j:Nat):List Value:=if j<i then (R.take (k+1)).map (rW j) else (R.take k).map (rW j)
theorem uT {R:List aA} {k i:Nat} (hk:k<R.length):iD (dY R k i) i (dY R k i i++[rW i R[k]])=dY R k (i+1):=by
 funext j
 by_cases e:j=i
 ·subst e
  rw[z1n];unfold dY;rw[if_neg (Nat.lt_irrefl _),if_pos (Nat.lt_succ_self _),List.take_succ_eq_append_getElem hk,List.map_append];rfl
 ·rw[jq _ _ e]
  unfold dY;by_cases h:j<i
  ·rw[if_pos h,if_pos (by omega)]
  ·rw[if_neg h,if_neg (by omega)]
theorem z4i {R:List aA} {k i:Nat} (hk:k<=R.length):(dY R k i i).length=k:=by
 unfold dY;rw[if_neg (Nat.lt_irrefl _),List.length_map,List.length_take];omega
theorem iI.congr {w W:World} {b3:Nat} {v:Nat->Value} {xs ys:Nat->List Value} (h:iI w W b3 v xs) (e:∀j,j<9->xs j=ys j):iI w W b3 v ys:=
 ⟨fun j hj=>by rw[←e j hj];exact h.own j hj,h.apart,h.blk,h.lb⟩
theorem KG {R:List aA} {k:Nat}:∀j,j<9->dY R k 9 j=dY R (k+1) 0 j:=fun j hj=>by
 unfold dY;rw[if_pos hj,if_neg (Nat.not_lt_zero j)]
theorem ZX (a b c d e f:Value) (W:World):(Instr.index 168 (.agg #[a,b,c,d,e,f]) (.int .i64 0)).run Tryz.prog W=.ok a W:=by kernel_rfl
theorem ZW (a b c d e f:Value) (W:World):(Instr.index 168 (.agg #[a,b,c,d,e,f]) (.int .i64 1)).run Tryz.prog W=.ok b W:=by kernel_rfl
theorem ZV (a b c d e f:Value) (W:World):(Instr.index 168 (.agg #[a,b,c,d,e,f]) (.int .i64 2)).run Tryz.prog W=.ok c W:=by kernel_rfl
theorem ZU (a b c d e f:Value) (W:World):(Instr.index 168 (.agg #[a,b,c,d,e,f]) (.int .i64 3)).run Tryz.prog W=.ok d W:=by kernel_rfl
theorem ZT (a b c d e f:Value) (W:World):(Instr.index 168 (.agg #[a,b,c,d,e,f]) (.int .i64 4)).run Tryz.prog W=.ok e W:=by kernel_rfl
theorem ZR (a b c d e f:Value) (W:World):(Instr.index 168 (.agg #[a,b,c,d,e,f]) (.int .i64 5)).run Tryz.prog W=.ok f W:=by kernel_rfl
def vG0 (m:Nat) (j:Nat):Value:=if j<6 then .slice none 0 0 else .slice (some ⟨m+(j-5),0,none⟩) 0 0
theorem iI.start (w:World) (R:List aA):iI w ((((w.alloc (.cells #[.slice none 0 0,.slice none 0 0,.slice none 0 0,.slice none 0 0,.slice none 0 0,.slice none 0 0] 115)).alloc (.cells #[] 9)).alloc (.cells #[] 9)).alloc (.cells #[] 4)) w.heap.size (vG0 w.heap.size) (dY R 0 0):=by
 have n0:Nx w (w.alloc (.cells #[.slice none 0 0,.slice none 0 0,.slice none 0 0,.slice none 0 0,.slice none 0 0,.slice none 0 0] 115)):=(Ch.refl (fun _=>False) w).alloc _;have b0:=aG.new w 115 #[.slice none 0 0,.slice none 0 0,.slice none 0 0,.slice none 0 0,.slice none 0 0,.slice none 0 0];have hs:(w.alloc (.cells #[.slice none 0 0,.slice none 0 0,.slice none 0 0,.slice none 0 0,.slice none 0 0,.slice none 0 0] 115)).heap.size=w.heap.size+1:=by simp
 generalize w.alloc (.cells #[.slice none 0 0,.slice none 0 0,.slice none 0 0,.slice none 0 0,.slice none 0 0,.slice none 0 0] 115)=w1 at *;have o6:=ak.lit w w1 9 n0 1;have n1:Nx w (w1.alloc (.cells #[] 9)):=n0.alloc _;have hs1:(w1.alloc (.cells #[] 9)).heap.size=w.heap.size+2:=by simp[hs]
 have o7:=ak.lit w _ 9 n1 1;have n2:=n1.alloc (.cells #[] 9);have hs2:((w1.alloc (.cells #[] 9)).alloc (.cells #[] 9)).heap.size=w.heap.size+3:=by simp[hs]
 have o8:=ak.lit w _ 4 n2 1;have n3:=n2.alloc (.cells #[] 4);rw[hs]at o6;rw[hs1]at o7;rw[hs2]at o8;have o6':=(o6.alloc (.cells #[] 9)).alloc (.cells #[] 4);have o7':=o7.alloc (.cells #[] 4);refine ⟨fun j hj=>?_,fun i j hi hj hij k e1 e2=>?_,((b0.alloc _).alloc _).alloc _,Nat.le_refl _⟩
 ·have e:dY R 0 0 j=[]:=by simp[dY]
  rw[e];by_cases h6:j<6
  ·unfold vG0
   rw[if_pos h6];exact ak.nil w _ _ 1 n3
  ·rcases (show j=6∨j=7∨j=8 by omega) with rfl|rfl|rfl
   ·exact o6'
   ·exact o7'
   ·exact o8
 ·unfold vG0 at e1 e2
  split at e1
  ·cases e1
  ·split at e2
   ·cases e2
   ·have e1':some (w.heap.size+(i-5))=some k:=e1
    have e2':some (w.heap.size+(j-5))=some k:=e2;injection e1' with e1';injection e2' with e2';omega
theorem iI.wQ {w W:World} {b3 k j:Nat} {v:Nat->Value} {R:List aA} (hj:j<6) (hk:k<=R.length) (h:iI w W b3 v (dY R k j)):ak w W 2 1 (v j) k (dY R k j j):=by
 have o:=h.own j (by omega);rw[z4i hk]at o;unfold FX at o;rw[if_pos hj]at o;exact o
theorem iI.ZQ {w W W':World} {b3 k j:Nat} {v:Nat->Value} {v' u:Value} {R:List aA} (hj:j<6) (hk:k<R.length) (h:iI w W b3 v (dY R k j)) (hu:rW j R[k]=u) (o:ak w W' 2 1 v' (k+1) (dY R k j j++[u])) (m:Moved W W' (v j) v'):
 iI w (W'.setCell ⟨b3,j,none⟩ v') b3 (iD v j v') (dY R k (j+1))/\aG W' b3 115 #[v 0,v 1,v 2,v 3,v 4,v 5]:=by
 have o2:ak w W' (FX j) 1 v' ((dY R k j j).length+1) (dY R k j j++[u]):=by
  rw[z4i (Nat.le_of_lt hk)];unfold FX;rw[if_pos hj];exact o
 have g:=iI.sto hj h o2 m;rw[←hu,uT hk]at g;exact ⟨g,(iI.grow (by omega) h o2 m).2.2⟩
theorem iI.WH {w W:World} {b3 k i:Nat} {v:Nat->Value} {R:List aA} (hi:i<9) (hk:k<=R.length) (h:iI w W b3 v (dY R k i)):ak w W (FX i) 1 (v i) k (dY R k i i):=by
 have o:=h.own i hi;rw[z4i hk]at o;exact o
theorem iI.LZ {w W W':World} {b3 k i:Nat} {v:Nat->Value} {v' u:Value} {R:List aA} (h6:6<=i) (hi:i<9) (hk:k<R.length) (h:iI w W b3 v (dY R k i)) (hu:rW i R[k]=u) (o:ak w W' (FX i) 1 v' (k+1) (dY R k i i++[u])) (m:Moved W W' (v i) v'):
 iI w W' b3 (iD v i v') (dY R k (i+1)):=by
 have g:=iI.put h6 hi h (by rw[z4i (Nat.le_of_lt hk)];exact o) m;rw[←hu,uT hk]at g;exact g
theorem iI.keep {w W W':World} {b3 n:Nat} {v:Nat->Value} {xs:Nat->List Value} {s:Value} {ys:List Value} (h:iI w W b3 v xs) (o:ak w W 5 1 s n ys) (m:Ch (fun k=>s.ownBlock=some k) W W'):iI w W' b3 v xs:=by
 have hne:∀j,5≠FX j:=fun j=>by
  unfold FX;split
  ·decide
  ·split<;>decide
 refine ⟨fun j hj=>(h.own j hj).ch m (fun k hk e=>?_) (fun k hk e=>by have:=(o.lt k e).1;omega),h.apart,h.blk.ch m (fun e=>z03 o.own h.blk (by decide) e),h.lb⟩;obtain ⟨cs,hB⟩:=iJ (h.own j hj).own hk;exact z03 o.own hB (hne j) e
def gW (j:Nat) (x:aA):Int:=if j=0 then x.time else if j=1 then x.maker else if j=2 then x.seq else if j=3 then x.place else if j=4 then x.kind else x.value
theorem Py {j:Nat} (h:j<6) (x:aA):rW j x=.int .i64 (gW j x):=by
 rcases (show j=0∨j=1∨j=2∨j=3∨j=4∨j=5 by omega) with rfl|rfl|rfl|rfl|rfl|rfl<;>rfl
theorem iI.rdI {w W:World} {b3 n j:Nat} {v:Nat->Value} {R:List aA} (h:iI w W b3 v (dY R n 0)) (hn:R.length=n) (hj:j<6):∃A c,v j=.slice A n c/\n<=c/\c<=maxLen/\Rd W (fun k=>k<W.heap.size) 1 A n (il (R.map (gW j))):=by
 have o:=h.own j (by omega)
 have e:dY R n 0 j=il (R.map (gW j)):=by
  unfold dY il;rw[if_neg (Nat.not_lt_zero j),List.take_of_length_le (by omega),List.map_map];exact List.map_congr_left fun x _=>Py hj x
 rw[e]at o;have el:(il (R.map (gW j))).length=n:=by simp[il,hn]
 rw[el]at o;obtain ⟨A,c,hv,h1,h2⟩:=o.form;rw[hv]at o;exact ⟨A,c,hv,h1,h2,o.rd.more fun k hk=>hk.2.2⟩
theorem iI.rdS {w W:World} {b3 n j:Nat} {v:Nat->Value} {R:List aA} (h:iI w W b3 v (dY R n 0)) (hn:R.length=n) (f:aA->ByteArray) (hj:j<9) (hf:∀x,rW j x=.string (f x)):∃A c,v j=.slice A n c/\n<=c/\c<=maxLen/\Rd W (fun k=>k<W.heap.size) 1 A n (b_ (R.map f)):=by
 have o:=h.own j hj
 have e:dY R n 0 j=b_ (R.map f):=by
  unfold dY b_;rw[if_neg (Nat.not_lt_zero j),List.take_of_length_le (by omega),List.map_map];exact List.map_congr_left fun x _=>hf x
 rw[e]at o;have el:(b_ (R.map f)).length=n:=by simp[b_,hn]
 rw[el]at o;obtain ⟨A,c,hv,h1,h2⟩:=o.form;rw[hv]at o;exact ⟨A,c,hv,h1,h2,o.rd.more fun k hk=>hk.2.2⟩
theorem iI.rdB {w W:World} {b3 n:Nat} {v:Nat->Value} {R:List aA} (h:iI w W b3 v (dY R n 0)) (hn:R.length=n):∃A c,v 8=.slice A n c/\n<=c/\c<=maxLen/\Rd W (fun k=>k<W.heap.size) 1 A n (lu (R.map fun x=>x.null)):=by
 have o:=h.own 8 (by decide)
 have e:dY R n 0 8=lu (R.map fun x=>x.null):=by
  unfold dY lu;rw[if_neg (Nat.not_lt_zero 8),List.take_of_length_le (by omega),List.map_map];exact List.map_congr_left fun x _=>rfl
 rw[e]at o;have el:(lu (R.map fun x=>x.null)).length=n:=by simp[lu,hn]
 rw[el]at o;obtain ⟨A,c,hv,h1,h2⟩:=o.form;rw[hv]at o;exact ⟨A,c,hv,h1,h2,o.rd.more fun k hk=>hk.2.2⟩
theorem EL (R:List aA):((((((List.range 5).map fun i=>ay 1 (aX (R.map (gW i)))).flatMap aO++aO (ay 2 (aQ (R.map aT))))++aO (ay 3 (aU (R.map fun x=>x.text))))++aO (ay 1 (aX (R.map (gW 5))))))++aO (ay 4 (aP (R.map fun x=>x.null)))=aF R:=by
 unfold aF bZ;rw[show List.range 5=[0,1,2,3,4] from rfl,show gW 5=(fun x=>x.value) from rfl];simp only[List.map_cons,List.map_nil,List.flatMap_cons,List.flatMap_nil,List.append_assoc,List.append_nil];rw[show gW 0=(fun x=>x.time) from rfl,show gW 1=(fun x=>x.maker) from rfl,show gW 2=(fun x=>x.seq) from rfl,show gW 3=(fun x=>x.place) from rfl,show gW 4=(fun x=>x.kind) from rfl]
theorem Tryz.Xc:(Tryz.prog.info? 2).map (fun i=>(i.zero,i.size,i.bytes))=some (some (.int .i64 0),1,8):=by kernel_rfl
theorem Tryz.GL:(Tryz.prog.info? 9).map (fun i=>(i.zero,i.size,i.bytes))=some (some (.string ⟨#[]⟩),1,16):=by kernel_rfl
theorem Tryz.Xd:(Tryz.prog.info? 4).map (fun i=>(i.zero,i.size,i.bytes))=some (some (.bool false),1,1):=by kernel_rfl
theorem Ar {w:World} {D:Nat->Prop} {A:Option Addr} {n c:Nat} {l:List RV} (hr:Rd w D 9 A n (iE l)) (hl:l.length=n) (hg:dM (l.map fun x=>x.row)) (hk:∀x∈l,x.ok w D)
 (hw:(aQ ((l.map fun x=>x.row).map aT)).length<=65535) (ht:(aU ((l.map fun x=>x.row).map fun x=>x.text)).length<=65535):
 Calls Tryz.prog 53 #[.slice A n c] w fun e w'=>∃v,e=.returned v/\ak w w' 5 1 v (aF (l.map fun x=>x.row)).length (bl (aF (l.map fun x=>x.row))):=by
 obtain ⟨i0,hi0,hz0,hz1,hz2⟩:=info_parts Tryz.Xc;obtain ⟨j0,hj0,hy0,hy1,hy2⟩:=info_parts Tryz.GL;obtain ⟨k0,hk0,hx0,hx1,hx2⟩:=info_parts Tryz.Xd;obtain ⟨R,hR⟩:∃R,R=l.map fun x=>x.row:=⟨_,rfl⟩;rw[←hR]at hg hw ht ⊢;have hRl:R.length=n:=by rw[hR,List.length_map,hl]
 have jB:=ah hRl;have hn256:n<=256:=by rw[←hRl];exact hg.few
 have jo:=ah hr;have UM:=ah hg;have HW:=ah hw;have HT:=ah ht;have HKK:=ah (fun (w':World) (c':Nx w w') (x:RV) (hx:x∈l)=>(hk x hx).ch c' (fun _ _ _ hf=>hf) (fun _ hd=>hd));have HLR:=ah (fun k (h1:k<l.length) (h2:k<R.length)=>(by rw[List.getElem_of_eq hR h2,List.getElem_map]:R[k]=l[k].row));have CP:=ah hl;have G0:=ah (iI.start w R);clear hr hl hg hk hw ht hR hRl;go_enter Tryz.func53,Tryz.ntmps53;go_wp2_with fail;go_loopw [4,5,6,19] (fun s4 s5 s6 i wr=>∃(k:Nat) (v:Nat->Value),k<=n/\i=.int .i64 (k:Int)/\s4=v 6/\s5=v 7/\s6=v 8/\Hid (iI w wr w.heap.size v (dY R k 0))) (fun _ _ _ i _=>n-(intOf i).toNat)
 case atStart=>exact ⟨0,vG0 w.heap.size,Nat.zero_le _,rfl,rfl,rfl,rfl,G0⟩
 case round=>
  clear G0;obtain ⟨w4,rfl⟩:∃w4:World,w4=wr:=⟨_,rfl⟩;obtain ⟨k,v,hkn,rfl,rfl,rfl,rfl,HG⟩:=hrel;have N4:=ah (HG.out.own 0 (by decide)).nx;by_cases hlt:k<n
  ·have hkl:k<l.length:=by have:=CP.out;omega
   have hkR:k<R.length:=by have:=jB.out;omega
   obtain ⟨ad,rfl, -,p0,p1,p2,p3,p4,p5,p6,p7,p8⟩:=z18 (jo.out.nx (by decide) N4.out) hkl;have HX0:=HLR.out k hkl hkR;have Qw:=ou (UM.out.row R[k] (List.getElem_mem hkR));have hok:=fun (w':World) (c':Nx w w')=>HKK.out w' c' _ (List.getElem_mem hkl);rw[HX0]at Qw;generalize l[k]=x at *;obtain ⟨⟨kind,time,aB,text,value,null,maker,seq,place⟩,A1,c1⟩:=x;simp only at p0 p1 p2 p3 p4 p5 p6 p7 p8 HX0 Qw;have HX:=ah HX0;obtain ⟨h4,hls,htx⟩:=Qw
   have HT8:=ah (fun (w':World) (c':Nx w w')=>(by
    have h:=z4s (c:=c1) (hok w' c').1 rfl (by show aB.length<=_;omega) hls;rw[htx]at h;exact h:Calls Tryz.prog 29 #[.slice A1 aB.length c1] w' fun e w''=>e=.returned (.string (aT ⟨kind,time,aB,text,value,null,maker,seq,place⟩))/\Nx w' w''))
   have HB:=ah (aG.new w4 58 #[.int .i64 kind,.int .i64 time,.slice A1 aB.length c1,.string text,.int .i64 value,.bool null,.int .i64 maker,.int .i64 seq,.int .i64 place]);have HG5:=ah (HG.out.nx ((Ch.refl (fun _=>False) w4).alloc (.cells #[.int .i64 kind,.int .i64 time,.slice A1 aB.length c1,.string text,.int .i64 value,.bool null,.int .i64 maker,.int .i64 seq,.int .i64 place] 58)));have hb3:w.heap.size<w4.heap.size:=HG.out.blk.lt;clear HX0 hok h4 hls htx HG;go_wp2_with fail;clear p0 p1 p2 p3 p4 p5 p6 p7 p8;generalize hm:w4.heap.size=m at *;go_loopw [39] (fun i wr=>∃(j:Nat) (v':Nat->Value),j<=6/\i=.int .i64 (j:Int)/\v' 6=v 6/\v' 7=v 7/\v' 8=v 8/\Hid (iI w wr w.heap.size v' (dY R k j))/\Hid (aG wr m 58 #[.int .i64 kind,.int .i64 time,.slice A1 aB.length c1,.string text,.int .i64 value,.bool null,.int .i64 maker,.int .i64 seq,.int .i64 place])) (fun i _=>6-(intOf i).toNat)
   case atStart=>exact ⟨0,v,by decide,rfl,rfl,rfl,rfl,HG5,HB⟩
   case round=>
    clear HG5 HB;obtain ⟨w5,rfl⟩:∃w5:World,w5=wr:=⟨_,rfl⟩;obtain ⟨j,v',hj,rfl,e6,e7,e8,HG,HB⟩:=hrel;have E6:=ah e6;have E7:=ah e7;have E8:=ah e8;clear e6 e7 e8;by_cases hj6:j<6
    ·have HO6:=ah (HG.out.wQ hj6 (Nat.le_of_lt hkR))
     have HST:=ah (fun u v7 w7 hu o m=>HG.out.ZQ (W':=w7) (v':=v7) (u:=u) hj6 hkR hu o m);have c0:w5.cell? ⟨w.heap.size,0,none⟩=some (v' 0):=HG.out.blk.cell 0;have c1':w5.cell? ⟨w.heap.size,1,none⟩=some (v' 1):=HG.out.blk.cell 1;have c2:w5.cell? ⟨w.heap.size,2,none⟩=some (v' 2):=HG.out.blk.cell 2;have c3:w5.cell? ⟨w.heap.size,3,none⟩=some (v' 3):=HG.out.blk.cell 3;have c4:w5.cell? ⟨w.heap.size,4,none⟩=some (v' 4):=HG.out.blk.cell 4;have c5:w5.cell? ⟨w.heap.size,5,none⟩=some (v' 5):=HG.out.blk.cell 5;have f0:=fun W=>ZX (.int .i64 time) (.int .i64 maker) (.int .i64 seq) (.int .i64 place) (.int .i64 kind) (.int .i64 value) W;have f1:=fun W=>ZW (.int .i64 time) (.int .i64 maker) (.int .i64 seq) (.int .i64 place) (.int .i64 kind) (.int .i64 value) W;have f2:=fun W=>ZV (.int .i64 time) (.int .i64 maker) (.int .i64 seq) (.int .i64 place) (.int .i64 kind) (.int .i64 value) W;have f3:=fun W=>ZU (.int .i64 time) (.int .i64 maker) (.int .i64 seq) (.int .i64 place) (.int .i64 kind) (.int .i64 value) W;have f4:=fun W=>ZT (.int .i64 time) (.int .i64 maker) (.int .i64 seq) (.int .i64 place) (.int .i64 kind) (.int .i64 value) W;have f5:=fun W=>ZR (.int .i64 time) (.int .i64 maker) (.int .i64 seq) (.int .i64 place) (.int .i64 kind) (.int .i64 value) W;have hbl:w.heap.size<w5.heap.size:=HG.out.blk.lt;rcases (show j=0∨j=1∨j=2∨j=3∨j=4∨j=5 by omega) with rfl|rfl|rfl|rfl|rfl|rfl
     ·go_wp2_with (at_builtin;refine z06 rfl (.tmp 46) (.tmp 48) _ rfl 2 i0 _ 8 Tryz.underlying114 hi0 hz0 hz1 hz2 rfl (Value.int .i64 time) rfl rfl HO6.out rfl (by simp only[maxLen];omega) (by omega) ?_;intro v7 w7 o7 m7;obtain ⟨A7,c7,rfl, -, -⟩:=o7.form;obtain ⟨g7,b7⟩:=HST.out _ _ _ (by rw[HX.out];rfl) o7 m7;have G7:=ah g7;have fz:w7.frozen? ⟨w.heap.size,0,none⟩=false:=b7.frozen 0;have cz:w7.cell? ⟨w.heap.size,0,none⟩=some (v' 0):=b7.cell 0;have BB:=ah ((HB.out.ch m7.ch (fun e=>z03 HO6.out.own HB.out (by decide) e)).ch (Ch.setCell (Ch.refl (· =w.heap.size) _) (p:=⟨w.heap.size,0,none⟩) (fun _=>rfl) (.slice A7 (k+1) c7)) (by omega));clear o7 m7 g7 b7)
      go_roundw
      case rel=>exact ⟨1,iD v' 0 (.slice A7 (k+1) c7),by decide,rfl,(jq _ _ (by decide)).trans E6.out,(jq _ _ (by decide)).trans E7.out,(jq _ _ (by decide)).trans E8.out,G7,BB⟩
      case measure=>simp[intOf]
     ·go_wp2_with (at_builtin;refine z06 rfl (.tmp 46) (.tmp 48) _ rfl 2 i0 _ 8 Tryz.underlying114 hi0 hz0 hz1 hz2 rfl (Value.int .i64 maker) rfl rfl HO6.out rfl (by simp only[maxLen];omega) (by omega) ?_;intro v7 w7 o7 m7;obtain ⟨A7,c7,rfl, -, -⟩:=o7.form;obtain ⟨g7,b7⟩:=HST.out _ _ _ (by rw[HX.out];rfl) o7 m7;have G7:=ah g7;have fz:w7.frozen? ⟨w.heap.size,1,none⟩=false:=b7.frozen 1;have cz:w7.cell? ⟨w.heap.size,1,none⟩=some (v' 1):=b7.cell 1;have BB:=ah ((HB.out.ch m7.ch (fun e=>z03 HO6.out.own HB.out (by decide) e)).ch (Ch.setCell (Ch.refl (· =w.heap.size) _) (p:=⟨w.heap.size,1,none⟩) (fun _=>rfl) (.slice A7 (k+1) c7)) (by omega));clear o7 m7 g7 b7)
      go_roundw
      case rel=>exact ⟨2,iD v' 1 (.slice A7 (k+1) c7),by decide,rfl,(jq _ _ (by decide)).trans E6.out,(jq _ _ (by decide)).trans E7.out,(jq _ _ (by decide)).trans E8.out,G7,BB⟩
      case measure=>simp[intOf]
     ·go_wp2_with (at_builtin;refine z06 rfl (.tmp 46) (.tmp 48) _ rfl 2 i0 _ 8 Tryz.underlying114 hi0 hz0 hz1 hz2 rfl (Value.int .i64 seq) rfl rfl HO6.out rfl (by simp only[maxLen];omega) (by omega) ?_;intro v7 w7 o7 m7;obtain ⟨A7,c7,rfl, -, -⟩:=o7.form;obtain ⟨g7,b7⟩:=HST.out _ _ _ (by rw[HX.out];rfl) o7 m7;have G7:=ah g7;have fz:w7.frozen? ⟨w.heap.size,2,none⟩=false:=b7.frozen 2;have cz:w7.cell? ⟨w.heap.size,2,none⟩=some (v' 2):=b7.cell 2;have BB:=ah ((HB.out.ch m7.ch (fun e=>z03 HO6.out.own HB.out (by decide) e)).ch (Ch.setCell (Ch.refl (· =w.heap.size) _) (p:=⟨w.heap.size,2,none⟩) (fun _=>rfl) (.slice A7 (k+1) c7)) (by omega));clear o7 m7 g7 b7)
      go_roundw
      case rel=>exact ⟨3,iD v' 2 (.slice A7 (k+1) c7),by decide,rfl,(jq _ _ (by decide)).trans E6.out,(jq _ _ (by decide)).trans E7.out,(jq _ _ (by decide)).trans E8.out,G7,BB⟩
      case measure=>simp[intOf]
     ·go_wp2_with (at_builtin;refine z06 rfl (.tmp 46) (.tmp 48) _ rfl 2 i0 _ 8 Tryz.underlying114 hi0 hz0 hz1 hz2 rfl (Value.int .i64 place) rfl rfl HO6.out rfl (by simp only[maxLen];omega) (by omega) ?_;intro v7 w7 o7 m7;obtain ⟨A7,c7,rfl, -, -⟩:=o7.form;obtain ⟨g7,b7⟩:=HST.out _ _ _ (by rw[HX.out];rfl) o7 m7;have G7:=ah g7;have fz:w7.frozen? ⟨w.heap.size,3,none⟩=false:=b7.frozen 3;have cz:w7.cell? ⟨w.heap.size,3,none⟩=some (v' 3):=b7.cell 3;have BB:=ah ((HB.out.ch m7.ch (fun e=>z03 HO6.out.own HB.out (by decide) e)).ch (Ch.setCell (Ch.refl (· =w.heap.size) _) (p:=⟨w.heap.size,3,none⟩) (fun _=>rfl) (.slice A7 (k+1) c7)) (by omega));clear o7 m7 g7 b7)
      go_roundw
      case rel=>exact ⟨4,iD v' 3 (.slice A7 (k+1) c7),by decide,rfl,(jq _ _ (by decide)).trans E6.out,(jq _ _ (by decide)).trans E7.out,(jq _ _ (by decide)).trans E8.out,G7,BB⟩
      case measure=>simp[intOf]
     ·go_wp2_with (at_builtin;refine z06 rfl (.tmp 46) (.tmp 48) _ rfl 2 i0 _ 8 Tryz.underlying114 hi0 hz0 hz1 hz2 rfl (Value.int .i64 kind) rfl rfl HO6.out rfl (by simp only[maxLen];omega) (by omega) ?_;intro v7 w7 o7 m7;obtain ⟨A7,c7,rfl, -, -⟩:=o7.form;obtain ⟨g7,b7⟩:=HST.out _ _ _ (by rw[HX.out];rfl) o7 m7;have G7:=ah g7;have fz:w7.frozen? ⟨w.heap.size,4,none⟩=false:=b7.frozen 4;have cz:w7.cell? ⟨w.heap.size,4,none⟩=some (v' 4):=b7.cell 4;have BB:=ah ((HB.out.ch m7.ch (fun e=>z03 HO6.out.own HB.out (by decide) e)).ch (Ch.setCell (Ch.refl (· =w.heap.size) _) (p:=⟨w.heap.size,4,none⟩) (fun _=>rfl) (.slice A7 (k+1) c7)) (by omega));clear o7 m7 g7 b7)
      go_roundw
      case rel=>exact ⟨5,iD v' 4 (.slice A7 (k+1) c7),by decide,rfl,(jq _ _ (by decide)).trans E6.out,(jq _ _ (by decide)).trans E7.out,(jq _ _ (by decide)).trans E8.out,G7,BB⟩
      case measure=>simp[intOf]
     ·go_wp2_with (at_builtin;refine z06 rfl (.tmp 46) (.tmp 48) _ rfl 2 i0 _ 8 Tryz.underlying114 hi0 hz0 hz1 hz2 rfl (Value.int .i64 value) rfl rfl HO6.out rfl (by simp only[maxLen];omega) (by omega) ?_;intro v7 w7 o7 m7;obtain ⟨A7,c7,rfl, -, -⟩:=o7.form;obtain ⟨g7,b7⟩:=HST.out _ _ _ (by rw[HX.out];rfl) o7 m7;have G7:=ah g7;have fz:w7.frozen? ⟨w.heap.size,5,none⟩=false:=b7.frozen 5;have cz:w7.cell? ⟨w.heap.size,5,none⟩=some (v' 5):=b7.cell 5;have BB:=ah ((HB.out.ch m7.ch (fun e=>z03 HO6.out.own HB.out (by decide) e)).ch (Ch.setCell (Ch.refl (· =w.heap.size) _) (p:=⟨w.heap.size,5,none⟩) (fun _=>rfl) (.slice A7 (k+1) c7)) (by omega));clear o7 m7 g7 b7)
      go_roundw
      case rel=>exact ⟨6,iD v' 5 (.slice A7 (k+1) c7),by decide,rfl,(jq _ _ (by decide)).trans E6.out,(jq _ _ (by decide)).trans E7.out,(jq _ _ (by decide)).trans E8.out,G7,BB⟩
      case measure=>simp[intOf]
    ·have hj7:j=6:=by omega
     subst hj7;have e2:w5.cell? ⟨m,2,none⟩=some (.slice A1 aB.length c1):=HB.out.cell 2;have NW:=ah (HG.out.own 0 (by decide)).nx;have HT:=ah (HT8.out w5 NW.out);clear HT8;go_wp2_with fail;clear e2;refine HT.out.mono ?_;rintro e w6 ⟨rfl,n6⟩;have G6:=ah (HG.out.nx n6);have BB6:=ah (HB.out.nx n6);have HO6:Hid (ak w w6 9 1 (v 6) k (dY R k 6 6)):=ah (by rw[←E6.out];exact G6.out.WH (by decide) (Nat.le_of_lt hkR));have HS6:=ah (fun (v7:Value) (w7:World) (hu:rW 6 R[k]=Value.string (aT ⟨kind,time,aB,text,value,null,maker,seq,place⟩)) (o:ak w w7 9 1 v7 (k+1) (dY R k 6 6++[Value.string (aT ⟨kind,time,aB,text,value,null,maker,seq,place⟩)])) (m:Moved w6 w7 (v 6) v7)=>iI.LZ (i:=6) (u:=Value.string (aT ⟨kind,time,aB,text,value,null,maker,seq,place⟩)) (W':=w7) (v':=v7) (by decide) (by decide) hkR G6.out hu o (by rw[E6.out];exact m));clear n6 HT HG HB
     go_wp2_with (first
      |(at_builtin;refine z06 rfl (.tmp 52) (.tmp 57) _ rfl 9 j0 _ 16 Tryz.underlying80 hj0 hy0 hy1 hy2 rfl (Value.string (aT ⟨kind,time,aB,text,value,null,maker,seq,place⟩)) rfl rfl HO6.out rfl (by simp only[maxLen];omega) (by omega) ?_;intro v7 w7 o7 m7;obtain ⟨A7,c7,rfl, -, -⟩:=o7.form;have N7:=ah (HS6.out _ _ (by rw[HX.out];rfl) o7 m7);have BB7:=ah (BB6.out.ch m7.ch (fun e=>z03 HO6.out.own BB6.out (by decide) e));clear o7 m7;have e3:w7.cell? ⟨m,3,none⟩=some (.string text):=BB7.out.cell 3;have HO7:Hid (ak w w7 9 1 (v 7) k (dY R k 7 7)):=ah (by have o:=N7.out.WH (by decide) (Nat.le_of_lt hkR);rw[jq _ _ (by decide),E7.out]at o;exact o);obtain ⟨va,hva⟩:∃t,t=iD v' 6 (Value.slice A7 (k+1) c7):=⟨_,rfl⟩;have EA6:Hid (va 6=Value.slice A7 (k+1) c7):=ah (by rw[hva,z1n]);have EA7:Hid (va 7=v 7):=ah (by rw[hva,jq _ _ (by decide),E7.out]);have EA8:Hid (va 8=v 8):=ah (by rw[hva,jq _ _ (by decide),E8.out]);rw[←hva]at N7;clear hva;have HS7:=ah (fun (v8:Value) (w8:World) (hu:rW 7 R[k]=Value.string text) (o:ak w w8 9 1 v8 (k+1) (dY R k 7 7++[Value.string text])) (m:Moved w7 w8 (v 7) v8)=>iI.LZ (i:=7) (u:=Value.string text) (W':=w8) (v':=v8) (by decide) (by decide) hkR N7.out hu o (by rw[EA7.out];exact m)))
      |(at_builtin;refine z06 rfl (.tmp 59) (.tmp 63) _ rfl 9 j0 _ 16 Tryz.underlying80 hj0 hy0 hy1 hy2 rfl (Value.string text) rfl rfl HO7.out rfl (by simp only[maxLen];omega) (by omega) ?_;intro v8 w8 o7 m7;obtain ⟨A8,c8,rfl, -, -⟩:=o7.form;have N8:=ah (HS7.out _ _ (by rw[HX.out];rfl) o7 m7);have BB8:=ah (BB7.out.ch m7.ch (fun e=>z03 HO7.out.own BB7.out (by decide) e));clear o7 m7;have e5:w8.cell? ⟨m,5,none⟩=some (.bool null):=BB8.out.cell 5;have HO8:Hid (ak w w8 4 1 (v 8) k (dY R k 8 8)):=ah (by have o:=N8.out.WH (by decide) (Nat.le_of_lt hkR);rw[jq _ _ (by decide),EA8.out]at o;exact o);have HS8:=ah (fun (v9:Value) (w9:World) (hu:rW 8 R[k]=Value.bool null) (o:ak w w9 4 1 v9 (k+1) (dY R k 8 8++[Value.bool null])) (m:Moved w8 w9 (v 8) v9)=>iI.LZ (i:=8) (u:=Value.bool null) (W':=w9) (v':=v9) (by decide) (by decide) hkR N8.out hu o (by rw[jq _ _ (by decide),EA8.out];exact m));clear e3)
      |(at_builtin;refine z06 rfl (.tmp 65) (.tmp 69) _ rfl 4 k0 _ 1 Tryz.underlying120 hk0 hx0 hx1 hx2 rfl (Value.bool null) rfl rfl HO8.out rfl (by simp only[maxLen];omega) (by omega) ?_;intro v9 w9 o7 m7;obtain ⟨A9,c9,rfl, -, -⟩:=o7.form;have N9:=ah (HS8.out _ _ (by rw[HX.out];rfl) o7 m7);have BB9:=ah (BB8.out.ch m7.ch (fun e=>z03 HO8.out.own BB8.out (by decide) e));clear o7 m7))
     have G9:=ah (N9.out.congr KG);go_roundw
     case rel=>exact ⟨k+1,_,hlt,by go_num,by rw[jq _ _ (by decide),jq _ _ (by decide),EA6.out],by rw[jq _ _ (by decide),z1n],by rw[z1n],G9⟩
     case measure=>simp[intOf];omega
  ·have hkk:k=n:=by omega
   subst hkk
   have HWX:=ah (fun j (hj:j<6)=>(by
    rcases (show j=0∨j=1∨j=2∨j=3∨j=4∨j=5 by omega) with rfl|rfl|rfl|rfl|rfl|rfl
    ·exact UM.out.time
    ·exact UM.out.maker
    ·exact UM.out.seq
    ·exact UM.out.place
    ·exact UM.out.kind
    ·exact UM.out.value:aJ (R.map (gW j))=0))
   have O4:=ah (ak.lit w w4 5 N4.out 1);have G4:=ah (HG.out.nx ((Ch.refl (fun _=>False) w4).alloc (.cells #[] 5)));clear HG;go_wp2_with fail;go_loopw [11,12] (fun s i wr=>∃(j:Nat) (X:List Nat),j<=5/\i=.int .i64 (j:Int)/\X.length<=70000 * j/\Hid (ak w wr 5 1 s X.length (bl X))/\Hid (X=((List.range j).map fun i=>ay 1 (aX (R.map (gW i)))).flatMap aO)/\Hid (iI w wr w.heap.size v (dY R k 0))) (fun _ i _=>5-(intOf i).toNat)
   case atStart=>exact ⟨0,[],by decide,rfl,by decide,O4,ah rfl,G4⟩
   case round=>
    clear O4 G4;obtain ⟨w5,rfl⟩:∃w5:World,w5=wr:=⟨_,rfl⟩;obtain ⟨j,X,hj,rfl,Zk,HO,HXE,HG⟩:=hrel;by_cases hj5:j<5
    ·have hre:=HWX.out j (by omega)
     have HI:Hid (Calls Tryz.prog 121 #[v j] w5 (gQ w5 5 1 (aX (R.map (gW j))).length (bl (aX (R.map (gW j)))))):=ah (by
      obtain ⟨Ai,ci,Tj,h1,h2,hrd⟩:=HG.out.rdI jB.out (show j<6 by omega);rw[Tj];exact oH _ Ai k ci (R.map (gW j)) w5 hrd (by rw[List.length_map];exact jB.out) hre)
     have hlen:=(z14 hre).2;rw[List.length_map,jB.out]at hlen;have lF:=ah (YH hre);have HXN:Hid (X++aO (ay 1 (aX (R.map (gW j))))=((List.range (j+1)).map fun i=>ay 1 (aX (R.map (gW i)))).flatMap aO):=ah (by rw[HXE.out,List.range_succ,List.map_append,List.flatMap_append];simp);have hck:=QH (kind:=1) (xs:=aX (R.map (gW j))) (by omega);generalize aX (R.map (gW j))=Y at *;have hY:Y.length<=65535:=(by omega);have c0:w5.cell? ⟨w.heap.size,0,none⟩=some (v 0):=HG.out.blk.cell 0;have c1':w5.cell? ⟨w.heap.size,1,none⟩=some (v 1):=HG.out.blk.cell 1;have c2:w5.cell? ⟨w.heap.size,2,none⟩=some (v 2):=HG.out.blk.cell 2;have c3:w5.cell? ⟨w.heap.size,3,none⟩=some (v 3):=HG.out.blk.cell 3;have c4:w5.cell? ⟨w.heap.size,4,none⟩=some (v 4):=HG.out.blk.cell 4;obtain ⟨wl,hwl⟩:∃t,t=(aO (ay 1 Y)).length:=⟨_,rfl⟩
     have hwb:wl<=65610:=by
      have:=z04 (n:=(ay 1 Y).length) (by omega);rw[hwl];unfold aO;rw[List.length_append];omega
     have Yj:=ah hwl;clear hre hlen hwl;rcases (show j=0∨j=1∨j=2∨j=3∨j=4 by omega) with rfl|rfl|rfl|rfl|rfl
     all_goals
      go_wp2_with fail;clear c0 c1' c2 c3 c4;refine HI.out.mono ?_;rintro e w6 ⟨k6,cap6,rfl,o6,TG,TF,Hw,TD⟩;have O6:=ah o6;have HC:=ah (ZK _ (some ⟨k6,0,none⟩) Y.length cap6 1 Y w6 o6.iy lF.out rfl Hw hY (by decide));clear o6 TG TF Hw TD;go_wp2_with fail;refine HC.out.mono ?_;rintro e w7 ⟨k7,kG,rfl,o7,TB,TA,Tz,Tv⟩;have N57:=ah (O6.out.nx.tr o7.nx);have HOW:=ah (HO.out.tr N57.out);have Ik:=ah (YL w w7 _ X (ay 1 Y) (c:=kG) HOW.out (by omega) o7.iy rfl (by omega) (fun q hq=>⟨by omega,fun e=>by have:=((HO.out.tr O6.out.nx).lt q e).2;omega⟩));clear o7 TB TA Tz Tv HC;go_wp2_with fail;refine Ik.out.mono ?_;rintro e w8 ⟨v8,rfl,o8,m8⟩;have G8:=ah ((HG.out.nx N57.out).keep HOW.out m8.ch);have O8:=ah o8;clear o8 m8 Ik;go_wp2_with fail;go_roundw
      first
       |(case rel=>exact ⟨1,_,by decide,rfl,by rw[List.length_append,←Yj.out];omega,O8,HXN,G8⟩)
       |(case rel=>exact ⟨2,_,by decide,rfl,by rw[List.length_append,←Yj.out];omega,O8,HXN,G8⟩)
       |(case rel=>exact ⟨3,_,by decide,rfl,by rw[List.length_append,←Yj.out];omega,O8,HXN,G8⟩)
       |(case rel=>exact ⟨4,_,by decide,rfl,by rw[List.length_append,←Yj.out];omega,O8,HXN,G8⟩)
       |(case rel=>exact ⟨5,_,by decide,rfl,by rw[List.length_append,←Yj.out];omega,O8,HXN,G8⟩)
      case measure=>simp[intOf]
    ·have hj7:j=5:=by omega
     subst hj7;obtain ⟨X0,hX0⟩:∃t,t=X:=⟨_,rfl⟩;subst hX0;have hnR:R.length=k:=jB.out;have h2048:R.length<=2048:=by omega
     have htx:∀s∈R.map aT,s.size<=1024:=fun s hs=>by
      obtain ⟨x,_,rfl⟩:=List.mem_map.1 hs;have:=z11 x;omega
     have HTX:=ah htx;have UL:=ah hnR;clear htx hnR
     have HI:=ah (by
      obtain ⟨Ai,ci,Tj,h1,h2,hrd⟩:=HG.out.rdS UL.out aT (show 6<9 by decide) (fun x=>rfl);have h:=yM _ Ai k ci (R.map aT) w5 hrd (by rw[List.length_map];exact UL.out) (by omega) HTX.out;rw[←Tj]at h;exact h)
     have lF:=ah (z30 (by rw[List.length_map];exact h2048) HTX.out);have hY:(aQ (R.map aT)).length<=65535:=HW.out;have hck:=QH (kind:=2) (xs:=aQ (R.map aT)) (by omega);generalize Oy:aQ (R.map aT)=Y1 at *;have HYe1:=ah Oy;clear Oy
     have hwb:(aO (ay 2 Y1)).length<=65610:=by
      have:=z04 (n:=(ay 2 Y1).length) (by omega);unfold aO;rw[List.length_append];omega
     have XB:(X0++aO (ay 2 Y1)).length<=420000:=by rw[List.length_append];omega
     go_wp2_with fail;refine HI.out.mono ?_;rintro e wa ⟨k6,cap6,rfl,o6,TG,TF,Hw,TD⟩;have O6:=ah o6;have HC:=ah (ZK _ (some ⟨k6,0,none⟩) Y1.length cap6 2 Y1 wa o6.iy lF.out rfl Hw hY (by decide));clear o6 TG TF Hw TD;go_wp2_with fail;refine HC.out.mono ?_;rintro e wb ⟨k7,kG,rfl,o7,TB,TA,Tz,Tv⟩;have N57:=ah (O6.out.nx.tr o7.nx);have HOW:=ah (HO.out.tr N57.out);have Ik:=ah (YL w wb _ X0 (ay 2 Y1) (c:=kG) HOW.out (by omega) o7.iy rfl (by omega) (fun q hq=>⟨by omega,fun e=>by have:=((HO.out.tr O6.out.nx).lt q e).2;omega⟩));clear o7 TB TA Tz Tv HC HI;go_wp2_with fail;refine Ik.out.mono ?_;rintro e wc6 ⟨vv1,rfl,o8,m8⟩;have HG:=ah ((HG.out.nx N57.out).keep HOW.out m8.ch);have HO:=ah o8;clear o8 m8 Ik HOW N57 O6 lF hY hck;obtain ⟨X1,hX1⟩:∃t,t=X0++aO (ay 2 Y1):=⟨_,rfl⟩;rw[←hX1]at HO XB;have HXX1:=ah hX1;clear hX1 hwb
     have HI:=ah (by
      obtain ⟨Ai,ci,Tj,h1,h2,hrd⟩:=HG.out.rdS UL.out (fun x=>x.text) (show 7<9 by decide) (fun x=>rfl);have h:=yN _ Ai k ci (R.map fun x=>x.text) wc6 hrd (by rw[List.length_map];exact UL.out) (by omega) UM.out.text;rw[←Tj]at h;exact h)
     have lF:=ah ((YP (by rw[List.length_map];exact h2048) UM.out.text).1);have hY:(aU (R.map fun x=>x.text)).length<=65535:=HT.out;have hck:=QH (kind:=3) (xs:=aU (R.map fun x=>x.text)) (by omega);generalize Oy:aU (R.map fun x=>x.text)=Y2 at *;have HYe2:=ah Oy;clear Oy
     have hwb:(aO (ay 3 Y2)).length<=65610:=by
      have:=z04 (n:=(ay 3 Y2).length) (by omega);unfold aO;rw[List.length_append];omega
     have XB:(X1++aO (ay 3 Y2)).length<=490000:=by rw[List.length_append];omega
     go_wp2_with fail;refine HI.out.mono ?_;rintro e wa ⟨k6,cap6,rfl,o6,TG,TF,Hw,TD⟩;have O6:=ah o6;have HC:=ah (ZK _ (some ⟨k6,0,none⟩) Y2.length cap6 3 Y2 wa o6.iy lF.out rfl Hw hY (by decide));clear o6 TG TF Hw TD;go_wp2_with fail;refine HC.out.mono ?_;rintro e wb ⟨k7,kG,rfl,o7,TB,TA,Tz,Tv⟩;have N57:=ah (O6.out.nx.tr o7.nx);have HOW:=ah (HO.out.tr N57.out);have Ik:=ah (YL w wb _ X1 (ay 3 Y2) (c:=kG) HOW.out (by omega) o7.iy rfl (by omega) (fun q hq=>⟨by omega,fun e=>by have:=((HO.out.tr O6.out.nx).lt q e).2;omega⟩));clear o7 TB TA Tz Tv HC HI;go_wp2_with fail;refine Ik.out.mono ?_;rintro e wc7 ⟨vv2,rfl,o8,m8⟩;have HG:=ah ((HG.out.nx N57.out).keep HOW.out m8.ch);have HO:=ah o8;clear o8 m8 Ik HOW N57 O6 lF hY hck;obtain ⟨X2,hX2⟩:∃t,t=X1++aO (ay 3 Y2):=⟨_,rfl⟩;rw[←hX2]at HO XB;have HXX2:=ah hX2;clear hX2 hwb;have c5:wc7.cell? ⟨w.heap.size,5,none⟩=some (v 5):=HG.out.blk.cell 5
     have HI:=ah (by
      obtain ⟨Ai,ci,Tj,h1,h2,hrd⟩:=HG.out.rdI UL.out (show 5<6 by decide);have h:=oH _ Ai k ci (R.map (gW 5)) wc7 hrd (by rw[List.length_map];exact UL.out) (HWX.out 5 (by decide));rw[←Tj]at h;exact h)
     have lF:=ah (YH (HWX.out 5 (by decide)));have hY:(aX (R.map (gW 5))).length<=65535:=(by have:=(z14 (HWX.out 5 (by decide))).2;rw[List.length_map,UL.out]at this;omega);have hck:=QH (kind:=1) (xs:=aX (R.map (gW 5))) (by omega);generalize Oy:aX (R.map (gW 5))=Y3 at *;have HYe3:=ah Oy;clear Oy
     have hwb:(aO (ay 1 Y3)).length<=65610:=by
      have:=z04 (n:=(ay 1 Y3).length) (by omega);unfold aO;rw[List.length_append];omega
     have XB:(X2++aO (ay 1 Y3)).length<=560000:=by rw[List.length_append];omega
     go_wp2_with fail;clear c5;refine HI.out.mono ?_;rintro e wa ⟨k6,cap6,rfl,o6,TG,TF,Hw,TD⟩;have O6:=ah o6;have HC:=ah (ZK _ (some ⟨k6,0,none⟩) Y3.length cap6 1 Y3 wa o6.iy lF.out rfl Hw hY (by decide));clear o6 TG TF Hw TD;go_wp2_with fail;refine HC.out.mono ?_;rintro e wb ⟨k7,kG,rfl,o7,TB,TA,Tz,Tv⟩;have N57:=ah (O6.out.nx.tr o7.nx);have HOW:=ah (HO.out.tr N57.out);have Ik:=ah (YL w wb _ X2 (ay 1 Y3) (c:=kG) HOW.out (by omega) o7.iy rfl (by omega) (fun q hq=>⟨by omega,fun e=>by have:=((HO.out.tr O6.out.nx).lt q e).2;omega⟩));clear o7 TB TA Tz Tv HC HI;go_wp2_with fail;refine Ik.out.mono ?_;rintro e wc8 ⟨vv3,rfl,o8,m8⟩;have HG:=ah ((HG.out.nx N57.out).keep HOW.out m8.ch);have HO:=ah o8;clear o8 m8 Ik HOW N57 O6 lF hY hck;obtain ⟨X3,hX3⟩:∃t,t=X2++aO (ay 1 Y3):=⟨_,rfl⟩;rw[←hX3]at HO XB;have HXX3:=ah hX3;clear hX3 hwb
     have HI:=ah (by
      obtain ⟨Ai,ci,Tj,h1,h2,hrd⟩:=HG.out.rdB UL.out;have h:=yT _ Ai k ci (R.map fun x=>x.null) wc8 hrd (by rw[List.length_map];exact UL.out) (by omega) h1 h2;rw[←Tj]at h;exact h)
     have lF:=ah (z3h (l:=R.map fun x=>x.null) (by rw[List.length_map];exact h2048));have hY:(aP (R.map fun x=>x.null)).length<=65535:=(by have:=VU (l:=R.map fun x=>x.null) (by rw[List.length_map];exact h2048);omega);have hck:=QH (kind:=4) (xs:=aP (R.map fun x=>x.null)) (by omega);generalize Oy:aP (R.map fun x=>x.null)=Y4 at *;have HYe4:=ah Oy;clear Oy
     have hwb:(aO (ay 4 Y4)).length<=65610:=by
      have:=z04 (n:=(ay 4 Y4).length) (by omega);unfold aO;rw[List.length_append];omega
     have XB:(X3++aO (ay 4 Y4)).length<=630000:=by rw[List.length_append];omega
     go_wp2_with fail;refine HI.out.mono ?_;rintro e wa ⟨k6,cap6,rfl,o6,TG,TF,Hw,TD⟩;have O6:=ah o6;have HC:=ah (ZK _ (some ⟨k6,0,none⟩) Y4.length cap6 4 Y4 wa o6.iy lF.out rfl Hw hY (by decide));clear o6 TG TF Hw TD;go_wp2_with fail;refine HC.out.mono ?_;rintro e wb ⟨k7,kG,rfl,o7,TB,TA,Tz,Tv⟩;have N57:=ah (O6.out.nx.tr o7.nx);have HOW:=ah (HO.out.tr N57.out);have Ik:=ah (YL w wb _ X3 (ay 4 Y4) (c:=kG) HOW.out (by omega) o7.iy rfl (by omega) (fun q hq=>⟨by omega,fun e=>by have:=((HO.out.tr O6.out.nx).lt q e).2;omega⟩));clear o7 TB TA Tz Tv HC HI;go_wp2_with fail;refine Ik.out.mono ?_;rintro e wc9 ⟨vv4,rfl,o8,m8⟩;have HG:=ah ((HG.out.nx N57.out).keep HOW.out m8.ch);have HO:=ah o8;clear o8 m8 Ik HOW N57 O6 lF hY hck;obtain ⟨X4,hX4⟩:∃t,t=X3++aO (ay 4 Y4):=⟨_,rfl⟩;rw[←hX4]at HO XB;have HXX4:=ah hX4;clear hX4 hwb;have HE:Hid (X4=aF R):=ah (by rw[HXX4.out,HXX3.out,HXX2.out,HXX1.out,HXE.out,←HYe1.out,←HYe2.out,←HYe3.out,←HYe4.out];exact EL R);go_wp2_with fail;go_ret;refine ⟨_,rfl,?_⟩;rw[←HE.out];exact HO.out
end Go.Proofs.YtpakjclpjcngmaaGreat
