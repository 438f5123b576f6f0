/- Contracts and plain laws that the last text rests on. Conditions: each theorem states its own. -/
import Derived.Test.YtpakjclpjcngmaaGreatKbQ5
import Derived.Deep.CutBlock
import Derived.Deep.DeepCutAuto
import Derived.Test.YtpakjclpjcngmaaGreatKbQ3
import Derived.Test.YtpakjclpjcngmaaGreatKbQ4
set_option maxRecDepth 100000
set_option maxHeartbeats 4000000
set_option linter.unusedVariables false
namespace Go.Proofs.YtpakjclpjcngmaaGreat
open Go.RowKit
section
variable {w : World} {g cap : Nat} {A : Option Addr}
end
section
variable {w : World} {g cap : Nat} {A : Option Addr}
end
structure fJ (W w:World) (v:Value) (zs:List RV):Prop where
 own:ak W w 58 9 v zs.length (iE zs)
 ok:∀z∈zs,z.ok w (fun k=>W.heap.size<=k/\k<w.heap.size/\v.ownBlock≠some k)
theorem fJ.nil (W w:World) (c:Nx W w):fJ W w (.slice none 0 0) []:=⟨ak.nil W w _ 9 c,by simp⟩
theorem fJ.lit (W w:World) (c:Nx W w):fJ W (w.alloc (.cells #[] 58)) (.slice (some ⟨w.heap.size,0,none⟩) 0 0) []:=⟨ak.lit W w _ c 9,by simp⟩
theorem fJ.tr {W w w':World} {v:Value} {zs:List RV} (h:fJ W w v zs) (c:Nx w w'):fJ W w' v zs:=
 ⟨h.own.tr c,fun z hz=>(h.ok z hz).ch c (fun _ _ _ hf=>hf) fun k ⟨a,b,d⟩=>⟨a,Nat.lt_of_lt_of_le b c.size,d⟩⟩
theorem fJ.form {W w:World} {v:Value} {zs:List RV} (h:fJ W w v zs):∃A c,v=.slice A zs.length c/\zs.length<=c/\c<=maxLen:=h.own.form
theorem fJ.app {W w w':World} {v v':Value} {zs ys:List RV} (h:fJ W w v zs) (o:ak W w' 58 9 v' (zs.length+ys.length) (iE zs++iE ys)) (m:Moved w w' v v')
 (hy:∀y∈ys,y.ok w (fun k=>W.heap.size<=k/\k<w.heap.size/\v.ownBlock≠some k)):fJ W w' v' (zs++ys):=by
 refine ⟨by rw[List.length_append,show iE (zs++ys)=iE zs++iE ys by simp[iE]];exact o,fun z hz=>?_⟩
 have hk:z.ok w (fun k=>W.heap.size<=k/\k<w.heap.size/\v.ownBlock≠some k):=by
  rcases List.mem_append.1 hz with hz|hz
  ·exact h.ok z hz
  ·exact hy z hz
 refine hk.ch m.ch (fun k _ hk hs=>hk.2.2 hs) fun k ⟨a,b,d⟩=>⟨a,Nat.lt_of_lt_of_le b m.ch.size,fun e=>?_⟩;rcases m.at_ with e1|⟨j,e1,h1⟩
 ·exact d (e1.symm.trans e)
 ·rw[e1]at e
  injection e with e;omega
theorem Rd.WT (w:World) (x:RV):Rd (w.alloc (.cells #[.int .i64 x.row.kind,.int .i64 x.row.time,.slice x.A x.row.aB.length x.c,.string x.row.text,.int .i64 x.row.value,.bool x.row.null,.int .i64 x.row.maker,.int .i64 x.row.seq,.int .i64 x.row.place] 58)) (fun k=>k=w.heap.size) 9 (some ⟨w.heap.size,0,none⟩) 1 (iE [x]):=
 ⟨rfl,fun _=>⟨_,rfl,rfl,fun j u hu=>by
   have:=(aG.new w 58 #[.int .i64 x.row.kind,.int .i64 x.row.time,.slice x.A x.row.aB.length x.c,.string x.row.text,.int .i64 x.row.value,.bool x.row.null,.int .i64 x.row.maker,.int .i64 x.row.seq,.int .i64 x.row.place]);exact World.news_of_block this j u (by simpa [iE,RV.cs]using hu)⟩⟩
section
variable {w : World} {D : Nat → Prop} {A : Option Addr} {n c : Nat} {l : List RV}
end
def aA.few (x:aA):Prop:=x.small/\x.aB.length<=1000000
def aA.mid (x:aA):Prop:=x.small/\x.aB.length<=9223372036854775807
theorem aA.few.mid {x:aA} (h:x.few):x.mid:=⟨h.1,by have:=h.2;omega⟩
theorem ak.weak {W W1 w:World} {e:TypeId} {size n:Nat} {v:Value} {xs:List Value} (h:ak W1 w e size v n xs) (c:Nx W W1):ak W w e size v n xs:=⟨jM h.own c.size,c.tr h.nx⟩
theorem fJ.rd {W w:World} {A:Option Addr} {c:Nat} {zs:List RV} (h:fJ W w (.slice A zs.length c) zs):Rd w (fun k=>k<w.heap.size) 9 A zs.length (iE zs):=h.own.rd.more fun k hk=>hk.2.2
def abL (n:Nat) (w:World) (e:Ending) (w':World):Prop:=(∃b:Bool,e=.returned (.bool b)/\(b=true->n<=61))/\Nx w w'
section
variable {w : World} {D : Nat → Prop} {A : Option Addr} {n c : Nat} {l : List RV}
theorem aaN (h:Rd w D 9 A n (iE l)) (hl:l.length=n) (hn:n<=9223372036854775807):
 Calls Tryz.prog 12 #[.slice A n c] w (abL n w):=by
 have Hl:=ah hl;have H:=ah h;clear hl h;go_enter Tryz.func12,Tryz.ntmps12;go_wp2_with fail;go_loopw [3,8] (fun v i wr=>∃(k:Nat) (a:Int),k<=n/\k<=61/\0<=a/\a<=4000/\v=.int .i64 a/\i=.int .i64 (k:Int)/\Nx w wr) (fun _ i _=>n-(intOf i).toNat)
 case atStart=>exact ⟨0,0,Nat.zero_le _,by omega,by omega,by omega,rfl,rfl,Ch.refl _ _⟩
 case round=>
  obtain ⟨w4,rfl⟩:∃w4:World,w4=wr:=⟨_,rfl⟩;obtain ⟨k,a,hk,hk61,a0,a1,rfl,rfl,hn4⟩:=hrel;have N4:=ah hn4;by_cases hlt:k<n
  ·have hkl:k<l.length:=by rw[Hl.out];exact hlt
   obtain ⟨ad,rfl, -,p0,p1,p2,p3,p4,p5,p6,p7,p8⟩:=z18 (H.out.nx (by decide) hn4) hkl;clear hn4;generalize l[k]=x at *;obtain ⟨⟨kind,time,aB,text,value,null,maker,seq,place⟩,A1,c1⟩:=x;simp only at p0 p1 p2 p3 p4 p5 p6 p7 p8;have hx1:0<=(text.size:Int):=(by omega);have hx2:0<=(aB.length:Int):=(by omega);go_wp2_with fail
   all_goals first
    |(go_ret;exact ⟨⟨false,rfl,fun h=>by cases h⟩,N4.out.alloc _⟩)
    |exact ⟨⟨k+1,_,by omega,by omega,by omega,by omega,rfl,by go_num,N4.out.alloc _⟩,by simp[intOf];omega⟩
  ·clear hn4
   go_wp2_with fail;go_ret;exact ⟨⟨true,rfl,fun _=>by omega⟩,N4.out⟩
end
def aa_ (w:World) (kind time:Int) (aB:List dL) (text:ByteArray) (value:Int) (null:Bool) (e:Ending) (w':World):Prop:=
 ∃A2 c2,e=.returned (.agg #[.int .i64 kind,.int .i64 time,.slice A2 aB.length c2,.string text,.int .i64 value,.bool null])/\Rd w' (fun k=>w.heap.size<=k/\k<w'.heap.size) 2 A2 aB.length (lbl aB)/\Nx w w'/\aB.length<=c2/\c2<=maxLen
section
variable {w : World} {D : Nat → Prop}
theorem IJ {kind time value:Int} {aB:List dL} {text:ByteArray} {null:Bool} {A1:Option Addr} {c1:Nat} (h1:Rd w D 2 A1 aB.length (lbl aB)) (hl:aB.length<=4398046511104):
 Calls Tryz.prog 37 #[.agg #[.int .i64 kind,.int .i64 time,.slice A1 aB.length c1,.string text,.int .i64 value,.bool null]] w (aa_ w kind time aB text value null):=by
 have HR:=ah (fun w' (hn:Nx w w')=>wH (c:=c1) (h1.nx (by decide) hn) rfl hl);clear h1;go_enter Tryz.func37,Tryz.ntmps37;go_wp2_with fail;have JO:=ah (((Ch.refl (fun _=>False) w).alloc (.cells #[.int .i64 kind,.int .i64 time,.slice A1 aB.length c1,.string text,.int .i64 value,.bool null] 56)).alloc (.cells #[.int .i64 0,.int .i64 0,.slice none 0 0,.string ⟨#[]⟩,.int .i64 0,.bool false] 56));refine (HR.out _ JO.out).mono ?_;rintro e w1 ⟨A2,c2,rfl,rd,nx,hc2,hm2⟩;have b1:aG w1 w.heap.size 56 #[.int .i64 kind,.int .i64 time,.slice A1 aB.length c1,.string text,.int .i64 value,.bool null]:=((aG.new w _ _).alloc _).nx nx;have b2:aG w1 (w.heap.size+1) 56 #[.int .i64 0,.int .i64 0,.slice none 0 0,.string ⟨#[]⟩,.int .i64 0,.bool false]:=(by have:=aG.new (w.alloc (.cells #[.int .i64 kind,.int .i64 time,.slice A1 aB.length c1,.string text,.int .i64 value,.bool null] 56)) 56 #[.int .i64 0,.int .i64 0,.slice none 0 0,.string ⟨#[]⟩,.int .i64 0,.bool false];simpa using this.nx nx);have NX:=ah (JO.out.tr nx);have RD:=ah (rd.more (D':=fun k=>w.heap.size+2<=k/\k<w1.heap.size) (by intro k hk;simpa using hk));have f1:=b1.frozen;have f2:=b2.frozen;have d1:=b1.cell;have d2:=b2.cell;have hs:=ah (show w.heap.size+1<w1.heap.size from b2.lt);have B2:=ah b2;clear rd nx HR JO b1 b2;go_wp2_with fail;obtain ⟨w3,hw3⟩:∃w3,w3=w1.setCell ⟨w.heap.size,2,none⟩ (.slice A2 aB.length c2):=⟨_,rfl⟩;obtain ⟨w2,hW⟩:∃w2,w2=lJ w3 (w.heap.size+1) 0 [.int .i64 kind,.int .i64 time,.slice A2 aB.length c2,.string text,.int .i64 value,.bool null]:=⟨_,rfl⟩;have hch3:Ch (fun k=>k=w.heap.size) w1 w3:=by rw[hw3];exact Ch.setCell (S:=fun k=>k=w.heap.size) (Ch.refl _ w1) (p:=⟨w.heap.size,2,none⟩) (fun _=>rfl) _
 have b3:aG w3 (w.heap.size+1) 56 #[.int .i64 0,.int .i64 0,.slice none 0 0,.string ⟨#[]⟩,.int .i64 0,.bool false]:=by rw[hw3];exact B2.out.far (by simp) _
 have hch:Ch (fun k=>k=w.heap.size+1) w3 w2:=by rw[hW];exact nZ _ _ _
 have b4:aG w2 (w.heap.size+1) 56 #[.int .i64 kind,.int .i64 time,.slice A2 aB.length c2,.string text,.int .i64 value,.bool null]:=by rw[hW];exact IY b3 _ rfl
 have d:=b4.cell;simp only[lJ,hw3]at hW;rw[←hW];clear hW d1 d2 f1 f2 b3 b4 B2 hw3;refine bodyPost_ret (v:=.agg #[.int .i64 kind,.int .i64 time,.slice A2 aB.length c2,.string text,.int .i64 value,.bool null]) (by simp[results,Tryz.results37,go_sem,d]) rfl ?_;have hall:Ch (fun k=>k=w.heap.size∨k=w.heap.size+1) w1 w2:=(hch3.mono fun _ _ h=>.inl h).trans hch fun _ _ h=>.inr h;have hsz:=hall.size;exact ⟨_,_,rfl,(RD.out.ch (by decide) hall fun k _ hk=>by omega).more fun k hk=>by have:=hs.out;omega,NX.out.trans hall fun i hi hs=>by rcases hs with rfl|rfl<;>omega,hc2,hm2⟩
def UA (l:List RV) (w:World) (e:Ending) (w':World):Prop:=∃v zs,e=.returned v/\fJ w w' v zs/\v.ownBlock≠none/\zs.map (fun x=>x.row)=l.map fun x=>x.row
theorem II {A:Option Addr} {n c:Nat} {l:List RV} (h:Rd w D 9 A n (iE l)) (hl:l.length=n) (hn:n<=1000000) (hk:∀x∈l,x.ok w D/\x.row.aB.length<=4398046511104):
 Calls Tryz.prog 13 #[.slice A n c] w (UA l w):=by
 obtain ⟨i0,hi0,hz0,hz1,hz2⟩:=info_parts Tryz.wY;have Hl:=ah hl;have H:=ah h;have HK:=ah hk;clear hl h hk;have H0:=ah (fJ.lit w w (Ch.refl _ _));go_enter Tryz.func13,Tryz.ntmps13;go_wp2_with fail;go_loopw [3,9] (fun v i wr=>∃(k:Nat) (zs:List RV),k<=n/\i=.int .i64 (k:Int)/\Hid (fJ w wr v zs)/\Hid (v.ownBlock≠none)/\Hid (zs.map (fun x=>x.row)=(l.take k).map fun x=>x.row)) (fun _ i _=>n-(intOf i).toNat)
 case atStart=>exact ⟨0,[],Nat.zero_le _,rfl,H0,ah (by simp[Value.ownBlock]),ah rfl⟩
 case round=>
  obtain ⟨w4,rfl⟩:∃w4:World,w4=wr:=⟨_,rfl⟩;obtain ⟨k,zs,hkn,rfl,Hr,Hv,Hm⟩:=hrel;by_cases hlt:k<n
  ·have hkl:k<l.length:=by rw[Hl.out];exact hlt
   obtain ⟨ad,rfl,hb,p0,p1,p2,p3,p4,p5,p6,p7,p8⟩:=z18 (H.out.nx (by decide) Hr.out.own.nx) hkl;have HT:=ah (fun w' (hn:Nx w4 w')=>(((HK.out _ (List.getElem_mem hkl)).1.ch Hr.out.own.nx (fun _ _ _ hf=>hf) (fun _ h=>h)).ch hn (D':=D) (fun _ _ _ hf=>hf) (fun _ h=>h)));have VG:=ah ((HK.out _ (List.getElem_mem hkl)).2);have Hm2:=ah (show (zs.map (fun x=>x.row))++[l[k].row]=(l.take (k+1)).map fun x=>x.row by rw[Hm.out,List.take_succ_eq_append_getElem hkl,List.map_append];rfl);clear hb;generalize l[k]=x at *;obtain ⟨⟨kind,time,aB,text,value,null,maker,seq,place⟩,A1,c1⟩:=x;unfold RV.ok at HT;simp only at p0 p1 p2 p3 p4 p5 p6 p7 p8 HT VG Hm2
   have hzl:zs.length<=1000000:=by
    have:=congrArg List.length Hm.out;simp at this;omega
   have HB:=ah (aG.new w4 58 #[.int .i64 kind,.int .i64 time,.slice A1 aB.length c1,.string text,.int .i64 value,.bool null,.int .i64 maker,.int .i64 seq,.int .i64 place]);go_wp2_with fail;refine (IJ (HT.out _ ((Ch.refl _ w4).alloc _)).1 VG.out).mono ?_;rintro e w5 ⟨A2,c2,rfl,rd,nx,hc2,hm2⟩;have b5:=HB.out.nx nx;have e0:w5.cell? ⟨w4.heap.size,0,none⟩=some (.int .i64 kind):=b5.cell 0;have e1:w5.cell? ⟨w4.heap.size,1,none⟩=some (.int .i64 time):=b5.cell 1;have e2:w5.cell? ⟨w4.heap.size,2,none⟩=some (.slice A1 aB.length c1):=b5.cell 2;have e3:w5.cell? ⟨w4.heap.size,3,none⟩=some (.string text):=b5.cell 3;have e4:w5.cell? ⟨w4.heap.size,4,none⟩=some (.int .i64 value):=b5.cell 4;have e5:w5.cell? ⟨w4.heap.size,5,none⟩=some (.bool null):=b5.cell 5;have e6:w5.cell? ⟨w4.heap.size,6,none⟩=some (.int .i64 maker):=b5.cell 6;have e7:w5.cell? ⟨w4.heap.size,7,none⟩=some (.int .i64 seq):=b5.cell 7;have e8:w5.cell? ⟨w4.heap.size,8,none⟩=some (.int .i64 place):=b5.cell 8;have ef:=b5.frozen;have NX:=ah (((Ch.refl (fun _=>False) w4).alloc _).tr nx);have RD:=ah rd;have hlt5:w4.heap.size<w5.heap.size:=b5.lt;have B5:=ah b5;clear rd nx b5 p0 p1 p2 p3 p4 p5 p6 p7 p8 HT HB;go_upto_region 6 with fail
   obtain ⟨w6,hW⟩:∃w6,w6=lJ w5 w4.heap.size 0 [.int .i64 kind,.int .i64 time,.slice A2 aB.length c2,.string text,.int .i64 value,.bool null]:=⟨_,rfl⟩;have C6:=ah (show Ch (fun k=>k=w4.heap.size) w5 w6 by rw[hW];exact nZ _ _ _)
   have hB6:aG w6 w4.heap.size 58 #[.int .i64 kind,.int .i64 time,.slice A2 aB.length c2,.string text,.int .i64 value,.bool null,.int .i64 maker,.int .i64 seq,.int .i64 place]:=by
    rw[hW];have h1:=B5.out.dK 0 (.int .i64 kind);have h2:=h1.dK 1 (.int .i64 time);have h3:=h2.dK 2 (.slice A2 aB.length c2);have h4:=h3.dK 3 (.string text);have h5:=h4.dK 4 (.int .i64 value);have h6:=h5.dK 5 (.bool null);exact h6
   simp only[lJ]at hW;rw[←hW];have e0:w6.cell? ⟨w4.heap.size,0,none⟩=some (.int .i64 kind):=hB6.cell 0;have e1:w6.cell? ⟨w4.heap.size,1,none⟩=some (.int .i64 time):=hB6.cell 1;have e2:w6.cell? ⟨w4.heap.size,2,none⟩=some (.slice A2 aB.length c2):=hB6.cell 2;have e3:w6.cell? ⟨w4.heap.size,3,none⟩=some (.string text):=hB6.cell 3;have e4:w6.cell? ⟨w4.heap.size,4,none⟩=some (.int .i64 value):=hB6.cell 4;have e5:w6.cell? ⟨w4.heap.size,5,none⟩=some (.bool null):=hB6.cell 5;have e6:w6.cell? ⟨w4.heap.size,6,none⟩=some (.int .i64 maker):=hB6.cell 6;have e7:w6.cell? ⟨w4.heap.size,7,none⟩=some (.int .i64 seq):=hB6.cell 7;have e8:w6.cell? ⟨w4.heap.size,8,none⟩=some (.int .i64 place):=hB6.cell 8;have N46:=ah (show Nx w4 w6 from NX.out.trans C6.out fun i hi e=>by omega);have HA:=ah (Hr.out.tr N46.out)
   have HY:Hid (RV.ok w6 (fun k=>w.heap.size<=k/\k<w6.heap.size/\u3.ownBlock≠some k) ⟨⟨kind,time,aB,text,value,null,maker,seq,place⟩,A2,c2⟩):=ah ⟨(RD.out.ch (by decide) C6.out (fun k hk h e=>by have:=h.1;simp at this;omega)).more (fun k h=>by
    have h1:=Hr.out.own.nx.size;have h2:=h.1;simp at h2;exact ⟨by omega,Nat.lt_of_lt_of_le h.2 C6.out.size,fun e=>by have:=(Hr.out.own.lt k e).2;omega⟩),hc2,hm2⟩
   have HS:=ah HA.out.own.nx.size;have HL9:=ah (Rd.WT w6 ⟨⟨kind,time,aB,text,value,null,maker,seq,place⟩,A2,c2⟩);simp only at HL9;clear hW hB6 B5 RD ef;go_wp2_with (at_builtin;refine z07 _ rfl (.tmp 17) (.tmp 19) _ rfl w.heap.size 58 i0 _ 9 96 Tryz.underlying22 hi0 hz0 hz1 hz2 rfl (by omega) u3 zs.length (iE zs) rfl (HA.out.own.alloc _).own _ (some ⟨w6.heap.size,0,none⟩) 1 1 _ rfl HL9.out (wu _) (by simp only[maxLen];omega) (by omega) (by have:=HS.out;simp;omega) ?_;intro v7 w7 jS gr7 at7;obtain ⟨o7,m7⟩:=QJ HA.out.own ((Ch.refl _ _).alloc _) jS gr7 at7;have G8:=ah (m7.some_ Hv.out);have G7:=ah (HA.out.app (ys:=[_]) o7 m7 (by intro y hy;rw[List.mem_singleton]at hy;subst hy;exact HY.out));clear jS gr7 at7 o7 m7)
   go_roundw
   case rel=>exact ⟨k+1,_,by omega,by go_num,G7,G8,ah (by rw[List.map_append];exact Hm2.out)⟩
   case measure=>simp[intOf];omega
  ·have HM:=ah (show zs.map (fun x=>x.row)=l.map fun x=>x.row by rw[Hm.out,List.take_of_length_le (by rw[Hl.out];omega)])
   go_wp2_with fail;go_ret;exact ⟨_,zs,rfl,Hr.out,Hv.out,HM.out⟩
end
end Go.Proofs.YtpakjclpjcngmaaGreat
