/- Contracts and plain laws that the last text rests on. Conditions: each theorem states its own. -/
import Derived.Test.YtdbfejfhpkakhaaGreatKKd2Q23
import Derived.Test.YtdbfejfhpkakhaaGreatKKd2Q22
import Derived.Test.YtdbfejfhpkakhaaGreatKKd2Q5
set_option maxRecDepth 100000
set_option maxHeartbeats 64000000
set_option linter.unusedVariables false
set_option linter.unusedSimpArgs false
namespace Go.Proofs.YtdbfejfhpkakhaaGreat
open Go.RowKit
def wY (l:List bT):Nat:=(l.map fun y=>y.name.size+y.value.size).sum
def vO (r:aC):Nat:=16+r.text.size+wY r.ak
theorem GH {l:List bT} {k:Nat} (h:k<l.length):wY (l.take (k+1))=wY (l.take k)+(l[k].name.size+l[k].value.size):=by
 unfold wY;rw[List.take_succ_eq_append_getElem h,List.map_append,List.sum_append];simp
theorem Nu {l:List bT} (h:gQ l=true):l.length<=4/\∀y∈l,y.name.size<=8/\y.value.size<=16:=by
 unfold gQ at h;rw[Bool.and_eq_true,decide_eq_true_eq,List.all_eq_true]at h;refine ⟨h.1,fun y hy=>?_⟩;obtain ⟨i,hi,rfl⟩:=List.mem_iff_getElem.1 hy;have h1:=h.2 i (List.mem_range.2 hi);unfold iL at h1;rw[Bool.and_eq_true,Bool.and_eq_true,decide_eq_true_eq]at h1;have e:dR l i=l[i]:=kK hi;rw[e]at h1;have h2:=h1.1.1;unfold bK at h2;rw[Bool.and_eq_true,decide_eq_true_eq]at h2;exact ⟨h2.1.2,h1.1.2⟩
section
variable {w : World} {D : Nat → Prop}
theorem zH (x:RV) (hx:x.ok w D) (hl:x.row.ak.length<=4) (hs:∀y∈x.row.ak,y.name.size<=8/\y.value.size<=16) (ht:x.row.text.size<=200):
 Calls Tryz.prog 46 #[oW x] w fun e w'=>e=.returned (.int .i64 (vO x.row:Int))/\Nx w w':=by
 have HR:=ah hx.1;have HS:=ah hs;unfold oW vO;obtain ⟨⟨kind,time,ak,text,value,null,maker,seq,place⟩,A1,c1⟩:=x;simp only at HR HS hl ht ⊢;have iw:=ah (fun w' (c':Nx (w.alloc (.cells #[.int .i64 kind,.int .i64 time,.slice A1 ak.length c1,.string text,.int .i64 value,.bool null] 57)) w')=>(aG.new w 57 #[.int .i64 kind,.int .i64 time,.slice A1 ak.length c1,.string text,.int .i64 value,.bool null]).nx c');have HN:=ah ((Ch.refl (fun _=>False) w).alloc (.cells #[.int .i64 kind,.int .i64 time,.slice A1 ak.length c1,.string text,.int .i64 value,.bool null] 57));clear hx hs;go_enter Tryz.func46,Tryz.ntmps46;go_wp2_with fail;obtain ⟨W,hW⟩:∃W,w.alloc (.cells #[.int .i64 kind,.int .i64 time,.slice A1 ak.length c1,.string text,.int .i64 value,.bool null] 57)=W:=⟨_,rfl⟩;rw[hW]at HN iw;have HH:=ah (HR.out.nx (by decide) HN.out);simp only[hW];clear hW;go_loopw [3,13] (fun v i wr=>∃(k t:Nat),k<=ak.length/\t<=216+24 * k/\v=.int .i64 (t:Int)/\i=.int .i64 (k:Int)/\Hid (t=16+text.size+wY (ak.take k))/\Hid (Nx W wr)) (fun _ i _=>ak.length-(intOf i).toNat)
 case atStart=>exact ⟨0,16+text.size,Nat.zero_le _,by omega,by first|rfl|(congr 1;omega)|go_num,rfl,ah rfl,ah (Ch.refl _ _)⟩
 case round=>
  obtain ⟨w4,rfl⟩:∃w4:World,w4=wr:=⟨_,rfl⟩;obtain ⟨k,t,hk,ht4,rfl,rfl,He,N4⟩:=hrel;by_cases hlt:k<ak.length
  ·obtain ⟨ad,rfl,hb,p0,p1⟩:=SY (HH.out.nx (by decide) N4.out) hlt
   have hss:=HS.out _ (List.getElem_mem hlt);have HT:=ah (GH hlt);generalize ak[k]=y at *;obtain ⟨nm,val⟩:=y;simp only at p0 p1 hss HT;have hn8:=hss.1;have hn16:=hss.2;have N5:=ah (N4.out.alloc (.cells #[.string nm,.string val] 71));clear hb hss;go_wp2_with fail;go_roundw
   case rel=>exact ⟨k+1,t+(nm.size+val.size),by omega,by omega,by go_num,by go_num,ah (by rw[HT.out,He.out];omega),N5⟩
   case measure=>simp[intOf];omega
  ·have HE:Hid (t=16+text.size+wY ak):=ah (by have:=He.out;rw[List.take_of_length_le (by omega)]at this;exact this)
   go_wp2_with fail;go_ret;exact ⟨by rw[HE.out];rfl,HN.out.tr N4.out⟩
theorem BM (x:RV) (p:Nat) (hx:x.ok w D) (hf:x.row.mid) (hp:w.cell? ⟨p,0,none⟩=some (.func (.func 45) #[] #[])):
 Calls Tryz.prog 70 #[oW x,.pointer (some ⟨p,0,none⟩)] w fun e w'=>e=.returned (.bool (!aT x.row))/\Nx w w':=by
 have HC:=ah (fun w' (n:Nx w w')=>z2T x (hx.ch n (D':=D) (fun _ _ _ hf=>hf) (fun _ h=>h)) hf);have hlt:p<w.heap.size:=World.block_lt_of_cell? w _ hp;have HN:=ah ((Ch.refl (fun _=>False) w).alloc (.cells #[.int .i64 x.row.kind,.int .i64 x.row.time,.slice x.A x.row.ak.length x.c,.string x.row.text,.int .i64 x.row.value,.bool x.row.null] 57));unfold oW at *;generalize aT x.row=q at *;obtain ⟨⟨kind,time,ak,text,value,null,maker,seq,place⟩,A1,c1⟩:=x;simp only at HC HN ⊢;clear hx hf;go_enter Tryz.func70,Tryz.ntmps70;go_wp2_with fail;refine (HC.out _ HN.out).mono ?_;rintro e w4 ⟨rfl,n4⟩;have N4:=ah (HN.out.tr n4);clear n4;go_wp2_with fail;go_ret;exact ⟨rfl,N4.out⟩
theorem uz (A:Option Addr) (n c p:Nat) (l:List RV) (hr:Rd w D 6 A n (oD l)) (hl:l.length=n) (hn:n<=9223372036854775807) (hk:∀x∈l,x.ok w D/\x.row.mid) (hp:w.cell? ⟨p,0,none⟩=some (.func (.func 45) #[] #[])):
 Calls Tryz.prog 105 #[.slice A n c,.func (.func 70) #[] #[.pointer (some ⟨p,0,none⟩)]] w fun e w'=>
  ∃r:Int,e=.returned (.int .i64 r)/\decide (0<=r)= !(l.all fun x=>aT x.row)/\Nx w w':=by
 have H:=ah hr;have HC:=ah (fun x (hx:x∈l) w' (n':Nx w w')=>BM x p ((hk x hx).1.ch n' (D':=D) (fun _ _ _ hf=>hf) (fun _ h=>h)) (hk x hx).2 (by rw[n'.cell (World.block_lt_of_cell? w _ hp)];exact hp));have Hl:=ah hl;clear hl hr hk;go_enter Tryz.func105,Tryz.ntmps105;go_wp2_with fail;go_loopw [8] (fun i wr=>∃k:Nat,k<=n/\i=.int .i64 (k:Int)/\Hid (∀j (h:j<l.length),j<k->aT l[j].row=true)/\Hid (Nx w wr)) (fun i _=>n-(intOf i).toNat)
 case atStart=>exact ⟨0,Nat.zero_le _,rfl,ah (fun j _ h=>by omega),ah (Ch.refl _ _)⟩
 case round=>
  obtain ⟨w4,rfl⟩:∃w4:World,w4=wr:=⟨_,rfl⟩;obtain ⟨k,hkn,rfl,He,N4⟩:=hrel;by_cases hlt:k<n
  ·have hkl:k<l.length:=by rw[Hl.out];exact hlt
   obtain ⟨ad,rfl,hb,p0,p1,p2,p3,p4,p5⟩:=tY (H.out.nx (by decide) N4.out) hkl;have HX:=ah (HC.out _ (List.getElem_mem hkl) w4 N4.out);have HY:=ah (fun (h:aT l[k].row=false)=>show (l.all fun x=>aT x.row)=false from by rw[List.all_eq_false];exact ⟨_,List.getElem_mem hkl,by rw[h];simp⟩)
   have HZ:=ah (fun (h:aT l[k].row=true) j (hj:j<l.length) (hjk:j<k+1)=>show aT l[j].row=true from by
    by_cases e:j=k
    ·subst e;exact h
    ·exact He.out j hj (by omega))
   unfold oW at HX;clear hb;generalize aT l[k].row=q at *;generalize l[k]=x at *;obtain ⟨⟨kind,time,ak,text,value,null,maker,seq,place⟩,A1,c1⟩:=x;simp only at p0 p1 p2 p3 p4 p5 HX;cases q
   ·have HQ:=ah (HY.out rfl)
    go_wp2_with fail;refine HX.out.mono ?_;rintro e w5 ⟨rfl,n5⟩;have N5:=ah (N4.out.tr n5);clear n5;go_wp2_with fail;go_ret;exact ⟨_,rfl,by rw[HQ.out];simp,N5.out⟩
   ·have HQ:=ah (HZ.out rfl)
    go_wp2_with fail;refine HX.out.mono ?_;rintro e w5 ⟨rfl,n5⟩;have N5:=ah (N4.out.tr n5);clear n5;go_wp2_with fail;go_roundw
    case rel=>exact ⟨k+1,by omega,by go_num,HQ,N5⟩
    case measure=>simp[intOf];omega
  ·have HQ:Hid ((l.all fun x=>aT x.row)=true):=ah (by
    rw[List.all_eq_true];intro x hx;obtain ⟨j,hj,rfl⟩:=List.mem_iff_getElem.1 hx;exact He.out j hj (by have:=Hl.out;omega))
   go_wp2_with fail;go_ret;exact ⟨_,rfl,by rw[HQ.out];rfl,N4.out⟩
theorem z3I (A:Option Addr) (n c p:Nat) (l:List RV) (hr:Rd w D 6 A n (oD l)) (hl:l.length=n) (hn:n<=9223372036854775807) (hk:∀x∈l,x.ok w D/\x.row.mid) (hp:w.cell? ⟨p,0,none⟩=some (.func (.func 45) #[] #[])):
 Calls Tryz.prog 69 #[.slice A n c,.func (.func 70) #[] #[.pointer (some ⟨p,0,none⟩)]] w fun e w'=>
  e=.returned (.bool (!(l.all fun x=>aT x.row)))/\Nx w w':=by
 have HI:=ah (uz A n c p l hr hl hn hk hp);clear hr hk hl;go_enter Tryz.func69,Tryz.ntmps69;go_wp2_with fail;refine HI.out.mono ?_;rintro e w4 ⟨r,rfl,hb,n4⟩;have N4:=ah n4;have HB:=ah hb;clear n4 hb;go_wp2_with fail;go_ret;exact ⟨by rw[←HB.out];rfl,N4.out⟩
theorem G_ (A:Option Addr) (n c:Nat) (l:List RV) (hr:Rd w D 6 A n (oD l)) (hl:l.length=n) (hn:n<=9223372036854775807) (hk:∀x∈l,x.ok w D/\x.row.mid):
 Calls Tryz.prog 44 #[.slice A n c,.func (.func 45) #[] #[]] w fun e w'=>
  e=.returned (.bool (l.all fun x=>aT x.row))/\Nx w w':=by
 have HN:=ah ((Ch.refl (fun _=>False) w).alloc (.cells #[.func (.func 45) #[] #[]] 106));have HI:=ah (z3I A n c w.heap.size l (hr.nx (by decide) HN.out) hl hn (fun x hx=>⟨(hk x hx).1.ch HN.out (D':=D) (fun _ _ _ hf=>hf) (fun _ h=>h),(hk x hx).2⟩) ((aG.new w 106 #[.func (.func 45) #[] #[]]).cell 0));clear hr hk hl;go_enter Tryz.func44,Tryz.ntmps44;go_wp2_with fail;refine HI.out.mono ?_;rintro e w4 ⟨rfl,n4⟩;have N4:=ah (HN.out.tr n4);clear n4;go_wp2_with fail;go_ret;exact ⟨rfl,N4.out⟩
end
def sJ (l:List aC):Nat:=(l.map vO).sum
def fB (mk sq:Int) (l:List aC):Int:=if 64<l.length then 14 else if decide (1<=mk)&&decide (mk<=64)&&decide (1<=sq)&&decide (sq<1099511627776)&&decide (l.length≠0)&&l.all aT then (if 4096<sJ l then 14 else 0) else 4
theorem EW {l:List aC} {k:Nat} (h:k<l.length):sJ (l.take (k+1))=sJ (l.take k)+vO l[k]:=by
 unfold sJ;rw[List.take_succ_eq_append_getElem h,List.map_append,List.sum_append];simp
theorem Nw {r:aC} (h:aT r=true):gQ r.ak=true/\r.text.size<=200:=by
 unfold aT at h;rw[Bool.and_eq_true,Bool.and_eq_true]at h;refine ⟨h.1.2,?_⟩;have h2:=h.2;split at h2
 ·rw[Bool.and_eq_true,decide_eq_true_eq]at h2
  exact h2.1.1
 ·split at h2
  ·rw[Bool.and_eq_true,decide_eq_true_eq]at h2
   omega
  ·cases h2
theorem Pz {l:List bT} (h:∀y∈l,y.name.size<=8/\y.value.size<=16):wY l<=24 * l.length:=by
 unfold wY;induction l with
 |nil=>simp
 |cons y l ih=>
  have h1:=h y (List.mem_cons_self ..);have h2:=ih fun z hz=>h z (List.mem_cons_of_mem _ hz);simp only[List.map_cons,List.sum_cons,List.length_cons];omega
theorem Oe {r:aC} (h:aT r=true):vO r<=312:=by
 obtain ⟨h1,h2⟩:=Nw h;obtain ⟨h3,h4⟩:=Nu h1;have:=Pz h4;unfold vO;omega
section
variable {w : World} {D : Nat → Prop}
theorem check_any (b:dF) (h:b.ok w D):
 Calls Tryz.prog 24 #[oG b] w fun e w'=>e=.returned (.int .i64 (fB b.maker b.seq (b.l.map fun x=>x.row)))/\Nx w w':=by
 have H:=ah h.rd;have HK:=ah (fun x hx=>(⟨h.ok x hx,h.mid x hx⟩:x.ok w D/\x.row.mid));have hmx:=h.cap;have hmy:=h.max;obtain ⟨mk,sq,A,c,l⟩:=b;unfold oG;simp only at H HK hmx hmy ⊢;have SQ:=ah (fun w' (n':Nx w w')=>G_ (D:=D) A l.length c l (H.out.nx (by decide) n') rfl (by unfold maxLen at hmy;omega) (fun x hx=>⟨(HK.out x hx).1.ch n' (fun _ _ _ hf=>hf) (fun _ h=>h),(HK.out x hx).2⟩));have HAM:=ah (show ((l.map fun x=>x.row).all aT)=l.all fun x=>aT x.row from by rw[List.all_map];rfl);have QS:=ah (show (l.map fun x=>x.row).length=l.length from List.length_map ..);obtain ⟨n,hl⟩:∃n,l.length=n:=⟨_,rfl⟩;rw[hl]at H SQ hmx QS ⊢;have Hl:=ah hl;have HB:=ah (aG.new w 37 #[.int .i64 mk,.int .i64 sq,.slice A n c]);have HN:=ah ((Ch.refl (fun _=>False) w).alloc (.cells #[.int .i64 mk,.int .i64 sq,.slice A n c] 37));clear hl h hmx hmy;by_cases h64:64<n
 ·have HE:Hid (fB mk sq (l.map fun x=>x.row)=14):=ah (by unfold fB;rw[QS.out,if_pos h64])
  go_enter Tryz.func24,Tryz.ntmps24;go_wp2_with fail;go_ret;exact ⟨by rw[HE.out];rfl,HN.out⟩
 ·have h64':¬(64:Int)<(n:Int):=by omega
  by_cases hall:1<=mk/\mk<=64/\1<=sq/\sq<1099511627776/\n≠0
  ·obtain ⟨h1,h2,h3,h4,h5⟩:=hall
   have m1:¬mk<1:=(by omega);have m2:¬64<mk:=(by omega);have m3:¬sq<1:=(by omega);have m4:¬1099511627776<=sq:=(by omega);have m5:((n:Int)==0)=false:=by rw[beq_eq_false_iff_ne];omega
   have HE:Hid (fB mk sq (l.map fun x=>x.row)=if (l.all fun x=>aT x.row)=true then (if 4096<sJ (l.map fun x=>x.row) then 14 else 0) else 4):=ah (by
    unfold fB;rw[QS.out,HAM.out,if_neg h64,decide_eq_true h1,decide_eq_true h2,decide_eq_true h3,decide_eq_true h4,decide_eq_true h5];rfl)
   clear h1 h2 h3 h4;cases hq:l.all fun x=>aT x.row
   ·rw[hq]at HE SQ
    clear hq;go_enter Tryz.func24,Tryz.ntmps24;go_wp2_with fail;refine (SQ.out _ HN.out).mono ?_;rintro e w5 ⟨rfl,n5⟩;have N5:=ah (HN.out.tr n5);clear n5;go_wp2_with fail;go_ret;exact ⟨by rw[HE.out];rfl,N5.out⟩
   ·rw[hq]at HE SQ
    rw[List.all_eq_true]at hq;have Zw:=ah (fun x (hx:x∈l) w' (n':Nx w w')=>zH (D:=D) x ((HK.out x hx).1.ch n' (fun _ _ _ hf=>hf) (fun _ h=>h)) (Nu (Nw (hq x hx)).1).1 (Nu (Nw (hq x hx)).1).2 (Nw (hq x hx)).2);have Vp:=ah (fun x (hx:x∈l)=>Oe (hq x hx));clear hq;go_enter Tryz.func24,Tryz.ntmps24;go_wp2_with fail;refine (SQ.out _ HN.out).mono ?_;rintro e w5 ⟨rfl,n5⟩;have N5:=ah (HN.out.tr n5);have d0:w5.cell? ⟨w.heap.size,2,none⟩=some (.slice A n c):=(HB.out.nx n5).cell 2;clear n5;go_wp2_with fail;clear d0;go_loopw [3,43] (fun v i wr=>∃(k t:Nat),k<=n/\t<=312 * k/\v=.int .i64 (t:Int)/\i=.int .i64 (k:Int)/\Hid (t=sJ ((l.map fun x=>x.row).take k))/\Hid (Nx w wr)) (fun _ i _=>n-(intOf i).toNat)
    case atStart=>exact ⟨0,0,Nat.zero_le _,Nat.zero_le _,rfl,rfl,ah rfl,N5⟩
    case round=>
     obtain ⟨w6,rfl⟩:∃w6:World,w6=wr:=⟨_,rfl⟩;obtain ⟨k,t,hkn,ht,rfl,rfl,He,N6⟩:=hrel;by_cases hlt:k<n
     ·have hkl:k<l.length:=by rw[Hl.out];exact hlt
      obtain ⟨ad,rfl,hb,p0,p1,p2,p3,p4,p5⟩:=tY (H.out.nx (by decide) N6.out) hkl;have HX:=ah (Zw.out _ (List.getElem_mem hkl));have hle:=Vp.out _ (List.getElem_mem hkl)
      have HT:=ah (show sJ ((l.map fun x=>x.row).take (k+1))=sJ ((l.map fun x=>x.row).take k)+vO l[k].row from by
       have:=EW (l:=l.map fun x=>x.row) (k:=k) (by rw[List.length_map];exact hkl);rw[this,List.getElem_map])
      unfold oW at HX;clear hb;generalize hwf:vO l[k].row=q at *;generalize l[k]=x at *;obtain ⟨⟨kind,time,ak,text,value,null,maker,seq,place⟩,A1,c1⟩:=x;simp only at p0 p1 p2 p3 p4 p5 HX hwf;clear hwf;have N7:=ah (N6.out.alloc (.cells #[.int .i64 kind,.int .i64 time,.slice A1 ak.length c1,.string text,.int .i64 value,.bool null] 57));go_wp2_with fail;refine (HX.out _ N7.out).mono ?_;rintro e w8 ⟨rfl,n8⟩;have N8:=ah (N7.out.tr n8);clear n8;go_wp2_with fail;go_roundw
      case rel=>exact ⟨k+1,t+q,by omega,by omega,by go_num,by go_num,ah (by rw[HT.out,He.out]),N8⟩
      case measure=>simp[intOf];omega
     ·have HW:Hid (t=sJ (l.map fun x=>x.row)):=ah (by have:=He.out;rw[List.take_of_length_le (by rw[QS.out];omega)]at this;exact this)
      by_cases h40:4096<t
      ·have HF:=ah (show fB mk sq (l.map fun x=>x.row)=14 from by rw[HE.out,if_pos trivial,if_pos (by rw[←HW.out];exact h40)])
       go_wp2_with fail;go_ret;exact ⟨by rw[HF.out];rfl,N6.out⟩
      ·have HF:=ah (show fB mk sq (l.map fun x=>x.row)=0 from by rw[HE.out,if_pos trivial,if_neg (by rw[←HW.out];exact h40)])
       go_wp2_with fail;go_ret;exact ⟨by rw[HF.out];rfl,N6.out⟩
  ·have HE:Hid (fB mk sq (l.map fun x=>x.row)=4):=ah (by
    unfold fB;rw[QS.out,if_neg h64,if_neg];intro h;simp only[Bool.and_eq_true,decide_eq_true_eq]at h;obtain ⟨⟨⟨⟨⟨h1,h2⟩,h3⟩,h4⟩,h5⟩,_⟩:=h;exact hall ⟨h1,h2,h3,h4,h5⟩)
   have hd:mk<1∨(¬mk<1/\64<mk)∨(¬mk<1/\¬64<mk/\sq<1)∨(¬mk<1/\¬64<mk/\¬sq<1/\1099511627776<=sq)∨(¬mk<1/\¬64<mk/\¬sq<1/\¬1099511627776<=sq/\n=0):=(by omega);clear hall SQ;rcases hd with m1|⟨m1,m2⟩|⟨m1,m2,m3⟩|⟨m1,m2,m3,m4⟩|⟨m1,m2,m3,m4,m5⟩
   all_goals
    go_enter Tryz.func24,Tryz.ntmps24;go_wp2_with fail;go_ret;exact ⟨by rw[HE.out];rfl,by first|exact HN.out|(subst m5;exact HN.out)⟩
end
theorem Ku {l:List aC} {k:Nat} (hk:k<l.length) (h:jR l k=false):jh l=false:=by
 unfold jh;rw[Bool.and_eq_false_iff];right
 rw[List.all_eq_false];exact ⟨k,List.mem_range.2 hk,by rw[h];simp⟩
theorem Gs {l:List aC} (h:∀i,i<l.length->jR l i=true):jh l=decide (0<l.length):=by
 unfold jh;rw[Dh.2 h,Bool.and_true]
theorem Bc {l:List aC} (h:0<l.length):jR l 0=(aT l[0]&&KU l[0]):=by rw[z2b h];simp
theorem Bd {l:List aC} {j:Nat} (h:j+1<l.length):jR l (j+1)=(aT l[j+1]&&KU l[j+1]&&dN (l[j]'(Nat.lt_of_succ_lt h)) l[j+1]):=by
 rw[z2b h];simp[List.getD,List.getElem?_eq_getElem (Nat.lt_of_succ_lt h)]
theorem uh (l:List RV) {k:Nat} (h:k<l.length):(l.map fun x=>x.row)[k]'(by rw[List.length_map];exact h)=l[k].row:=by simp
theorem mV {rc ib:Bool} {maker seq place:Int} (h:ib=decide (1<=maker/\maker<=64/\1<=seq/\seq<1099511627776/\0<=place/\place<64)):
 (rc=false/\Hid ((rc&&ib)=false))∨(rc=true/\decide (maker<1)=true/\Hid ((rc&&ib)=false))∨(rc=true/\decide (maker<1)=false/\decide (64<maker)=true/\Hid ((rc&&ib)=false))∨(rc=true/\decide (maker<1)=false/\decide (64<maker)=false/\decide (seq<1)=true/\Hid ((rc&&ib)=false))∨(rc=true/\decide (maker<1)=false/\decide (64<maker)=false/\decide (seq<1)=false/\decide (1099511627776<=seq)=true/\Hid ((rc&&ib)=false))∨(rc=true/\decide (maker<1)=false/\decide (64<maker)=false/\decide (seq<1)=false/\decide (1099511627776<=seq)=false/\decide (place<0)=true/\Hid ((rc&&ib)=false))∨(rc=true/\decide (maker<1)=false/\decide (64<maker)=false/\decide (seq<1)=false/\decide (1099511627776<=seq)=false/\decide (place<0)=false/\decide (64<=place)=true/\Hid ((rc&&ib)=false))∨(rc=true/\decide (maker<1)=false/\decide (64<maker)=false/\decide (seq<1)=false/\decide (1099511627776<=seq)=false/\decide (place<0)=false/\decide (64<=place)=false/\Hid ((rc&&ib)=true)):=by
 cases rc
 ·exact .inl ⟨rfl,ah rfl⟩
 by_cases t1:1<=maker
 ·by_cases t2:maker<=64
  ·by_cases t3:1<=seq
   ·by_cases t4:seq<1099511627776
    ·by_cases t5:0<=place
     ·by_cases t6:place<64
      ·exact .inr (.inr (.inr (.inr (.inr (.inr (.inr ⟨rfl,decide_eq_false (by omega),decide_eq_false (by omega),decide_eq_false (by omega),decide_eq_false (by omega),decide_eq_false (by omega),decide_eq_false (by omega),ah (by rw[h];simp[t1,t2,t3,t4,t5,t6])⟩))))))
      ·exact .inr (.inr (.inr (.inr (.inr (.inr (.inl ⟨rfl,decide_eq_false (by omega),decide_eq_false (by omega),decide_eq_false (by omega),decide_eq_false (by omega),decide_eq_false (by omega),decide_eq_true (by omega),ah (by rw[h];simp[t6])⟩))))))
     ·exact .inr (.inr (.inr (.inr (.inr (.inl ⟨rfl,decide_eq_false (by omega),decide_eq_false (by omega),decide_eq_false (by omega),decide_eq_false (by omega),decide_eq_true (by omega),ah (by rw[h];simp[t5])⟩)))))
    ·exact .inr (.inr (.inr (.inr (.inl ⟨rfl,decide_eq_false (by omega),decide_eq_false (by omega),decide_eq_false (by omega),decide_eq_true (by omega),ah (by rw[h];simp[t4])⟩))))
   ·exact .inr (.inr (.inr (.inl ⟨rfl,decide_eq_false (by omega),decide_eq_false (by omega),decide_eq_true (by omega),ah (by rw[h];simp[t3])⟩)))
  ·exact .inr (.inr (.inl ⟨rfl,decide_eq_false (by omega),decide_eq_true (by omega),ah (by rw[h];simp[t2])⟩))
 ·exact .inr (.inl ⟨rfl,decide_eq_true (by omega),ah (by rw[h];simp[t1])⟩)
theorem Ba {rc ib kl:Bool} {maker seq place z:Int} (h:ib=decide (1<=maker/\maker<=64/\1<=seq/\seq<1099511627776/\0<=place/\place<64)) (hz:decide (z<0)=kl):
 (rc=false/\Hid ((rc&&ib&&kl)=false))∨(rc=true/\decide (maker<1)=true/\Hid ((rc&&ib&&kl)=false))∨(rc=true/\decide (maker<1)=false/\decide (64<maker)=true/\Hid ((rc&&ib&&kl)=false))∨(rc=true/\decide (maker<1)=false/\decide (64<maker)=false/\decide (seq<1)=true/\Hid ((rc&&ib&&kl)=false))∨(rc=true/\decide (maker<1)=false/\decide (64<maker)=false/\decide (seq<1)=false/\decide (1099511627776<=seq)=true/\Hid ((rc&&ib&&kl)=false))∨(rc=true/\decide (maker<1)=false/\decide (64<maker)=false/\decide (seq<1)=false/\decide (1099511627776<=seq)=false/\decide (place<0)=true/\Hid ((rc&&ib&&kl)=false))∨(rc=true/\decide (maker<1)=false/\decide (64<maker)=false/\decide (seq<1)=false/\decide (1099511627776<=seq)=false/\decide (place<0)=false/\decide (64<=place)=true/\Hid ((rc&&ib&&kl)=false))∨(rc=true/\decide (maker<1)=false/\decide (64<maker)=false/\decide (seq<1)=false/\decide (1099511627776<=seq)=false/\decide (place<0)=false/\decide (64<=place)=false/\decide (0<=z)=true/\Hid ((rc&&ib&&kl)=false))∨(rc=true/\decide (maker<1)=false/\decide (64<maker)=false/\decide (seq<1)=false/\decide (1099511627776<=seq)=false/\decide (place<0)=false/\decide (64<=place)=false/\decide (0<=z)=false/\Hid ((rc&&ib&&kl)=true)):=by
 subst hz;rcases mV (rc:=rc) h with ⟨q0,H⟩|⟨q0,q1,H⟩|⟨q0,q1,q2,H⟩|⟨q0,q1,q2,q3,H⟩|⟨q0,q1,q2,q3,q4,H⟩|⟨q0,q1,q2,q3,q4,q5,H⟩|⟨q0,q1,q2,q3,q4,q5,q6,H⟩|⟨q0,q1,q2,q3,q4,q5,q6,H⟩
 ·exact .inl ⟨q0,ah (by rw[H.out];rfl)⟩
 ·exact .inr (.inl ⟨q0,q1,ah (by rw[H.out];rfl)⟩)
 ·exact .inr (.inr (.inl ⟨q0,q1,q2,ah (by rw[H.out];rfl)⟩))
 ·exact .inr (.inr (.inr (.inl ⟨q0,q1,q2,q3,ah (by rw[H.out];rfl)⟩)))
 ·exact .inr (.inr (.inr (.inr (.inl ⟨q0,q1,q2,q3,q4,ah (by rw[H.out];rfl)⟩))))
 ·exact .inr (.inr (.inr (.inr (.inr (.inl ⟨q0,q1,q2,q3,q4,q5,ah (by rw[H.out];rfl)⟩)))))
 ·exact .inr (.inr (.inr (.inr (.inr (.inr (.inl ⟨q0,q1,q2,q3,q4,q5,q6,ah (by rw[H.out];rfl)⟩))))))
 ·by_cases hz:z<0
  ·exact .inr (.inr (.inr (.inr (.inr (.inr (.inr (.inr ⟨q0,q1,q2,q3,q4,q5,q6,decide_eq_false (by omega),ah (by rw[H.out,decide_eq_true hz];rfl)⟩)))))))
  ·exact .inr (.inr (.inr (.inr (.inr (.inr (.inr (.inl ⟨q0,q1,q2,q3,q4,q5,q6,decide_eq_true (by omega),ah (by rw[H.out,decide_eq_false hz];rfl)⟩)))))))
theorem Po {w:World} {D:Nat->Prop} {A:Option Addr} {n c:Nat} {l:List RV} (h:Rd w D 9 A n (bM l)) (hl:l.length=n) (hn:n<=1000000) (hk:∀x∈l,x.ok w D/\x.row.mid):
 Calls Tryz.prog 89 #[.slice A n c] w fun e w'=>e=.returned (.bool (jh (l.map fun x=>x.row)))/\Nx w w':=by
 have Hl:=ah hl;have jd:=ah h;have HK:=ah hk;have HBAD:=ah (fun k (h1:k<l.length) h2=>Ku (l:=l.map fun x=>x.row) (k:=k) (by rw[List.length_map];exact h1) h2);have SN:=ah (Gs (l:=l.map fun x=>x.row));have HM0:=ah (fun (h1:0<l.length)=>(Bc (l:=l.map fun x=>x.row) (by rw[List.length_map];exact h1)).trans (by rw[uh l h1]));have WC:=ah (fun j (h1:j+1<l.length)=>(Bd (l:=l.map fun x=>x.row) (j:=j) (by rw[List.length_map];exact h1)).trans (by rw[uh l h1,uh l (Nat.lt_of_succ_lt h1)]));rw[List.length_map]at SN;generalize hX:jh (l.map fun x=>x.row)=X at *;generalize hMA:jR (l.map fun x=>x.row)=MA at *;clear hl h hk hX hMA;go_enter Tryz.func89,Tryz.ntmps89;go_wp2_with fail;go_loopw [7] (fun i wr=>∃k:Nat,k<=n/\i=.int .i64 (k:Int)/\Hid (Nx w wr)/\Hid (∀i,i<k->MA i=true)) (fun i _=>n-(intOf i).toNat)
 case atStart=>exact ⟨0,Nat.zero_le _,rfl,ah (Ch.refl _ _),ah (fun i hi=>absurd hi (Nat.not_lt_zero _))⟩
 case round=>
  obtain ⟨w4,rfl⟩:∃w4:World,w4=wr:=⟨_,rfl⟩;obtain ⟨k,hkn,rfl,N4,HG⟩:=hrel;by_cases hlt:k<n
  ·have hkl:k<l.length:=by rw[Hl.out];exact hlt
   obtain ⟨ad,rfl, -,p0,p1,p2,p3,p4,p5,p6,p7,p8⟩:=qg (jd.out.nx (by decide) N4.out) hkl;have j_:=ah (fun w' (c':Nx w w')=>z2T (w:=w') (x:=l[k]) (D:=fun _=>True) ((HK.out _ (List.getElem_mem hkl)).1.ch c' (fun _ _ _ hf=>hf) fun _ _=>trivial) (HK.out _ (List.getElem_mem hkl)).2);have HB:=ah (HBAD.out k hkl);cases k with
   |zero=>
    have HV:=ah (HM0.out hkl);have e0:ad.add (0 * 9)=ad:=(by simp[Addr.add]);rw[e0]at p0 p1 p2 p3 p4 p5 p6 p7 p8;clear e0;generalize l[0]=x at *;obtain ⟨⟨kind,time,ak,text,value,null,maker,seq,place⟩,A1,c1⟩:=x;unfold oW at j_;simp only at p0 p1 p2 p3 p4 p5 p6 p7 p8 j_ HV;generalize hrc:aT ⟨kind,time,ak,text,value,null,maker,seq,place⟩=rc at *;have HID:Hid (KU ⟨kind,time,ak,text,value,null,maker,seq,place⟩=decide (1<=maker/\maker<=64/\1<=seq/\seq<1099511627776/\0<=place/\place<64)):=ah rfl;generalize KU ⟨kind,time,ak,text,value,null,maker,seq,place⟩=ib at *;clear hrc;have iw:=ah (aG.new w4 79 #[.int .i64 kind,.int .i64 time,.slice A1 ak.length c1,.string text,.int .i64 value,.bool null,.int .i64 maker,.int .i64 seq,.int .i64 place])
    have FACT:=ah (fun w' (c':Nx (w4.alloc (.cells #[.int .i64 kind,.int .i64 time,.slice A1 ak.length c1,.string text,.int .i64 value,.bool null,.int .i64 maker,.int .i64 seq,.int .i64 place] 79)) w')=>show w'.cell? ⟨w4.heap.size,0,none⟩=some (.int .i64 kind)/\w'.cell? ⟨w4.heap.size,1,none⟩=some (.int .i64 time)/\w'.cell? ⟨w4.heap.size,2,none⟩=some (.slice A1 ak.length c1)/\w'.cell? ⟨w4.heap.size,3,none⟩=some (.string text)/\w'.cell? ⟨w4.heap.size,4,none⟩=some (.int .i64 value)/\w'.cell? ⟨w4.heap.size,5,none⟩=some (.bool null)/\w'.cell? ⟨w4.heap.size,6,none⟩=some (.int .i64 maker)/\w'.cell? ⟨w4.heap.size,7,none⟩=some (.int .i64 seq)/\w'.cell? ⟨w4.heap.size,8,none⟩=some (.int .i64 place) from by
     exact ⟨(iw.out.nx c').cell 0,(iw.out.nx c').cell 1,(iw.out.nx c').cell 2,(iw.out.nx c').cell 3,(iw.out.nx c').cell 4,(iw.out.nx c').cell 5,(iw.out.nx c').cell 6,(iw.out.nx c').cell 7,(iw.out.nx c').cell 8⟩)
    have N5:=ah (N4.out.alloc (.cells #[.int .i64 kind,.int .i64 time,.slice A1 ak.length c1,.string text,.int .i64 value,.bool null,.int .i64 maker,.int .i64 seq,.int .i64 place] 79));rcases mV (rc:=rc) (ib:=ib) HID.out with ⟨rfl,HVV⟩|⟨rfl,q0,HVV⟩|⟨rfl,q0,q1,HVV⟩|⟨rfl,q0,q1,q2,HVV⟩|⟨rfl,q0,q1,q2,q3,HVV⟩|⟨rfl,q0,q1,q2,q3,q4,HVV⟩|⟨rfl,q0,q1,q2,q3,q4,q5,HVV⟩|⟨rfl,q0,q1,q2,q3,q4,q5,HVV⟩
    all_goals
     go_wp2_with fail;clear p0 p1 p2 p3 p4 p5 p6 p7 p8;refine z1Q (fun w'=>Hid (Nx (w4.alloc (.cells #[.int .i64 kind,.int .i64 time,.slice A1 ak.length c1,.string text,.int .i64 value,.bool null,.int .i64 maker,.int .i64 seq,.int .i64 place] 79)) w')/\w'.cell? ⟨w4.heap.size,0,none⟩=some (.int .i64 kind)/\w'.cell? ⟨w4.heap.size,1,none⟩=some (.int .i64 time)/\w'.cell? ⟨w4.heap.size,2,none⟩=some (.slice A1 ak.length c1)/\w'.cell? ⟨w4.heap.size,3,none⟩=some (.string text)/\w'.cell? ⟨w4.heap.size,4,none⟩=some (.int .i64 value)/\w'.cell? ⟨w4.heap.size,5,none⟩=some (.bool null)/\w'.cell? ⟨w4.heap.size,6,none⟩=some (.int .i64 maker)/\w'.cell? ⟨w4.heap.size,7,none⟩=some (.int .i64 seq)/\w'.cell? ⟨w4.heap.size,8,none⟩=some (.int .i64 place)) (by kernel_rfl) (by kernel_rfl) ⟨ah ((Ch.refl _ _).drew),FACT.out _ ((Ch.refl _ _).drew)⟩ ?_
     repeat (first
      |refine Rz (by rfl) (by simp only[Act.put,aA,au,ay];rfl) ?_
      |(refine Ry (v:=?_) (a':=?_) (by rfl) (fun w5 hC5=>?_) ?_ ?_;rotate_left 2;(first
         |(focus ((try dsimp only at hC5);go_split_ands;go_simp;done))
         |(focus ((try dsimp only at hC5);go_split_ands;go_simp;with_reducible rfl))
         |(focus ((try dsimp only at hC5);have hC6:=ah hC5;go_split_ands;go_simp;(go_at_call 45;refine (j_.out w5 (N5.out.tr hC6.out.1.out)).mono ?_;rintro e w7 ⟨rfl,n7⟩;refine ⟨?_,ah (hC6.out.1.out.tr n7),FACT.out w7 (hC6.out.1.out.tr n7)⟩;with_reducible rfl)))
         );(simp only[Act.put,aA,au,ay];rfl)))
     refine Xe ?_;intro w6 hC6;have N6:=ah (N5.out.tr hC6.1.out);clear hC6;go_wp2_with fail
     first
      |(have HXX:Hid (X=false):=ah (HB.out (HV.out.trans HVV.out));go_ret;exact ⟨by rw[HXX.out];first|done|rfl,N6.out⟩)
      |(have Yp:Hid (MA (0)=true):=ah (HV.out.trans HVV.out);go_roundw;(case rel=>exact ⟨0+1,by omega,by go_num,N6,ah (fun i hi=>if e:i=0 then (by rw[e];exact Yp.out) else HG.out i (by omega))⟩);(case measure=>(simp[intOf];omega)))
   |succ j=>
    have HV:=ah (WC.out j hkl);obtain ⟨ad',had, -,r0,r1,r2,r3,r4,r5,r6,r7,r8⟩:=qg (jd.out.nx (by decide) N4.out) (Nat.lt_of_succ_lt hkl);injection had with had;subst had;have HRP:=ah (fun w' (c':Nx w4 w')=>qg (jd.out.nx (by decide) (N4.out.tr c')) (Nat.lt_of_succ_lt hkl));have Vu:=ah (fun w'=>WS l[j] l[j+1] w');generalize l[j+1]=x at *;generalize l[j]=y at *;obtain ⟨⟨kind,time,ak,text,value,null,maker,seq,place⟩,A1,c1⟩:=x;obtain ⟨⟨kind2,aU,bJ,bH,value2,bI,aP,seq2,aO⟩,A2,c2⟩:=y;unfold aK at Vu;unfold oW at j_;simp only at p0 p1 p2 p3 p4 p5 p6 p7 p8 j_ HV r0 r1 r2 r3 r4 r5 r6 r7 r8 HRP Vu;generalize hrc:aT ⟨kind,time,ak,text,value,null,maker,seq,place⟩=rc at *;have IJ:=ah (yx ⟨kind2,aU,bJ,bH,value2,bI,aP,seq2,aO⟩ ⟨kind,time,ak,text,value,null,maker,seq,place⟩);generalize dQ ⟨kind2,aU,bJ,bH,value2,bI,aP,seq2,aO⟩ ⟨kind,time,ak,text,value,null,maker,seq,place⟩=z at *;generalize dN ⟨kind2,aU,bJ,bH,value2,bI,aP,seq2,aO⟩ ⟨kind,time,ak,text,value,null,maker,seq,place⟩=kl at *;have HID:Hid (KU ⟨kind,time,ak,text,value,null,maker,seq,place⟩=decide (1<=maker/\maker<=64/\1<=seq/\seq<1099511627776/\0<=place/\place<64)):=ah rfl;generalize KU ⟨kind,time,ak,text,value,null,maker,seq,place⟩=ib at *;clear hrc;have iw:=ah (aG.new w4 79 #[.int .i64 kind,.int .i64 time,.slice A1 ak.length c1,.string text,.int .i64 value,.bool null,.int .i64 maker,.int .i64 seq,.int .i64 place])
    have FACT:=ah (fun w' (c':Nx (w4.alloc (.cells #[.int .i64 kind,.int .i64 time,.slice A1 ak.length c1,.string text,.int .i64 value,.bool null,.int .i64 maker,.int .i64 seq,.int .i64 place] 79)) w')=>show w'.cell? ⟨w4.heap.size,0,none⟩=some (.int .i64 kind)/\w'.cell? ⟨w4.heap.size,1,none⟩=some (.int .i64 time)/\w'.cell? ⟨w4.heap.size,2,none⟩=some (.slice A1 ak.length c1)/\w'.cell? ⟨w4.heap.size,3,none⟩=some (.string text)/\w'.cell? ⟨w4.heap.size,4,none⟩=some (.int .i64 value)/\w'.cell? ⟨w4.heap.size,5,none⟩=some (.bool null)/\w'.cell? ⟨w4.heap.size,6,none⟩=some (.int .i64 maker)/\w'.cell? ⟨w4.heap.size,7,none⟩=some (.int .i64 seq)/\w'.cell? ⟨w4.heap.size,8,none⟩=some (.int .i64 place)/\w'.cell? (ad.add (j * 9))=some (.int .i64 kind2)/\w'.cell? ⟨(ad.add (j * 9)).block,(ad.add (j * 9)).off+1,none⟩=some (.int .i64 aU)/\w'.cell? ⟨(ad.add (j * 9)).block,(ad.add (j * 9)).off+2,none⟩=some (.slice A2 bJ.length c2)/\w'.cell? ⟨(ad.add (j * 9)).block,(ad.add (j * 9)).off+3,none⟩=some (.string bH)/\w'.cell? ⟨(ad.add (j * 9)).block,(ad.add (j * 9)).off+4,none⟩=some (.int .i64 value2)/\w'.cell? ⟨(ad.add (j * 9)).block,(ad.add (j * 9)).off+5,none⟩=some (.bool bI)/\w'.cell? ⟨(ad.add (j * 9)).block,(ad.add (j * 9)).off+6,none⟩=some (.int .i64 aP)/\w'.cell? ⟨(ad.add (j * 9)).block,(ad.add (j * 9)).off+7,none⟩=some (.int .i64 seq2)/\w'.cell? ⟨(ad.add (j * 9)).block,(ad.add (j * 9)).off+8,none⟩=some (.int .i64 aO) from by
     obtain ⟨ad2,had, -,s0,s1,s2,s3,s4,s5,s6,s7,s8⟩:=HRP.out w' (((Ch.refl (fun _=>False) w4).alloc _).tr c');injection had with had;subst had;exact ⟨(iw.out.nx c').cell 0,(iw.out.nx c').cell 1,(iw.out.nx c').cell 2,(iw.out.nx c').cell 3,(iw.out.nx c').cell 4,(iw.out.nx c').cell 5,(iw.out.nx c').cell 6,(iw.out.nx c').cell 7,(iw.out.nx c').cell 8,s0,s1,s2,s3,s4,s5,s6,s7,s8⟩)
    have N5:=ah (N4.out.alloc (.cells #[.int .i64 kind,.int .i64 time,.slice A1 ak.length c1,.string text,.int .i64 value,.bool null,.int .i64 maker,.int .i64 seq,.int .i64 place] 79));have hwj:IntKind.i64.wrap (j:Int)=(j:Int):=IntWalk.i64_in _ (by omega);have hjn:(j:Int)<(n:Int):=(by omega);clear r0 r1 r2 r3 r4 r5 r6 r7 r8 HRP;rcases Ba (rc:=rc) (ib:=ib) (kl:=kl) (z:=z) HID.out IJ.out with ⟨rfl,HVV⟩|⟨rfl,q0,HVV⟩|⟨rfl,q0,q1,HVV⟩|⟨rfl,q0,q1,q2,HVV⟩|⟨rfl,q0,q1,q2,q3,HVV⟩|⟨rfl,q0,q1,q2,q3,q4,HVV⟩|⟨rfl,q0,q1,q2,q3,q4,q5,HVV⟩|⟨rfl,q0,q1,q2,q3,q4,q5,q6,HVV⟩|⟨rfl,q0,q1,q2,q3,q4,q5,q6,HVV⟩
    all_goals
     go_wp2_with fail;clear p0 p1 p2 p3 p4 p5 p6 p7 p8;refine z1Q (fun w'=>Hid (Nx (w4.alloc (.cells #[.int .i64 kind,.int .i64 time,.slice A1 ak.length c1,.string text,.int .i64 value,.bool null,.int .i64 maker,.int .i64 seq,.int .i64 place] 79)) w')/\w'.cell? ⟨w4.heap.size,0,none⟩=some (.int .i64 kind)/\w'.cell? ⟨w4.heap.size,1,none⟩=some (.int .i64 time)/\w'.cell? ⟨w4.heap.size,2,none⟩=some (.slice A1 ak.length c1)/\w'.cell? ⟨w4.heap.size,3,none⟩=some (.string text)/\w'.cell? ⟨w4.heap.size,4,none⟩=some (.int .i64 value)/\w'.cell? ⟨w4.heap.size,5,none⟩=some (.bool null)/\w'.cell? ⟨w4.heap.size,6,none⟩=some (.int .i64 maker)/\w'.cell? ⟨w4.heap.size,7,none⟩=some (.int .i64 seq)/\w'.cell? ⟨w4.heap.size,8,none⟩=some (.int .i64 place)/\w'.cell? (ad.add (j * 9))=some (.int .i64 kind2)/\w'.cell? ⟨(ad.add (j * 9)).block,(ad.add (j * 9)).off+1,none⟩=some (.int .i64 aU)/\w'.cell? ⟨(ad.add (j * 9)).block,(ad.add (j * 9)).off+2,none⟩=some (.slice A2 bJ.length c2)/\w'.cell? ⟨(ad.add (j * 9)).block,(ad.add (j * 9)).off+3,none⟩=some (.string bH)/\w'.cell? ⟨(ad.add (j * 9)).block,(ad.add (j * 9)).off+4,none⟩=some (.int .i64 value2)/\w'.cell? ⟨(ad.add (j * 9)).block,(ad.add (j * 9)).off+5,none⟩=some (.bool bI)/\w'.cell? ⟨(ad.add (j * 9)).block,(ad.add (j * 9)).off+6,none⟩=some (.int .i64 aP)/\w'.cell? ⟨(ad.add (j * 9)).block,(ad.add (j * 9)).off+7,none⟩=some (.int .i64 seq2)/\w'.cell? ⟨(ad.add (j * 9)).block,(ad.add (j * 9)).off+8,none⟩=some (.int .i64 aO)) (by kernel_rfl) (by kernel_rfl) ⟨ah ((Ch.refl _ _).drew),FACT.out _ ((Ch.refl _ _).drew)⟩ ?_
     repeat (first
      |refine Rz (by rfl) (by simp only[Act.put,aA,au,ay];rfl) ?_
      |(refine Ry (v:=?_) (a':=?_) (by rfl) (fun w5 hC5=>?_) ?_ ?_;rotate_left 2;(first
         |(focus ((try dsimp only at hC5);go_split_ands;go_simp;done))
         |(focus ((try dsimp only at hC5);go_split_ands;go_simp;with_reducible rfl))
         |(focus ((try dsimp only at hC5);have hC6:=ah hC5;go_split_ands;go_simp;(go_at_call 45;refine (j_.out w5 (N5.out.tr hC6.out.1.out)).mono ?_;rintro e w7 ⟨rfl,n7⟩;refine ⟨?_,ah (hC6.out.1.out.tr n7),FACT.out w7 (hC6.out.1.out.tr n7)⟩;with_reducible rfl)))
         |(focus ((try dsimp only at hC5);have hC6:=ah hC5;go_split_ands;go_simp;(go_at_call 112;refine (Vu.out w5).mono ?_;rintro e w7 ⟨rfl,n7⟩;refine ⟨?_,ah (hC6.out.1.out.tr n7),FACT.out w7 (hC6.out.1.out.tr n7)⟩;with_reducible rfl)))
         );(simp only[Act.put,aA,au,ay];rfl)))
     refine Xe ?_;intro w6 hC6;have N6:=ah (N5.out.tr hC6.1.out);clear hC6;go_wp2_with fail
     first
      |(have HXX:Hid (X=false):=ah (HB.out (HV.out.trans HVV.out));go_ret;exact ⟨by rw[HXX.out];first|done|rfl,N6.out⟩)
      |(have Yp:Hid (MA (j+1)=true):=ah (HV.out.trans HVV.out);go_roundw;(case rel=>exact ⟨j+1+1,by omega,by go_num,N6,ah (fun i hi=>if e:i=j+1 then (by rw[e];exact Yp.out) else HG.out i (by omega))⟩);(case measure=>(simp[intOf];omega)))
  ·have hkn2:n=k:=by omega
   have hX:Hid (X=decide (0<k)):=ah (by rw[SN.out (fun i hi=>HG.out i (by rw[Hl.out]at hi;omega)),Hl.out,hkn2]);go_wp2_with fail;go_ret;exact ⟨by rw[hX.out];first|done|rfl,N4.out⟩
end Go.Proofs.YtdbfejfhpkakhaaGreat
