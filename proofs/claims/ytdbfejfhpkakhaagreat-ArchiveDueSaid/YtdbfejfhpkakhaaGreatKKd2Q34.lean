/- Contracts and plain laws that the last text rests on. Conditions: each theorem states its own. -/
import Derived.Test.YtdbfejfhpkakhaaGreatKKd2Q33
import Derived.Test.YtdbfejfhpkakhaaGreatKKd2Q3
import Derived.Test.YtdbfejfhpkakhaaGreatKKd2PbLaw
import Derived.Test.YtdbfejfhpkakhaaGreatKKd2Q2
import Derived.Deep.RegionLaw
import Derived.Deep.DeepCutAuto
import Derived.Deep.DrawnRows
import Derived.Laws.MakeOwn
import Derived.BigRegion
import Derived.Test.YtdbfejfhpkakhaaGreatKKd2Q1
import Derived.Deep.QuietTactic
import Derived.BigQuiet
import Derived.Laws.BitsAllLaws
import Derived.Test.YtdbfejfhpkakhaaGreatKKd2Q16
import Derived.Deep.RegionHeld3
import Derived.Deep.RegionWith
import Derived.IntWalk
import Derived.Test.YtdbfejfhpkakhaaGreatKKd2Q6
import Derived.Test.YtdbfejfhpkakhaaGreatKKd2Q17
import Derived.Test.YtdbfejfhpkakhaaGreatKKd2Q22
import Derived.Test.YtdbfejfhpkakhaaGreatKKd2Q23
import Derived.Test.YtdbfejfhpkakhaaGreatKKd2Q5
import Derived.Test.YtdbfejfhpkakhaaGreatKKd2Q21
import Derived.Test.YtdbfejfhpkakhaaGreatKKd2Q18
import Derived.Test.YtdbfejfhpkakhaaGreatKKd2Q32
import Derived.Test.YtdbfejfhpkakhaaGreatKKd2Q20
set_option maxRecDepth 100000
set_option maxHeartbeats 16000000
set_option linter.unusedVariables false
set_option linter.unusedSimpArgs false
namespace Go.Proofs.YtdbfejfhpkakhaaGreat.Fix
theorem take_snoc {xs:List Nat} {p:Nat} (h:p<xs.length):xs.take p++[xs.getD p 0]=xs.take (p+1):=by
 rw[List.take_succ_eq_append_getElem h];simp[List.getD,List.getElem?_eq_getElem h]
end Go.Proofs.YtdbfejfhpkakhaaGreat.Fix
namespace Go.Proofs.YtdbfejfhpkakhaaGreat
open Go.RowKit
def iU (C:List (List Nat)) (k:Nat):List Nat:=(C.take k).flatMap fD
theorem WV {C:List (List Nat)} {k:Nat} (h:k<C.length):iU C (k+1)=iU C k++fD C[k]:=by
 unfold iU;rw[List.take_succ_eq_append_getElem h,List.flatMap_append];simp
theorem Eh:∀(C:List (List Nat)),(∀x∈C,x.length<=65600)->(C.flatMap fD).length<=65620 * C.length
 |[],_=>by simp
 |x::C,h=>by
  have h1:=Eh C fun y hy=>h y (List.mem_cons_of_mem _ hy);have h2:=h x List.mem_cons_self;have h3:=(z08 (n:=x.length) (by omega)).2;rw[List.flatMap_cons,List.length_append,List.length_cons];have h4:(fD x).length=(aB x.length).length+x.length:=by unfold fD;rw[List.length_append]
  omega
theorem wJ {C:List (List Nat)} (k:Nat) (hk:k<=9) (h:∀x∈C,x.length<=65600):(iU C k).length<=1000000:=by
 have h1:=Eh (C.take k) fun x hx=>h x (List.mem_of_mem_take hx);have h2:(C.take k).length<=9:=by rw[List.length_take];omega
 unfold iU;omega
theorem YX {kind:Nat} {xs:List Nat} (h:xs.length<=65536):(aI kind xs).length<=65600:=by
 have h1:=(z08 (n:=xs.length) (by omega)).2
 have h2:(iP xs).length<=xs.length:=by
  unfold iP;split
  ·omega
  ·exact Nat.le_refl _
 unfold aI Dc;rw[Zh];simp only[List.length_append,List.length_cons,List.length_nil];omega
theorem Rj {l:List aC} (h:eF l):∀x∈aZ l,x.length<=65600:=by
 have hI:∀zs:List Int,zs.length<=256->jl zs=0->(aI 1 (dS zs)).length<=65600:=fun zs h1 h2=>YX (by have:=(z3B h2).2;omega);have hl:=h.few;intro x hx;unfold aZ at hx;simp only[List.mem_cons,List.not_mem_nil,or_false]at hx;rcases hx with rfl|rfl|rfl|rfl|rfl|rfl|rfl|rfl|rfl
 ·exact hI _ (by simpa using hl) h.time
 ·exact hI _ (by simpa using hl) h.maker
 ·exact hI _ (by simpa using hl) h.seq
 ·exact hI _ (by simpa using hl) h.place
 ·exact hI _ (by simpa using hl) h.kind
 ·exact YX h.words
 ·exact YX h.texts
 ·exact hI _ (by simpa using hl) h.value
 ·exact YX (by have:=z2N (l:=l.map fun x=>x.null) (by simp;omega);omega)
theorem zC (l:List aC):(aZ l).length=9:=rfl
theorem yh {l:List aC} {k:Nat} (hk:k<5):(aZ l)[k]'(by rw[zC];omega)=aI 1 (dS (l.map (jA k))):=
 match k,hk with
 |0,_=>rfl
 |1,_=>rfl
 |2,_=>rfl
 |3,_=>rfl
 |4,_=>rfl
theorem Sl (l:List aC):(aZ l)[5]'(by rw[zC];omega)=aI 2 (dO (l.map cu)):=rfl
theorem pre6 (l:List aC):iU (aZ l) 6=iU (aZ l) 5++fD (aI 2 (dO (l.map cu))):=(WV (C:=aZ l) (k:=5) (by rw[zC];omega)).trans (by rw[Sl])
theorem cle6 {l:List aC} (h:eF l):(aI 2 (dO (l.map cu))).length<=65600:=by
 have:=Rj h _ (List.getElem_mem (show 5<(aZ l).length by rw[zC];omega));rw[Sl]at this;exact this
theorem Sj (l:List aC):(aZ l)[6]'(by rw[zC];omega)=aI 3 (dH (l.map fun x=>x.text)):=rfl
theorem pre7 (l:List aC):iU (aZ l) 7=iU (aZ l) 6++fD (aI 3 (dH (l.map fun x=>x.text))):=(WV (C:=aZ l) (k:=6) (by rw[zC];omega)).trans (by rw[Sj])
theorem cle7 {l:List aC} (h:eF l):(aI 3 (dH (l.map fun x=>x.text))).length<=65600:=by
 have:=Rj h _ (List.getElem_mem (show 6<(aZ l).length by rw[zC];omega));rw[Sj]at this;exact this
theorem Si (l:List aC):(aZ l)[7]'(by rw[zC];omega)=aI 1 (dS (l.map fun x=>x.value)):=rfl
theorem pre8 (l:List aC):iU (aZ l) 8=iU (aZ l) 7++fD (aI 1 (dS (l.map fun x=>x.value))):=(WV (C:=aZ l) (k:=7) (by rw[zC];omega)).trans (by rw[Si])
theorem cle8 {l:List aC} (h:eF l):(aI 1 (dS (l.map fun x=>x.value))).length<=65600:=by
 have:=Rj h _ (List.getElem_mem (show 7<(aZ l).length by rw[zC];omega));rw[Si]at this;exact this
theorem R_ (l:List aC):(aZ l)[8]'(by rw[zC];omega)=aI 4 (qc (l.map fun x=>x.null)):=rfl
theorem Xf (l:List aC):iU (aZ l) 9=iU (aZ l) 8++fD (aI 4 (qc (l.map fun x=>x.null))):=(WV (C:=aZ l) (k:=8) (by rw[zC];omega)).trans (by rw[R_])
theorem cle9 {l:List aC} (h:eF l):(aI 4 (qc (l.map fun x=>x.null))).length<=65600:=by
 have:=Rj h _ (List.getElem_mem (show 8<(aZ l).length by rw[zC];omega));rw[R_]at this;exact this
theorem eF.col {l:List aC} (h:eF l) {k:Nat} (hk:k<5):jl (l.map (jA k))=0:=
 match k,hk with
 |0,_=>h.time
 |1,_=>h.maker
 |2,_=>h.seq
 |3,_=>h.place
 |4,_=>h.kind
theorem Ls {k:Nat} (hk:k<5):∃F,PY k=.func F #[] #[]:=
 match k,hk with
 |0,_=>⟨_,rfl⟩
 |1,_=>⟨_,rfl⟩
 |2,_=>⟨_,rfl⟩
 |3,_=>⟨_,rfl⟩
 |4,_=>⟨_,rfl⟩
theorem Z_ (l:List aC):iE l=iU (aZ l) 9:=rfl
theorem Ui (l:List RV) (f:aC->Int):(l.map fun x=>Value.int .i64 (f x.row))=il ((l.map fun x=>x.row).map f):=by simp[il,Function.comp_def]
theorem Dt (l:List RV) (f:aC->ByteArray):(l.map fun x=>Value.string (f x.row))=dK ((l.map fun x=>x.row).map f):=by simp[dK,Function.comp_def]
theorem Qa (l:List RV) (f:aC->Bool):(l.map fun x=>Value.bool (f x.row))=Ws ((l.map fun x=>x.row).map f):=by simp[Ws,Function.comp_def]
theorem uV.tr {W w w':World} {g:Nat} {xs:List Nat} (h:uV W w g xs) (c:Nx w w'):uV W w' g xs:=by
 obtain ⟨v,hb,ho⟩:=h;exact ⟨v,hb.nx c,ho.tr c⟩
theorem uV.nx {W w:World} {g:Nat} {xs:List Nat} (h:uV W w g xs):Nx W w:=by
 obtain ⟨v,hb,ho⟩:=h;exact ho.nx
theorem WQ {W w0 w:World} {g:Nat} {xs ys:List Nat} {k cap:Nat} (h:uV W w0 g xs) (hW:W.heap.size<=g) (o:aF w0 w 5 1 (.slice (some ⟨k,0,none⟩) ys.length cap) ys.length (bl ys)) (er:Int) (h1:xs.length<=10000000) (h2:ys.length<=65600):
 Calls Tryz.prog 117 #[.slice (some ⟨k,0,none⟩) ys.length cap,.int .i64 er,.pointer (some ⟨g,0,none⟩)] w (MR W w g (xs++fD ys)):=by
 obtain ⟨v,hb,ho⟩:=h;refine L_ (D:=(· =k)) (hb.nx o.nx) (ho.tr o.nx) hW o.tZ rfl (fun j e e2=>?_) er (by omega);have h3:=(ho.lt j e2).2;have h4:=(o.lt k (by simp[Value.ownBlock])).1;omega
theorem group_any {w:World} {D:Nat->Prop} {A:Option Addr} {n c:Nat} {l:List RV} (h:Rd w D 9 A n (bM l)) (hl:l.length=n) (hk:∀x∈l,x.ok w D/\x.row.few) (hg:eF (l.map fun x=>x.row)):
 Calls Tryz.prog 91 #[.slice A n c] w (Gives w 5 1 (iE (l.map fun x=>x.row)).length (bl (iE (l.map fun x=>x.row)))):=by
 have hn:n<=256:=by have:=hg.few;rw[List.length_map]at this;omega
 have hll:(l.map fun x=>x.row).length=n:=by rw[List.length_map];exact hl
 have jd:=ah (fun w' (c':Nx w w')=>h.nx (w':=w') (by decide) c');have NM:=ah (fun w' (c':Nx w w') x (hx:x∈l)=>show x.ok w' (fun _=>True)/\x.row.few from ⟨(hk x hx).1.ch c' (fun _ _ _ hf=>hf) fun _ _=>trivial,(hk x hx).2⟩)
 have HI0:∀k,k<5->∀b w',w'.cell? ⟨b,0,none⟩=some (PY k)->∀w2,Nx w' w2->∀x∈l,Calls Tryz.prog 174 #[aK x,.pointer (some ⟨b,0,none⟩)] w2 fun e w''=>e=.returned (Value.int .i64 (jA k x.row))/\Nx w2 w'':=fun k hk5 b w' hb w2 c2 x hx=>by
  have hb2:w2.cell? ⟨b,0,none⟩=some (PY k):=(c2.cell (p:=⟨b,0,none⟩) (World.block_lt_of_cell? w' _ hb)).trans hb;exact KE hk5 x w2 b hb2
 have YG:Hid (∀k,k<5->∀w',Nx w w'->∀b,w'.cell? ⟨b,0,none⟩=some (PY k)->Calls Tryz.prog 124 #[.slice A n c,.func (.func 174) #[] #[.pointer (some ⟨b,0,none⟩)]] w' (Gives w' 2 1 n (l.map fun x=>Value.int .i64 (jA k x.row)))):=ah (fun k hk5 w' c' b hb=>by
  have h1:=h.nx (by decide) c';have h2:=HI0 k hk5 b w' hb;exact JY (jA k) h1 hl (by omega) h2)
 clear HI0
 have HT0:∀w',Nx w w'->∀x∈l,Calls Tryz.prog 95 #[aK x] w' fun e w''=>e=.returned (Value.string (cu x.row))/\Nx w' w'':=fun w' c' x hx=>by
  have hx1:x.ok w' (fun _=>True):=(hk x hx).1.ch c' (fun _ _ _ hf=>hf) fun _ _=>trivial;exact rM x hx1 (hk x hx).2
 have Yn:=ah (fun w' (c':Nx w w')=>DR (c:=c) (w:=w') cu (h.nx (by decide) c') hl (by omega) (fun w2 c2 x hx=>HT0 w2 (c'.tr c2) x hx));clear HT0;have Nb:=ah (fun w' (c':Nx w w')=>JW (c:=c) (w:=w') (fun x=>x.text) (h.nx (by decide) c') hl (by omega) (fun w2 c2 x hx=>Qx x w2));have Ym:=ah (fun w' (c':Nx w w')=>JX (c:=c) (w:=w') (fun x=>x.value) (h.nx (by decide) c') hl (by omega) (fun w2 c2 x hx=>Qw x w2));have YA:=ah (fun w' (c':Nx w w')=>JZ (c:=c) (w:=w') (fun x=>x.null) (h.nx (by decide) c') hl (by omega) (fun w2 c2 x hx=>Qv x w2));simp only[Ui,Dt,Qa]at YG Yn Nb Ym YA;have HPI:=ah (fun f (he:jl ((l.map fun x=>x.row).map f)=0) w' D' A' c' (hr:Rd w' D' 1 A' n (il ((l.map fun x=>x.row).map f)))=>yt D' A' n c' _ w' hr (by rw[List.length_map];exact hll) he);have HE:=ah (fun k (hk5:k<5)=>hg.col hk5);have SQ:=ah hg.value;have HC5:=ah (fun k (hk5:k<5)=>(WV (C:=aZ (l.map fun x=>x.row)) (k:=k) (by rw[zC];omega)).trans (by rw[yh hk5]));have Vp:=ah (fun k (hk5:k<5)=>by have:=Rj hg _ (List.getElem_mem (show k<(aZ (l.map fun x=>x.row)).length by rw[zC];omega));rw[yh hk5]at this;exact this);have vF:=ah (fun k (hk9:k<=9)=>wJ (C:=aZ (l.map fun x=>x.row)) k hk9 (Rj hg));have HC6:=ah (pre6 (l.map fun x=>x.row));have HC7:=ah (pre7 (l.map fun x=>x.row));have HC8:=ah (pre8 (l.map fun x=>x.row));have HC9:=ah (Xf (l.map fun x=>x.row));have HL6:=ah (cle6 hg);have HL7:=ah (cle7 hg);have HL8:=ah (cle8 hg);have HL9:=ah (cle9 hg);have hP0:iU (aZ (l.map fun x=>x.row)) 0=[]:=rfl;rw[Z_];generalize iU (aZ (l.map fun x=>x.row))=P at *;have hw1:=hg.words;have hw2:=Dl (l.map fun x=>x.row);have hw3:((l.map fun x=>x.row).map cu).length=n:=by rw[List.length_map];exact hll
 have ht1:=hg.texts;have ht2:=hg.text;have ht3:((l.map fun x=>x.row).map fun x=>x.text).length=n:=by rw[List.length_map];exact hll
 have hf3:((l.map fun x=>x.row).map fun x=>x.null).length=n:=by rw[List.length_map];exact hll
 clear hg;generalize (l.map fun x=>x.row).map cu=WD at *;generalize ((l.map fun x=>x.row).map fun x=>x.text)=TX at *;generalize ((l.map fun x=>x.row).map fun x=>x.null)=FL at *;have HPW:=ah (fun w' D' A' c' (hr:Rd w' D' 1 A' n (dK WD)) hc=>uM D' A' n c' WD w' hr hw3 (by omega) hw2 hc hw1);have NK:=ah (fun w' D' A' c' (hr:Rd w' D' 1 A' n (dK TX)) hc=>uN D' A' n c' TX w' hr ht3 (by omega) ht2 hc ht1);have Zy:=ah (fun w' D' A' c' (hr:Rd w' D' 1 A' n (Ws FL))=>uO D' A' n c' FL w' hr hf3 (by omega));clear hw1 hw2 hw3 ht1 ht2 ht3 hf3;generalize (l.map fun x=>x.row)=R at *;have HPV:=ah (HPI.out (fun x=>x.value) SQ.out);generalize aI 2 (dO WD)=C6 at *;generalize aI 3 (dH TX)=C7 at *;generalize aI 1 (dS (R.map fun x=>x.value))=C8 at *;generalize aI 4 (qc FL)=C9 at *;have HO0:Hid (uV w (w.alloc (.cells #[.slice none 0 0] 47)) w.heap.size (P 0)):=ah ⟨_,aG.new ..,by rw[hP0];exact aF.nil w _ _ 1 ((Ch.refl _ w).alloc _)⟩;clear hP0 h hk hll hl;go_enter Tryz.func91,Tryz.ntmps91;go_wp2_with fail;have HB0:Hid (aG ((w.alloc (.cells #[.slice none 0 0] 47)).alloc (.cells #[.func (.func 118) #[] #[],.func (.func 119) #[] #[],.func (.func 120) #[] #[],.func (.func 121) #[] #[],.func (.func 122) #[] #[]] 216)) (w.heap.size+1) 216 #[.func (.func 118) #[] #[],.func (.func 119) #[] #[],.func (.func 120) #[] #[],.func (.func 121) #[] #[],.func (.func 122) #[] #[]]):=ah (by have:=aG.new (w.alloc (.cells #[.slice none 0 0] 47)) 216 #[.func (.func 118) #[] #[],.func (.func 119) #[] #[],.func (.func 120) #[] #[],.func (.func 121) #[] #[],.func (.func 122) #[] #[]];simpa using this);have HO1:=ah (HO0.out.tr ((Ch.refl _ _).alloc (.cells #[.func (.func 118) #[] #[],.func (.func 119) #[] #[],.func (.func 120) #[] #[],.func (.func 121) #[] #[],.func (.func 122) #[] #[]] 216)));generalize (w.alloc (.cells #[.slice none 0 0] 47)).alloc (.cells #[.func (.func 118) #[] #[],.func (.func 119) #[] #[],.func (.func 120) #[] #[],.func (.func 121) #[] #[],.func (.func 122) #[] #[]] 216)=w1 at *;go_loopw [10] (fun i wr=>∃k:Nat,k<=5/\i=.int .i64 (k:Int)/\Hid (uV w wr w.heap.size (P k))/\Hid (aG wr (w.heap.size+1) 216 #[.func (.func 118) #[] #[],.func (.func 119) #[] #[],.func (.func 120) #[] #[],.func (.func 121) #[] #[],.func (.func 122) #[] #[]])) (fun i _=>5-(intOf i).toNat)
 case atStart=>exact ⟨0,Nat.zero_le _,rfl,HO1,HB0⟩
 case round=>
  obtain ⟨w4,rfl⟩:∃w4:World,w4=wr:=⟨_,rfl⟩;obtain ⟨k,hk5,rfl,HO,HB⟩:=hrel;by_cases hlt:k<5
  ·obtain ⟨F,hF⟩:=Ls hlt
   have hcell:w4.cell? ((⟨w.heap.size+1,0,none⟩:Addr).add k)=some (PY k):=by
    obtain ⟨ad,u,e1,_,e2,e3⟩:=(MF (xs:=[.func (.func 118) #[] #[],.func (.func 119) #[] #[],.func (.func 120) #[] #[],.func (.func 121) #[] #[],.func (.func 122) #[] #[]]) HB.out).at_ (k:=k) hlt;injection e1 with e1;subst e1;rw[e3,←e2];match k,hlt with
    |0,_=>rfl
    |1,_=>rfl
    |2,_=>rfl
    |3,_=>rfl
    |4,_=>rfl
   have hcell2:w4.cell? ⟨w.heap.size+1,k,none⟩=some (PY k):=by
    rw[←hcell];congr 1
    unfold Addr.add;split
    ·next e=>rw[e]
    ·simp
   have SL:=ah (fun w'=>xq (PY k) F hF w');have HP1:=ah (HC5.out k hlt);have hpl:=vF.out k (by omega);have hcl:=Vp.out k hlt;have WB:=ah (YG.out k hlt);have Vk:=ah (HPI.out (jA k) (HE.out k hlt));clear hF;generalize PY k=fv at *;generalize il (R.map (jA k))=zs at *;generalize aI 1 (dS (R.map (jA k)))=ch at *;go_wp2_with fail;refine (SL.out _).mono ?_;rintro e w5 ⟨rfl,e5⟩;have n5:Nx w4 w5:=by rw[e5];exact (Ch.refl _ _).alloc _
   have b5:w5.cell? ⟨w4.heap.size,0,none⟩=some fv:=by rw[e5];exact (aG.new w4 _ #[fv]).cell 0
   clear e5 hcell hcell2;have hcall:=WB.out w5 (HO.out.nx.tr n5) w4.heap.size b5;go_wp2_with fail;refine hcall.mono ?_;rintro e w6 ⟨v6,rfl,o6⟩;obtain ⟨A6,c6,rfl, -, -⟩:=o6.form;clear hcall;have hcall:=Vk.out w6 _ A6 c6 o6.rd;go_wp2_with fail;refine hcall.mono ?_;rintro e w7 ⟨k7,pK,rfl,o7, -⟩;have HO6:=HO.out.tr (n5.tr o6.nx);have HK6:=ah (HB.out.nx ((n5.tr o6.nx).tr o7.nx));have Lh:=WQ HO6 (Nat.le_refl _) o7 0 (by omega) hcl;clear hcall o6 b5;go_wp2_with fail;refine Lh.mono ?_;rintro e w8 ⟨rfl,o8,kt⟩;rw[←HP1.out]at o8;have O8:=ah o8;have B8:=ah (kt _ _ _ (by decide) (by decide) HK6.out);clear o8 kt Lh o7 n5 HO6;go_wp2_with fail;go_roundw
   case rel=>exact ⟨k+1,by omega,by go_num,O8,B8⟩
   case measure=>simp[intOf];omega
  ·have hk9:k=5:=by omega
   subst hk9;have hc6:=Yn.out w4 HO.out.nx;go_wp2_with fail;refine hc6.mono ?_;rintro e wa6 ⟨va6,rfl,oa6⟩;obtain ⟨Aa6,ca6,rfl,hca6, -⟩:=oa6.form;clear hc6;have hc6:=HPW.out wa6 _ Aa6 ca6 oa6.rd hca6;go_wp2_with fail;refine hc6.mono ?_;rintro e wb6 ⟨kb6,capb6,rfl,ob6, -⟩;have hd6:=WQ (HO.out.tr oa6.nx) (Nat.le_refl _) ob6 0 (by have:=vF.out 5 (by omega);omega) HL6.out;clear hc6 oa6;go_wp2_with fail;refine hd6.mono ?_;rintro e wc6 ⟨rfl,oc6, -⟩;rw[←HC6.out]at oc6;have OC6:=ah oc6;clear hd6 oc6 ob6;have hc7:=Nb.out wc6 OC6.out.nx;go_wp2_with fail;refine hc7.mono ?_;rintro e wa7 ⟨va7,rfl,oa7⟩;obtain ⟨Aa7,ca7,rfl,hca7, -⟩:=oa7.form;clear hc7;have hc7:=NK.out wa7 _ Aa7 ca7 oa7.rd hca7;go_wp2_with fail;refine hc7.mono ?_;rintro e wb7 ⟨kb7,capb7,rfl,ob7, -⟩;have hd7:=WQ (OC6.out.tr oa7.nx) (Nat.le_refl _) ob7 0 (by have:=vF.out 6 (by omega);omega) HL7.out;clear hc7 oa7;go_wp2_with fail;refine hd7.mono ?_;rintro e wc7 ⟨rfl,oc7, -⟩;rw[←HC7.out]at oc7;have OC7:=ah oc7;clear hd7 oc7 ob7;have hc8:=Ym.out wc7 OC7.out.nx;go_wp2_with fail;refine hc8.mono ?_;rintro e wa8 ⟨va8,rfl,oa8⟩;obtain ⟨Aa8,ca8,rfl,hca8, -⟩:=oa8.form;clear hc8;have hc8:=HPV.out wa8 _ Aa8 ca8 oa8.rd;go_wp2_with fail;refine hc8.mono ?_;rintro e wb8 ⟨kb8,capb8,rfl,ob8, -⟩;have hd8:=WQ (OC7.out.tr oa8.nx) (Nat.le_refl _) ob8 0 (by have:=vF.out 7 (by omega);omega) HL8.out;clear hc8 oa8;go_wp2_with fail;refine hd8.mono ?_;rintro e wc8 ⟨rfl,oc8, -⟩;rw[←HC8.out]at oc8;have OC8:=ah oc8;clear hd8 oc8 ob8;have hc9:=YA.out wc8 OC8.out.nx;go_wp2_with fail;refine hc9.mono ?_;rintro e wa9 ⟨va9,rfl,oa9⟩;obtain ⟨Aa9,ca9,rfl,hca9, -⟩:=oa9.form;clear hc9;have hc9:=Zy.out wa9 _ Aa9 ca9 oa9.rd;go_wp2_with fail;refine hc9.mono ?_;rintro e wb9 ⟨kb9,capb9,rfl,ob9, -⟩;have hd9:=WQ (OC8.out.tr oa9.nx) (Nat.le_refl _) ob9 0 (by have:=vF.out 8 (by omega);omega) HL9.out;clear hc9 oa9;go_wp2_with fail;refine hd9.mono ?_;rintro e wc9 ⟨rfl,oc9, -⟩;rw[←HC9.out]at oc9;have OC9:=ah oc9;clear hd9 oc9 ob9;obtain ⟨vz,bz,oz⟩:=OC9.out;have cz:wc9.cell? ⟨w.heap.size,0,none⟩=some vz:=bz.cell 0;have OZ:=ah oz;clear bz oz;obtain ⟨Az,cz',rfl, -, -⟩:=OZ.out.form;go_wp2_with fail;go_ret;exact ⟨_,rfl,OZ.out⟩
end Go.Proofs.YtdbfejfhpkakhaaGreat
namespace Go.Proofs.YtdbfejfhpkakhaaGreat
open Go.RowKit Go.Maps Go.Sort Go.Proofs
def jZ (W:World) (p q b3:Nat) (r:Nat):Prop:=r=b3∨(r≠p/\r≠q/\∃cs t fz,W.heap[r]?=some (.cells cs t fz))
theorem Tn {W W1 W2:World} {p q b3:Nat} (h:Ch (jZ W p q b3) W W1) (k:Ch (jZ W1 p q b3) W1 W2):Ch (jZ W p q b3) W W2:=
 h.trans k fun i hi hs=>by
  rcases hs with hs|⟨h1,h2,cs,t,fz,h3⟩
  ·exact .inl hs
  ·by_cases hS:jZ W p q b3 i
   ·exact hS
   ·exact .inr ⟨h1,h2,cs,t,fz,(h.block i hi hS).symm.trans h3⟩
theorem tK {W W1:World} (p q b3:Nat) (h:Nx W W1):Ch (jZ W p q b3) W W1:=h.mono fun _ _ hf=>hf.elim
theorem tJ {W W1:World} {S:Nat->Prop} {p q b3:Nat} (h:Ch S W W1) (hS:∀i,S i->jZ W p q b3 i):Ch (jZ W p q b3) W W1:=h.mono fun i _ hi=>hS i hi
theorem tN {W:World} {g p q b3:Nat} {t tp tq:TypeId} {cs cp cq:Array Value} (h:aG W g t cs) (hp:aG W p tp cp) (hq:aG W q tq cq) (h1:t≠tp) (h2:t≠tq):jZ W p q b3 g:=
 .inr ⟨fun e=>h.DT hp h1 (by rw[e]),fun e=>h.DT hq h2 (by rw[e]),cs,t,(0,0),h⟩
theorem OE {W:World} {g p q b3:Nat} {t tp tq:TypeId} {cs cp cq:Array Value} {fz:Nat×Nat} (h:W.heap[g]?=some (.cells cs t fz)) (hp:aG W p tp cp) (hq:aG W q tq cq) (h1:t≠tp) (h2:t≠tq):jZ W p q b3 g:=by
 have key:∀{x:Nat} {tx:TypeId} {cx:Array Value},aG W x tx cx->t≠tx->g≠x:=fun {x tx cx} hx hne e=>by
  subst e;have hx:W.heap[g]?=some (.cells cx tx (0,0)):=hx;rw[h]at hx;injection hx with hx;injection hx with _ e;exact hne e
 exact .inr ⟨key hp h1,key hq h2,cs,t,fz,h⟩
theorem FN {W W':World} {p q b3 B:Nat} (h:Ch (jZ W p q b3) W W') (hb:b3<B):KeepsFrom B W W':=
 ⟨h.size,fun k o hB ho hc=>(h.block k (Array.getElem?_eq_some_iff.1 ho).1 fun hs=>by
   rcases hs with hs|⟨_,_,cs,t,fz,h3⟩
   ·omega
   ·rw[h3]at ho
    injection ho with ho;rw[←ho]at hc;cases hc).trans ho⟩
theorem OG {W W':World} {p q b3:Nat} (h:Ch (jZ W p q b3) W W') (h1:p≠b3) (h2:q≠b3) (l1:p<W.heap.size) (l2:q<W.heap.size):EP p q W W':=
 ⟨h.size,h.block p l1 fun hs=>by rcases hs with hs|⟨h3,_⟩;exact h1 hs;exact h3 rfl,h.block q l2 fun hs=>by rcases hs with hs|⟨_,h3,_⟩;exact h2 hs;exact h3 rfl⟩
theorem zx.more {D:DataW Unit} {gs:List (List aC)} (h:zx D gs gs.length []) (g:List aC):zx D (gs++[g]) gs.length []:=by
 refine ⟨h.1,fun t ht=>?_⟩
 have e:dZ (gs++[g]) gs.length [] t=dZ gs gs.length [] t:=by
  unfold dZ;rw[List.take_left,List.take_length]
 rw[e];exact h.2 t ht
theorem dJ.more {w W:World} {B b1 b2 b3 b4:Nat} {gs:List (List aC)} {X:List Nat} {ss:List aW} (h:dJ w B b1 b2 b3 b4 gs X ss gs.length [] W) (g:List aC):dJ w B b1 b2 b3 b4 (gs++[g]) X ss gs.length [] W:=by
 obtain ⟨h1,h2,h3,D,n,g1,g2,g3,g4⟩:=h;exact ⟨h1,h2,h3,D,n,g1,g2.more g,g3,g4⟩
theorem z3q (g:List aC):∀(gs:List (List aC)) (a:Nat),sF a (gs++[g])=sF a gs++[⟨((a+(cZ gs).length:Nat):Int),(iE g).length,g.length,NQ g,lastT g⟩]
 |[],a=>by simp[sF,cZ]
 |x::gs,a=>by
  rw[List.cons_append,sF,z3q g gs,sF];simp[cZ,Nat.add_assoc]
theorem Cj (gs:List (List aC)) (g:List aC):cZ (gs++[g])=cZ gs++iE g:=by simp[cZ]
/-! the chunk's rows -/
def pY {α:Type} (l:List α) (per k:Nat):List α:=(l.drop (k * per)).take per
theorem z2O {α:Type} (l:List α) (per k:Nat):(pY l per k).length=bn l.length per k:=by
 unfold pY bn;rw[List.length_take,List.length_drop]
theorem Cc {α β:Type} (f:α->β) (l:List α) (per k:Nat):(pY l per k).map f=pY (l.map f) per k:=by
 unfold pY;rw[List.map_take,List.map_drop]
theorem pG {α:Type} (l:List α) (per n:Nat) (hn:l.length=n):(List.finRange (bg n per)).map (fun k=>pY l per k.val)=eu per l:=by
 subst hn;rw[UG (fun k=>pY l per k)];rfl
theorem yC {w:World} {D:Nat->Prop} {A:Option Addr} {n:Nat} {l:List RV} (h:Rd w D 9 A n (bM l)) (hl:l.length=n) (per k:Nat) (hk:k * per<=n):Rd w D 9 (A.map fun ad=>ad.add (k * per * 9)) (bn n per k) (bM (pY l per k)):=by
 have h1:=h.cut (k:=k * per) (cap:=n) hk (Nat.le_refl _);have h2:=h1.take (k:=bn n per k) (by unfold bn;omega)
 have e:((bM l).drop (k * per * 9)).take (bn n per k * 9)=bM (pY l per k):=by
  unfold bM pY;rw[ZX RV.aQ,ZY RV.aQ];congr 1
  unfold bn;rw[←hl,←List.length_drop,←List.take_eq_take_min]
 rw[e]at h2;by_cases h0:n=k * per
 ·have hz:bn n per k=0:=by unfold bn;omega
  have hz2:pY l per k=[]:=List.eq_nil_of_length_eq_zero (by rw[z2O,hl];exact hz);rw[hz,hz2];exact Rd.none_ _ _ _ _
 ·rw[if_neg (by omega)]at h2
  exact h2
def gW (w1:World) (A:Option Addr) (n c per:Nat):World:=
 ((((((w1.alloc (.cells #[.int .u8 69,.int .u8 78,.int .u8 84,.int .u8 82,.int .u8 1] 5 (5,6))).alloc (.cells #[.slice (some ⟨w1.heap.size,0,none⟩) 5 5] 47)).alloc (.cells #[.slice none 0 0,.slice none 0 0] 184)).alloc (.map #[] 0)).alloc
   (.cells #[.map (some (w1.heap.size+1+1+1))] 185)).alloc (.cells #[.slice A n c] 34)).alloc (.cells #[.int .i64 (per:Int)] 3)
theorem z3m {w w1:World} (n1:Nx w w1) (A:Option Addr) (n c per:Nat):
 dJ w (gW w1 A n c per).heap.size (w1.heap.size+1) (w1.heap.size+1+1) (w1.heap.size+1+1+1) (w1.heap.size+1+1+1+1) [] headB [] 0 [] (gW w1 A n c per)/\
 aG (gW w1 A n c per) (w1.heap.size+1+1+1+1+1) 34 #[.slice A n c]/\aG (gW w1 A n c per) (w1.heap.size+1+1+1+1+1+1) 3 #[.int .i64 (per:Int)]/\(gW w1 A n c per).heap.size=w1.heap.size+7/\Nx w (gW w1 A n c per):=by
 have hsz:=n1.size;obtain ⟨a1,h1⟩:∃a,a=w1.alloc (.cells #[.int .u8 69,.int .u8 78,.int .u8 84,.int .u8 82,.int .u8 1] 5 (5,6)):=⟨_,rfl⟩;have s1:a1.heap.size=w1.heap.size+1:=by rw[h1,World.size_alloc]
 have L1:a1.heap[w1.heap.size]?=some (.cells #[.int .u8 69,.int .u8 78,.int .u8 84,.int .u8 82,.int .u8 1] 5 (5,6)):=by rw[h1];exact heap_alloc_new w1 _
 have N1:Nx w a1:=by rw[h1];exact n1.trans ((Ch.refl _ w1).alloc _) fun _ _ hf=>hf
 have key:∀(o:Obj) (X:World),Nx a1 X->(X.alloc o).heap[w1.heap.size]?=some (.cells #[.int .u8 69,.int .u8 78,.int .u8 84,.int .u8 82,.int .u8 1] 5 (5,6)):=fun o X hX=>by
  have:=(hX.trans ((Ch.refl (fun _=>False) X).alloc o) fun _ _ hf=>hf).block w1.heap.size (by omega) fun hf=>hf;rw[this];exact L1
 unfold gW;rw[←h1];have B1:=aG.new a1 47 #[.slice (some ⟨w1.heap.size,0,none⟩) 5 5];obtain ⟨a2,h2⟩:∃a,a=a1.alloc (.cells #[.slice (some ⟨w1.heap.size,0,none⟩) 5 5] 47):=⟨_,rfl⟩;rw[←h2]at B1 ⊢;have s2:a2.heap.size=w1.heap.size+1+1:=by rw[h2,World.size_alloc,s1]
 have N2:Nx a1 a2:=by rw[h2];exact (Ch.refl _ a1).alloc _
 have B2:=aG.new a2 184 #[.slice none 0 0,.slice none 0 0];obtain ⟨a3,h3⟩:∃a,a=a2.alloc (.cells #[.slice none 0 0,.slice none 0 0] 184):=⟨_,rfl⟩;rw[←h3]at B2 ⊢;have s3:a3.heap.size=w1.heap.size+1+1+1:=by rw[h3,World.size_alloc,s2]
 have N3:Nx a2 a3:=by rw[h3];exact (Ch.refl _ a2).alloc _
 have G:=World.ownsGroups_made (H:=Unit) a3 Tryz.prog 9 3 .i64;have GS:=World.Shuns_made a3 (· <w1.heap.size+7);obtain ⟨a4,h4⟩:∃a,a=a3.alloc (.map #[] 0):=⟨_,rfl⟩;rw[←h4]at G GS ⊢;have s4:a4.heap.size=w1.heap.size+1+1+1+1:=by rw[h4,World.size_alloc,s3]
 have N4:Nx a3 a4:=by rw[h4];exact (Ch.refl _ a3).alloc _
 have B4:=aG.new a4 185 #[.map (some (w1.heap.size+1+1+1))];obtain ⟨a5,h5⟩:∃a,a=a4.alloc (.cells #[.map (some (w1.heap.size+1+1+1))] 185):=⟨_,rfl⟩;rw[←h5]at B4 ⊢;have s5:a5.heap.size=w1.heap.size+1+1+1+1+1:=by rw[h5,World.size_alloc,s4]
 have N5:Nx a4 a5:=by rw[h5];exact (Ch.refl _ a4).alloc _
 have B5:=aG.new a5 34 #[.slice A n c];obtain ⟨a6,h6⟩:∃a,a=a5.alloc (.cells #[.slice A n c] 34):=⟨_,rfl⟩;rw[←h6]at B5 ⊢;have s6:a6.heap.size=w1.heap.size+1+1+1+1+1+1:=by rw[h6,World.size_alloc,s5]
 have N6:Nx a5 a6:=by rw[h6];exact (Ch.refl _ a5).alloc _
 have B6:=aG.new a6 3 #[.int .i64 (per:Int)];obtain ⟨a7,h7⟩:∃a,a=a6.alloc (.cells #[.int .i64 (per:Int)] 3):=⟨_,rfl⟩;rw[←h7]at B6 ⊢;have s7:a7.heap.size=w1.heap.size+7:=by rw[h7,World.size_alloc,s6]
 have N7:Nx a6 a7:=by rw[h7];exact (Ch.refl _ a6).alloc _
 rw[s1]at B1;rw[s2]at B2;rw[s3]at G GS;rw[s4]at B4;rw[s5]at B5;rw[s6]at B6;have T:=fun {a b c:World} (h:Nx a b) (k:Nx b c)=>(h.trans k fun _ _ hf=>hf:Nx a c);have N56:=T N5 (T N6 N7);have N456:=T N4 N56;have N27:=T N3 N456;have N17:=T N2 N27;have NW:=T N1 N17;refine ⟨⟨⟨_,B1.nx N27,.inr ⟨w1.heap.size,_,(5,6),rfl,(N17.block _ (by omega) fun hf=>hf).trans L1,rfl,hsz,NW⟩⟩,⟨_,B2.nx N456,aF.nil w a7 _ 5 NW⟩,B4.nx (T N6 N7),.map [],0,VO G N56 (fun hf=>hf) (fun _ _ _ _ hf=>hf),zx.start [],Nat.le_refl _,?_⟩,B5.nx N7,B6,s7,NW⟩;rw[s7];exact z29 GS G N56 fun hf=>hf
def IL (R:List aC) (n per:Nat) (pre:List (Fin (bg n per))):List (List aC):=pre.map fun k=>pY R per k.val
structure CV (w:World) (m:Nat) (A:Option Addr) (n c per:Nat) (R:List aC) (pre:List (Fin (bg n per))) (W:World):Prop where
 Zr:dJ w (m+7) (m+1) (m+1+1) (m+1+1+1) (m+1+1+1+1) (IL R n per pre) (headB++cZ (IL R n per pre)) (sF 5 (IL R n per pre)) (IL R n per pre).length [] W
 bp:aG W (m+1+1+1+1+1) 34 #[.slice A n c]
 bq:aG W (m+1+1+1+1+1+1) 3 #[.int .i64 (per:Int)]
 size:m+7<=W.heap.size
theorem CV.own {w:World} {m:Nat} {A:Option Addr} {n c per:Nat} {R:List aC} (hm:w.heap.size<=m):OwnFrom (m+7) (CV w m A n c per R):=by
 intro pre W W' row h hg hr;have c1:Ch (fun r=>row=some r) W W':=(Ch.refl (fun r=>row=some r) W).grown hg (fun r hr _=>hr)
 have hB:∀{g:Nat} {t:TypeId} {cs:Array Value},aG W g t cs->aG W' g t cs:=fun {g t cs} hb=>hb.ch c1 fun e=>by
  obtain ⟨_,o,h1,h2⟩:=hr _ e;have hb:W.heap[g]?=some (.cells cs t (0,0)):=hb;rw[hb]at h1;injection h1 with h1;rw[←h1]at h2;cases h2
 exact ⟨h.Zr.from (B':=m+7) (by omega) (by omega) hg hr,hB h.bp,hB h.bq,Nat.le_trans h.size hg.size⟩
theorem CV.start {w w1:World} (n1:Nx w w1) (A:Option Addr) (n c per:Nat) (R:List aC):CV w w1.heap.size A n c per R [] (gW w1 A n c per):=by
 obtain ⟨h1,h2,h3,h4,h5⟩:=z3m n1 A n c per;rw[h4]at h1;exact ⟨h1,h2,h3,by omega⟩
theorem jE.form {w W:World} {v:Value} {xs:List Nat} (h:jE w W v xs):∃A c,v=.slice A xs.length c:=by
 rcases h with o|⟨g,cs,fz,e1,_⟩
 ·obtain ⟨A,c,e,_⟩:=o.form
  exact ⟨A,c,e⟩
 ·exact ⟨_,_,e1⟩
def Dw (s:aW):Array Value:= #[.int .i64 s.place,.int .i64 s.size,.int .i64 s.rows,.int .i64 s.lo,.int .i64 s.hi]
theorem Rd.Xl (w:World) (x:aW):Rd (w.alloc (.cells (Dw x) 191)) (fun k=>k=w.heap.size) 5 (some ⟨w.heap.size,0,none⟩) 1 (spl [x]):=by
 have h:=Rd.lit w (Dw x) 191 (0,0);refine ⟨by simp[spl,aW.cs],fun _=>?_⟩;obtain ⟨ad,e,hD,hc⟩:=h.2 (by simp[Dw]);exact ⟨ad,e,hD,fun j u hu=>hc j u (by simpa [spl,aW.cs,Dw]using hu)⟩
theorem Ox (l:List aW):∀u∈spl l,u.oneCell'=true:=by
 intro u hu;obtain ⟨x,_,hx⟩:=List.mem_flatMap.1 hu;simp[aW.cs]at hx;rcases hx with rfl|rfl|rfl|rfl|rfl<;>rfl
theorem Jr (l:List aW) (x:aW):spl (l++[x])=spl l++spl [x]:=by simp[spl]
theorem oL {F:Fence} {n:Nat} {P:Program} {w w':World} {ops:Array Oper} {rest:List Oper} {o:Oper} {a:Act} {Q:Exit->Act->World->Prop} (hg:o.guard=none) (s x:Operand) (t:TypeId)
 (hop:o.op=Op.call { callee:=Callee.builtin Builtin.append,args:= #[s,x],argTypes:= #[t,t]}) {v y v':Value} (hs:a.eval s=v) (hx:a.eval x=y) (hrun:(Builtin.append_ #[t,t] o.type #[v,y]).run P w=.ok v' w')
 (h:wpListIn F n P ops Q rest (a.put o.dst v') w'):wpListIn F n P ops Q (o::rest) a w:=by
 refine wpListIn_plain hg fun K hK'=>?_;unfold Oper.wpIn;refine ⟨?_,?_⟩
 ·simp[Oper.about,hop,resolve,Target.leads,Sem.run_pure]
 ·rw[Oper.semAt_plain F _ _ (by rw[hop];intro c hc';cases hc')]
  simp[execOp,hop,resolve,invoke,builtin,hs,hx,hrun,Result.andThen];exact hK' _ _ h
theorem JG (n:Nat):0<(aB n).length:=by
 rw[aB];split<;>simp
theorem ni {l:List aC} (h:eF l):(iE l).length<=1000000:=by
 rw[Z_];exact wJ 9 (by omega) (Rj h)
theorem BJ (l:List aC):0<(iE l).length:=by
 rw[Z_,Xf,List.length_append];have h3:=JG (aI 4 (qc (l.map fun x=>x.null))).length;have h4:(fD (aI 4 (qc (l.map fun x=>x.null)))).length=(aB (aI 4 (qc (l.map fun x=>x.null))).length).length+(aI 4 (qc (l.map fun x=>x.null))).length:=by unfold fD;rw[List.length_append]
 omega
theorem ZQ:∀{gs:List (List aC)},(∀g∈gs,eF g)->(cZ gs).length<=1000000 * gs.length
 |[],_=>by simp[cZ]
 |g::gs,h=>by
  have h1:=ZQ (gs:=gs) fun x hx=>h x (List.mem_cons_of_mem _ hx);have h2:=ni (h g List.mem_cons_self);have e:cZ (g::gs)=iE g++cZ gs:=(by simp[cZ]);rw[e,List.length_append,List.length_cons];omega
theorem z3O {R:List aC} {n per:Nat} (hp:per<=256) (h:∀x∈R,CU x) (pre:List (Fin (bg n per))):∀g∈IL R n per pre,eF g:=fun g hg=>by
 obtain ⟨k,_,rfl⟩:=List.mem_map.1 hg;refine ⟨?_,fun x hx=>h x (List.mem_of_mem_drop (List.mem_of_mem_take hx))⟩;rw[z2O];unfold bn;omega
def n_ (A:Option Addr) (ws:List ByteArray) (W:World):Prop:=Rd W (fun k=>∃cs,aG W k 9 cs) 1 A ws.length (dK ws)
theorem n_.ch {A:Option Addr} {ws:List ByteArray} {W W':World} {S:Nat->Prop} (h:n_ A ws W) (c:Ch S W W') (hS:∀g cs,aG W g 9 cs->¬S g):n_ A ws W':=by
 have h1:=Rd.ch h (by decide) c (fun k _ hk hs=>by obtain ⟨cs,hB⟩:=hk;exact hS k cs hB hs);exact h1.more fun k hk=>by obtain ⟨cs,hB⟩:=hk;exact ⟨cs,hB.ch c (hS k cs hB)⟩
def YR (W:World) (all:List ByteArray) (e:Ending) (w':World):Prop:=∃A c,e=.returned (.slice A all.length c)/\n_ A all w'/\Nx W w'
theorem zD {W w:World} {v:Value} {n:Nat} {l:List ByteArray} (hl:l.length=n) (hn:n<=1000000) (o:aF W w 9 1 v n ((fJ l).map Go.Proofs.encStr)):
 Calls Tryz.prog 92 #[v] w (YR W (aY l)):=by
 have Ec:(nX l).map Go.Proofs.encStr=dK (aY l):=by rw[sU];rfl
 have hallL:(nX l).length=(aY l).length:=by simp[aY]
 have hsl:(fJ l).length=n:=by rw[Zi,hl]
 have e1:Lib.compact (fJ l)=nX l:=rfl;rcases o.own.2 with ⟨rfl,hz⟩|⟨gb,cap',cur,rfl,hbase,hgb,r1,r2,r3,r4⟩
 ·have h0:l=[]:=List.eq_nil_of_length_eq_zero (by omega)
  subst h0;refine (Tryz.slices_Compact_string_empty none 0 w).mono ?_;rintro e w' ⟨rfl,rfl⟩;have e0:aY []=[]:=by simp[aY,nX,fJ,Lib.compact,Lib.compactUpTo]
  rw[e0];exact ⟨none,0,rfl,Rd.none_ _ _ _ _,o.nx⟩
 ·have hH:Holds encStr w gb 0 (fJ l).toArray:=holds_of_block hgb (by rw[hsl];rw[Nat.mul_one]at r4;exact r4)
  have hcon:=Tryz.slices_Compact_string gb 0 cap' (fJ l) w hH (by omega) (by rw[hsl];exact r1);rw[←hsl]at r1 ⊢;refine hcon.mono ?_;rintro e w' ⟨rfl,q,rfl⟩;have hle:=Lib.compact_length_le (fJ l);have e2:putRow encStr (Sort.ahead w q) gb 0 (Lib.compact (fJ l)++List.replicate ((fJ l).length-(Lib.compact (fJ l)).length) []).toArray=grow (putRow encStr (Sort.ahead w q) gb 0 (Lib.compact (fJ l)++List.replicate ((fJ l).length-(Lib.compact (fJ l)).length) []).toArray) #[]:=(grow_empty _).symm;have h1:=ownsRow_sorted (n:=q) (os:= #[]) (ss:=fJ l) (ts:=Lib.compact (fJ l)++List.replicate ((fJ l).length-(Lib.compact (fJ l)).length) []) (by simp;omega) hbase hgb r1 r2 r3;have h2:=grownBy_sorted (w:=w) (g:=gb) (n:=q) (os:= #[]) (Lib.compact (fJ l)++List.replicate ((fJ l).length-(Lib.compact (fJ l)).length) []).toArray;rw[←e2]at h1 h2;generalize putRow encStr (Sort.ahead w q) gb 0 (Lib.compact (fJ l)++List.replicate ((fJ l).length-(Lib.compact (fJ l)).length) []).toArray=w' at *;have h3:=(Rd.bW h1).take (k:=(Lib.compact (fJ l)).length) hle;rw[Nat.mul_one,List.map_append,List.take_left' (by simp)]at h3;rw[e1,Ec,hallL]at h3;refine ⟨some ⟨gb,0,none⟩,cap',by rw[e1,hallL],?_,o.nx.grown h2 (fun j hj hlt=>by injection hj with hj;omega)⟩;exact Rd.more h3 fun k hk=>jg h1 hk.1
section
variable {P : Program} {ops : Array Oper} {o : Oper} {a : Act} {K : Act → World → Prop} {Q : Exit → Act → World → Prop} {E : Prop} {w w' : World}
theorem qA (hgd:o.guard=none) (s x:Operand) (t:TypeId) (ho:o.op=.call { callee:=.builtin .append,args:= #[s,x],argTypes:= #[t,t]}) {v y v':Value} (hs:a.eval s=v) (hx:a.eval x=y)
 (hrun:(Builtin.append_ #[t,t] o.type #[v,y]).run P w=.ok v' w') (h:K (a.put o.dst v') w'):if Region.wanted o (yielded ops a.tmps)=true then Oper.wp P o a w K Q else E:=by
 have hw:Region.wanted o (yielded ops a.tmps)=true:=by simp[Region.wanted,hgd]
 rw[if_pos hw];unfold Oper.wp;simp[execOp,ho,resolve,invoke,builtin,hs,hx,hrun,Result.andThen];exact h
theorem qx (hgd:o.guard=none) (m x:Operand) (t:TypeId) (ho:o.op=.lookup t m x false) {mv key v:Value} (hm:a.eval m=mv) (hx:a.eval x=key)
 (hrun:(Instr.lookup t mv key false).run P w=.ok v w') (h:K (a.put o.dst v) w'):if Region.wanted o (yielded ops a.tmps)=true then Oper.wp P o a w K Q else E:=by
 have hw:Region.wanted o (yielded ops a.tmps)=true:=by simp[Region.wanted,hgd]
 rw[if_pos hw];unfold Oper.wp;simp[execOp,ho,hm,hx,hrun,Result.andThen];exact h
theorem vV (hgd:o.guard=none) (m x y:Operand) (t:TypeId) (ho:o.op=.mapUpdate t m x y) {mv key v:Value} (hm:a.eval m=mv) (hx:a.eval x=key) (hy:a.eval y=v)
 (hrun:(Instr.mapUpdate t mv key v).run P w=.ok () w') (h:K (a.put o.dst undef) w'):if Region.wanted o (yielded ops a.tmps)=true then Oper.wp P o a w K Q else E:=by
 have hw:Region.wanted o (yielded ops a.tmps)=true:=by simp[Region.wanted,hgd]
 rw[if_pos hw];unfold Oper.wp;simp[execOp,ho,hm,hx,hy,hrun,Result.andThen];exact h
end
theorem CJ {l:List ByteArray} {j:Nat} (h:j<(aY l).length):(aY l)[j]∉(aY l).take j:=by
 intro hm;obtain ⟨i,hi,e⟩:=List.mem_iff_getElem.1 hm;rw[List.length_take]at hi;rw[List.getElem_take]at e;have:=List.pairwise_iff_getElem.1 (ZP l) i j (by omega) h (by omega);rw[e]at this;exact absurd this (List.lt_irrefl _)
theorem vN (G:List aC) {j:Nat} (hj:j<(aY (G.map cu)).length):(aY (G.map cu))[j]∉(aY (G.map cu)).take j/\fC (aY (G.map cu))[j]:=by
 refine ⟨CJ hj,?_⟩;obtain ⟨x,_,e⟩:=List.mem_map.1 (Q_.1 (List.getElem_mem hj));have:=WW x;rw[e]at this;show _<=maxLen
 unfold maxLen;omega
theorem yA {w:World} {D:Nat->Prop} {A:Option Addr} {q:Nat} {l:List RV} (h:Rd w D 9 A q (bM l)) (hl:l.length=q) (h0:0<q):∀ca,A=some ca->w.cell? ⟨ca.block,ca.off+1,none⟩=some (.int .i64 (NQ (l.map fun x=>x.row)))/\w.cell? ⟨(ca.add ((q-1) * 9)).block,(ca.add ((q-1) * 9)).off+1,none⟩=some (.int .i64 (lastT (l.map fun x=>x.row))):=by
 intro ca hca;obtain ⟨a1,e1,_,_,f1,_⟩:=qg h (k:=0) (by omega);obtain ⟨a2,e2,_,_,f2,_⟩:=qg h (k:=q-1) (by omega);rw[hca]at e1 e2;injection e1 with e1;injection e2 with e2;subst e1;subst e2
 have g1:NQ (l.map fun x=>x.row)=l[0].row.time:=by
  unfold NQ;rw[List.head?_map,List.head?_eq_getElem?,List.getElem?_eq_getElem (by omega)];rfl
 have g2:lastT (l.map fun x=>x.row)=(l[q-1]'(by omega)).row.time:=by
  unfold lastT
  have e:l[l.length-1]?=some (l[q-1]'(by omega)):=by
   subst hl;exact List.getElem?_eq_getElem _
  rw[List.getLast?_map,List.getLast?_eq_getElem?,e];rfl
 rw[g1,g2];refine ⟨?_,f2⟩;simpa [Addr.add]using f1
theorem LZ {w:World} {D:Nat->Prop} {A:Option Addr} {q:Nat} {l:List RV} (h:Rd w D 9 A q (bM l)) (hl:l.length=q) (hk:∀x∈l,x.ok w D/\x.row.few) (W:World) (c:Nx w W) (cp:Nat) (hq:q<=1000000):
 Calls Tryz.prog 94 #[.slice A q cp,.func (.func 95) #[] #[]] W (Gives W 9 1 q (dK ((l.map fun x=>x.row).map cu))):=by
 have hx:∀w',Nx w w'->∀x∈l,Calls Tryz.prog 95 #[aK x] w' fun e w''=>e=.returned (Value.string (cu x.row))/\Nx w' w'':=fun w' c' x hx=>by
  have hx1:x.ok w' (fun _=>True):=(hk x hx).1.ch c' (fun _ _ _ hf=>hf) fun _ _=>trivial;exact rM x hx1 (hk x hx).2
 have:=DR (c:=cp) (w:=W) cu (h.nx (by decide) c) hl (by omega) (fun w2 c2 x hx2=>hx w2 (c.tr c2) x hx2);simp only[Dt]at this;exact this
end Go.Proofs.YtdbfejfhpkakhaaGreat
