/- Contracts and plain laws that the last text rests on. Conditions: each theorem states its own. -/
import Derived.Test.YtpakjclpjcngmaaGreatKqQ24
import Derived.Test.YtpakjclpjcngmaaGreatKqQ17
import Derived.Test.YtpakjclpjcngmaaGreatKqQ30
import Derived.Test.YtpakjclpjcngmaaGreatKqQ14
import Derived.Test.YtpakjclpjcngmaaGreatKqQ23
import Derived.Test.YtpakjclpjcngmaaGreatKqQ3
import Derived.Test.YtpakjclpjcngmaaGreatKqQ15
import Derived.Test.YtpakjclpjcngmaaGreatKqQ32
import Derived.Test.YtpakjclpjcngmaaGreatKqQ22
import Derived.Test.YtpakjclpjcngmaaGreatKqQ35
set_option maxRecDepth 100000
set_option maxHeartbeats 16000000
set_option linter.unusedVariables false
namespace Go.Proofs.YtpakjclpjcngmaaGreat
open Go.RowKit
def gX (C:List (List Nat)) (k:Nat):List Nat:=(C.take k).flatMap dJ
theorem z2n {C:List (List Nat)} {k:Nat} (h:k<C.length):gX C (k+1)=gX C k++dJ C[k]:=by
 unfold gX;rw[List.take_succ_eq_append_getElem h,List.flatMap_append];simp
theorem KT:∀(C:List (List Nat)),(∀x∈C,x.length<=65600)->(C.flatMap dJ).length<=65620 * C.length
 |[],_=>by simp
 |x::C,h=>by
  have h1:=KT C fun y hy=>h y (List.mem_cons_of_mem _ hy);have h2:=h x List.mem_cons_self;have h3:=(z06 (n:=x.length) (by omega)).2;rw[List.flatMap_cons,List.length_append,List.length_cons];have h4:(dJ x).length=(ak x.length).length+x.length:=by unfold dJ;rw[List.length_append]
  omega
theorem BM {C:List (List Nat)} (k:Nat) (hk:k<=9) (h:∀x∈C,x.length<=65600):(gX C k).length<=1000000:=by
 have h1:=KT (C.take k) fun x hx=>h x (List.mem_of_mem_take hx);have h2:(C.take k).length<=9:=by rw[List.length_take];omega
 unfold gX;omega
theorem z4O {kind:Nat} {xs:List Nat} (h:xs.length<=65536):(aB kind xs).length<=65600:=by
 have h1:=(z06 (n:=xs.length) (by omega)).2
 have h2:(jD xs).length<=xs.length:=by
  unfold jD;split
  ·omega
  ·exact Nat.le_refl _
 unfold aB EN;rw[Vm];simp only[List.length_append,List.length_cons,List.length_nil];omega
theorem Vf {l:List au} (h:fD l):∀x∈bY l,x.length<=65600:=by
 have hI:∀zs:List Int,zs.length<=256->aS zs=0->(aB 1 (bM zs)).length<=65600:=fun zs h1 h2=>z4O (by have:=(z2o h2).2;omega);have hl:=h.few;intro x hx;unfold bY at hx;simp only[List.mem_cons,List.not_mem_nil,or_false]at hx;rcases hx with rfl|rfl|rfl|rfl|rfl|rfl|rfl|rfl|rfl
 ·exact hI _ (by simpa using hl) h.time
 ·exact hI _ (by simpa using hl) h.maker
 ·exact hI _ (by simpa using hl) h.seq
 ·exact hI _ (by simpa using hl) h.place
 ·exact hI _ (by simpa using hl) h.kind
 ·exact z4O h.words
 ·exact z4O h.texts
 ·exact hI _ (by simpa using hl) h.value
 ·exact z4O (by have:=z3b (l:=l.map fun x=>x.null) (by simp;omega);omega)
theorem Ad (l:List au):(bY l).length=9:=rfl
theorem qZ {l:List au} {k:Nat} (hk:k<5):(bY l)[k]'(by rw[Ad];omega)=aB 1 (bM (l.map (jK k))):=
 match k,hk with
 |0,_=>rfl
 |1,_=>rfl
 |2,_=>rfl
 |3,_=>rfl
 |4,_=>rfl
theorem TV (l:List au):(bY l)[5]'(by rw[Ad];omega)=aB 2 (aZ (l.map b_)):=rfl
theorem pre6 (l:List au):gX (bY l) 6=gX (bY l) 5++dJ (aB 2 (aZ (l.map b_))):=(z2n (C:=bY l) (k:=5) (by rw[Ad];omega)).trans (by rw[TV])
theorem cle6 {l:List au} (h:fD l):(aB 2 (aZ (l.map b_))).length<=65600:=by
 have:=Vf h _ (List.getElem_mem (show 5<(bY l).length by rw[Ad];omega));rw[TV]at this;exact this
theorem TU (l:List au):(bY l)[6]'(by rw[Ad];omega)=aB 3 (bC (l.map fun x=>x.text)):=rfl
theorem pre7 (l:List au):gX (bY l) 7=gX (bY l) 6++dJ (aB 3 (bC (l.map fun x=>x.text))):=(z2n (C:=bY l) (k:=6) (by rw[Ad];omega)).trans (by rw[TU])
theorem cle7 {l:List au} (h:fD l):(aB 3 (bC (l.map fun x=>x.text))).length<=65600:=by
 have:=Vf h _ (List.getElem_mem (show 6<(bY l).length by rw[Ad];omega));rw[TU]at this;exact this
theorem TT (l:List au):(bY l)[7]'(by rw[Ad];omega)=aB 1 (bM (l.map fun x=>x.value)):=rfl
theorem pre8 (l:List au):gX (bY l) 8=gX (bY l) 7++dJ (aB 1 (bM (l.map fun x=>x.value))):=(z2n (C:=bY l) (k:=7) (by rw[Ad];omega)).trans (by rw[TT])
theorem cle8 {l:List au} (h:fD l):(aB 1 (bM (l.map fun x=>x.value))).length<=65600:=by
 have:=Vf h _ (List.getElem_mem (show 7<(bY l).length by rw[Ad];omega));rw[TT]at this;exact this
theorem TS (l:List au):(bY l)[8]'(by rw[Ad];omega)=aB 4 (aW (l.map fun x=>x.null)):=rfl
theorem adp (l:List au):gX (bY l) 9=gX (bY l) 8++dJ (aB 4 (aW (l.map fun x=>x.null))):=(z2n (C:=bY l) (k:=8) (by rw[Ad];omega)).trans (by rw[TS])
theorem cle9 {l:List au} (h:fD l):(aB 4 (aW (l.map fun x=>x.null))).length<=65600:=by
 have:=Vf h _ (List.getElem_mem (show 8<(bY l).length by rw[Ad];omega));rw[TS]at this;exact this
theorem fD.col {l:List au} (h:fD l) {k:Nat} (hk:k<5):aS (l.map (jK k))=0:=
 match k,hk with
 |0,_=>h.time
 |1,_=>h.maker
 |2,_=>h.seq
 |3,_=>h.place
 |4,_=>h.kind
theorem TA {k:Nat} (hk:k<5):∃F,Xu k=.func F #[] #[]:=
 match k,hk with
 |0,_=>⟨_,rfl⟩
 |1,_=>⟨_,rfl⟩
 |2,_=>⟨_,rfl⟩
 |3,_=>⟨_,rfl⟩
 |4,_=>⟨_,rfl⟩
theorem z5x (l:List au):z08 l=gX (bY l) 9:=rfl
theorem aal (l:List RV) (f:au->Int):(l.map fun x=>Value.int .i64 (f x.row))=il ((l.map fun x=>x.row).map f):=by simp[il,Function.comp_def]
theorem JL (l:List RV) (f:au->ByteArray):(l.map fun x=>Value.string (f x.row))=fJ ((l.map fun x=>x.row).map f):=by simp[fJ,Function.comp_def]
theorem Xy (l:List RV) (f:au->Bool):(l.map fun x=>Value.bool (f x.row))=tY ((l.map fun x=>x.row).map f):=by simp[tY,Function.comp_def]
theorem zM.tr {W w w':World} {g:Nat} {xs:List Nat} (h:zM W w g xs) (c:Nx w w'):zM W w' g xs:=by
 obtain ⟨v,hb,ho⟩:=h;exact ⟨v,hb.nx c,ho.tr c⟩
theorem zM.nx {W w:World} {g:Nat} {xs:List Nat} (h:zM W w g xs):Nx W w:=by
 obtain ⟨v,hb,ho⟩:=h;exact ho.nx
theorem z3P {W w0 w:World} {g:Nat} {xs ys:List Nat} {k cap:Nat} (h:zM W w0 g xs) (hW:W.heap.size<=g) (o:aA w0 w 5 1 (.slice (some ⟨k,0,none⟩) ys.length cap) ys.length (bl ys)) (er:Int) (h1:xs.length<=10000000) (h2:ys.length<=65600):
 Calls Tryz.prog 90 #[.slice (some ⟨k,0,none⟩) ys.length cap,.int .i64 er,.pointer (some ⟨g,0,none⟩)] w (UG W w g (xs++dJ ys)):=by
 obtain ⟨v,hb,ho⟩:=h;refine Uh (D:=(· =k)) (hb.nx o.nx) (ho.tr o.nx) hW o.lC rfl (fun j e e2=>?_) er (by omega);have h3:=(ho.lt j e2).2;have h4:=(o.lt k (by simp[Value.ownBlock])).1;omega
theorem group_any {w:World} {D:Nat->Prop} {A:Option Addr} {n c:Nat} {l:List RV} (h:Rd w D 9 A n (gq l)) (hl:l.length=n) (hk:∀x∈l,x.ok w D/\x.row.few) (hg:fD (l.map fun x=>x.row)):
 Calls Tryz.prog 40 #[.slice A n c] w (Gives w 5 1 (z08 (l.map fun x=>x.row)).length (bl (z08 (l.map fun x=>x.row)))):=by
 have hn:n<=256:=by have:=hg.few;rw[List.length_map]at this;omega
 have hll:(l.map fun x=>x.row).length=n:=by rw[List.length_map];exact hl
 have ny:=ah (fun w' (c':Nx w w')=>h.nx (w':=w') (by decide) c');have EI:=ah (fun w' (c':Nx w w') x (hx:x∈l)=>show x.ok w' (fun _=>True)/\x.row.few from ⟨(hk x hx).1.ch c' (fun _ _ _ hf=>hf) fun _ _=>trivial,(hk x hx).2⟩)
 have HI0:∀k,k<5->∀b w',w'.cell? ⟨b,0,none⟩=some (Xu k)->∀w2,Nx w' w2->∀x∈l,Calls Tryz.prog 166 #[bG x,.pointer (some ⟨b,0,none⟩)] w2 fun e w''=>e=.returned (Value.int .i64 (jK k x.row))/\Nx w2 w'':=fun k hk5 b w' hb w2 c2 x hx=>by
  have hb2:w2.cell? ⟨b,0,none⟩=some (Xu k):=(c2.cell (p:=⟨b,0,none⟩) (World.block_lt_of_cell? w' _ hb)).trans hb;exact R_ hk5 x w2 b hb2
 have afi:Hid (∀k,k<5->∀w',Nx w w'->∀b,w'.cell? ⟨b,0,none⟩=some (Xu k)->Calls Tryz.prog 98 #[.slice A n c,.func (.func 166) #[] #[.pointer (some ⟨b,0,none⟩)]] w' (Gives w' 2 1 n (l.map fun x=>Value.int .i64 (jK k x.row)))):=ah (fun k hk5 w' c' b hb=>by
  have h1:=h.nx (by decide) c';have h2:=HI0 k hk5 b w' hb;exact Rk (jK k) h1 hl (by omega) h2)
 clear HI0
 have HT0:∀w',Nx w w'->∀x∈l,Calls Tryz.prog 45 #[bG x] w' fun e w''=>e=.returned (Value.string (b_ x.row))/\Nx w' w'':=fun w' c' x hx=>by
  have hx1:x.ok w' (fun _=>True):=(hk x hx).1.ch c' (fun _ _ _ hf=>hf) fun _ _=>trivial;exact w_ x hx1 (hk x hx).2
 have aeV:=ah (fun w' (c':Nx w w')=>Kv (c:=c) (w:=w') b_ (h.nx (by decide) c') hl (by omega) (fun w2 c2 x hx=>HT0 w2 (c'.tr c2) x hx));clear HT0;have Yp:=ah (fun w' (c':Nx w w')=>Ri (c:=c) (w:=w') (fun x=>x.text) (h.nx (by decide) c') hl (by omega) (fun w2 c2 x hx=>XZ x w2));have aeU:=ah (fun w' (c':Nx w w')=>Rj (c:=c) (w:=w') (fun x=>x.value) (h.nx (by decide) c') hl (by omega) (fun w2 c2 x hx=>XY x w2));have afe:=ah (fun w' (c':Nx w w')=>Rl (c:=c) (w:=w') (fun x=>x.null) (h.nx (by decide) c') hl (by omega) (fun w2 c2 x hx=>XW x w2));simp only[aal,JL,Xy]at afi aeV Yp aeU afe;have HPI:=ah (fun f (he:aS ((l.map fun x=>x.row).map f)=0) w' D' A' c' (hr:Rd w' D' 1 A' n (il ((l.map fun x=>x.row).map f)))=>z5J D' A' n c' _ w' hr (by rw[List.length_map];exact hll) he);have HE:=ah (fun k (hk5:k<5)=>hg.col hk5);have HEV:=ah hg.value;have HC5:=ah (fun k (hk5:k<5)=>(z2n (C:=bY (l.map fun x=>x.row)) (k:=k) (by rw[Ad];omega)).trans (by rw[qZ hk5]));have HLE:=ah (fun k (hk5:k<5)=>by have:=Vf hg _ (List.getElem_mem (show k<(bY (l.map fun x=>x.row)).length by rw[Ad];omega));rw[qZ hk5]at this;exact this);have Jw:=ah (fun k (hk9:k<=9)=>BM (C:=bY (l.map fun x=>x.row)) k hk9 (Vf hg));have HC6:=ah (pre6 (l.map fun x=>x.row));have HC7:=ah (pre7 (l.map fun x=>x.row));have HC8:=ah (pre8 (l.map fun x=>x.row));have HC9:=ah (adp (l.map fun x=>x.row));have HL6:=ah (cle6 hg);have HL7:=ah (cle7 hg);have HL8:=ah (cle8 hg);have HL9:=ah (cle9 hg);have hP0:gX (bY (l.map fun x=>x.row)) 0=[]:=rfl;rw[z5x];generalize gX (bY (l.map fun x=>x.row))=P at *;have hw1:=hg.words;have hw2:=nP (l.map fun x=>x.row);have hw3:((l.map fun x=>x.row).map b_).length=n:=by rw[List.length_map];exact hll
 have ht1:=hg.texts;have ht2:=hg.text;have ht3:((l.map fun x=>x.row).map fun x=>x.text).length=n:=by rw[List.length_map];exact hll
 have hf3:((l.map fun x=>x.row).map fun x=>x.null).length=n:=by rw[List.length_map];exact hll
 clear hg;generalize (l.map fun x=>x.row).map b_=WD at *;generalize ((l.map fun x=>x.row).map fun x=>x.text)=TX at *;generalize ((l.map fun x=>x.row).map fun x=>x.null)=FL at *;have HPW:=ah (fun w' D' A' c' (hr:Rd w' D' 1 A' n (fJ WD)) hc=>z4s D' A' n c' WD w' hr hw3 (by omega) hw2 hc hw1);have HPT:=ah (fun w' D' A' c' (hr:Rd w' D' 1 A' n (fJ TX)) hc=>z4t D' A' n c' TX w' hr ht3 (by omega) ht2 hc ht1);have HPF:=ah (fun w' D' A' c' (hr:Rd w' D' 1 A' n (tY FL))=>z4u D' A' n c' FL w' hr hf3 (by omega));clear hw1 hw2 hw3 ht1 ht2 ht3 hf3;generalize (l.map fun x=>x.row)=R at *;have HPV:=ah (HPI.out (fun x=>x.value) HEV.out);generalize aB 2 (aZ WD)=C6 at *;generalize aB 3 (bC TX)=C7 at *;generalize aB 1 (bM (R.map fun x=>x.value))=C8 at *;generalize aB 4 (aW FL)=C9 at *;have HO0:Hid (zM w (w.alloc (.cells #[.slice none 0 0] 26)) w.heap.size (P 0)):=ah ⟨_,aG.new ..,by rw[hP0];exact aA.nil w _ _ 1 ((Ch.refl _ w).alloc _)⟩;clear hP0 h hk hll hl;go_enter Tryz.func40,Tryz.ntmps40;go_wp2_with fail;have HB0:Hid (aG ((w.alloc (.cells #[.slice none 0 0] 26)).alloc (.cells #[.func (.func 92) #[] #[],.func (.func 93) #[] #[],.func (.func 94) #[] #[],.func (.func 95) #[] #[],.func (.func 96) #[] #[]] 149)) (w.heap.size+1) 149 #[.func (.func 92) #[] #[],.func (.func 93) #[] #[],.func (.func 94) #[] #[],.func (.func 95) #[] #[],.func (.func 96) #[] #[]]):=ah (by have:=aG.new (w.alloc (.cells #[.slice none 0 0] 26)) 149 #[.func (.func 92) #[] #[],.func (.func 93) #[] #[],.func (.func 94) #[] #[],.func (.func 95) #[] #[],.func (.func 96) #[] #[]];simpa using this);have HO1:=ah (HO0.out.tr ((Ch.refl _ _).alloc (.cells #[.func (.func 92) #[] #[],.func (.func 93) #[] #[],.func (.func 94) #[] #[],.func (.func 95) #[] #[],.func (.func 96) #[] #[]] 149)));generalize (w.alloc (.cells #[.slice none 0 0] 26)).alloc (.cells #[.func (.func 92) #[] #[],.func (.func 93) #[] #[],.func (.func 94) #[] #[],.func (.func 95) #[] #[],.func (.func 96) #[] #[]] 149)=w1 at *;go_loopw [10] (fun i wr=>∃k:Nat,k<=5/\i=.int .i64 (k:Int)/\Hid (zM w wr w.heap.size (P k))/\Hid (aG wr (w.heap.size+1) 149 #[.func (.func 92) #[] #[],.func (.func 93) #[] #[],.func (.func 94) #[] #[],.func (.func 95) #[] #[],.func (.func 96) #[] #[]])) (fun i _=>5-(intOf i).toNat)
 case atStart=>exact ⟨0,Nat.zero_le _,rfl,HO1,HB0⟩
 case round=>
  obtain ⟨w4,rfl⟩:∃w4:World,w4=wr:=⟨_,rfl⟩;obtain ⟨k,hk5,rfl,HO,HB⟩:=hrel;by_cases hlt:k<5
  ·obtain ⟨F,hF⟩:=TA hlt
   have hcell:w4.cell? ((⟨w.heap.size+1,0,none⟩:Addr).add k)=some (Xu k):=by
    obtain ⟨ad,u,e1,_,e2,e3⟩:=(Um (xs:=[.func (.func 92) #[] #[],.func (.func 93) #[] #[],.func (.func 94) #[] #[],.func (.func 95) #[] #[],.func (.func 96) #[] #[]]) HB.out).at_ (k:=k) hlt;injection e1 with e1;subst e1;rw[e3,←e2];match k,hlt with
    |0,_=>rfl
    |1,_=>rfl
    |2,_=>rfl
    |3,_=>rfl
    |4,_=>rfl
   have hcell2:w4.cell? ⟨w.heap.size+1,k,none⟩=some (Xu k):=by
    rw[←hcell];congr 1
    unfold Addr.add;split
    ·next e=>rw[e]
    ·simp
   have Yr:=ah (fun w'=>CY (Xu k) F hF w');have HP1:=ah (HC5.out k hlt);have hpl:=Jw.out k (by omega);have hcl:=HLE.out k hlt;have Zf:=ah (afi.out k hlt);have HPU:=ah (HPI.out (jK k) (HE.out k hlt));clear hF;generalize Xu k=fv at *;generalize il (R.map (jK k))=zs at *;generalize aB 1 (bM (R.map (jK k)))=ch at *;go_wp2_with fail;refine (Yr.out _).mono ?_;rintro e w5 ⟨rfl,e5⟩;have n5:Nx w4 w5:=by rw[e5];exact (Ch.refl _ _).alloc _
   have b5:w5.cell? ⟨w4.heap.size,0,none⟩=some fv:=by rw[e5];exact (aG.new w4 _ #[fv]).cell 0
   clear e5 hcell hcell2;have hcall:=Zf.out w5 (HO.out.nx.tr n5) w4.heap.size b5;go_wp2_with fail;refine hcall.mono ?_;rintro e w6 ⟨v6,rfl,o6⟩;obtain ⟨A6,c6,rfl, -, -⟩:=o6.form;clear hcall;have hcall:=HPU.out w6 _ A6 c6 o6.rd;go_wp2_with fail;refine hcall.mono ?_;rintro e w7 ⟨k7,aeu,rfl,o7, -⟩;have HO6:=HO.out.tr (n5.tr o6.nx);have HK6:=ah (HB.out.nx ((n5.tr o6.nx).tr o7.nx));have SN:=z3P HO6 (Nat.le_refl _) o7 0 (by omega) hcl;clear hcall o6 b5;go_wp2_with fail;refine SN.mono ?_;rintro e w8 ⟨rfl,o8,kt⟩;rw[←HP1.out]at o8;have O8:=ah o8;have B8:=ah (kt _ _ _ (by decide) (by decide) HK6.out);clear o8 kt SN o7 n5 HO6;go_wp2_with fail;go_roundw
   case rel=>exact ⟨k+1,by omega,by go_num,O8,B8⟩
   case measure=>simp[intOf];omega
  ·have hk9:k=5:=by omega
   subst hk9;have hc6:=aeV.out w4 HO.out.nx;go_wp2_with fail;refine hc6.mono ?_;rintro e wa6 ⟨va6,rfl,oa6⟩;obtain ⟨Aa6,ca6,rfl,hca6, -⟩:=oa6.form;clear hc6;have hc6:=HPW.out wa6 _ Aa6 ca6 oa6.rd hca6;go_wp2_with fail;refine hc6.mono ?_;rintro e wb6 ⟨kb6,capb6,rfl,ob6, -⟩;have hd6:=z3P (HO.out.tr oa6.nx) (Nat.le_refl _) ob6 0 (by have:=Jw.out 5 (by omega);omega) HL6.out;clear hc6 oa6;go_wp2_with fail;refine hd6.mono ?_;rintro e wc6 ⟨rfl,oc6, -⟩;rw[←HC6.out]at oc6;have OC6:=ah oc6;clear hd6 oc6 ob6;have hc7:=Yp.out wc6 OC6.out.nx;go_wp2_with fail;refine hc7.mono ?_;rintro e wa7 ⟨va7,rfl,oa7⟩;obtain ⟨Aa7,ca7,rfl,hca7, -⟩:=oa7.form;clear hc7;have hc7:=HPT.out wa7 _ Aa7 ca7 oa7.rd hca7;go_wp2_with fail;refine hc7.mono ?_;rintro e wb7 ⟨kb7,capb7,rfl,ob7, -⟩;have hd7:=z3P (OC6.out.tr oa7.nx) (Nat.le_refl _) ob7 0 (by have:=Jw.out 6 (by omega);omega) HL7.out;clear hc7 oa7;go_wp2_with fail;refine hd7.mono ?_;rintro e wc7 ⟨rfl,oc7, -⟩;rw[←HC7.out]at oc7;have OC7:=ah oc7;clear hd7 oc7 ob7;have hc8:=aeU.out wc7 OC7.out.nx;go_wp2_with fail;refine hc8.mono ?_;rintro e wa8 ⟨va8,rfl,oa8⟩;obtain ⟨Aa8,ca8,rfl,hca8, -⟩:=oa8.form;clear hc8;have hc8:=HPV.out wa8 _ Aa8 ca8 oa8.rd;go_wp2_with fail;refine hc8.mono ?_;rintro e wb8 ⟨kb8,capb8,rfl,ob8, -⟩;have hd8:=z3P (OC7.out.tr oa8.nx) (Nat.le_refl _) ob8 0 (by have:=Jw.out 7 (by omega);omega) HL8.out;clear hc8 oa8;go_wp2_with fail;refine hd8.mono ?_;rintro e wc8 ⟨rfl,oc8, -⟩;rw[←HC8.out]at oc8;have OC8:=ah oc8;clear hd8 oc8 ob8;have hc9:=afe.out wc8 OC8.out.nx;go_wp2_with fail;refine hc9.mono ?_;rintro e wa9 ⟨va9,rfl,oa9⟩;obtain ⟨Aa9,ca9,rfl,hca9, -⟩:=oa9.form;clear hc9;have hc9:=HPF.out wa9 _ Aa9 ca9 oa9.rd;go_wp2_with fail;refine hc9.mono ?_;rintro e wb9 ⟨kb9,capb9,rfl,ob9, -⟩;have hd9:=z3P (OC8.out.tr oa9.nx) (Nat.le_refl _) ob9 0 (by have:=Jw.out 8 (by omega);omega) HL9.out;clear hc9 oa9;go_wp2_with fail;refine hd9.mono ?_;rintro e wc9 ⟨rfl,oc9, -⟩;rw[←HC9.out]at oc9;have OC9:=ah oc9;clear hd9 oc9 ob9;obtain ⟨vz,bz,oz⟩:=OC9.out;have cz:wc9.cell? ⟨w.heap.size,0,none⟩=some vz:=bz.cell 0;have OZ:=ah oz;clear bz oz;obtain ⟨Az,cz',rfl, -, -⟩:=OZ.out.form;go_wp2_with fail;go_ret;exact ⟨_,rfl,OZ.out⟩
end Go.Proofs.YtpakjclpjcngmaaGreat
namespace Go.Proofs.YtpakjclpjcngmaaGreat
open Ps
def oL (b:List Nat):Nat->iZ
 |0=>(0,0)
 |k+1=>(cZ b (oL b k).1 (oL b k).2 262144).2
def fO (b:List Nat) (k:Nat):List Nat:=(cZ b (oL b k).1 (oL b k).2 262144).1
structure aV where
 n:Nat->List Int
 ws:List ByteArray
 ts:List ByteArray
 fs:List Bool
def aV.rowOf (c:aV) (i:Nat) (l:List dP):au:=⟨(c.n 4).getD i 0,(c.n 0).getD i 0,l,c.ts.getD i ByteArray.empty,(c.n 5).getD i 0,c.fs.getD i false,(c.n 1).getD i 0,(c.n 2).getD i 0,(c.n 3).getD i 0⟩
def aV.row (c:aV) (i:Nat):Option au:=(jT (c.ws.getD i ByteArray.empty).data.toList).map (c.rowOf i)
def aV.rows (c:aV):Nat->Option (List au)
 |0=>some []
 |k+1=>(c.rows k).bind fun l=>(c.row k).map fun x=>l++[x]
structure aV.fit (c:aV):Prop where
 n:∀k,k<6->(c.n k).length=c.fs.length
 pos:1<=c.fs.length
 few:c.fs.length<=256
 ws:c.ws.length=c.fs.length
 ts:c.ts.length=c.fs.length
open Classical in
noncomputable def aV.group (c:aV) (b:List Nat):Option (List au):=
 if c.fit/\bW b.length (oL b 9).1 (oL b 9).2=0 then (c.rows c.fs.length).bind fun l=>if iL l=true/\z08 l=b then some l else none else none
theorem aV.vK {c:aV} {k:Nat} (h:c.rows k=none):∀d,c.rows (k+d)=none
 |0=>h
 |d+1=>by
  show (c.rows (k+d)).bind _=none
  rw[aV.vK h d];rfl
theorem aV.QG {c:aV} {k m:Nat} (h:jT (c.ws.getD k ByteArray.empty).data.toList=none) (hk:k<m):c.rows m=none:=by
 have h1:c.rows (k+1)=none:=by
  unfold aV.rows aV.row;rw[h];cases c.rows k<;>rfl
 have:=aV.vK h1 (m-(k+1));rwa [show k+1+(m-(k+1))=m by omega]at this
theorem aV.vM {c:aV} {k:Nat} {l:List au} {s:List dP} (h:c.rows k=some l) (hs:jT (c.ws.getD k ByteArray.empty).data.toList=some s):c.rows (k+1)=some (l++[c.rowOf k s]):=by
 unfold aV.rows aV.row;rw[h,hs];rfl
/-! what was put is read -/
theorem uS {C:List (List Nat)} (hC:∀x∈C,x.length<=262144):∀{k:Nat},k<=C.length->oL (C.flatMap dJ) k=((gX C k).length,0)/\(C.flatMap dJ).drop (gX C k).length=(C.drop k).flatMap dJ/\(gX C k).length<=(C.flatMap dJ).length:=by
 have key:∀k,(C.flatMap dJ)=gX C k++(C.drop k).flatMap dJ:=fun k=>by
  unfold gX;rw[←List.flatMap_append,List.take_append_drop]
 intro k;induction k with
 |zero=>intro _;exact ⟨rfl,by simp[gX],by simp[gX]⟩
 |succ k ih=>
  intro hk;obtain ⟨h1,h2,h3⟩:=ih (by omega);have hlt:k<C.length:=by omega
  have hd:(C.flatMap dJ).drop (gX C k).length=ak C[k].length++(C[k]++(C.drop (k+1)).flatMap dJ):=by
   rw[h2,List.drop_eq_getElem_cons hlt,List.flatMap_cons];unfold dJ;rw[List.append_assoc]
  obtain ⟨e1,e2,e3⟩:=z5F hd h3 (hC _ (List.getElem_mem hlt)) (by decide)
  have e4:(gX C (k+1)).length=(gX C k).length+(ak C[k].length).length+C[k].length:=by
   rw[z2n hlt,List.length_append];unfold dJ;rw[List.length_append,Nat.add_assoc]
  refine ⟨?_,?_,?_⟩
  ·rw[oL,h1,e1,e4]
  ·rw[e4,e2]
  ·rw[e4];exact e3
theorem Qg {C:List (List Nat)} (hC:∀x∈C,x.length<=262144) {k:Nat} (hk:k<C.length):fO (C.flatMap dJ) k=C[k]:=by
 obtain ⟨h1,h2,h3⟩:=uS hC (Nat.le_of_lt hk)
 have hd:(C.flatMap dJ).drop (gX C k).length=ak C[k].length++(C[k]++(C.drop (k+1)).flatMap dJ):=by
  rw[h2,List.drop_eq_getElem_cons hk,List.flatMap_cons];unfold dJ;rw[List.append_assoc]
 obtain ⟨e1, -, -⟩:=z5F hd h3 (hC _ (List.getElem_mem hk)) (by decide);unfold fO;rw[h1,e1]
def JB (l:List au):aV:=⟨fun k=>l.map (if k=5 then fun x=>x.value else jK k),l.map b_,l.map fun x=>x.text,l.map fun x=>x.null⟩
theorem Gw {x:au} (h:jH x.ay=true):jT (b_ x).data.toList=some x.ay:=by
 unfold b_ xR;rw[if_pos h];have:(iW (textF x.ay)).data.toList=textF x.ay:=by simp[iW]
 rw[this,qp h]
theorem wV {l:List au} (h:∀x∈l,zL x):∀{k:Nat},k<=l.length->(JB l).rows k=some (l.take k)
 |0,_=>by simp[aV.rows]
 |k+1,hk=>by
  have hlt:k<l.length:=(by omega);have hx:=h l[k] (List.getElem_mem hlt);have hw:(JB l).ws.getD k ByteArray.empty=b_ l[k]:=(by simp[JB,hlt]);rw[aV.vM (wV h (Nat.le_of_lt hlt)) (by rw[hw];exact Gw (z14 hx.1).2.2.1),List.take_succ_eq_append_getElem hlt];congr 3
  simp[aV.rowOf,JB,jK,hlt]
theorem IU {l:List au} (h:iL l=true) (hg:fD l):(JB l).group (z08 l)=some l:=by
 have hC:∀x∈bY l,x.length<=262144:=fun x hx=>by have:=Vf hg x hx;omega
 have e9:gX (bY l) 9=z08 l:=by simp[gX,bY,z08]
 have h9:=(uS hC (k:=9) (by rw[Ad];omega)).1;rw[e9]at h9;have hl:=(z17.1 h).1;have hfl:(JB l).fs.length=l.length:=by simp[JB]
 unfold aV.group
 rw[if_pos ⟨⟨fun k hk=>by simp[JB],by rw[hfl];exact hl,by rw[hfl];exact hg.few,by simp[JB],by simp[JB]⟩,by
  show bW (z08 l).length (oL (z08 l) 9).1 (oL (z08 l) 9).2=0
  have:oL (z08 l) 9=((z08 l).length,0):=h9;rw[this];simp[bW]⟩,hfl,wV hg.row (Nat.le_refl _),List.take_length]
 simp only[Option.bind_some];rw[if_pos ⟨h,trivial⟩]
theorem z5m {l:List au} (hg:fD l):okB (z08 l):=by
 have hc:∀x∈bY l,okB x:=by
  have hl:=hg.few;have hI:∀zs:List Int,zs.length<=256->aS zs=0->okB (aB 1 (bM zs)):=fun zs h1 h2=>z3K (by decide) (z4H h2) (by have:=(z2o h2).2;omega);intro x hx;unfold bY at hx;simp only[List.mem_cons,List.not_mem_nil,or_false]at hx;rcases hx with rfl|rfl|rfl|rfl|rfl|rfl|rfl|rfl|rfl
  ·exact hI _ (by simpa using hl) hg.time
  ·exact hI _ (by simpa using hl) hg.maker
  ·exact hI _ (by simpa using hl) hg.seq
  ·exact hI _ (by simpa using hl) hg.place
  ·exact hI _ (by simpa using hl) hg.kind
  ·exact z3K (by decide) (z4T (by simp;omega) (nP l)) hg.words
  ·exact z3K (by decide) (z3w (by simp;omega) hg.text).1 hg.texts
  ·exact hI _ (by simpa using hl) hg.value
  ·exact z3K (by decide) (z5z (by simp;omega)) (by have:=z3b (l:=l.map fun x=>x.null) (by simp;omega);omega)
 intro x hx;unfold z08 at hx;obtain ⟨t,ht,hx⟩:=List.mem_flatMap.1 hx;have hl:=Vf hg t ht;unfold dJ at hx;rcases List.mem_append.1 hx with hx|hx
 ·exact jV (by omega) x hx
 ·exact hc t ht x hx
theorem z2h {l:List au} (hg:fD l) {k:Nat} (hk:k<9):fO (z08 l) k=(bY l)[k]'(by rw[Ad];exact hk):=
 Qg (C:=bY l) (fun x hx=>by have:=Vf hg x hx;omega) (by rw[Ad];exact hk)
end Go.Proofs.YtpakjclpjcngmaaGreat
namespace Go.Proofs.YtpakjclpjcngmaaGreat
open Go.RowKit
def xB (W:World) (m0:Nat) (v:Value) (xs:List Value):Prop:=
 ∃A c,v=.slice A xs.length c/\xs.length<=c/\c<=maxLen/\Rd W (fun k=>m0<=k/\k<W.heap.size) 1 A xs.length xs
section
variable {W W' : World} {m0 : Nat} {v : Value} {xs : List Value}
theorem xB.nil (W:World) (m0:Nat):xB W m0 (.slice none 0 0) []:=⟨none,0,rfl,Nat.le_refl _,Nat.zero_le _,Rd.none_ _ _ _ _⟩
theorem xB.ch {S:Nat->Prop} (h:xB W m0 v xs) (c:Ch S W W') (hS:∀k,S k->k<m0):xB W' m0 v xs:=by
 obtain ⟨A,cp,e,h1,h2,h3⟩:=h;exact ⟨A,cp,e,h1,h2,(h3.ch (by decide) c fun k _ hk hs=>by have:=hS k hs;omega).more fun k hk=>⟨hk.1,Nat.lt_of_lt_of_le hk.2 c.size⟩⟩
theorem xB.nx (h:xB W m0 v xs) (c:Nx W W'):xB W' m0 v xs:=h.ch c fun _ hf=>hf.elim
theorem xB.own {e:TypeId} {n:Nat} (h:aA W W' e 1 v n xs) (hm:m0<=W.heap.size):xB W' m0 v xs:=by
 obtain ⟨A,c,rfl,h1,h2⟩:=h.form;have hl:xs.length=n:=by have:=h.rd.1;omega
 subst hl;exact ⟨A,c,rfl,h1,h2,h.rd.more fun k hk=>⟨by omega,hk.2.2⟩⟩
end
def tn (k:Nat):Nat:=if k=5 then 7 else k
structure Zl (b:List Nat) (ic:Nat->List Int->Prop) (wc tc:List ByteArray->Prop) (fc:List Bool->Prop):Prop where
 ints:∀k,k<6->∀(D:Nat->Prop) (A:Option Addr) (c:Nat) (W:World),Rd W D 1 A (fO b (tn k)).length (bl (fO b (tn k)))->(∀j,D j->j<W.heap.size)->(fO b (tn k)).length<=c->
  Calls Tryz.prog 61 #[.slice A (fO b (tn k)).length c] W fun e w'=>∃v l er,e=.returned (.tuple #[v,.int .i64 er])/\aA W w' 2 1 v l.length (il l)/\(∀z∈l,i64 z)/\ic k l
 words:∀(D:Nat->Prop) (A:Option Addr) (c:Nat) (W:World),Rd W D 1 A (fO b 5).length (bl (fO b 5))->(∀j,D j->j<W.heap.size)->(fO b 5).length<=c->
  Calls Tryz.prog 62 #[.slice A (fO b 5).length c] W fun e w'=>∃v l er,e=.returned (.tuple #[v,.int .i64 er])/\aA W w' 9 1 v l.length (fJ l)/\(∀s∈l,s.size<=1000000000)/\wc l
 texts:∀(D:Nat->Prop) (A:Option Addr) (c:Nat) (W:World),Rd W D 1 A (fO b 6).length (bl (fO b 6))->(∀j,D j->j<W.heap.size)->(fO b 6).length<=c->
  Calls Tryz.prog 63 #[.slice A (fO b 6).length c] W fun e w'=>∃v l er,e=.returned (.tuple #[v,.int .i64 er])/\aA W w' 9 1 v l.length (fJ l)/\(∀s∈l,s.size<=1000000000)/\tc l
 flags:∀(D:Nat->Prop) (A:Option Addr) (c:Nat) (W:World),Rd W D 1 A (fO b 8).length (bl (fO b 8))->(∀j,D j->j<W.heap.size)->(fO b 8).length<=c->
  Calls Tryz.prog 64 #[.slice A (fO b 8).length c] W fun e w'=>∃v l er,e=.returned (.tuple #[v,.int .i64 er])/\aA W w' 4 1 v l.length (tY l)/\fc l
structure Am (w:World) (g b4 bn m0:Nat) (A:Option Addr) (c:Nat) (b:List Nat) (k:Nat) (v:Nat->Value) (n:Nat->List Int) (W:World):Prop where
 cur:aQ W (fun j=>w.heap.size<=j/\j<g) g A c b (oL b k).1 (oL b k).2
 r4:aG W b4 111 #[.pointer (some ⟨g,0,none⟩)]
 arr:aG W bn 115 #[v 0,v 1,v 2,v 3,v 4,v 5]
 cols:∀j,j<6->xB W m0 (v j) (il (n j))
 nx:Nx w W
 lay:w.heap.size<=g/\g<m0/\w.heap.size<=b4/\b4<m0/\w.heap.size<=bn/\bn<m0/\g≠b4/\g≠bn/\b4≠bn/\g<b4/\g<bn/\m0<=W.heap.size
section
variable {w W W' : World} {g b4 bn m0 k : Nat} {A : Option Addr} {c : Nat} {b : List Nat} {v : Nat → Value} {n : Nat → List Int}
theorem Am.nU (h:Am w g b4 bn m0 A c b k v n W) (t:Nx W W'):Am w g b4 bn m0 A c b k v n W':=by
 obtain ⟨h1,h2,h3,h4,h5,h6⟩:=h;have:=t.size;exact ⟨h1.nx t,h2.nx t,h3.nx t,fun j hj=>(h4 j hj).nx t,h5.trans t fun _ _ hf=>hf,by omega⟩
theorem Am.YI (h:Am w g b4 bn m0 A c b k v n W) (t:dM W (fun j=>w.heap.size<=j/\j<g) g A c b (oL b (k+1)).1 (oL b (k+1)).2 W'):Am w g b4 bn m0 A c b (k+1) v n W':=by
 obtain ⟨h1,h2,h3,h4,h5,h6⟩:=h;obtain ⟨t1,t2⟩:=t;have:=t2.size;exact ⟨t1,h2.ch t2 (by omega),h3.ch t2 (by omega),fun j hj=>(h4 j hj).ch t2 fun i e=>by omega,h5.trans t2 fun i hi e=>by omega,by omega⟩
def upd {α:Type} (f:Nat->α) (i:Nat) (x:α):Nat->α:=fun j=>if j=i then x else f j
theorem Yf (f:Nat->Value) (i:Nat) (x:Value) (hi:i<6):(#[f 0,f 1,f 2,f 3,f 4,f 5]:Array Value).setIfInBounds i x= #[upd f i x 0,upd f i x 1,upd f i x 2,upd f i x 3,upd f i x 4,upd f i x 5]:=by
 rcases i with _|_|_|_|_|_|i
 all_goals first|rfl|omega
theorem Am.set (h:Am w g b4 bn m0 A c b k v n W) {i:Nat} (hi:i<6) {x:Value} {l:List Int} (hx:xB W m0 x (il l)):Am w g b4 bn m0 A c b k (upd v i x) (upd n i l) (W.setCell ⟨bn,i,none⟩ x):=by
 obtain ⟨h1,h2,h3,h4,h5,h6⟩:=h;have t:Ch (· =bn) W (W.setCell ⟨bn,i,none⟩ x):=Ch.setCell (Ch.refl (· =bn) _) (p:=⟨bn,i,none⟩) (fun _=>rfl) _;have z:(W.setCell ⟨bn,i,none⟩ x).heap.size=W.heap.size:=by simp
 refine ⟨h1.ch t (by omega) (fun j hj=>by omega),h2.ch t (by omega),?_,fun j hj=>?_,h5.trans t fun i hi e=>by omega,by omega⟩
 ·rw[←Yf v i x hi]
  exact h3.dY i x
 ·unfold upd
  split
  ·exact hx.ch t fun q e=>by omega
  ·exact (h4 j hj).ch t fun q e=>by omega
theorem Am.next (h:Am w g b4 bn m0 A c b k v n W):Calls Tryz.prog 59 #[.pointer (some ⟨b4,0,none⟩)] W fun en W'=>
 ∃A' c',en=.returned (.slice A' (fO b k).length c')/\Rd W' (fun j=>j<W'.heap.size) 1 A' (fO b k).length (bl (fO b k))/\(fO b k).length<=c'/\Am w g b4 bn m0 A c b (k+1) v n W'/\Ch (· =g) W W':=
 (Tj h.cur h.r4).mono fun en W' ⟨A',c',h1,h2,h3,h4⟩=>⟨A',c',h1,h2.more fun j hj=>hj.2,h3,h.YI h4,h4.2⟩
theorem Am.start {w2:World} (hc:aQ w2 (fun j=>w.heap.size<=j/\j<g) g A c b 0 0) (t:Nx w w2) (l:w.heap.size<=g/\g<w2.heap.size):
 Am w g w2.heap.size (w2.heap.size+1) (w2.heap.size+1+1) A c b 0 (fun _=>.slice none 0 0) (fun _=>[]) ((w2.alloc (.cells #[.pointer (some ⟨g,0,none⟩)] 111)).alloc (.cells #[.slice none 0 0,.slice none 0 0,.slice none 0 0,.slice none 0 0,.slice none 0 0,.slice none 0 0] 115)):=by
 have n1:Nx w2 (w2.alloc (.cells #[.pointer (some ⟨g,0,none⟩)] 111)):=(Ch.refl (fun _=>False) w2).alloc _;have n2:Nx (w2.alloc (.cells #[.pointer (some ⟨g,0,none⟩)] 111)) ((w2.alloc (.cells #[.pointer (some ⟨g,0,none⟩)] 111)).alloc (.cells #[.slice none 0 0,.slice none 0 0,.slice none 0 0,.slice none 0 0,.slice none 0 0,.slice none 0 0] 115)):=(Ch.refl (fun _=>False) _).alloc _;have z1:(w2.alloc (.cells #[.pointer (some ⟨g,0,none⟩)] 111)).heap.size=w2.heap.size+1:=by simp
 have z2:((w2.alloc (.cells #[.pointer (some ⟨g,0,none⟩)] 111)).alloc (.cells #[.slice none 0 0,.slice none 0 0,.slice none 0 0,.slice none 0 0,.slice none 0 0,.slice none 0 0] 115)).heap.size=w2.heap.size+1+1:=by simp
 have B7:=aG.new (w2.alloc (.cells #[.pointer (some ⟨g,0,none⟩)] 111)) 115 #[.slice none 0 0,.slice none 0 0,.slice none 0 0,.slice none 0 0,.slice none 0 0,.slice none 0 0];rw[z1]at B7;exact ⟨(hc.nx n1).nx n2,(aG.new w2 _ _).nx n2,B7,fun j _=>xB.nil _ _,(t.trans n1 (fun _ _ hf=>hf)).trans n2 (fun _ _ hf=>hf),by omega⟩
theorem Am.cell (h:Am w g b4 bn m0 A c b k v n W) {i:Nat} (hi:i<6):W.cell? ⟨bn,i,none⟩=some (v i):=by
 rw[h.arr.cell i];rcases i with _|_|_|_|_|_|i
 all_goals first|rfl|omega
end
def xG (w:World) (o:Option (List au)) (e:Ending) (w':World):Prop:=match o with
 |none=>e=.returned (.tuple #[.slice none 0 0,.int .i64 4])/\Nx w w'
 |some l=>∃(zs:List RV) (A:Option Addr) (c:Nat),e=.returned (.tuple #[.slice A zs.length c,.int .i64 0])/\zs.map (fun x=>x.row)=l/\dO w w' (.slice A zs.length c) zs/\(∀z∈zs,z.row.few)
end Go.Proofs.YtpakjclpjcngmaaGreat
