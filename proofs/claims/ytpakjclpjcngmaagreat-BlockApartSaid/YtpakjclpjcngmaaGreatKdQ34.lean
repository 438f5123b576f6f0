/- Contracts and plain laws that the last text rests on. Conditions: each theorem states its own. -/
import Derived.Test.YtpakjclpjcngmaaGreatKdQ30
import Derived.Test.YtpakjclpjcngmaaGreatKdQ17
import Derived.Test.YtpakjclpjcngmaaGreatKdQ33
import Derived.Test.YtpakjclpjcngmaaGreatKdQ14
import Derived.Test.YtpakjclpjcngmaaGreatKdQ29
import Derived.Test.YtpakjclpjcngmaaGreatKdQ5
import Derived.Test.YtpakjclpjcngmaaGreatKdQ28
import Derived.Test.YtpakjclpjcngmaaGreatKdQ15
set_option maxRecDepth 100000
set_option maxHeartbeats 16000000
set_option linter.unusedVariables false
namespace Go.Proofs.YtpakjclpjcngmaaGreat
open Go.RowKit
def gZ (C:List (List Nat)) (k:Nat):List Nat:=(C.take k).flatMap dA
theorem z2z {C:List (List Nat)} {k:Nat} (h:k<C.length):gZ C (k+1)=gZ C k++dA C[k]:=by
 unfold gZ;rw[List.take_succ_eq_append_getElem h,List.flatMap_append];simp
theorem Le:∀(C:List (List Nat)),(∀x∈C,x.length<=65600)->(C.flatMap dA).length<=65620 * C.length
 |[],_=>by simp
 |x::C,h=>by
  have h1:=Le C fun y hy=>h y (List.mem_cons_of_mem _ hy);have h2:=h x List.mem_cons_self;have h3:=(z05 (n:=x.length) (by omega)).2;rw[List.flatMap_cons,List.length_append,List.length_cons];have h4:(dA x).length=(ak x.length).length+x.length:=by unfold dA;rw[List.length_append]
  omega
theorem Cb {C:List (List Nat)} (k:Nat) (hk:k<=9) (h:∀x∈C,x.length<=65600):(gZ C k).length<=1000000:=by
 have h1:=Le (C.take k) fun x hx=>h x (List.mem_of_mem_take hx);have h2:(C.take k).length<=9:=by rw[List.length_take];omega
 unfold gZ;omega
theorem z5p {kind:Nat} {xs:List Nat} (h:xs.length<=65536):(aA kind xs).length<=65600:=by
 have h1:=(z05 (n:=xs.length) (by omega)).2
 have h2:(iW xs).length<=xs.length:=by
  unfold iW;split
  ·omega
  ·exact Nat.le_refl _
 unfold aA AX;rw[PD];simp only[List.length_append,List.length_cons,List.length_nil];omega
theorem Py {l:List au} (h:dN l):∀x∈bY l,x.length<=65600:=by
 have hI:∀zs:List Int,zs.length<=256->aS zs=0->(aA 1 (bI zs)).length<=65600:=fun zs h1 h2=>z5p (by have:=(Yu h2).2;omega);have hl:=h.few;intro x hx;unfold bY at hx;simp only[List.mem_cons,List.not_mem_nil,or_false]at hx;rcases hx with rfl|rfl|rfl|rfl|rfl|rfl|rfl|rfl|rfl
 ·exact hI _ (by simpa using hl) h.time
 ·exact hI _ (by simpa using hl) h.maker
 ·exact hI _ (by simpa using hl) h.seq
 ·exact hI _ (by simpa using hl) h.place
 ·exact hI _ (by simpa using hl) h.kind
 ·exact z5p h.words
 ·exact z5p h.texts
 ·exact hI _ (by simpa using hl) h.value
 ·exact z5p (by have:=z2a (l:=l.map fun x=>x.null) (by simp;omega);omega)
theorem uN (l:List au):(bY l).length=9:=rfl
theorem qR {l:List au} {k:Nat} (hk:k<5):(bY l)[k]'(by rw[uN];omega)=aA 1 (bI (l.map (jK k))):=
 match k,hk with
 |0,_=>rfl
 |1,_=>rfl
 |2,_=>rfl
 |3,_=>rfl
 |4,_=>rfl
theorem Uf (l:List au):(bY l)[5]'(by rw[uN];omega)=aA 2 (bC (l.map dG)):=rfl
theorem pre6 (l:List au):gZ (bY l) 6=gZ (bY l) 5++dA (aA 2 (bC (l.map dG))):=(z2z (C:=bY l) (k:=5) (by rw[uN];omega)).trans (by rw[Uf])
theorem cle6 {l:List au} (h:dN l):(aA 2 (bC (l.map dG))).length<=65600:=by
 have:=Py h _ (List.getElem_mem (show 5<(bY l).length by rw[uN];omega));rw[Uf]at this;exact this
theorem Ue (l:List au):(bY l)[6]'(by rw[uN];omega)=aA 3 (bD (l.map fun x=>x.text)):=rfl
theorem pre7 (l:List au):gZ (bY l) 7=gZ (bY l) 6++dA (aA 3 (bD (l.map fun x=>x.text))):=(z2z (C:=bY l) (k:=6) (by rw[uN];omega)).trans (by rw[Ue])
theorem cle7 {l:List au} (h:dN l):(aA 3 (bD (l.map fun x=>x.text))).length<=65600:=by
 have:=Py h _ (List.getElem_mem (show 6<(bY l).length by rw[uN];omega));rw[Ue]at this;exact this
theorem Ud (l:List au):(bY l)[7]'(by rw[uN];omega)=aA 1 (bI (l.map fun x=>x.value)):=rfl
theorem pre8 (l:List au):gZ (bY l) 8=gZ (bY l) 7++dA (aA 1 (bI (l.map fun x=>x.value))):=(z2z (C:=bY l) (k:=7) (by rw[uN];omega)).trans (by rw[Ud])
theorem cle8 {l:List au} (h:dN l):(aA 1 (bI (l.map fun x=>x.value))).length<=65600:=by
 have:=Py h _ (List.getElem_mem (show 7<(bY l).length by rw[uN];omega));rw[Ud]at this;exact this
theorem Uc (l:List au):(bY l)[8]'(by rw[uN];omega)=aA 4 (bf (l.map fun x=>x.null)):=rfl
theorem ady (l:List au):gZ (bY l) 9=gZ (bY l) 8++dA (aA 4 (bf (l.map fun x=>x.null))):=(z2z (C:=bY l) (k:=8) (by rw[uN];omega)).trans (by rw[Uc])
theorem cle9 {l:List au} (h:dN l):(aA 4 (bf (l.map fun x=>x.null))).length<=65600:=by
 have:=Py h _ (List.getElem_mem (show 8<(bY l).length by rw[uN];omega));rw[Uc]at this;exact this
theorem dN.col {l:List au} (h:dN l) {k:Nat} (hk:k<5):aS (l.map (jK k))=0:=
 match k,hk with
 |0,_=>h.time
 |1,_=>h.maker
 |2,_=>h.seq
 |3,_=>h.place
 |4,_=>h.kind
theorem TM {k:Nat} (hk:k<5):∃F,Xh k=.func F #[] #[]:=
 match k,hk with
 |0,_=>⟨_,rfl⟩
 |1,_=>⟨_,rfl⟩
 |2,_=>⟨_,rfl⟩
 |3,_=>⟨_,rfl⟩
 |4,_=>⟨_,rfl⟩
theorem z65 (l:List au):fZ l=gZ (bY l) 9:=rfl
theorem aak (l:List RV) (f:au->Int):(l.map fun x=>Value.int .i64 (f x.row))=il ((l.map fun x=>x.row).map f):=by simp[il,Function.comp_def]
theorem Kt (l:List RV) (f:au->ByteArray):(l.map fun x=>Value.string (f x.row))=dM ((l.map fun x=>x.row).map f):=by simp[dM,Function.comp_def]
theorem Xk (l:List RV) (f:au->Bool):(l.map fun x=>Value.bool (f x.row))=lu ((l.map fun x=>x.row).map f):=by simp[lu,Function.comp_def]
theorem zX.tr {W w w':World} {g:Nat} {xs:List Nat} (h:zX W w g xs) (c:Nx w w'):zX W w' g xs:=by
 obtain ⟨v,hb,ho⟩:=h;exact ⟨v,hb.nx c,ho.tr c⟩
theorem zX.nx {W w:World} {g:Nat} {xs:List Nat} (h:zX W w g xs):Nx W w:=by
 obtain ⟨v,hb,ho⟩:=h;exact ho.nx
theorem z4n {W w0 w:World} {g:Nat} {xs ys:List Nat} {k cap:Nat} (h:zX W w0 g xs) (hW:W.heap.size<=g) (o:ay w0 w 5 1 (.slice (some ⟨k,0,none⟩) ys.length cap) ys.length (bl ys)) (er:Int) (h1:xs.length<=10000000) (h2:ys.length<=65600):
 Calls Tryz.prog 90 #[.slice (some ⟨k,0,none⟩) ys.length cap,.int .i64 er,.pointer (some ⟨g,0,none⟩)] w (UN W w g (xs++dA ys)):=by
 obtain ⟨v,hb,ho⟩:=h;refine Ut (D:=(· =k)) (hb.nx o.nx) (ho.tr o.nx) hW o.jZ rfl (fun j e e2=>?_) er (by omega);have h3:=(ho.lt j e2).2;have h4:=(o.lt k (by simp[Value.ownBlock])).1;omega
theorem group_any {w:World} {D:Nat->Prop} {A:Option Addr} {n c:Nat} {l:List RV} (h:Rd w D 9 A n (ji l)) (hl:l.length=n) (hk:∀x∈l,x.ok w D/\x.row.few) (hg:dN (l.map fun x=>x.row)):
 Calls Tryz.prog 40 #[.slice A n c] w (Gives w 5 1 (fZ (l.map fun x=>x.row)).length (bl (fZ (l.map fun x=>x.row)))):=by
 have hn:n<=256:=by have:=hg.few;rw[List.length_map]at this;omega
 have hll:(l.map fun x=>x.row).length=n:=by rw[List.length_map];exact hl
 have m_:=ah (fun w' (c':Nx w w')=>h.nx (w':=w') (by decide) c');have mO:=ah (fun w' (c':Nx w w') x (hx:x∈l)=>show x.ok w' (fun _=>True)/\x.row.few from ⟨(hk x hx).1.ch c' (fun _ _ _ hf=>hf) fun _ _=>trivial,(hk x hx).2⟩)
 have HI0:∀k,k<5->∀b w',w'.cell? ⟨b,0,none⟩=some (Xh k)->∀w2,Nx w' w2->∀x∈l,Calls Tryz.prog 166 #[bV x,.pointer (some ⟨b,0,none⟩)] w2 fun e w''=>e=.returned (Value.int .i64 (jK k x.row))/\Nx w2 w'':=fun k hk5 b w' hb w2 c2 x hx=>by
  have hb2:w2.cell? ⟨b,0,none⟩=some (Xh k):=(c2.cell (p:=⟨b,0,none⟩) (World.block_lt_of_cell? w' _ hb)).trans hb;exact Sv hk5 x w2 b hb2
 have afm:Hid (∀k,k<5->∀w',Nx w w'->∀b,w'.cell? ⟨b,0,none⟩=some (Xh k)->Calls Tryz.prog 98 #[.slice A n c,.func (.func 166) #[] #[.pointer (some ⟨b,0,none⟩)]] w' (Gives w' 2 1 n (l.map fun x=>Value.int .i64 (jK k x.row)))):=ah (fun k hk5 w' c' b hb=>by
  have h1:=h.nx (by decide) c';have h2:=HI0 k hk5 b w' hb;exact RG (jK k) h1 hl (by omega) h2)
 clear HI0
 have HT0:∀w',Nx w w'->∀x∈l,Calls Tryz.prog 45 #[bV x] w' fun e w''=>e=.returned (Value.string (dG x.row))/\Nx w' w'':=fun w' c' x hx=>by
  have hx1:x.ok w' (fun _=>True):=(hk x hx).1.ch c' (fun _ _ _ hf=>hf) fun _ _=>trivial;exact xk x hx1 (hk x hx).2
 have aeZ:=ah (fun w' (c':Nx w w')=>KN (c:=c) (w:=w') dG (h.nx (by decide) c') hl (by omega) (fun w2 c2 x hx=>HT0 w2 (c'.tr c2) x hx));clear HT0;have Ye:=ah (fun w' (c':Nx w w')=>Ry (c:=c) (w:=w') (fun x=>x.text) (h.nx (by decide) c') hl (by omega) (fun w2 c2 x hx=>XK x w2));have aeY:=ah (fun w' (c':Nx w w')=>Rz (c:=c) (w:=w') (fun x=>x.value) (h.nx (by decide) c') hl (by omega) (fun w2 c2 x hx=>XJ x w2));have afi:=ah (fun w' (c':Nx w w')=>RH (c:=c) (w:=w') (fun x=>x.null) (h.nx (by decide) c') hl (by omega) (fun w2 c2 x hx=>XI x w2));simp only[aak,Kt,Xk]at afm aeZ Ye aeY afi;have HPI:=ah (fun f (he:aS ((l.map fun x=>x.row).map f)=0) w' D' A' c' (hr:Rd w' D' 1 A' n (il ((l.map fun x=>x.row).map f)))=>z3U D' A' n c' _ w' hr (by rw[List.length_map];exact hll) he);have HE:=ah (fun k (hk5:k<5)=>hg.col hk5);have HEV:=ah hg.value;have HC5:=ah (fun k (hk5:k<5)=>(z2z (C:=bY (l.map fun x=>x.row)) (k:=k) (by rw[uN];omega)).trans (by rw[qR hk5]));have HLE:=ah (fun k (hk5:k<5)=>by have:=Py hg _ (List.getElem_mem (show k<(bY (l.map fun x=>x.row)).length by rw[uN];omega));rw[qR hk5]at this;exact this);have JI:=ah (fun k (hk9:k<=9)=>Cb (C:=bY (l.map fun x=>x.row)) k hk9 (Py hg));have HC6:=ah (pre6 (l.map fun x=>x.row));have HC7:=ah (pre7 (l.map fun x=>x.row));have HC8:=ah (pre8 (l.map fun x=>x.row));have HC9:=ah (ady (l.map fun x=>x.row));have HL6:=ah (cle6 hg);have HL7:=ah (cle7 hg);have HL8:=ah (cle8 hg);have HL9:=ah (cle9 hg);have hP0:gZ (bY (l.map fun x=>x.row)) 0=[]:=rfl;rw[z65];generalize gZ (bY (l.map fun x=>x.row))=P at *;have hw1:=hg.words;have hw2:=z33 (l.map fun x=>x.row);have hw3:((l.map fun x=>x.row).map dG).length=n:=by rw[List.length_map];exact hll
 have ht1:=hg.texts;have ht2:=hg.text;have ht3:((l.map fun x=>x.row).map fun x=>x.text).length=n:=by rw[List.length_map];exact hll
 have hf3:((l.map fun x=>x.row).map fun x=>x.null).length=n:=by rw[List.length_map];exact hll
 clear hg;generalize (l.map fun x=>x.row).map dG=WD at *;generalize ((l.map fun x=>x.row).map fun x=>x.text)=TX at *;generalize ((l.map fun x=>x.row).map fun x=>x.null)=FL at *;have HPW:=ah (fun w' D' A' c' (hr:Rd w' D' 1 A' n (dM WD)) hc=>z4X D' A' n c' WD w' hr hw3 (by omega) hw2 hc hw1);have HPT:=ah (fun w' D' A' c' (hr:Rd w' D' 1 A' n (dM TX)) hc=>z4Y D' A' n c' TX w' hr ht3 (by omega) ht2 hc ht1);have HPF:=ah (fun w' D' A' c' (hr:Rd w' D' 1 A' n (lu FL))=>z3j D' A' n c' FL w' hr hf3 (by omega));clear hw1 hw2 hw3 ht1 ht2 ht3 hf3;generalize (l.map fun x=>x.row)=R at *;have HPV:=ah (HPI.out (fun x=>x.value) HEV.out);generalize aA 2 (bC WD)=C6 at *;generalize aA 3 (bD TX)=C7 at *;generalize aA 1 (bI (R.map fun x=>x.value))=C8 at *;generalize aA 4 (bf FL)=C9 at *;have HO0:Hid (zX w (w.alloc (.cells #[.slice none 0 0] 26)) w.heap.size (P 0)):=ah ⟨_,aJ.new ..,by rw[hP0];exact ay.nil w _ _ 1 ((Ch.refl _ w).alloc _)⟩;clear hP0 h hk hll hl;go_enter Tryz.func40,Tryz.ntmps40;go_wp2_with fail;have HB0:Hid (aJ ((w.alloc (.cells #[.slice none 0 0] 26)).alloc (.cells #[.func (.func 92) #[] #[],.func (.func 93) #[] #[],.func (.func 94) #[] #[],.func (.func 95) #[] #[],.func (.func 96) #[] #[]] 149)) (w.heap.size+1) 149 #[.func (.func 92) #[] #[],.func (.func 93) #[] #[],.func (.func 94) #[] #[],.func (.func 95) #[] #[],.func (.func 96) #[] #[]]):=ah (by have:=aJ.new (w.alloc (.cells #[.slice none 0 0] 26)) 149 #[.func (.func 92) #[] #[],.func (.func 93) #[] #[],.func (.func 94) #[] #[],.func (.func 95) #[] #[],.func (.func 96) #[] #[]];simpa using this);have HO1:=ah (HO0.out.tr ((Ch.refl _ _).alloc (.cells #[.func (.func 92) #[] #[],.func (.func 93) #[] #[],.func (.func 94) #[] #[],.func (.func 95) #[] #[],.func (.func 96) #[] #[]] 149)));generalize (w.alloc (.cells #[.slice none 0 0] 26)).alloc (.cells #[.func (.func 92) #[] #[],.func (.func 93) #[] #[],.func (.func 94) #[] #[],.func (.func 95) #[] #[],.func (.func 96) #[] #[]] 149)=w1 at *;go_loopw [10] (fun i wr=>∃k:Nat,k<=5/\i=.int .i64 (k:Int)/\Hid (zX w wr w.heap.size (P k))/\Hid (aJ wr (w.heap.size+1) 149 #[.func (.func 92) #[] #[],.func (.func 93) #[] #[],.func (.func 94) #[] #[],.func (.func 95) #[] #[],.func (.func 96) #[] #[]])) (fun i _=>5-(intOf i).toNat)
 case atStart=>exact ⟨0,Nat.zero_le _,rfl,HO1,HB0⟩
 case round=>
  obtain ⟨w4,rfl⟩:∃w4:World,w4=wr:=⟨_,rfl⟩;obtain ⟨k,hk5,rfl,HO,HB⟩:=hrel;by_cases hlt:k<5
  ·obtain ⟨F,hF⟩:=TM hlt
   have hcell:w4.cell? ((⟨w.heap.size+1,0,none⟩:Addr).add k)=some (Xh k):=by
    obtain ⟨ad,u,e1,_,e2,e3⟩:=(Uy (xs:=[.func (.func 92) #[] #[],.func (.func 93) #[] #[],.func (.func 94) #[] #[],.func (.func 95) #[] #[],.func (.func 96) #[] #[]]) HB.out).at_ (k:=k) hlt;injection e1 with e1;subst e1;rw[e3,←e2];match k,hlt with
    |0,_=>rfl
    |1,_=>rfl
    |2,_=>rfl
    |3,_=>rfl
    |4,_=>rfl
   have hcell2:w4.cell? ⟨w.heap.size+1,k,none⟩=some (Xh k):=by
    rw[←hcell];congr 1
    unfold Addr.add;split
    ·next e=>rw[e]
    ·simp
   have HIN:=ah (fun w'=>Df (Xh k) F hF w');have HP1:=ah (HC5.out k hlt);have hpl:=JI.out k (by omega);have hcl:=HLE.out k hlt;have HOF:=ah (afm.out k hlt);have HPU:=ah (HPI.out (jK k) (HE.out k hlt));clear hF;generalize Xh k=fv at *;generalize il (R.map (jK k))=zs at *;generalize aA 1 (bI (R.map (jK k)))=ch at *;go_wp2_with fail;refine (HIN.out _).mono ?_;rintro e w5 ⟨rfl,e5⟩;have n5:Nx w4 w5:=by rw[e5];exact (Ch.refl _ _).alloc _
   have b5:w5.cell? ⟨w4.heap.size,0,none⟩=some fv:=by rw[e5];exact (aJ.new w4 _ #[fv]).cell 0
   clear e5 hcell hcell2;have hcall:=HOF.out w5 (HO.out.nx.tr n5) w4.heap.size b5;go_wp2_with fail;refine hcall.mono ?_;rintro e w6 ⟨v6,rfl,o6⟩;obtain ⟨A6,c6,rfl, -, -⟩:=o6.form;clear hcall;have hcall:=HPU.out w6 _ A6 c6 o6.rd;go_wp2_with fail;refine hcall.mono ?_;rintro e w7 ⟨k7,aeA,rfl,o7, -⟩;have HO6:=HO.out.tr (n5.tr o6.nx);have HK6:=ah (HB.out.nx ((n5.tr o6.nx).tr o7.nx));have Tc:=z4n HO6 (Nat.le_refl _) o7 0 (by omega) hcl;clear hcall o6 b5;go_wp2_with fail;refine Tc.mono ?_;rintro e w8 ⟨rfl,o8,kt⟩;rw[←HP1.out]at o8;have O8:=ah o8;have B8:=ah (kt _ _ _ (by decide) (by decide) HK6.out);clear o8 kt Tc o7 n5 HO6;go_wp2_with fail;go_roundw
   case rel=>exact ⟨k+1,by omega,by go_num,O8,B8⟩
   case measure=>simp[intOf];omega
  ·have hk9:k=5:=by omega
   subst hk9;have hc6:=aeZ.out w4 HO.out.nx;go_wp2_with fail;refine hc6.mono ?_;rintro e wa6 ⟨va6,rfl,oa6⟩;obtain ⟨Aa6,ca6,rfl,hca6, -⟩:=oa6.form;clear hc6;have hc6:=HPW.out wa6 _ Aa6 ca6 oa6.rd hca6;go_wp2_with fail;refine hc6.mono ?_;rintro e wb6 ⟨kb6,capb6,rfl,ob6, -⟩;have hd6:=z4n (HO.out.tr oa6.nx) (Nat.le_refl _) ob6 0 (by have:=JI.out 5 (by omega);omega) HL6.out;clear hc6 oa6;go_wp2_with fail;refine hd6.mono ?_;rintro e wc6 ⟨rfl,oc6, -⟩;rw[←HC6.out]at oc6;have OC6:=ah oc6;clear hd6 oc6 ob6;have hc7:=Ye.out wc6 OC6.out.nx;go_wp2_with fail;refine hc7.mono ?_;rintro e wa7 ⟨va7,rfl,oa7⟩;obtain ⟨Aa7,ca7,rfl,hca7, -⟩:=oa7.form;clear hc7;have hc7:=HPT.out wa7 _ Aa7 ca7 oa7.rd hca7;go_wp2_with fail;refine hc7.mono ?_;rintro e wb7 ⟨kb7,capb7,rfl,ob7, -⟩;have hd7:=z4n (OC6.out.tr oa7.nx) (Nat.le_refl _) ob7 0 (by have:=JI.out 6 (by omega);omega) HL7.out;clear hc7 oa7;go_wp2_with fail;refine hd7.mono ?_;rintro e wc7 ⟨rfl,oc7, -⟩;rw[←HC7.out]at oc7;have OC7:=ah oc7;clear hd7 oc7 ob7;have hc8:=aeY.out wc7 OC7.out.nx;go_wp2_with fail;refine hc8.mono ?_;rintro e wa8 ⟨va8,rfl,oa8⟩;obtain ⟨Aa8,ca8,rfl,hca8, -⟩:=oa8.form;clear hc8;have hc8:=HPV.out wa8 _ Aa8 ca8 oa8.rd;go_wp2_with fail;refine hc8.mono ?_;rintro e wb8 ⟨kb8,capb8,rfl,ob8, -⟩;have hd8:=z4n (OC7.out.tr oa8.nx) (Nat.le_refl _) ob8 0 (by have:=JI.out 7 (by omega);omega) HL8.out;clear hc8 oa8;go_wp2_with fail;refine hd8.mono ?_;rintro e wc8 ⟨rfl,oc8, -⟩;rw[←HC8.out]at oc8;have OC8:=ah oc8;clear hd8 oc8 ob8;have hc9:=afi.out wc8 OC8.out.nx;go_wp2_with fail;refine hc9.mono ?_;rintro e wa9 ⟨va9,rfl,oa9⟩;obtain ⟨Aa9,ca9,rfl,hca9, -⟩:=oa9.form;clear hc9;have hc9:=HPF.out wa9 _ Aa9 ca9 oa9.rd;go_wp2_with fail;refine hc9.mono ?_;rintro e wb9 ⟨kb9,capb9,rfl,ob9, -⟩;have hd9:=z4n (OC8.out.tr oa9.nx) (Nat.le_refl _) ob9 0 (by have:=JI.out 8 (by omega);omega) HL9.out;clear hc9 oa9;go_wp2_with fail;refine hd9.mono ?_;rintro e wc9 ⟨rfl,oc9, -⟩;rw[←HC9.out]at oc9;have OC9:=ah oc9;clear hd9 oc9 ob9;obtain ⟨vz,bz,oz⟩:=OC9.out;have cz:wc9.cell? ⟨w.heap.size,0,none⟩=some vz:=bz.cell 0;have OZ:=ah oz;clear bz oz;obtain ⟨Az,cz',rfl, -, -⟩:=OZ.out.form;go_wp2_with fail;go_ret;exact ⟨_,rfl,OZ.out⟩
end Go.Proofs.YtpakjclpjcngmaaGreat
namespace Go.Proofs.YtpakjclpjcngmaaGreat
open Ps
def oG (b:List Nat):Nat->iH
 |0=>(0,0)
 |k+1=>(bT b (oG b k).1 (oG b k).2 262144).2
def fA (b:List Nat) (k:Nat):List Nat:=(bT b (oG b k).1 (oG b k).2 262144).1
structure aU where
 n:Nat->List Int
 ws:List ByteArray
 ts:List ByteArray
 fs:List Bool
def aU.rowOf (c:aU) (i:Nat) (l:List dO):au:=⟨(c.n 4).getD i 0,(c.n 0).getD i 0,l,c.ts.getD i ByteArray.empty,(c.n 5).getD i 0,c.fs.getD i false,(c.n 1).getD i 0,(c.n 2).getD i 0,(c.n 3).getD i 0⟩
def aU.row (c:aU) (i:Nat):Option au:=(jX (c.ws.getD i ByteArray.empty).data.toList).map (c.rowOf i)
def aU.rows (c:aU):Nat->Option (List au)
 |0=>some []
 |k+1=>(c.rows k).bind fun l=>(c.row k).map fun x=>l++[x]
structure aU.fit (c:aU):Prop where
 n:∀k,k<6->(c.n k).length=c.fs.length
 pos:1<=c.fs.length
 few:c.fs.length<=256
 ws:c.ws.length=c.fs.length
 ts:c.ts.length=c.fs.length
open Classical in
noncomputable def aU.group (c:aU) (b:List Nat):Option (List au):=
 if c.fit/\bg b.length (oG b 9).1 (oG b 9).2=0 then (c.rows c.fs.length).bind fun l=>if iP l=true/\fZ l=b then some l else none else none
theorem aU.BL {c:aU}:∀{k:Nat} {l:List au},c.rows k=some l->l.length=k
 |0,l,h=>by injection h with h;rw[←h];rfl
 |k+1,l,h=>by
  unfold aU.rows at h;cases h1:c.rows k with
  |none=>rw[h1]at h;cases h
  |some m=>
   rw[h1]at h;cases h2:c.row k with
   |none=>rw[h2]at h;cases h
   |some x=>
    rw[h2]at h;injection h with h;rw[←h,List.length_append,List.length_singleton,aU.BL h1]
theorem aU.vT {c:aU} {k:Nat} (h:c.rows k=none):∀d,c.rows (k+d)=none
 |0=>h
 |d+1=>by
  show (c.rows (k+d)).bind _=none
  rw[aU.vT h d];rfl
theorem aU.QT {c:aU} {k m:Nat} (h:jX (c.ws.getD k ByteArray.empty).data.toList=none) (hk:k<m):c.rows m=none:=by
 have h1:c.rows (k+1)=none:=by
  unfold aU.rows aU.row;rw[h];cases c.rows k<;>rfl
 have:=aU.vT h1 (m-(k+1));rwa [show k+1+(m-(k+1))=m by omega]at this
theorem aU.vU {c:aU} {k:Nat} {l:List au} {s:List dO} (h:c.rows k=some l) (hs:jX (c.ws.getD k ByteArray.empty).data.toList=some s):c.rows (k+1)=some (l++[c.rowOf k s]):=by
 unfold aU.rows aU.row;rw[h,hs];rfl
/-! what was put is read -/
theorem uU {C:List (List Nat)} (hC:∀x∈C,x.length<=262144):∀{k:Nat},k<=C.length->oG (C.flatMap dA) k=((gZ C k).length,0)/\(C.flatMap dA).drop (gZ C k).length=(C.drop k).flatMap dA/\(gZ C k).length<=(C.flatMap dA).length:=by
 have key:∀k,(C.flatMap dA)=gZ C k++(C.drop k).flatMap dA:=fun k=>by
  unfold gZ;rw[←List.flatMap_append,List.take_append_drop]
 intro k;induction k with
 |zero=>intro _;exact ⟨rfl,by simp[gZ],by simp[gZ]⟩
 |succ k ih=>
  intro hk;obtain ⟨h1,h2,h3⟩:=ih (by omega);have hlt:k<C.length:=by omega
  have hd:(C.flatMap dA).drop (gZ C k).length=ak C[k].length++(C[k]++(C.drop (k+1)).flatMap dA):=by
   rw[h2,List.drop_eq_getElem_cons hlt,List.flatMap_cons];unfold dA;rw[List.append_assoc]
  obtain ⟨e1,e2,e3⟩:=z6f hd h3 (hC _ (List.getElem_mem hlt)) (by decide)
  have e4:(gZ C (k+1)).length=(gZ C k).length+(ak C[k].length).length+C[k].length:=by
   rw[z2z hlt,List.length_append];unfold dA;rw[List.length_append,Nat.add_assoc]
  refine ⟨?_,?_,?_⟩
  ·rw[oG,h1,e1,e4]
  ·rw[e4,e2]
  ·rw[e4];exact e3
theorem Qo {C:List (List Nat)} (hC:∀x∈C,x.length<=262144) {k:Nat} (hk:k<C.length):fA (C.flatMap dA) k=C[k]:=by
 obtain ⟨h1,h2,h3⟩:=uU hC (Nat.le_of_lt hk)
 have hd:(C.flatMap dA).drop (gZ C k).length=ak C[k].length++(C[k]++(C.drop (k+1)).flatMap dA):=by
  rw[h2,List.drop_eq_getElem_cons hk,List.flatMap_cons];unfold dA;rw[List.append_assoc]
 obtain ⟨e1, -, -⟩:=z6f hd h3 (hC _ (List.getElem_mem hk)) (by decide);unfold fA;rw[h1,e1]
def JO (l:List au):aU:=⟨fun k=>l.map (if k=5 then fun x=>x.value else jK k),l.map dG,l.map fun x=>x.text,l.map fun x=>x.null⟩
theorem GV {x:au} (h:jU x.aB=true):jX (dG x).data.toList=some x.aB:=by
 unfold dG xW;rw[if_pos h];have:(jg (textF x.aB)).data.toList=textF x.aB:=by simp[jg]
 rw[this,lg h]
theorem wX {l:List au} (h:∀x∈l,uG x):∀{k:Nat},k<=l.length->(JO l).rows k=some (l.take k)
 |0,_=>by simp[aU.rows]
 |k+1,hk=>by
  have hlt:k<l.length:=(by omega);have hx:=h l[k] (List.getElem_mem hlt);have hw:(JO l).ws.getD k ByteArray.empty=dG l[k]:=(by simp[JO,hlt]);rw[aU.vU (wX h (Nat.le_of_lt hlt)) (by rw[hw];exact GV (PI hx.1).2.2.1),List.take_succ_eq_append_getElem hlt];congr 3
  simp[aU.rowOf,JO,jK,hlt]
theorem Jh {l:List au} (h:iP l=true) (hg:dN l):(JO l).group (fZ l)=some l:=by
 have hC:∀x∈bY l,x.length<=262144:=fun x hx=>by have:=Py hg x hx;omega
 have e9:gZ (bY l) 9=fZ l:=by simp[gZ,bY,fZ]
 have h9:=(uU hC (k:=9) (by rw[uN];omega)).1;rw[e9]at h9;have hl:=(JR.1 h).1;have hfl:(JO l).fs.length=l.length:=by simp[JO]
 unfold aU.group
 rw[if_pos ⟨⟨fun k hk=>by simp[JO],by rw[hfl];exact hl,by rw[hfl];exact hg.few,by simp[JO],by simp[JO]⟩,by
  show bg (fZ l).length (oG (fZ l) 9).1 (oG (fZ l) 9).2=0
  have:oG (fZ l) 9=((fZ l).length,0):=h9;rw[this];simp[bg]⟩,hfl,wX hg.row (Nat.le_refl _),List.take_length]
 simp only[Option.bind_some];rw[if_pos ⟨h,trivial⟩]
theorem z5V {l:List au} (hg:dN l):okB (fZ l):=by
 have hc:∀x∈bY l,okB x:=by
  have hl:=hg.few;have hI:∀zs:List Int,zs.length<=256->aS zs=0->okB (aA 1 (bI zs)):=fun zs h1 h2=>z4c (by decide) (z3y h2) (by have:=(Yu h2).2;omega);intro x hx;unfold bY at hx;simp only[List.mem_cons,List.not_mem_nil,or_false]at hx;rcases hx with rfl|rfl|rfl|rfl|rfl|rfl|rfl|rfl|rfl
  ·exact hI _ (by simpa using hl) hg.time
  ·exact hI _ (by simpa using hl) hg.maker
  ·exact hI _ (by simpa using hl) hg.seq
  ·exact hI _ (by simpa using hl) hg.place
  ·exact hI _ (by simpa using hl) hg.kind
  ·exact z4c (by decide) (z32 (by simp;omega) (z33 l)) hg.words
  ·exact z4c (by decide) (z2t (by simp;omega) hg.text).1 hg.texts
  ·exact hI _ (by simpa using hl) hg.value
  ·exact z4c (by decide) (z3g (by simp;omega)) (by have:=z2a (l:=l.map fun x=>x.null) (by simp;omega);omega)
 intro x hx;unfold fZ at hx;obtain ⟨t,ht,hx⟩:=List.mem_flatMap.1 hx;have hl:=Py hg t ht;unfold dA at hx;rcases List.mem_append.1 hx with hx|hx
 ·exact jW (by omega) x hx
 ·exact hc t ht x hx
theorem z2u {l:List au} (hg:dN l) {k:Nat} (hk:k<9):fA (fZ l) k=(bY l)[k]'(by rw[uN];exact hk):=
 Qo (C:=bY l) (fun x hx=>by have:=Py hg x hx;omega) (by rw[uN];exact hk)
end Go.Proofs.YtpakjclpjcngmaaGreat
namespace Go.Proofs.YtpakjclpjcngmaaGreat
theorem z1n {a b:Nat} {x y:List Nat} (ha:a<18446744073709551616) (hb:b<18446744073709551616) (h:ak a++x=ak b++y):a=b/\x=y:=by
 have h1:=z2y (v:=a) ha [] x;have h2:=z2y (v:=b) hb [] y;rw[List.nil_append]at h1 h2;rw[h]at h1;have e:a=b:=congrArg Prod.fst (h1.symm.trans h2);subst e;exact ⟨rfl,List.append_cancel_left h⟩
theorem II {l m:List Bool} (hl:l.length<=2048) (hm:m.length<=2048) (h:bf l=bf m):l=m:=by
 unfold bf at h;obtain ⟨h1,h2⟩:=z1n (by omega) (by omega) h;refine List.ext_getElem h1 fun i hi hi2=>?_;have e:=congrArg (fun p=>iY p i) h2;simp only[z3H,List.getD,List.getElem?_eq_getElem hi,List.getElem?_eq_getElem hi2,Option.getD_some]at e;revert e
 cases l[i]<;>cases m[i]<;>simp[uD]
theorem J_ {s t:ByteArray} (h:kK s=kK t):s=t:=by rw[←z44 s,←z44 t,h]
theorem z3W {a b x y:List Nat} (hl:a.length=b.length) (h:a++x=b++y):a=b/\x=y:=List.append_inj h hl
theorem Bz:∀{l m:List ByteArray} {x y:List Nat},l.length=m.length->(∀s∈l,s.size<=1024)->(∀s∈m,s.size<=1024)->iy l++x=iy m++y->l.map ByteArray.size=m.map ByteArray.size/\x=y
 |[],[],x,y,_,_,_,h=>⟨rfl,h⟩
 |s::l,t::m,x,y,hl,h1,h2,h=>by
  have a1:=h1 s List.mem_cons_self;have a2:=h2 t List.mem_cons_self;simp only[iy,List.flatMap_cons,List.append_assoc]at h;obtain ⟨e1,e2⟩:=z1n (by omega) (by omega) h;obtain ⟨e3,e4⟩:=Bz (l:=l) (m:=m) (by simpa using hl) (fun z hz=>h1 z (List.mem_cons_of_mem _ hz)) (fun z hz=>h2 z (List.mem_cons_of_mem _ hz)) e2;exact ⟨by rw[List.map_cons,List.map_cons,e1,e3],e4⟩
theorem Ey:∀{l m:List ByteArray},l.map ByteArray.size=m.map ByteArray.size->gG l=gG m->l=m
 |[],[],_,_=>rfl
 |[],_::_,h,_=>by cases h
 |_::_,[],h,_=>by cases h
 |s::l,t::m,hs,h=>by
  rw[List.map_cons,List.map_cons]at hs;injection hs with h1 h2;simp only[gG,List.flatMap_cons]at h;obtain ⟨e1,e2⟩:=z3W (by rw[rY,rY,h1]) h;rw[J_ e1,Ey h2 e2]
theorem FQ {l m:List ByteArray} (hl:l.length<=2048) (hm:m.length<=2048) (h1:∀s∈l,s.size<=1024) (h2:∀s∈m,s.size<=1024) (h:bD l=bD m):l=m:=by
 unfold bD at h;rw[List.append_assoc,List.append_assoc]at h;obtain ⟨e1,e2⟩:=z1n (by omega) (by omega) h;obtain ⟨e3,e4⟩:=Bz e1 h1 h2 e2;exact Ey e3 e4
theorem oO:∀{l m:List ByteArray} {x y:List Nat},l.length=m.length->(∀s∈l,s.size<=1024)->(∀s∈m,s.size<=1024)->z18 l++x=z18 m++y->l=m/\x=y
 |[],[],x,y,_,_,_,h=>⟨rfl,h⟩
 |s::l,t::m,x,y,hl,h1,h2,h=>by
  have a1:=h1 s List.mem_cons_self;have a2:=h2 t List.mem_cons_self;rw[z1E,z1E]at h;simp only[List.append_assoc]at h;obtain ⟨e1,e2⟩:=z1n (by omega) (by omega) h;obtain ⟨e3,e4⟩:=z3W (by rw[rY,rY,e1]) e2;obtain ⟨e5,e6⟩:=oO (l:=l) (m:=m) (by simpa using hl) (fun z hz=>h1 z (List.mem_cons_of_mem _ hz)) (fun z hz=>h2 z (List.mem_cons_of_mem _ hz)) e4;exact ⟨by rw[J_ e3,e5],e6⟩
theorem Gh {l m:List Int} {fr:Nat} (hf:0<fr) (hl:l.length=m.length) (h:uK l fr=uK m fr):l=m:=by
 have key:∀j,j<l.length->l.getD j 0=m.getD j 0:=fun j=>by
  induction j using Nat.strongRecOn with
  |ind j ih=>
   intro hj;have e:(uK l fr).getD j 0=(uK m fr).getD j 0:=by rw[h]
   have g1:(uK l fr).getD j 0=if fr<=j then l.getD j 0-l.getD (j-1) 0 else l.getD j 0:=by
    unfold uK;rw[List.getD,List.getElem?_map,List.getElem?_range hj];rfl
   have g2:(uK m fr).getD j 0=if fr<=j then m.getD j 0-m.getD (j-1) 0 else m.getD j 0:=by
    unfold uK;rw[List.getD,List.getElem?_map,List.getElem?_range (by omega)];rfl
   rw[g1,g2]at e;by_cases hfj:fr<=j
   ·rw[if_pos hfj,if_pos hfj]at e
    have:=ih (j-1) (by omega) (by omega);omega
   ·rw[if_neg hfj,if_neg hfj]at e
    exact e
 refine List.ext_getElem hl fun i hi hi2=>?_;have e:=key i hi;rw[List.getD,List.getElem?_eq_getElem hi,List.getD,List.getElem?_eq_getElem hi2]at e;exact e
theorem oN:∀{w:Nat} {l m:List Int},l.length=m.length->aQ l w=aQ m w->l=m
 |0,_,_,_,h=>h
 |w+1,l,m,hl,h=>oN (w:=w) hl (Gh (Nat.succ_pos w) (by rw[Qa,Qa,hl]) h)
theorem z6a:∀{l m:List Int},l.length=m.length->(∀x∈l,zig x<18446744073709551616)->(∀x∈m,zig x<18446744073709551616)->jR l=jR m->l=m
 |[],[],_,_,_,_=>rfl
 |s::l,t::m,hl,h1,h2,h=>by
  simp only[jR,List.flatMap_cons]at h;obtain ⟨e1,e2⟩:=z1n (h1 s List.mem_cons_self) (h2 t List.mem_cons_self) h;have e3:s=t:=(by rw[←z5s s,←z5s t,e1]);rw[e3,z6a (l:=l) (m:=m) (by simpa using hl) (fun z hz=>h1 z (List.mem_cons_of_mem _ hz)) (fun z hz=>h2 z (List.mem_cons_of_mem _ hz)) e2]
theorem NI {l m:List Int} (hl:aS l=0) (hm:aS m=0) (h:bI l=bI m):l=m:=by
 obtain ⟨l1,l2⟩:=JX hl;obtain ⟨m1,m2⟩:=JX hm;have hw:=VJ l;have hw2:=VJ m;unfold bI bP at h;rw[List.singleton_append,List.singleton_append]at h;injection h with h0 h;rw[←h0]at h;obtain ⟨e1,e2⟩:=z1n (by omega) (by omega) h;have hb1:=Yq l2 (bQ l) hw;have hb2:=Yq m2 (bQ l) hw;refine oN (w:=bQ l) e1 (z6a (by rw[Qa,Qa,e1]) (fun x hx=>?_) (fun x hx=>?_) e2)
 ·have:=hb1 x hx
  exact Ym (by omega) (by omega)
 ·have:=hb2 x hx
  exact Ym (by omega) (by omega)
theorem z4R (x:ByteArray):∀l:List ByteArray,l.takeWhile (fun y=>decide (y=x))=List.replicate (runN x l) x
 |[]=>rfl
 |y::l=>by
  unfold runN;by_cases h:y=x
  ·subst h
   rw[List.takeWhile_cons,if_pos (by simp),List.length_cons,List.replicate_succ];congr 1
   exact z4R y l
  ·rw[List.takeWhile_cons,if_neg (by simpa using h)]
   rfl
theorem vP (x:ByteArray) (l:List ByteArray):l=List.replicate (runN x l) x++l.drop (runN x l):=by
 have h:=List.takeWhile_append_dropWhile (p:=fun y=>decide (y=x)) (l:=l)
 have h2:l.dropWhile (fun y=>decide (y=x))=l.drop (runN x l):=by
  have:=congrArg (List.drop (runN x l)) h;unfold runN at this ⊢;rw[List.drop_left]at this;exact this
 rw[←z4R,←h2,h]
theorem vO {all:List ByteArray} (ha:all.length<=2048):∀(n:Nat) {l m:List ByteArray},l.length<=n->l.length<=2048->m.length<=2048->(∀x∈l,x∈all)->(∀x∈m,x∈all)->l.length=m.length->dB all l=dB all m->l=m
 |_,[],[],_,_,_,_,_,_,_=>rfl
 |_,[],_::_,_,_,_,_,_,h,_=>by simp at h
 |_,_::_,[],_,_,_,_,_,h,_=>by simp at h
 |0,_::_,_::_,h,_,_,_,_,_,_=>by simp at h
 |n+1,x::xs,y::ys,hn,h1,h2,h3,h4,hl,h=>by
  simp only[List.length_cons]at hn h1 h2 hl;rw[dB,dB,List.append_assoc,List.append_assoc]at h;have i1:=Yn (h3 x List.mem_cons_self);have i2:=Yn (h4 y List.mem_cons_self);have r1:=z5N x xs;have r2:=z5N y ys;obtain ⟨e1,e2⟩:=z1n (by omega) (by omega) h;obtain ⟨e3,e4⟩:=z1n (by omega) (by omega) e2
  have exy:x=y:=by
   have a1:=zu (h3 x List.mem_cons_self);have a2:=zu (h4 y List.mem_cons_self);rw[←a1,←a2,e1]
  subst exy;have e5:runN x xs=runN x ys:=by omega
  have e6:=vO ha n (l:=xs.drop (runN x xs)) (m:=ys.drop (runN x ys)) (by rw[List.length_drop];omega) (by rw[List.length_drop];omega) (by rw[List.length_drop];omega)
   (fun z hz=>h3 z (List.mem_cons_of_mem _ (List.mem_of_mem_drop hz))) (fun z hz=>h4 z (List.mem_cons_of_mem _ (List.mem_of_mem_drop hz))) (by rw[List.length_drop,List.length_drop];omega) e4
  rw[vP x xs,vP x ys,e6,e5]
theorem Fv {l m:List ByteArray} (hl:l.length<=2048) (hm:m.length<=2048) (h1:∀s∈l,s.size<=1024) (h2:∀s∈m,s.size<=1024) (h:bC l=bC m):l=m:=by
 have a1:=Qb l;have a2:=Qb m;unfold bC at h;simp only[List.append_assoc]at h;obtain ⟨e1,e2⟩:=z1n (by omega) (by omega) h;obtain ⟨e3,e4⟩:=oO e1 (fun s hs=>h1 s (z14.1 hs)) (fun s hs=>h2 s (z14.1 hs)) e2;obtain ⟨e5,e6⟩:=z1n (by omega) (by omega) e4;rw[←e3]at e6;exact vO (all:=bW l) (by omega) l.length (Nat.le_refl _) hl hm (fun x hx=>z14.2 hx) (fun x hx=>by rw[e3];exact z14.2 hx) e5 e6
theorem Ec {xs:List Nat} (PK:okB xs) (hx:xs.length<=65536) (hlt:(bF xs).length<xs.length):rW (bF xs) xs.length=(xs,(bF xs).length,0):=by
 by_cases h5:xs.length<=65535
 ·exact (Fix.wV PK h5).1
 ·have hs:=z3m xs
  have e1:bF xs=pack (aK (aI xs xs.length 0)):=by
   unfold bF at hlt ⊢;split at hlt
   ·next h2=>rw[if_pos h2]
   ·omega
  rw[e1]at hlt ⊢;exact Fix.jI PK (by omega) (by omega)
theorem z3D {kind:Nat} {xs ys:List Nat} (ox:okB xs) (oy:okB ys) (hx:xs.length<=65536) (hy:ys.length<=65536) (h:aA kind xs=aA kind ys):xs=ys:=by
 unfold aA at h;have h:=MK h;unfold AX at h;simp only[List.cons_append,List.nil_append]at h;injection h with _ h;injection h with hf h;obtain ⟨e1,e2⟩:=z1n (by omega) (by omega) h;by_cases a:(bF xs).length<xs.length
 ·by_cases b:(bF ys).length<ys.length
  ·unfold iW at e2
   rw[if_pos a,if_pos b]at e2;have c1:=Ec ox hx a;have c2:=Ec oy hy b;rw[e2,e1,c2]at c1;exact (congrArg Prod.fst c1).symm
  ·unfold kT at hf
   rw[if_pos a,if_neg b]at hf;cases hf
 ·by_cases b:(bF ys).length<ys.length
  ·unfold kT at hf
   rw[if_neg a,if_pos b]at hf;cases hf
  ·unfold iW at e2
   rw[if_neg a,if_neg b]at e2;exact e2
theorem uO:∀{C E:List (List Nat)} {x y:List Nat},C.length=E.length->(∀c∈C,c.length<18446744073709551616)->(∀c∈E,c.length<18446744073709551616)->C.flatMap dA++x=E.flatMap dA++y->C=E/\x=y
 |[],[],x,y,_,_,_,h=>⟨rfl,h⟩
 |c::C,e::E,x,y,hl,h1,h2,h=>by
  simp only[List.flatMap_cons,dA,List.append_assoc]at h;obtain ⟨e1,e2⟩:=z1n (h1 c List.mem_cons_self) (h2 e List.mem_cons_self) h;obtain ⟨e3,e4⟩:=z3W e1 e2;obtain ⟨e5,e6⟩:=uO (C:=C) (E:=E) (by simpa using hl) (fun z hz=>h1 z (List.mem_cons_of_mem _ hz)) (fun z hz=>h2 z (List.mem_cons_of_mem _ hz)) e4;exact ⟨by rw[e3,e5],e6⟩
theorem QS {x y:au} (hx:uG x) (hy:uG y) (h:dG x=dG y):x.aB=y.aB:=by
 have h1:=(PI hx.1).2.2.1;have h2:=(PI hy.1).2.2.1;unfold dG xW at h;rw[if_pos h1,if_pos h2]at h
 have e:Ps.textF x.aB=Ps.textF y.aB:=by
  simpa [Ps.jg]using congrArg Array.toList (congrArg ByteArray.data h)
 have a:=Ps.lg h1;have b:=Ps.lg h2;rw[e]at a;exact Option.some.inj (a.symm.trans b)
theorem z4D {l m:List au} (hl:dN l) (hm:dN m) {x y:List Nat} (h:fZ l++x=fZ m++y):l=m/\x=y:=by
 unfold fZ at h;obtain ⟨hc,hxy⟩:=uO (C:=bY l) (E:=bY m) (by rw[uN,uN]) (fun c hc=>by have:=Py hl c hc;omega) (fun c hc=>by have:=Py hm c hc;omega) h;refine ⟨?_,hxy⟩;have l256:=hl.few;have m256:=hm.few;unfold bY at hc;injection hc with c0 hc;injection hc with c1 hc;injection hc with c2 hc;injection hc with c3 hc;injection hc with c4 hc;injection hc with c5 hc;injection hc with c6 hc;injection hc with c7 hc;injection hc with c8 hc
 have int:∀{f:au->Int},aS (l.map f)=0->aS (m.map f)=0->aA 1 (bI (l.map f))=aA 1 (bI (m.map f))->l.map f=m.map f:=fun {f} a b e=>by
  have a1:=Yu a;have b1:=Yu b;rw[List.length_map]at a1 b1;exact NI a b (z3D (z3y a) (z3y b) (by omega) (by omega) e)
 have d0:=int hl.time hm.time c0;have d1:=int hl.maker hm.maker c1;have d2:=int hl.seq hm.seq c2;have d3:=int hl.place hm.place c3;have d4:=int hl.kind hm.kind c4;have d7:=int hl.value hm.value c7;have n1:∀{α:Type} (f:au->α),(l.map f).length<=2048:=fun f=>by rw[List.length_map];omega
 have n2:∀{α:Type} (f:au->α),(m.map f).length<=2048:=fun f=>by rw[List.length_map];omega
 have d5:=Fv (n1 _) (n2 _) (z33 l) (z33 m) (z3D (z32 (n1 _) (z33 l)) (z32 (n2 _) (z33 m)) hl.words hm.words c5);have d6:=FQ (n1 _) (n2 _) hl.text hm.text (z3D (z2t (n1 _) hl.text).1 (z2t (n2 _) hm.text).1 hl.texts hm.texts c6);have f1:=z2a (n1 fun x=>x.null);have f2:=z2a (n2 fun x=>x.null);have d8:=II (n1 _) (n2 _) (z3D (z3g (n1 _)) (z3g (n2 _)) (by omega) (by omega) c8);have hlen:l.length=m.length:=by have:=congrArg List.length d0;simpa using this
 refine List.ext_getElem hlen fun i hi hi2=>?_
 have at_:∀{α:Type} {f:au->α},l.map f=m.map f->f l[i]=f m[i]:=fun {α f} e=>by
  have:=List.getElem_of_eq e (i:=i) (by rw[List.length_map];exact hi);simpa using this
 have g0:=at_ d0;have g1:=at_ d1;have g2:=at_ d2;have g3:=at_ d3;have g4:=at_ d4;have g5:=QS (hl.row _ (List.getElem_mem hi)) (hm.row _ (List.getElem_mem hi2)) (at_ d5);have g6:=at_ d6;have g7:=at_ d7;have g8:=at_ d8;revert g0 g1 g2 g3 g4 g5 g6 g7 g8
 generalize l[i]=a;generalize m[i]=b;intro g0 g1 g2 g3 g4 g5 g6 g7 g8;obtain ⟨a1,a2,a3,a4,a5,a6,a7,a8,a9⟩:=a;obtain ⟨b1,b2,b3,b4,b5,b6,b7,b8,b9⟩:=b;simp only at g0 g1 g2 g3 g4 g5 g6 g7 g8;subst g0 g1 g2 g3 g4 g5 g6 g7 g8;rfl
end Go.Proofs.YtpakjclpjcngmaaGreat
